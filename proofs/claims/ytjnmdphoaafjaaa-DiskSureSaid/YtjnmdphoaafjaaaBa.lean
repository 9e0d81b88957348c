/- The types of this seat's program, as the machine sees them. -/
import Derived.Test.YtjnmdphoaafjaaaM2
import Derived.Test.YtjnmdphoaafjaaaProg
import Derived.KernelRfl
namespace Go.Proofs.Ytjnmdphoaafjaaa
set_option linter.unusedVariables false
set_option linter.defProp false
open Go Go.Abs

def te : TypeId → Option TI
  | 2 => some ⟨.int .i64, 1, 8, [(.int .i64 0)]⟩
  | 3 => some ⟨.int .i64, 1, 8, [(.int .i64 0)]⟩
  | 4 => some ⟨.bool, 1, 1, [(.bool false)]⟩
  | 5 => some ⟨.int .u8, 1, 1, [(.int .u8 0)]⟩
  | 9 => some ⟨.str, 1, 16, [(.string ByteArray.empty)]⟩
  | 21 => some ⟨.int .i32, 1, 4, [(.int .i32 0)]⟩
  | 22 => some ⟨.slice 29, 1, 24, [(.slice none 0 0)]⟩
  | 23 => some ⟨.slice 3, 1, 24, [(.slice none 0 0)]⟩
  | 25 => some ⟨.ptr 106, 1, 8, [(.pointer none)]⟩
  | 27 => some ⟨.int .i64, 1, 8, [(.int .i64 0)]⟩
  | 29 => some ⟨.slice 5, 1, 24, [(.slice none 0 0)]⟩
  | 37 => some ⟨.slice 40, 1, 24, [(.slice none 0 0)]⟩
  | 39 => some ⟨.st [(0, 3), (1, 3), (2, 3), (3, 29), (4, 23)], 5, 72, [(.int .i64 0), (.int .i64 0), (.int .i64 0)] ++ [(.slice none 0 0), (.slice none 0 0)]⟩
  | 40 => some ⟨.st [(0, 3), (1, 3), (2, 3), (3, 29), (4, 23)], 5, 72, [(.int .i64 0), (.int .i64 0), (.int .i64 0)] ++ [(.slice none 0 0), (.slice none 0 0)]⟩
  | 44 => some ⟨.slice 9, 1, 24, [(.slice none 0 0)]⟩
  | 47 => some ⟨.ptr 55, 1, 8, [(.pointer none)]⟩
  | 50 => some ⟨.slice 153, 1, 24, [(.slice none 0 0)]⟩
  | 51 => some ⟨.st [(0, 29), (1, 50)], 2, 48, [(.slice none 0 0), (.slice none 0 0)]⟩
  | 52 => some ⟨.st [(0, 29), (1, 50)], 2, 48, [(.slice none 0 0), (.slice none 0 0)]⟩
  | 53 => some ⟨.arr 4 52, 8, 192, List.replicate 8 (.slice none 0 0)⟩
  | 54 => some ⟨.st [(0, 53), (8, 4), (9, 3), (10, 3)], 11, 216, List.replicate 8 (.slice none 0 0) ++ [(.bool false)] ++ [(.int .i64 0), (.int .i64 0)]⟩
  | 55 => some ⟨.st [(0, 53), (8, 4), (9, 3), (10, 3)], 11, 216, List.replicate 8 (.slice none 0 0) ++ [(.bool false)] ++ [(.int .i64 0), (.int .i64 0)]⟩
  | 56 => some ⟨.st [(0, 3), (1, 3), (2, 3), (3, 3), (4, 3), (5, 29), (6, 29)], 7, 88, List.replicate 5 (.int .i64 0) ++ [(.slice none 0 0), (.slice none 0 0)]⟩
  | 57 => some ⟨.st [(0, 3), (1, 3), (2, 3), (3, 3), (4, 3), (5, 29), (6, 29)], 7, 88, List.replicate 5 (.int .i64 0) ++ [(.slice none 0 0), (.slice none 0 0)]⟩
  | 65 => some ⟨.arr 32 5, 32, 32, List.replicate 32 (.int .u8 0)⟩
  | 66 => some ⟨.arr 32 5, 32, 32, List.replicate 32 (.int .u8 0)⟩
  | 67 => some ⟨.arr 12 5, 12, 12, List.replicate 12 (.int .u8 0)⟩
  | 68 => some ⟨.arr 12 5, 12, 12, List.replicate 12 (.int .u8 0)⟩
  | 69 => some ⟨.st [(0, 66), (32, 68), (44, 29)], 45, 72, List.replicate 44 (.int .u8 0) ++ [(.slice none 0 0)]⟩
  | 70 => some ⟨.st [(0, 66), (32, 68), (44, 29)], 45, 72, List.replicate 44 (.int .u8 0) ++ [(.slice none 0 0)]⟩
  | 71 => some ⟨.int .u32, 1, 4, [(.int .u32 0)]⟩
  | 74 => some ⟨.arr 16 5, 16, 16, List.replicate 16 (.int .u8 0)⟩
  | 75 => some ⟨.arr 16 5, 16, 16, List.replicate 16 (.int .u8 0)⟩
  | 82 => some ⟨.st [(0, 29), (1, 3)], 2, 32, [(.slice none 0 0)] ++ [(.int .i64 0)]⟩
  | 83 => some ⟨.st [(0, 29), (1, 3)], 2, 32, [(.slice none 0 0)] ++ [(.int .i64 0)]⟩
  | 85 => some ⟨.st [(0, 27), (1, 3), (2, 3), (3, 29)], 4, 48, [(.int .i64 0), (.int .i64 0), (.int .i64 0)] ++ [(.slice none 0 0)]⟩
  | 86 => some ⟨.st [(0, 27), (1, 3), (2, 3), (3, 29)], 4, 48, [(.int .i64 0), (.int .i64 0), (.int .i64 0)] ++ [(.slice none 0 0)]⟩
  | 92 => some ⟨.st [(0, 3), (1, 3), (2, 29), (3, 23)], 4, 64, [(.int .i64 0), (.int .i64 0)] ++ [(.slice none 0 0), (.slice none 0 0)]⟩
  | 93 => some ⟨.st [(0, 3), (1, 3), (2, 29), (3, 23)], 4, 64, [(.int .i64 0), (.int .i64 0)] ++ [(.slice none 0 0), (.slice none 0 0)]⟩
  | 101 => some ⟨.slice 110, 1, 24, [(.slice none 0 0)]⟩
  | 102 => some ⟨.st [(0, 29), (1, 29), (2, 101)], 3, 72, [(.slice none 0 0), (.slice none 0 0), (.slice none 0 0)]⟩
  | 103 => some ⟨.st [(0, 29), (1, 29), (2, 101)], 3, 72, [(.slice none 0 0), (.slice none 0 0), (.slice none 0 0)]⟩
  | 104 => some ⟨.arr 4 103, 12, 288, List.replicate 12 (.slice none 0 0)⟩
  | 105 => some ⟨.st [(0, 104), (12, 4), (13, 4), (14, 3), (15, 3)], 16, 312, List.replicate 12 (.slice none 0 0) ++ [(.bool false), (.bool false)] ++ [(.int .i64 0), (.int .i64 0)]⟩
  | 106 => some ⟨.st [(0, 104), (12, 4), (13, 4), (14, 3), (15, 3)], 16, 312, List.replicate 12 (.slice none 0 0) ++ [(.bool false), (.bool false)] ++ [(.int .i64 0), (.int .i64 0)]⟩
  | 107 => some ⟨.ptr 103, 1, 8, [(.pointer none)]⟩
  | 109 => some ⟨.st [(0, 4), (1, 3), (2, 29)], 3, 40, [(.bool false)] ++ [(.int .i64 0)] ++ [(.slice none 0 0)]⟩
  | 110 => some ⟨.st [(0, 4), (1, 3), (2, 29)], 3, 40, [(.bool false)] ++ [(.int .i64 0)] ++ [(.slice none 0 0)]⟩
  | 118 => some ⟨.ptr 120, 1, 8, [(.pointer none)]⟩
  | 119 => some ⟨.st [(0, 29), (1, 27)], 2, 32, [(.slice none 0 0)] ++ [(.int .i64 0)]⟩
  | 120 => some ⟨.st [(0, 29), (1, 27)], 2, 32, [(.slice none 0 0)] ++ [(.int .i64 0)]⟩
  | 133 => some ⟨.arr 15 75, 240, 240, List.replicate 240 (.int .u8 0)⟩
  | 134 => some ⟨.arr 15 75, 240, 240, List.replicate 240 (.int .u8 0)⟩
  | 138 => some ⟨.arr 256 5, 256, 256, List.replicate 256 (.int .u8 0)⟩
  | 152 => some ⟨.st [(0, 4), (1, 3), (2, 29)], 3, 40, [(.bool false)] ++ [(.int .i64 0)] ++ [(.slice none 0 0)]⟩
  | 153 => some ⟨.st [(0, 4), (1, 3), (2, 29)], 3, 40, [(.bool false)] ++ [(.int .i64 0)] ++ [(.slice none 0 0)]⟩
  | 156 => some ⟨.int .u64, 1, 8, [(.int .u64 0)]⟩
  | 157 => some ⟨.arr 4 5, 4, 4, List.replicate 4 (.int .u8 0)⟩
  | 158 => some ⟨.arr 4 5, 4, 4, List.replicate 4 (.int .u8 0)⟩
  | 159 => some ⟨.arr 60 158, 240, 240, List.replicate 240 (.int .u8 0)⟩
  | 162 => some ⟨.ptr 134, 1, 8, [(.pointer none)]⟩
  | 170 => some ⟨.int .u64, 1, 8, [(.int .u64 0)]⟩
  | 178 => some ⟨.st [(0, 17), (1, 17), (2, 17), (3, 9)], 4, 40, [(.pointer none), (.pointer none), (.pointer none)] ++ [(.string ByteArray.empty)]⟩
  | _ => none

theorem te2 : te 2 = some ⟨.int .i64, 1, 8, [(.int .i64 0)]⟩ := rfl
theorem kd2 : kd te 2 = .int .i64 := rfl
theorem te3 : te 3 = some ⟨.int .i64, 1, 8, [(.int .i64 0)]⟩ := rfl
theorem kd3 : kd te 3 = .int .i64 := rfl
theorem te4 : te 4 = some ⟨.bool, 1, 1, [(.bool false)]⟩ := rfl
theorem kd4 : kd te 4 = .bool := rfl
theorem te5 : te 5 = some ⟨.int .u8, 1, 1, [(.int .u8 0)]⟩ := rfl
theorem kd5 : kd te 5 = .int .u8 := rfl
theorem te9 : te 9 = some ⟨.str, 1, 16, [(.string ByteArray.empty)]⟩ := rfl
theorem kd9 : kd te 9 = .str := rfl
theorem te21 : te 21 = some ⟨.int .i32, 1, 4, [(.int .i32 0)]⟩ := rfl
theorem kd21 : kd te 21 = .int .i32 := rfl
theorem te22 : te 22 = some ⟨.slice 29, 1, 24, [(.slice none 0 0)]⟩ := rfl
theorem kd22 : kd te 22 = .slice 29 := rfl
theorem te23 : te 23 = some ⟨.slice 3, 1, 24, [(.slice none 0 0)]⟩ := rfl
theorem kd23 : kd te 23 = .slice 3 := rfl
theorem te25 : te 25 = some ⟨.ptr 106, 1, 8, [(.pointer none)]⟩ := rfl
theorem kd25 : kd te 25 = .ptr 106 := rfl
theorem te27 : te 27 = some ⟨.int .i64, 1, 8, [(.int .i64 0)]⟩ := rfl
theorem kd27 : kd te 27 = .int .i64 := rfl
theorem te29 : te 29 = some ⟨.slice 5, 1, 24, [(.slice none 0 0)]⟩ := rfl
theorem kd29 : kd te 29 = .slice 5 := rfl
theorem te37 : te 37 = some ⟨.slice 40, 1, 24, [(.slice none 0 0)]⟩ := rfl
theorem kd37 : kd te 37 = .slice 40 := rfl
theorem te39 : te 39 = some ⟨.st [(0, 3), (1, 3), (2, 3), (3, 29), (4, 23)], 5, 72, [(.int .i64 0), (.int .i64 0), (.int .i64 0)] ++ [(.slice none 0 0), (.slice none 0 0)]⟩ := rfl
theorem kd39 : kd te 39 = .st [(0, 3), (1, 3), (2, 3), (3, 29), (4, 23)] := rfl
theorem te40 : te 40 = some ⟨.st [(0, 3), (1, 3), (2, 3), (3, 29), (4, 23)], 5, 72, [(.int .i64 0), (.int .i64 0), (.int .i64 0)] ++ [(.slice none 0 0), (.slice none 0 0)]⟩ := rfl
theorem kd40 : kd te 40 = .st [(0, 3), (1, 3), (2, 3), (3, 29), (4, 23)] := rfl
theorem te44 : te 44 = some ⟨.slice 9, 1, 24, [(.slice none 0 0)]⟩ := rfl
theorem kd44 : kd te 44 = .slice 9 := rfl
theorem te47 : te 47 = some ⟨.ptr 55, 1, 8, [(.pointer none)]⟩ := rfl
theorem kd47 : kd te 47 = .ptr 55 := rfl
theorem te50 : te 50 = some ⟨.slice 153, 1, 24, [(.slice none 0 0)]⟩ := rfl
theorem kd50 : kd te 50 = .slice 153 := rfl
theorem te51 : te 51 = some ⟨.st [(0, 29), (1, 50)], 2, 48, [(.slice none 0 0), (.slice none 0 0)]⟩ := rfl
theorem kd51 : kd te 51 = .st [(0, 29), (1, 50)] := rfl
theorem te52 : te 52 = some ⟨.st [(0, 29), (1, 50)], 2, 48, [(.slice none 0 0), (.slice none 0 0)]⟩ := rfl
theorem kd52 : kd te 52 = .st [(0, 29), (1, 50)] := rfl
theorem te53 : te 53 = some ⟨.arr 4 52, 8, 192, List.replicate 8 (.slice none 0 0)⟩ := rfl
theorem kd53 : kd te 53 = .arr 4 52 := rfl
theorem te54 : te 54 = some ⟨.st [(0, 53), (8, 4), (9, 3), (10, 3)], 11, 216, List.replicate 8 (.slice none 0 0) ++ [(.bool false)] ++ [(.int .i64 0), (.int .i64 0)]⟩ := rfl
theorem kd54 : kd te 54 = .st [(0, 53), (8, 4), (9, 3), (10, 3)] := rfl
theorem te55 : te 55 = some ⟨.st [(0, 53), (8, 4), (9, 3), (10, 3)], 11, 216, List.replicate 8 (.slice none 0 0) ++ [(.bool false)] ++ [(.int .i64 0), (.int .i64 0)]⟩ := rfl
theorem kd55 : kd te 55 = .st [(0, 53), (8, 4), (9, 3), (10, 3)] := rfl
theorem te56 : te 56 = some ⟨.st [(0, 3), (1, 3), (2, 3), (3, 3), (4, 3), (5, 29), (6, 29)], 7, 88, List.replicate 5 (.int .i64 0) ++ [(.slice none 0 0), (.slice none 0 0)]⟩ := rfl
theorem kd56 : kd te 56 = .st [(0, 3), (1, 3), (2, 3), (3, 3), (4, 3), (5, 29), (6, 29)] := rfl
theorem te57 : te 57 = some ⟨.st [(0, 3), (1, 3), (2, 3), (3, 3), (4, 3), (5, 29), (6, 29)], 7, 88, List.replicate 5 (.int .i64 0) ++ [(.slice none 0 0), (.slice none 0 0)]⟩ := rfl
theorem kd57 : kd te 57 = .st [(0, 3), (1, 3), (2, 3), (3, 3), (4, 3), (5, 29), (6, 29)] := rfl
theorem te65 : te 65 = some ⟨.arr 32 5, 32, 32, List.replicate 32 (.int .u8 0)⟩ := rfl
theorem kd65 : kd te 65 = .arr 32 5 := rfl
theorem te66 : te 66 = some ⟨.arr 32 5, 32, 32, List.replicate 32 (.int .u8 0)⟩ := rfl
theorem kd66 : kd te 66 = .arr 32 5 := rfl
theorem te67 : te 67 = some ⟨.arr 12 5, 12, 12, List.replicate 12 (.int .u8 0)⟩ := rfl
theorem kd67 : kd te 67 = .arr 12 5 := rfl
theorem te68 : te 68 = some ⟨.arr 12 5, 12, 12, List.replicate 12 (.int .u8 0)⟩ := rfl
theorem kd68 : kd te 68 = .arr 12 5 := rfl
theorem te69 : te 69 = some ⟨.st [(0, 66), (32, 68), (44, 29)], 45, 72, List.replicate 44 (.int .u8 0) ++ [(.slice none 0 0)]⟩ := rfl
theorem kd69 : kd te 69 = .st [(0, 66), (32, 68), (44, 29)] := rfl
theorem te70 : te 70 = some ⟨.st [(0, 66), (32, 68), (44, 29)], 45, 72, List.replicate 44 (.int .u8 0) ++ [(.slice none 0 0)]⟩ := rfl
theorem kd70 : kd te 70 = .st [(0, 66), (32, 68), (44, 29)] := rfl
theorem te71 : te 71 = some ⟨.int .u32, 1, 4, [(.int .u32 0)]⟩ := rfl
theorem kd71 : kd te 71 = .int .u32 := rfl
theorem te74 : te 74 = some ⟨.arr 16 5, 16, 16, List.replicate 16 (.int .u8 0)⟩ := rfl
theorem kd74 : kd te 74 = .arr 16 5 := rfl
theorem te75 : te 75 = some ⟨.arr 16 5, 16, 16, List.replicate 16 (.int .u8 0)⟩ := rfl
theorem kd75 : kd te 75 = .arr 16 5 := rfl
theorem te82 : te 82 = some ⟨.st [(0, 29), (1, 3)], 2, 32, [(.slice none 0 0)] ++ [(.int .i64 0)]⟩ := rfl
theorem kd82 : kd te 82 = .st [(0, 29), (1, 3)] := rfl
theorem te83 : te 83 = some ⟨.st [(0, 29), (1, 3)], 2, 32, [(.slice none 0 0)] ++ [(.int .i64 0)]⟩ := rfl
theorem kd83 : kd te 83 = .st [(0, 29), (1, 3)] := rfl
theorem te85 : te 85 = some ⟨.st [(0, 27), (1, 3), (2, 3), (3, 29)], 4, 48, [(.int .i64 0), (.int .i64 0), (.int .i64 0)] ++ [(.slice none 0 0)]⟩ := rfl
theorem kd85 : kd te 85 = .st [(0, 27), (1, 3), (2, 3), (3, 29)] := rfl
theorem te86 : te 86 = some ⟨.st [(0, 27), (1, 3), (2, 3), (3, 29)], 4, 48, [(.int .i64 0), (.int .i64 0), (.int .i64 0)] ++ [(.slice none 0 0)]⟩ := rfl
theorem kd86 : kd te 86 = .st [(0, 27), (1, 3), (2, 3), (3, 29)] := rfl
theorem te92 : te 92 = some ⟨.st [(0, 3), (1, 3), (2, 29), (3, 23)], 4, 64, [(.int .i64 0), (.int .i64 0)] ++ [(.slice none 0 0), (.slice none 0 0)]⟩ := rfl
theorem kd92 : kd te 92 = .st [(0, 3), (1, 3), (2, 29), (3, 23)] := rfl
theorem te93 : te 93 = some ⟨.st [(0, 3), (1, 3), (2, 29), (3, 23)], 4, 64, [(.int .i64 0), (.int .i64 0)] ++ [(.slice none 0 0), (.slice none 0 0)]⟩ := rfl
theorem kd93 : kd te 93 = .st [(0, 3), (1, 3), (2, 29), (3, 23)] := rfl
theorem te101 : te 101 = some ⟨.slice 110, 1, 24, [(.slice none 0 0)]⟩ := rfl
theorem kd101 : kd te 101 = .slice 110 := rfl
theorem te102 : te 102 = some ⟨.st [(0, 29), (1, 29), (2, 101)], 3, 72, [(.slice none 0 0), (.slice none 0 0), (.slice none 0 0)]⟩ := rfl
theorem kd102 : kd te 102 = .st [(0, 29), (1, 29), (2, 101)] := rfl
theorem te103 : te 103 = some ⟨.st [(0, 29), (1, 29), (2, 101)], 3, 72, [(.slice none 0 0), (.slice none 0 0), (.slice none 0 0)]⟩ := rfl
theorem kd103 : kd te 103 = .st [(0, 29), (1, 29), (2, 101)] := rfl
theorem te104 : te 104 = some ⟨.arr 4 103, 12, 288, List.replicate 12 (.slice none 0 0)⟩ := rfl
theorem kd104 : kd te 104 = .arr 4 103 := rfl
theorem te105 : te 105 = some ⟨.st [(0, 104), (12, 4), (13, 4), (14, 3), (15, 3)], 16, 312, List.replicate 12 (.slice none 0 0) ++ [(.bool false), (.bool false)] ++ [(.int .i64 0), (.int .i64 0)]⟩ := rfl
theorem kd105 : kd te 105 = .st [(0, 104), (12, 4), (13, 4), (14, 3), (15, 3)] := rfl
theorem te106 : te 106 = some ⟨.st [(0, 104), (12, 4), (13, 4), (14, 3), (15, 3)], 16, 312, List.replicate 12 (.slice none 0 0) ++ [(.bool false), (.bool false)] ++ [(.int .i64 0), (.int .i64 0)]⟩ := rfl
theorem kd106 : kd te 106 = .st [(0, 104), (12, 4), (13, 4), (14, 3), (15, 3)] := rfl
theorem te107 : te 107 = some ⟨.ptr 103, 1, 8, [(.pointer none)]⟩ := rfl
theorem kd107 : kd te 107 = .ptr 103 := rfl
theorem te109 : te 109 = some ⟨.st [(0, 4), (1, 3), (2, 29)], 3, 40, [(.bool false)] ++ [(.int .i64 0)] ++ [(.slice none 0 0)]⟩ := rfl
theorem kd109 : kd te 109 = .st [(0, 4), (1, 3), (2, 29)] := rfl
theorem te110 : te 110 = some ⟨.st [(0, 4), (1, 3), (2, 29)], 3, 40, [(.bool false)] ++ [(.int .i64 0)] ++ [(.slice none 0 0)]⟩ := rfl
theorem kd110 : kd te 110 = .st [(0, 4), (1, 3), (2, 29)] := rfl
theorem te118 : te 118 = some ⟨.ptr 120, 1, 8, [(.pointer none)]⟩ := rfl
theorem kd118 : kd te 118 = .ptr 120 := rfl
theorem te119 : te 119 = some ⟨.st [(0, 29), (1, 27)], 2, 32, [(.slice none 0 0)] ++ [(.int .i64 0)]⟩ := rfl
theorem kd119 : kd te 119 = .st [(0, 29), (1, 27)] := rfl
theorem te120 : te 120 = some ⟨.st [(0, 29), (1, 27)], 2, 32, [(.slice none 0 0)] ++ [(.int .i64 0)]⟩ := rfl
theorem kd120 : kd te 120 = .st [(0, 29), (1, 27)] := rfl
theorem te133 : te 133 = some ⟨.arr 15 75, 240, 240, List.replicate 240 (.int .u8 0)⟩ := rfl
theorem kd133 : kd te 133 = .arr 15 75 := rfl
theorem te134 : te 134 = some ⟨.arr 15 75, 240, 240, List.replicate 240 (.int .u8 0)⟩ := rfl
theorem kd134 : kd te 134 = .arr 15 75 := rfl
theorem te138 : te 138 = some ⟨.arr 256 5, 256, 256, List.replicate 256 (.int .u8 0)⟩ := rfl
theorem kd138 : kd te 138 = .arr 256 5 := rfl
theorem te152 : te 152 = some ⟨.st [(0, 4), (1, 3), (2, 29)], 3, 40, [(.bool false)] ++ [(.int .i64 0)] ++ [(.slice none 0 0)]⟩ := rfl
theorem kd152 : kd te 152 = .st [(0, 4), (1, 3), (2, 29)] := rfl
theorem te153 : te 153 = some ⟨.st [(0, 4), (1, 3), (2, 29)], 3, 40, [(.bool false)] ++ [(.int .i64 0)] ++ [(.slice none 0 0)]⟩ := rfl
theorem kd153 : kd te 153 = .st [(0, 4), (1, 3), (2, 29)] := rfl
theorem te156 : te 156 = some ⟨.int .u64, 1, 8, [(.int .u64 0)]⟩ := rfl
theorem kd156 : kd te 156 = .int .u64 := rfl
theorem te157 : te 157 = some ⟨.arr 4 5, 4, 4, List.replicate 4 (.int .u8 0)⟩ := rfl
theorem kd157 : kd te 157 = .arr 4 5 := rfl
theorem te158 : te 158 = some ⟨.arr 4 5, 4, 4, List.replicate 4 (.int .u8 0)⟩ := rfl
theorem kd158 : kd te 158 = .arr 4 5 := rfl
theorem te159 : te 159 = some ⟨.arr 60 158, 240, 240, List.replicate 240 (.int .u8 0)⟩ := rfl
theorem kd159 : kd te 159 = .arr 60 158 := rfl
theorem te162 : te 162 = some ⟨.ptr 134, 1, 8, [(.pointer none)]⟩ := rfl
theorem kd162 : kd te 162 = .ptr 134 := rfl
theorem te170 : te 170 = some ⟨.int .u64, 1, 8, [(.int .u64 0)]⟩ := rfl
theorem kd170 : kd te 170 = .int .u64 := rfl
theorem te178 : te 178 = some ⟨.st [(0, 17), (1, 17), (2, 17), (3, 9)], 4, 40, [(.pointer none), (.pointer none), (.pointer none)] ++ [(.string ByteArray.empty)]⟩ := rfl
theorem kd178 : kd te 178 = .st [(0, 17), (1, 17), (2, 17), (3, 9)] := rfl

theorem ti2 : TIis Try.prog 2 ⟨.int .i64, 1, 8, [(.int .i64 0)]⟩ where
  under := ⟨(.int .i64), by kernel_rfl, rfl⟩
  info := ⟨Try.t2, (.int .i64 0), by kernel_rfl, by kernel_rfl, by kernel_rfl, by kernel_rfl, by kernel_rfl, by kernel_rfl⟩
  zero1 := List.all_eq_true.1 (by kernel_rfl)
  fields := fun fs h => by rw [show Try.prog.underlying 2 = some (.int .i64) by kernel_rfl] at h; cases h
theorem ti3 : TIis Try.prog 3 ⟨.int .i64, 1, 8, [(.int .i64 0)]⟩ where
  under := ⟨(.int .i64), by kernel_rfl, rfl⟩
  info := ⟨Try.t3, (.int .i64 0), by kernel_rfl, by kernel_rfl, by kernel_rfl, by kernel_rfl, by kernel_rfl, by kernel_rfl⟩
  zero1 := List.all_eq_true.1 (by kernel_rfl)
  fields := fun fs h => by rw [show Try.prog.underlying 3 = some (.int .i64) by kernel_rfl] at h; cases h
theorem ti4 : TIis Try.prog 4 ⟨.bool, 1, 1, [(.bool false)]⟩ where
  under := ⟨.bool, by kernel_rfl, rfl⟩
  info := ⟨Try.t4, (.bool false), by kernel_rfl, by kernel_rfl, by kernel_rfl, by kernel_rfl, by kernel_rfl, by kernel_rfl⟩
  zero1 := List.all_eq_true.1 (by kernel_rfl)
  fields := fun fs h => by rw [show Try.prog.underlying 4 = some .bool by kernel_rfl] at h; cases h
theorem ti5 : TIis Try.prog 5 ⟨.int .u8, 1, 1, [(.int .u8 0)]⟩ where
  under := ⟨(.int .u8), by kernel_rfl, rfl⟩
  info := ⟨Try.t5, (.int .u8 0), by kernel_rfl, by kernel_rfl, by kernel_rfl, by kernel_rfl, by kernel_rfl, by kernel_rfl⟩
  zero1 := List.all_eq_true.1 (by kernel_rfl)
  fields := fun fs h => by rw [show Try.prog.underlying 5 = some (.int .u8) by kernel_rfl] at h; cases h
theorem ti9 : TIis Try.prog 9 ⟨.str, 1, 16, [(.string ByteArray.empty)]⟩ where
  under := ⟨.string, by kernel_rfl, rfl⟩
  info := ⟨Try.t9, (.string ByteArray.empty), by kernel_rfl, by kernel_rfl, by kernel_rfl, by kernel_rfl, by kernel_rfl, by kernel_rfl⟩
  zero1 := List.all_eq_true.1 (by kernel_rfl)
  fields := fun fs h => by rw [show Try.prog.underlying 9 = some .string by kernel_rfl] at h; cases h
theorem ti21 : TIis Try.prog 21 ⟨.int .i32, 1, 4, [(.int .i32 0)]⟩ where
  under := ⟨(.int .i32), by kernel_rfl, rfl⟩
  info := ⟨Try.t21, (.int .i32 0), by kernel_rfl, by kernel_rfl, by kernel_rfl, by kernel_rfl, by kernel_rfl, by kernel_rfl⟩
  zero1 := List.all_eq_true.1 (by kernel_rfl)
  fields := fun fs h => by rw [show Try.prog.underlying 21 = some (.int .i32) by kernel_rfl] at h; cases h
theorem ti22 : TIis Try.prog 22 ⟨.slice 29, 1, 24, [(.slice none 0 0)]⟩ where
  under := ⟨(.slice 29), by kernel_rfl, rfl⟩
  info := ⟨Try.t22, (.slice none 0 0), by kernel_rfl, by kernel_rfl, by kernel_rfl, by kernel_rfl, by kernel_rfl, by kernel_rfl⟩
  zero1 := List.all_eq_true.1 (by kernel_rfl)
  fields := fun fs h => by rw [show Try.prog.underlying 22 = some (.slice 29) by kernel_rfl] at h; cases h
theorem ti23 : TIis Try.prog 23 ⟨.slice 3, 1, 24, [(.slice none 0 0)]⟩ where
  under := ⟨(.slice 3), by kernel_rfl, rfl⟩
  info := ⟨Try.t23, (.slice none 0 0), by kernel_rfl, by kernel_rfl, by kernel_rfl, by kernel_rfl, by kernel_rfl, by kernel_rfl⟩
  zero1 := List.all_eq_true.1 (by kernel_rfl)
  fields := fun fs h => by rw [show Try.prog.underlying 23 = some (.slice 3) by kernel_rfl] at h; cases h
theorem ti25 : TIis Try.prog 25 ⟨.ptr 106, 1, 8, [(.pointer none)]⟩ where
  under := ⟨(.pointer 106), by kernel_rfl, rfl⟩
  info := ⟨Try.t25, (.pointer none), by kernel_rfl, by kernel_rfl, by kernel_rfl, by kernel_rfl, by kernel_rfl, by kernel_rfl⟩
  zero1 := List.all_eq_true.1 (by kernel_rfl)
  fields := fun fs h => by rw [show Try.prog.underlying 25 = some (.pointer 106) by kernel_rfl] at h; cases h
theorem ti27 : TIis Try.prog 27 ⟨.int .i64, 1, 8, [(.int .i64 0)]⟩ where
  under := ⟨(.int .i64), by kernel_rfl, rfl⟩
  info := ⟨Try.t27, (.int .i64 0), by kernel_rfl, by kernel_rfl, by kernel_rfl, by kernel_rfl, by kernel_rfl, by kernel_rfl⟩
  zero1 := List.all_eq_true.1 (by kernel_rfl)
  fields := fun fs h => by rw [show Try.prog.underlying 27 = some (.int .i64) by kernel_rfl] at h; cases h
theorem ti29 : TIis Try.prog 29 ⟨.slice 5, 1, 24, [(.slice none 0 0)]⟩ where
  under := ⟨(.slice 5), by kernel_rfl, rfl⟩
  info := ⟨Try.t29, (.slice none 0 0), by kernel_rfl, by kernel_rfl, by kernel_rfl, by kernel_rfl, by kernel_rfl, by kernel_rfl⟩
  zero1 := List.all_eq_true.1 (by kernel_rfl)
  fields := fun fs h => by rw [show Try.prog.underlying 29 = some (.slice 5) by kernel_rfl] at h; cases h
theorem ti37 : TIis Try.prog 37 ⟨.slice 40, 1, 24, [(.slice none 0 0)]⟩ where
  under := ⟨(.slice 40), by kernel_rfl, rfl⟩
  info := ⟨Try.t37, (.slice none 0 0), by kernel_rfl, by kernel_rfl, by kernel_rfl, by kernel_rfl, by kernel_rfl, by kernel_rfl⟩
  zero1 := List.all_eq_true.1 (by kernel_rfl)
  fields := fun fs h => by rw [show Try.prog.underlying 37 = some (.slice 40) by kernel_rfl] at h; cases h
theorem ti39 : TIis Try.prog 39 ⟨.st [(0, 3), (1, 3), (2, 3), (3, 29), (4, 23)], 5, 72, [(.int .i64 0), (.int .i64 0), (.int .i64 0)] ++ [(.slice none 0 0), (.slice none 0 0)]⟩ where
  under := st_under (P := Try.prog) (t := 39) (by kernel_rfl)
  info := ⟨Try.t39, (.agg ([(.int .i64 0), (.int .i64 0), (.int .i64 0)] ++ [(.slice none 0 0), (.slice none 0 0)] : List Value).toArray), by kernel_rfl, by kernel_rfl, by kernel_rfl, by kernel_rfl, by kernel_rfl, by kernel_rfl⟩
  zero1 := List.all_eq_true.1 (by kernel_rfl)
  fields := ti_fields (P := Try.prog) (t := 39) (by kernel_rfl)
theorem ti40 : TIis Try.prog 40 ⟨.st [(0, 3), (1, 3), (2, 3), (3, 29), (4, 23)], 5, 72, [(.int .i64 0), (.int .i64 0), (.int .i64 0)] ++ [(.slice none 0 0), (.slice none 0 0)]⟩ where
  under := st_under (P := Try.prog) (t := 40) (by kernel_rfl)
  info := ⟨Try.t40, (.agg ([(.int .i64 0), (.int .i64 0), (.int .i64 0)] ++ [(.slice none 0 0), (.slice none 0 0)] : List Value).toArray), by kernel_rfl, by kernel_rfl, by kernel_rfl, by kernel_rfl, by kernel_rfl, by kernel_rfl⟩
  zero1 := List.all_eq_true.1 (by kernel_rfl)
  fields := ti_fields (P := Try.prog) (t := 40) (by kernel_rfl)
theorem ti44 : TIis Try.prog 44 ⟨.slice 9, 1, 24, [(.slice none 0 0)]⟩ where
  under := ⟨(.slice 9), by kernel_rfl, rfl⟩
  info := ⟨Try.t44, (.slice none 0 0), by kernel_rfl, by kernel_rfl, by kernel_rfl, by kernel_rfl, by kernel_rfl, by kernel_rfl⟩
  zero1 := List.all_eq_true.1 (by kernel_rfl)
  fields := fun fs h => by rw [show Try.prog.underlying 44 = some (.slice 9) by kernel_rfl] at h; cases h
theorem ti47 : TIis Try.prog 47 ⟨.ptr 55, 1, 8, [(.pointer none)]⟩ where
  under := ⟨(.pointer 55), by kernel_rfl, rfl⟩
  info := ⟨Try.t47, (.pointer none), by kernel_rfl, by kernel_rfl, by kernel_rfl, by kernel_rfl, by kernel_rfl, by kernel_rfl⟩
  zero1 := List.all_eq_true.1 (by kernel_rfl)
  fields := fun fs h => by rw [show Try.prog.underlying 47 = some (.pointer 55) by kernel_rfl] at h; cases h
theorem ti50 : TIis Try.prog 50 ⟨.slice 153, 1, 24, [(.slice none 0 0)]⟩ where
  under := ⟨(.slice 153), by kernel_rfl, rfl⟩
  info := ⟨Try.t50, (.slice none 0 0), by kernel_rfl, by kernel_rfl, by kernel_rfl, by kernel_rfl, by kernel_rfl, by kernel_rfl⟩
  zero1 := List.all_eq_true.1 (by kernel_rfl)
  fields := fun fs h => by rw [show Try.prog.underlying 50 = some (.slice 153) by kernel_rfl] at h; cases h
theorem ti51 : TIis Try.prog 51 ⟨.st [(0, 29), (1, 50)], 2, 48, [(.slice none 0 0), (.slice none 0 0)]⟩ where
  under := st_under (P := Try.prog) (t := 51) (by kernel_rfl)
  info := ⟨Try.t51, (.agg ([(.slice none 0 0), (.slice none 0 0)] : List Value).toArray), by kernel_rfl, by kernel_rfl, by kernel_rfl, by kernel_rfl, by kernel_rfl, by kernel_rfl⟩
  zero1 := List.all_eq_true.1 (by kernel_rfl)
  fields := ti_fields (P := Try.prog) (t := 51) (by kernel_rfl)
theorem ti52 : TIis Try.prog 52 ⟨.st [(0, 29), (1, 50)], 2, 48, [(.slice none 0 0), (.slice none 0 0)]⟩ where
  under := st_under (P := Try.prog) (t := 52) (by kernel_rfl)
  info := ⟨Try.t52, (.agg ([(.slice none 0 0), (.slice none 0 0)] : List Value).toArray), by kernel_rfl, by kernel_rfl, by kernel_rfl, by kernel_rfl, by kernel_rfl, by kernel_rfl⟩
  zero1 := List.all_eq_true.1 (by kernel_rfl)
  fields := ti_fields (P := Try.prog) (t := 52) (by kernel_rfl)
theorem ti53 : TIis Try.prog 53 ⟨.arr 4 52, 8, 192, List.replicate 8 (.slice none 0 0)⟩ where
  under := ⟨(.array 4 52), by kernel_rfl, rfl⟩
  info := ⟨Try.t53, (.agg (List.replicate 8 (.slice none 0 0) : List Value).toArray), by kernel_rfl, by kernel_rfl, by kernel_rfl, by kernel_rfl, by kernel_rfl, by kernel_rfl⟩
  zero1 := List.all_eq_true.1 (by kernel_rfl)
  fields := fun fs h => by rw [show Try.prog.underlying 53 = some (.array 4 52) by kernel_rfl] at h; cases h
theorem ti54 : TIis Try.prog 54 ⟨.st [(0, 53), (8, 4), (9, 3), (10, 3)], 11, 216, List.replicate 8 (.slice none 0 0) ++ [(.bool false)] ++ [(.int .i64 0), (.int .i64 0)]⟩ where
  under := st_under (P := Try.prog) (t := 54) (by kernel_rfl)
  info := ⟨Try.t54, (.agg (List.replicate 8 (.slice none 0 0) ++ [(.bool false)] ++ [(.int .i64 0), (.int .i64 0)] : List Value).toArray), by kernel_rfl, by kernel_rfl, by kernel_rfl, by kernel_rfl, by kernel_rfl, by kernel_rfl⟩
  zero1 := List.all_eq_true.1 (by kernel_rfl)
  fields := ti_fields (P := Try.prog) (t := 54) (by kernel_rfl)
theorem ti55 : TIis Try.prog 55 ⟨.st [(0, 53), (8, 4), (9, 3), (10, 3)], 11, 216, List.replicate 8 (.slice none 0 0) ++ [(.bool false)] ++ [(.int .i64 0), (.int .i64 0)]⟩ where
  under := st_under (P := Try.prog) (t := 55) (by kernel_rfl)
  info := ⟨Try.t55, (.agg (List.replicate 8 (.slice none 0 0) ++ [(.bool false)] ++ [(.int .i64 0), (.int .i64 0)] : List Value).toArray), by kernel_rfl, by kernel_rfl, by kernel_rfl, by kernel_rfl, by kernel_rfl, by kernel_rfl⟩
  zero1 := List.all_eq_true.1 (by kernel_rfl)
  fields := ti_fields (P := Try.prog) (t := 55) (by kernel_rfl)
theorem ti56 : TIis Try.prog 56 ⟨.st [(0, 3), (1, 3), (2, 3), (3, 3), (4, 3), (5, 29), (6, 29)], 7, 88, List.replicate 5 (.int .i64 0) ++ [(.slice none 0 0), (.slice none 0 0)]⟩ where
  under := st_under (P := Try.prog) (t := 56) (by kernel_rfl)
  info := ⟨Try.t56, (.agg (List.replicate 5 (.int .i64 0) ++ [(.slice none 0 0), (.slice none 0 0)] : List Value).toArray), by kernel_rfl, by kernel_rfl, by kernel_rfl, by kernel_rfl, by kernel_rfl, by kernel_rfl⟩
  zero1 := List.all_eq_true.1 (by kernel_rfl)
  fields := ti_fields (P := Try.prog) (t := 56) (by kernel_rfl)
theorem ti57 : TIis Try.prog 57 ⟨.st [(0, 3), (1, 3), (2, 3), (3, 3), (4, 3), (5, 29), (6, 29)], 7, 88, List.replicate 5 (.int .i64 0) ++ [(.slice none 0 0), (.slice none 0 0)]⟩ where
  under := st_under (P := Try.prog) (t := 57) (by kernel_rfl)
  info := ⟨Try.t57, (.agg (List.replicate 5 (.int .i64 0) ++ [(.slice none 0 0), (.slice none 0 0)] : List Value).toArray), by kernel_rfl, by kernel_rfl, by kernel_rfl, by kernel_rfl, by kernel_rfl, by kernel_rfl⟩
  zero1 := List.all_eq_true.1 (by kernel_rfl)
  fields := ti_fields (P := Try.prog) (t := 57) (by kernel_rfl)
theorem ti65 : TIis Try.prog 65 ⟨.arr 32 5, 32, 32, List.replicate 32 (.int .u8 0)⟩ where
  under := ⟨(.array 32 5), by kernel_rfl, rfl⟩
  info := ⟨Try.t65, (.agg (List.replicate 32 (.int .u8 0) : List Value).toArray), by kernel_rfl, by kernel_rfl, by kernel_rfl, by kernel_rfl, by kernel_rfl, by kernel_rfl⟩
  zero1 := List.all_eq_true.1 (by kernel_rfl)
  fields := fun fs h => by rw [show Try.prog.underlying 65 = some (.array 32 5) by kernel_rfl] at h; cases h
theorem ti66 : TIis Try.prog 66 ⟨.arr 32 5, 32, 32, List.replicate 32 (.int .u8 0)⟩ where
  under := ⟨(.array 32 5), by kernel_rfl, rfl⟩
  info := ⟨Try.t66, (.agg (List.replicate 32 (.int .u8 0) : List Value).toArray), by kernel_rfl, by kernel_rfl, by kernel_rfl, by kernel_rfl, by kernel_rfl, by kernel_rfl⟩
  zero1 := List.all_eq_true.1 (by kernel_rfl)
  fields := fun fs h => by rw [show Try.prog.underlying 66 = some (.array 32 5) by kernel_rfl] at h; cases h
theorem ti67 : TIis Try.prog 67 ⟨.arr 12 5, 12, 12, List.replicate 12 (.int .u8 0)⟩ where
  under := ⟨(.array 12 5), by kernel_rfl, rfl⟩
  info := ⟨Try.t67, (.agg (List.replicate 12 (.int .u8 0) : List Value).toArray), by kernel_rfl, by kernel_rfl, by kernel_rfl, by kernel_rfl, by kernel_rfl, by kernel_rfl⟩
  zero1 := List.all_eq_true.1 (by kernel_rfl)
  fields := fun fs h => by rw [show Try.prog.underlying 67 = some (.array 12 5) by kernel_rfl] at h; cases h
theorem ti68 : TIis Try.prog 68 ⟨.arr 12 5, 12, 12, List.replicate 12 (.int .u8 0)⟩ where
  under := ⟨(.array 12 5), by kernel_rfl, rfl⟩
  info := ⟨Try.t68, (.agg (List.replicate 12 (.int .u8 0) : List Value).toArray), by kernel_rfl, by kernel_rfl, by kernel_rfl, by kernel_rfl, by kernel_rfl, by kernel_rfl⟩
  zero1 := List.all_eq_true.1 (by kernel_rfl)
  fields := fun fs h => by rw [show Try.prog.underlying 68 = some (.array 12 5) by kernel_rfl] at h; cases h
theorem ti69 : TIis Try.prog 69 ⟨.st [(0, 66), (32, 68), (44, 29)], 45, 72, List.replicate 44 (.int .u8 0) ++ [(.slice none 0 0)]⟩ where
  under := st_under (P := Try.prog) (t := 69) (by kernel_rfl)
  info := ⟨Try.t69, (.agg (List.replicate 44 (.int .u8 0) ++ [(.slice none 0 0)] : List Value).toArray), by kernel_rfl, by kernel_rfl, by kernel_rfl, by kernel_rfl, by kernel_rfl, by kernel_rfl⟩
  zero1 := List.all_eq_true.1 (by kernel_rfl)
  fields := ti_fields (P := Try.prog) (t := 69) (by kernel_rfl)
theorem ti70 : TIis Try.prog 70 ⟨.st [(0, 66), (32, 68), (44, 29)], 45, 72, List.replicate 44 (.int .u8 0) ++ [(.slice none 0 0)]⟩ where
  under := st_under (P := Try.prog) (t := 70) (by kernel_rfl)
  info := ⟨Try.t70, (.agg (List.replicate 44 (.int .u8 0) ++ [(.slice none 0 0)] : List Value).toArray), by kernel_rfl, by kernel_rfl, by kernel_rfl, by kernel_rfl, by kernel_rfl, by kernel_rfl⟩
  zero1 := List.all_eq_true.1 (by kernel_rfl)
  fields := ti_fields (P := Try.prog) (t := 70) (by kernel_rfl)
theorem ti71 : TIis Try.prog 71 ⟨.int .u32, 1, 4, [(.int .u32 0)]⟩ where
  under := ⟨(.int .u32), by kernel_rfl, rfl⟩
  info := ⟨Try.t71, (.int .u32 0), by kernel_rfl, by kernel_rfl, by kernel_rfl, by kernel_rfl, by kernel_rfl, by kernel_rfl⟩
  zero1 := List.all_eq_true.1 (by kernel_rfl)
  fields := fun fs h => by rw [show Try.prog.underlying 71 = some (.int .u32) by kernel_rfl] at h; cases h
theorem ti74 : TIis Try.prog 74 ⟨.arr 16 5, 16, 16, List.replicate 16 (.int .u8 0)⟩ where
  under := ⟨(.array 16 5), by kernel_rfl, rfl⟩
  info := ⟨Try.t74, (.agg (List.replicate 16 (.int .u8 0) : List Value).toArray), by kernel_rfl, by kernel_rfl, by kernel_rfl, by kernel_rfl, by kernel_rfl, by kernel_rfl⟩
  zero1 := List.all_eq_true.1 (by kernel_rfl)
  fields := fun fs h => by rw [show Try.prog.underlying 74 = some (.array 16 5) by kernel_rfl] at h; cases h
theorem ti75 : TIis Try.prog 75 ⟨.arr 16 5, 16, 16, List.replicate 16 (.int .u8 0)⟩ where
  under := ⟨(.array 16 5), by kernel_rfl, rfl⟩
  info := ⟨Try.t75, (.agg (List.replicate 16 (.int .u8 0) : List Value).toArray), by kernel_rfl, by kernel_rfl, by kernel_rfl, by kernel_rfl, by kernel_rfl, by kernel_rfl⟩
  zero1 := List.all_eq_true.1 (by kernel_rfl)
  fields := fun fs h => by rw [show Try.prog.underlying 75 = some (.array 16 5) by kernel_rfl] at h; cases h
theorem ti82 : TIis Try.prog 82 ⟨.st [(0, 29), (1, 3)], 2, 32, [(.slice none 0 0)] ++ [(.int .i64 0)]⟩ where
  under := st_under (P := Try.prog) (t := 82) (by kernel_rfl)
  info := ⟨Try.t82, (.agg ([(.slice none 0 0)] ++ [(.int .i64 0)] : List Value).toArray), by kernel_rfl, by kernel_rfl, by kernel_rfl, by kernel_rfl, by kernel_rfl, by kernel_rfl⟩
  zero1 := List.all_eq_true.1 (by kernel_rfl)
  fields := ti_fields (P := Try.prog) (t := 82) (by kernel_rfl)
theorem ti83 : TIis Try.prog 83 ⟨.st [(0, 29), (1, 3)], 2, 32, [(.slice none 0 0)] ++ [(.int .i64 0)]⟩ where
  under := st_under (P := Try.prog) (t := 83) (by kernel_rfl)
  info := ⟨Try.t83, (.agg ([(.slice none 0 0)] ++ [(.int .i64 0)] : List Value).toArray), by kernel_rfl, by kernel_rfl, by kernel_rfl, by kernel_rfl, by kernel_rfl, by kernel_rfl⟩
  zero1 := List.all_eq_true.1 (by kernel_rfl)
  fields := ti_fields (P := Try.prog) (t := 83) (by kernel_rfl)
theorem ti85 : TIis Try.prog 85 ⟨.st [(0, 27), (1, 3), (2, 3), (3, 29)], 4, 48, [(.int .i64 0), (.int .i64 0), (.int .i64 0)] ++ [(.slice none 0 0)]⟩ where
  under := st_under (P := Try.prog) (t := 85) (by kernel_rfl)
  info := ⟨Try.t85, (.agg ([(.int .i64 0), (.int .i64 0), (.int .i64 0)] ++ [(.slice none 0 0)] : List Value).toArray), by kernel_rfl, by kernel_rfl, by kernel_rfl, by kernel_rfl, by kernel_rfl, by kernel_rfl⟩
  zero1 := List.all_eq_true.1 (by kernel_rfl)
  fields := ti_fields (P := Try.prog) (t := 85) (by kernel_rfl)
theorem ti86 : TIis Try.prog 86 ⟨.st [(0, 27), (1, 3), (2, 3), (3, 29)], 4, 48, [(.int .i64 0), (.int .i64 0), (.int .i64 0)] ++ [(.slice none 0 0)]⟩ where
  under := st_under (P := Try.prog) (t := 86) (by kernel_rfl)
  info := ⟨Try.t86, (.agg ([(.int .i64 0), (.int .i64 0), (.int .i64 0)] ++ [(.slice none 0 0)] : List Value).toArray), by kernel_rfl, by kernel_rfl, by kernel_rfl, by kernel_rfl, by kernel_rfl, by kernel_rfl⟩
  zero1 := List.all_eq_true.1 (by kernel_rfl)
  fields := ti_fields (P := Try.prog) (t := 86) (by kernel_rfl)
theorem ti92 : TIis Try.prog 92 ⟨.st [(0, 3), (1, 3), (2, 29), (3, 23)], 4, 64, [(.int .i64 0), (.int .i64 0)] ++ [(.slice none 0 0), (.slice none 0 0)]⟩ where
  under := st_under (P := Try.prog) (t := 92) (by kernel_rfl)
  info := ⟨Try.t92, (.agg ([(.int .i64 0), (.int .i64 0)] ++ [(.slice none 0 0), (.slice none 0 0)] : List Value).toArray), by kernel_rfl, by kernel_rfl, by kernel_rfl, by kernel_rfl, by kernel_rfl, by kernel_rfl⟩
  zero1 := List.all_eq_true.1 (by kernel_rfl)
  fields := ti_fields (P := Try.prog) (t := 92) (by kernel_rfl)
theorem ti93 : TIis Try.prog 93 ⟨.st [(0, 3), (1, 3), (2, 29), (3, 23)], 4, 64, [(.int .i64 0), (.int .i64 0)] ++ [(.slice none 0 0), (.slice none 0 0)]⟩ where
  under := st_under (P := Try.prog) (t := 93) (by kernel_rfl)
  info := ⟨Try.t93, (.agg ([(.int .i64 0), (.int .i64 0)] ++ [(.slice none 0 0), (.slice none 0 0)] : List Value).toArray), by kernel_rfl, by kernel_rfl, by kernel_rfl, by kernel_rfl, by kernel_rfl, by kernel_rfl⟩
  zero1 := List.all_eq_true.1 (by kernel_rfl)
  fields := ti_fields (P := Try.prog) (t := 93) (by kernel_rfl)
theorem ti101 : TIis Try.prog 101 ⟨.slice 110, 1, 24, [(.slice none 0 0)]⟩ where
  under := ⟨(.slice 110), by kernel_rfl, rfl⟩
  info := ⟨Try.t101, (.slice none 0 0), by kernel_rfl, by kernel_rfl, by kernel_rfl, by kernel_rfl, by kernel_rfl, by kernel_rfl⟩
  zero1 := List.all_eq_true.1 (by kernel_rfl)
  fields := fun fs h => by rw [show Try.prog.underlying 101 = some (.slice 110) by kernel_rfl] at h; cases h
theorem ti102 : TIis Try.prog 102 ⟨.st [(0, 29), (1, 29), (2, 101)], 3, 72, [(.slice none 0 0), (.slice none 0 0), (.slice none 0 0)]⟩ where
  under := st_under (P := Try.prog) (t := 102) (by kernel_rfl)
  info := ⟨Try.t102, (.agg ([(.slice none 0 0), (.slice none 0 0), (.slice none 0 0)] : List Value).toArray), by kernel_rfl, by kernel_rfl, by kernel_rfl, by kernel_rfl, by kernel_rfl, by kernel_rfl⟩
  zero1 := List.all_eq_true.1 (by kernel_rfl)
  fields := ti_fields (P := Try.prog) (t := 102) (by kernel_rfl)
theorem ti103 : TIis Try.prog 103 ⟨.st [(0, 29), (1, 29), (2, 101)], 3, 72, [(.slice none 0 0), (.slice none 0 0), (.slice none 0 0)]⟩ where
  under := st_under (P := Try.prog) (t := 103) (by kernel_rfl)
  info := ⟨Try.t103, (.agg ([(.slice none 0 0), (.slice none 0 0), (.slice none 0 0)] : List Value).toArray), by kernel_rfl, by kernel_rfl, by kernel_rfl, by kernel_rfl, by kernel_rfl, by kernel_rfl⟩
  zero1 := List.all_eq_true.1 (by kernel_rfl)
  fields := ti_fields (P := Try.prog) (t := 103) (by kernel_rfl)
theorem ti104 : TIis Try.prog 104 ⟨.arr 4 103, 12, 288, List.replicate 12 (.slice none 0 0)⟩ where
  under := ⟨(.array 4 103), by kernel_rfl, rfl⟩
  info := ⟨Try.t104, (.agg (List.replicate 12 (.slice none 0 0) : List Value).toArray), by kernel_rfl, by kernel_rfl, by kernel_rfl, by kernel_rfl, by kernel_rfl, by kernel_rfl⟩
  zero1 := List.all_eq_true.1 (by kernel_rfl)
  fields := fun fs h => by rw [show Try.prog.underlying 104 = some (.array 4 103) by kernel_rfl] at h; cases h
theorem ti105 : TIis Try.prog 105 ⟨.st [(0, 104), (12, 4), (13, 4), (14, 3), (15, 3)], 16, 312, List.replicate 12 (.slice none 0 0) ++ [(.bool false), (.bool false)] ++ [(.int .i64 0), (.int .i64 0)]⟩ where
  under := st_under (P := Try.prog) (t := 105) (by kernel_rfl)
  info := ⟨Try.t105, (.agg (List.replicate 12 (.slice none 0 0) ++ [(.bool false), (.bool false)] ++ [(.int .i64 0), (.int .i64 0)] : List Value).toArray), by kernel_rfl, by kernel_rfl, by kernel_rfl, by kernel_rfl, by kernel_rfl, by kernel_rfl⟩
  zero1 := List.all_eq_true.1 (by kernel_rfl)
  fields := ti_fields (P := Try.prog) (t := 105) (by kernel_rfl)
theorem ti106 : TIis Try.prog 106 ⟨.st [(0, 104), (12, 4), (13, 4), (14, 3), (15, 3)], 16, 312, List.replicate 12 (.slice none 0 0) ++ [(.bool false), (.bool false)] ++ [(.int .i64 0), (.int .i64 0)]⟩ where
  under := st_under (P := Try.prog) (t := 106) (by kernel_rfl)
  info := ⟨Try.t106, (.agg (List.replicate 12 (.slice none 0 0) ++ [(.bool false), (.bool false)] ++ [(.int .i64 0), (.int .i64 0)] : List Value).toArray), by kernel_rfl, by kernel_rfl, by kernel_rfl, by kernel_rfl, by kernel_rfl, by kernel_rfl⟩
  zero1 := List.all_eq_true.1 (by kernel_rfl)
  fields := ti_fields (P := Try.prog) (t := 106) (by kernel_rfl)
theorem ti107 : TIis Try.prog 107 ⟨.ptr 103, 1, 8, [(.pointer none)]⟩ where
  under := ⟨(.pointer 103), by kernel_rfl, rfl⟩
  info := ⟨Try.t107, (.pointer none), by kernel_rfl, by kernel_rfl, by kernel_rfl, by kernel_rfl, by kernel_rfl, by kernel_rfl⟩
  zero1 := List.all_eq_true.1 (by kernel_rfl)
  fields := fun fs h => by rw [show Try.prog.underlying 107 = some (.pointer 103) by kernel_rfl] at h; cases h
theorem ti109 : TIis Try.prog 109 ⟨.st [(0, 4), (1, 3), (2, 29)], 3, 40, [(.bool false)] ++ [(.int .i64 0)] ++ [(.slice none 0 0)]⟩ where
  under := st_under (P := Try.prog) (t := 109) (by kernel_rfl)
  info := ⟨Try.t109, (.agg ([(.bool false)] ++ [(.int .i64 0)] ++ [(.slice none 0 0)] : List Value).toArray), by kernel_rfl, by kernel_rfl, by kernel_rfl, by kernel_rfl, by kernel_rfl, by kernel_rfl⟩
  zero1 := List.all_eq_true.1 (by kernel_rfl)
  fields := ti_fields (P := Try.prog) (t := 109) (by kernel_rfl)
theorem ti110 : TIis Try.prog 110 ⟨.st [(0, 4), (1, 3), (2, 29)], 3, 40, [(.bool false)] ++ [(.int .i64 0)] ++ [(.slice none 0 0)]⟩ where
  under := st_under (P := Try.prog) (t := 110) (by kernel_rfl)
  info := ⟨Try.t110, (.agg ([(.bool false)] ++ [(.int .i64 0)] ++ [(.slice none 0 0)] : List Value).toArray), by kernel_rfl, by kernel_rfl, by kernel_rfl, by kernel_rfl, by kernel_rfl, by kernel_rfl⟩
  zero1 := List.all_eq_true.1 (by kernel_rfl)
  fields := ti_fields (P := Try.prog) (t := 110) (by kernel_rfl)
theorem ti118 : TIis Try.prog 118 ⟨.ptr 120, 1, 8, [(.pointer none)]⟩ where
  under := ⟨(.pointer 120), by kernel_rfl, rfl⟩
  info := ⟨Try.t118, (.pointer none), by kernel_rfl, by kernel_rfl, by kernel_rfl, by kernel_rfl, by kernel_rfl, by kernel_rfl⟩
  zero1 := List.all_eq_true.1 (by kernel_rfl)
  fields := fun fs h => by rw [show Try.prog.underlying 118 = some (.pointer 120) by kernel_rfl] at h; cases h
theorem ti119 : TIis Try.prog 119 ⟨.st [(0, 29), (1, 27)], 2, 32, [(.slice none 0 0)] ++ [(.int .i64 0)]⟩ where
  under := st_under (P := Try.prog) (t := 119) (by kernel_rfl)
  info := ⟨Try.t119, (.agg ([(.slice none 0 0)] ++ [(.int .i64 0)] : List Value).toArray), by kernel_rfl, by kernel_rfl, by kernel_rfl, by kernel_rfl, by kernel_rfl, by kernel_rfl⟩
  zero1 := List.all_eq_true.1 (by kernel_rfl)
  fields := ti_fields (P := Try.prog) (t := 119) (by kernel_rfl)
theorem ti120 : TIis Try.prog 120 ⟨.st [(0, 29), (1, 27)], 2, 32, [(.slice none 0 0)] ++ [(.int .i64 0)]⟩ where
  under := st_under (P := Try.prog) (t := 120) (by kernel_rfl)
  info := ⟨Try.t120, (.agg ([(.slice none 0 0)] ++ [(.int .i64 0)] : List Value).toArray), by kernel_rfl, by kernel_rfl, by kernel_rfl, by kernel_rfl, by kernel_rfl, by kernel_rfl⟩
  zero1 := List.all_eq_true.1 (by kernel_rfl)
  fields := ti_fields (P := Try.prog) (t := 120) (by kernel_rfl)
theorem ti133 : TIis Try.prog 133 ⟨.arr 15 75, 240, 240, List.replicate 240 (.int .u8 0)⟩ where
  under := ⟨(.array 15 75), by kernel_rfl, rfl⟩
  info := ⟨Try.t133, (.agg (List.replicate 240 (.int .u8 0) : List Value).toArray), by kernel_rfl, by kernel_rfl, by kernel_rfl, by kernel_rfl, by kernel_rfl, by kernel_rfl⟩
  zero1 := List.all_eq_true.1 (by kernel_rfl)
  fields := fun fs h => by rw [show Try.prog.underlying 133 = some (.array 15 75) by kernel_rfl] at h; cases h
theorem ti134 : TIis Try.prog 134 ⟨.arr 15 75, 240, 240, List.replicate 240 (.int .u8 0)⟩ where
  under := ⟨(.array 15 75), by kernel_rfl, rfl⟩
  info := ⟨Try.t134, (.agg (List.replicate 240 (.int .u8 0) : List Value).toArray), by kernel_rfl, by kernel_rfl, by kernel_rfl, by kernel_rfl, by kernel_rfl, by kernel_rfl⟩
  zero1 := List.all_eq_true.1 (by kernel_rfl)
  fields := fun fs h => by rw [show Try.prog.underlying 134 = some (.array 15 75) by kernel_rfl] at h; cases h
theorem ti138 : TIis Try.prog 138 ⟨.arr 256 5, 256, 256, List.replicate 256 (.int .u8 0)⟩ where
  under := ⟨(.array 256 5), by kernel_rfl, rfl⟩
  info := ⟨Try.t138, (.agg (List.replicate 256 (.int .u8 0) : List Value).toArray), by kernel_rfl, by kernel_rfl, by kernel_rfl, by kernel_rfl, by kernel_rfl, by kernel_rfl⟩
  zero1 := List.all_eq_true.1 (by kernel_rfl)
  fields := fun fs h => by rw [show Try.prog.underlying 138 = some (.array 256 5) by kernel_rfl] at h; cases h
theorem ti152 : TIis Try.prog 152 ⟨.st [(0, 4), (1, 3), (2, 29)], 3, 40, [(.bool false)] ++ [(.int .i64 0)] ++ [(.slice none 0 0)]⟩ where
  under := st_under (P := Try.prog) (t := 152) (by kernel_rfl)
  info := ⟨Try.t152, (.agg ([(.bool false)] ++ [(.int .i64 0)] ++ [(.slice none 0 0)] : List Value).toArray), by kernel_rfl, by kernel_rfl, by kernel_rfl, by kernel_rfl, by kernel_rfl, by kernel_rfl⟩
  zero1 := List.all_eq_true.1 (by kernel_rfl)
  fields := ti_fields (P := Try.prog) (t := 152) (by kernel_rfl)
theorem ti153 : TIis Try.prog 153 ⟨.st [(0, 4), (1, 3), (2, 29)], 3, 40, [(.bool false)] ++ [(.int .i64 0)] ++ [(.slice none 0 0)]⟩ where
  under := st_under (P := Try.prog) (t := 153) (by kernel_rfl)
  info := ⟨Try.t153, (.agg ([(.bool false)] ++ [(.int .i64 0)] ++ [(.slice none 0 0)] : List Value).toArray), by kernel_rfl, by kernel_rfl, by kernel_rfl, by kernel_rfl, by kernel_rfl, by kernel_rfl⟩
  zero1 := List.all_eq_true.1 (by kernel_rfl)
  fields := ti_fields (P := Try.prog) (t := 153) (by kernel_rfl)
theorem ti156 : TIis Try.prog 156 ⟨.int .u64, 1, 8, [(.int .u64 0)]⟩ where
  under := ⟨(.int .u64), by kernel_rfl, rfl⟩
  info := ⟨Try.t156, (.int .u64 0), by kernel_rfl, by kernel_rfl, by kernel_rfl, by kernel_rfl, by kernel_rfl, by kernel_rfl⟩
  zero1 := List.all_eq_true.1 (by kernel_rfl)
  fields := fun fs h => by rw [show Try.prog.underlying 156 = some (.int .u64) by kernel_rfl] at h; cases h
theorem ti157 : TIis Try.prog 157 ⟨.arr 4 5, 4, 4, List.replicate 4 (.int .u8 0)⟩ where
  under := ⟨(.array 4 5), by kernel_rfl, rfl⟩
  info := ⟨Try.t157, (.agg (List.replicate 4 (.int .u8 0) : List Value).toArray), by kernel_rfl, by kernel_rfl, by kernel_rfl, by kernel_rfl, by kernel_rfl, by kernel_rfl⟩
  zero1 := List.all_eq_true.1 (by kernel_rfl)
  fields := fun fs h => by rw [show Try.prog.underlying 157 = some (.array 4 5) by kernel_rfl] at h; cases h
theorem ti158 : TIis Try.prog 158 ⟨.arr 4 5, 4, 4, List.replicate 4 (.int .u8 0)⟩ where
  under := ⟨(.array 4 5), by kernel_rfl, rfl⟩
  info := ⟨Try.t158, (.agg (List.replicate 4 (.int .u8 0) : List Value).toArray), by kernel_rfl, by kernel_rfl, by kernel_rfl, by kernel_rfl, by kernel_rfl, by kernel_rfl⟩
  zero1 := List.all_eq_true.1 (by kernel_rfl)
  fields := fun fs h => by rw [show Try.prog.underlying 158 = some (.array 4 5) by kernel_rfl] at h; cases h
theorem ti159 : TIis Try.prog 159 ⟨.arr 60 158, 240, 240, List.replicate 240 (.int .u8 0)⟩ where
  under := ⟨(.array 60 158), by kernel_rfl, rfl⟩
  info := ⟨Try.t159, (.agg (List.replicate 240 (.int .u8 0) : List Value).toArray), by kernel_rfl, by kernel_rfl, by kernel_rfl, by kernel_rfl, by kernel_rfl, by kernel_rfl⟩
  zero1 := List.all_eq_true.1 (by kernel_rfl)
  fields := fun fs h => by rw [show Try.prog.underlying 159 = some (.array 60 158) by kernel_rfl] at h; cases h
theorem ti162 : TIis Try.prog 162 ⟨.ptr 134, 1, 8, [(.pointer none)]⟩ where
  under := ⟨(.pointer 134), by kernel_rfl, rfl⟩
  info := ⟨Try.t162, (.pointer none), by kernel_rfl, by kernel_rfl, by kernel_rfl, by kernel_rfl, by kernel_rfl, by kernel_rfl⟩
  zero1 := List.all_eq_true.1 (by kernel_rfl)
  fields := fun fs h => by rw [show Try.prog.underlying 162 = some (.pointer 134) by kernel_rfl] at h; cases h
theorem ti170 : TIis Try.prog 170 ⟨.int .u64, 1, 8, [(.int .u64 0)]⟩ where
  under := ⟨(.int .u64), by kernel_rfl, rfl⟩
  info := ⟨Try.t170, (.int .u64 0), by kernel_rfl, by kernel_rfl, by kernel_rfl, by kernel_rfl, by kernel_rfl, by kernel_rfl⟩
  zero1 := List.all_eq_true.1 (by kernel_rfl)
  fields := fun fs h => by rw [show Try.prog.underlying 170 = some (.int .u64) by kernel_rfl] at h; cases h
theorem ti178 : TIis Try.prog 178 ⟨.st [(0, 17), (1, 17), (2, 17), (3, 9)], 4, 40, [(.pointer none), (.pointer none), (.pointer none)] ++ [(.string ByteArray.empty)]⟩ where
  under := st_under (P := Try.prog) (t := 178) (by kernel_rfl)
  info := ⟨Try.t178, (.agg ([(.pointer none), (.pointer none), (.pointer none)] ++ [(.string ByteArray.empty)] : List Value).toArray), by kernel_rfl, by kernel_rfl, by kernel_rfl, by kernel_rfl, by kernel_rfl, by kernel_rfl⟩
  zero1 := List.all_eq_true.1 (by kernel_rfl)
  fields := ti_fields (P := Try.prog) (t := 178) (by kernel_rfl)

theorem te_ok : TeOK Try.prog te := by
  intro t ti h
  unfold te at h
  split at h
  · cases h; exact ti2
  · cases h; exact ti3
  · cases h; exact ti4
  · cases h; exact ti5
  · cases h; exact ti9
  · cases h; exact ti21
  · cases h; exact ti22
  · cases h; exact ti23
  · cases h; exact ti25
  · cases h; exact ti27
  · cases h; exact ti29
  · cases h; exact ti37
  · cases h; exact ti39
  · cases h; exact ti40
  · cases h; exact ti44
  · cases h; exact ti47
  · cases h; exact ti50
  · cases h; exact ti51
  · cases h; exact ti52
  · cases h; exact ti53
  · cases h; exact ti54
  · cases h; exact ti55
  · cases h; exact ti56
  · cases h; exact ti57
  · cases h; exact ti65
  · cases h; exact ti66
  · cases h; exact ti67
  · cases h; exact ti68
  · cases h; exact ti69
  · cases h; exact ti70
  · cases h; exact ti71
  · cases h; exact ti74
  · cases h; exact ti75
  · cases h; exact ti82
  · cases h; exact ti83
  · cases h; exact ti85
  · cases h; exact ti86
  · cases h; exact ti92
  · cases h; exact ti93
  · cases h; exact ti101
  · cases h; exact ti102
  · cases h; exact ti103
  · cases h; exact ti104
  · cases h; exact ti105
  · cases h; exact ti106
  · cases h; exact ti107
  · cases h; exact ti109
  · cases h; exact ti110
  · cases h; exact ti118
  · cases h; exact ti119
  · cases h; exact ti120
  · cases h; exact ti133
  · cases h; exact ti134
  · cases h; exact ti138
  · cases h; exact ti152
  · cases h; exact ti153
  · cases h; exact ti156
  · cases h; exact ti157
  · cases h; exact ti158
  · cases h; exact ti159
  · cases h; exact ti162
  · cases h; exact ti170
  · cases h; exact ti178
  · cases h

def teE := (And.intro te2 (And.intro te3 (And.intro te4 (And.intro te5 (And.intro te9 (And.intro te21 (And.intro te22 (And.intro te23 (And.intro te25 (And.intro te27 (And.intro te29 (And.intro te37 (And.intro te39 (And.intro te40 (And.intro te44 (And.intro te47 (And.intro te50 (And.intro te51 (And.intro te52 (And.intro te53 (And.intro te54 (And.intro te55 (And.intro te56 (And.intro te57 (And.intro te65 (And.intro te66 (And.intro te67 (And.intro te68 (And.intro te69 (And.intro te70 (And.intro te71 (And.intro te74 (And.intro te75 (And.intro te82 (And.intro te83 (And.intro te85 (And.intro te86 (And.intro te92 (And.intro te93 (And.intro te101 (And.intro te102 (And.intro te103 (And.intro te104 (And.intro te105 (And.intro te106 (And.intro te107 (And.intro te109 (And.intro te110 (And.intro te118 (And.intro te119 (And.intro te120 (And.intro te133 (And.intro te134 (And.intro te138 (And.intro te152 (And.intro te153 (And.intro te156 (And.intro te157 (And.intro te158 (And.intro te159 (And.intro te162 (And.intro te170 te178))))))))))))))))))))))))))))))))))))))))))))))))))))))))))))))

theorem mixed : Try.prog.follows .mixedOrders = true := by kernel_rfl
end Go.Proofs.Ytjnmdphoaafjaaa
