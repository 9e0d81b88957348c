/- The types of this seat's program, as the machine sees them. -/
import Derived.Test.YtjnmdphoaafjaaaDoorM2
import Derived.Test.YtjnmdphoaafjaaaDoorProg
import Derived.KernelRfl
namespace Go.Proofs.YtjnmdphoaafjaaaDoor
set_option linter.unusedVariables false
set_option linter.defProp false
open Go Go.Abs

def te : TypeId → Option TI
  | 2 => some ⟨.int .i64, 1, 8, [(.int .i64 0)]⟩
  | 3 => some ⟨.int .i64, 1, 8, [(.int .i64 0)]⟩
  | 4 => some ⟨.bool, 1, 1, [(.bool false)]⟩
  | 5 => some ⟨.int .u8, 1, 1, [(.int .u8 0)]⟩
  | 9 => some ⟨.str, 1, 16, [(.string ByteArray.empty)]⟩
  | 22 => some ⟨.arr 32 5, 32, 32, List.replicate 32 (.int .u8 0)⟩
  | 23 => some ⟨.arr 32 5, 32, 32, List.replicate 32 (.int .u8 0)⟩
  | 24 => some ⟨.st [(0, 3), (1, 3), (2, 3)], 3, 24, [(.int .i64 0), (.int .i64 0), (.int .i64 0)]⟩
  | 25 => some ⟨.st [(0, 3), (1, 3), (2, 3)], 3, 24, [(.int .i64 0), (.int .i64 0), (.int .i64 0)]⟩
  | 27 => some ⟨.int .i64, 1, 8, [(.int .i64 0)]⟩
  | 30 => some ⟨.arr 12 5, 12, 12, List.replicate 12 (.int .u8 0)⟩
  | 31 => some ⟨.arr 12 5, 12, 12, List.replicate 12 (.int .u8 0)⟩
  | 36 => some ⟨.slice 5, 1, 24, [(.slice none 0 0)]⟩
  | 44 => some ⟨.slice 3, 1, 24, [(.slice none 0 0)]⟩
  | 52 => some ⟨.int .u32, 1, 4, [(.int .u32 0)]⟩
  | 53 => some ⟨.arr 8 52, 8, 32, List.replicate 8 (.int .u32 0)⟩
  | 109 => some ⟨.arr 16 5, 16, 16, List.replicate 16 (.int .u8 0)⟩
  | 112 => some ⟨.arr 32 5, 32, 32, List.replicate 32 (.int .u8 0)⟩
  | 157 => some ⟨.arr 15 109, 240, 240, List.replicate 240 (.int .u8 0)⟩
  | 158 => some ⟨.arr 15 109, 240, 240, List.replicate 240 (.int .u8 0)⟩
  | 165 => some ⟨.arr 64 5, 64, 64, List.replicate 64 (.int .u8 0)⟩
  | 170 => some ⟨.int .u64, 1, 8, [(.int .u64 0)]⟩
  | 173 => some ⟨.int .u64, 1, 8, [(.int .u64 0)]⟩
  | 192 => some ⟨.slice 36, 1, 24, [(.slice none 0 0)]⟩
  | 199 => some ⟨.arr 4 5, 4, 4, List.replicate 4 (.int .u8 0)⟩
  | 200 => some ⟨.arr 60 199, 240, 240, List.replicate 240 (.int .u8 0)⟩
  | 203 => some ⟨.ptr 158, 1, 8, [(.pointer none)]⟩
  | 205 => some ⟨.arr 64 52, 64, 256, List.replicate 64 (.int .u32 0)⟩
  | _ => none

theorem te2 : te 2 = some ⟨.int .i64, 1, 8, [(.int .i64 0)]⟩ := rfl
theorem kd2 : kd te 2 = .int .i64 := rfl
theorem te3 : te 3 = some ⟨.int .i64, 1, 8, [(.int .i64 0)]⟩ := rfl
theorem kd3 : kd te 3 = .int .i64 := rfl
theorem te4 : te 4 = some ⟨.bool, 1, 1, [(.bool false)]⟩ := rfl
theorem kd4 : kd te 4 = .bool := rfl
theorem te5 : te 5 = some ⟨.int .u8, 1, 1, [(.int .u8 0)]⟩ := rfl
theorem kd5 : kd te 5 = .int .u8 := rfl
theorem te9 : te 9 = some ⟨.str, 1, 16, [(.string ByteArray.empty)]⟩ := rfl
theorem kd9 : kd te 9 = .str := rfl
theorem te22 : te 22 = some ⟨.arr 32 5, 32, 32, List.replicate 32 (.int .u8 0)⟩ := rfl
theorem kd22 : kd te 22 = .arr 32 5 := rfl
theorem te23 : te 23 = some ⟨.arr 32 5, 32, 32, List.replicate 32 (.int .u8 0)⟩ := rfl
theorem kd23 : kd te 23 = .arr 32 5 := rfl
theorem te24 : te 24 = some ⟨.st [(0, 3), (1, 3), (2, 3)], 3, 24, [(.int .i64 0), (.int .i64 0), (.int .i64 0)]⟩ := rfl
theorem kd24 : kd te 24 = .st [(0, 3), (1, 3), (2, 3)] := rfl
theorem te25 : te 25 = some ⟨.st [(0, 3), (1, 3), (2, 3)], 3, 24, [(.int .i64 0), (.int .i64 0), (.int .i64 0)]⟩ := rfl
theorem kd25 : kd te 25 = .st [(0, 3), (1, 3), (2, 3)] := rfl
theorem te27 : te 27 = some ⟨.int .i64, 1, 8, [(.int .i64 0)]⟩ := rfl
theorem kd27 : kd te 27 = .int .i64 := rfl
theorem te30 : te 30 = some ⟨.arr 12 5, 12, 12, List.replicate 12 (.int .u8 0)⟩ := rfl
theorem kd30 : kd te 30 = .arr 12 5 := rfl
theorem te31 : te 31 = some ⟨.arr 12 5, 12, 12, List.replicate 12 (.int .u8 0)⟩ := rfl
theorem kd31 : kd te 31 = .arr 12 5 := rfl
theorem te36 : te 36 = some ⟨.slice 5, 1, 24, [(.slice none 0 0)]⟩ := rfl
theorem kd36 : kd te 36 = .slice 5 := rfl
theorem te44 : te 44 = some ⟨.slice 3, 1, 24, [(.slice none 0 0)]⟩ := rfl
theorem kd44 : kd te 44 = .slice 3 := rfl
theorem te52 : te 52 = some ⟨.int .u32, 1, 4, [(.int .u32 0)]⟩ := rfl
theorem kd52 : kd te 52 = .int .u32 := rfl
theorem te53 : te 53 = some ⟨.arr 8 52, 8, 32, List.replicate 8 (.int .u32 0)⟩ := rfl
theorem kd53 : kd te 53 = .arr 8 52 := rfl
theorem te109 : te 109 = some ⟨.arr 16 5, 16, 16, List.replicate 16 (.int .u8 0)⟩ := rfl
theorem kd109 : kd te 109 = .arr 16 5 := rfl
theorem te112 : te 112 = some ⟨.arr 32 5, 32, 32, List.replicate 32 (.int .u8 0)⟩ := rfl
theorem kd112 : kd te 112 = .arr 32 5 := rfl
theorem te157 : te 157 = some ⟨.arr 15 109, 240, 240, List.replicate 240 (.int .u8 0)⟩ := rfl
theorem kd157 : kd te 157 = .arr 15 109 := rfl
theorem te158 : te 158 = some ⟨.arr 15 109, 240, 240, List.replicate 240 (.int .u8 0)⟩ := rfl
theorem kd158 : kd te 158 = .arr 15 109 := rfl
theorem te165 : te 165 = some ⟨.arr 64 5, 64, 64, List.replicate 64 (.int .u8 0)⟩ := rfl
theorem kd165 : kd te 165 = .arr 64 5 := rfl
theorem te170 : te 170 = some ⟨.int .u64, 1, 8, [(.int .u64 0)]⟩ := rfl
theorem kd170 : kd te 170 = .int .u64 := rfl
theorem te173 : te 173 = some ⟨.int .u64, 1, 8, [(.int .u64 0)]⟩ := rfl
theorem kd173 : kd te 173 = .int .u64 := rfl
theorem te192 : te 192 = some ⟨.slice 36, 1, 24, [(.slice none 0 0)]⟩ := rfl
theorem kd192 : kd te 192 = .slice 36 := rfl
theorem te199 : te 199 = some ⟨.arr 4 5, 4, 4, List.replicate 4 (.int .u8 0)⟩ := rfl
theorem kd199 : kd te 199 = .arr 4 5 := rfl
theorem te200 : te 200 = some ⟨.arr 60 199, 240, 240, List.replicate 240 (.int .u8 0)⟩ := rfl
theorem kd200 : kd te 200 = .arr 60 199 := rfl
theorem te203 : te 203 = some ⟨.ptr 158, 1, 8, [(.pointer none)]⟩ := rfl
theorem kd203 : kd te 203 = .ptr 158 := rfl
theorem te205 : te 205 = some ⟨.arr 64 52, 64, 256, List.replicate 64 (.int .u32 0)⟩ := rfl
theorem kd205 : kd te 205 = .arr 64 52 := rfl

theorem ti2 : TIis Tryd.prog 2 ⟨.int .i64, 1, 8, [(.int .i64 0)]⟩ where
  under := ⟨(.int .i64), by kernel_rfl, rfl⟩
  info := ⟨Tryd.t2, (.int .i64 0), by kernel_rfl, by kernel_rfl, by kernel_rfl, by kernel_rfl, by kernel_rfl, by kernel_rfl⟩
  zero1 := List.all_eq_true.1 (by kernel_rfl)
  fields := fun fs h => by rw [show Tryd.prog.underlying 2 = some (.int .i64) by kernel_rfl] at h; cases h
theorem ti3 : TIis Tryd.prog 3 ⟨.int .i64, 1, 8, [(.int .i64 0)]⟩ where
  under := ⟨(.int .i64), by kernel_rfl, rfl⟩
  info := ⟨Tryd.t3, (.int .i64 0), by kernel_rfl, by kernel_rfl, by kernel_rfl, by kernel_rfl, by kernel_rfl, by kernel_rfl⟩
  zero1 := List.all_eq_true.1 (by kernel_rfl)
  fields := fun fs h => by rw [show Tryd.prog.underlying 3 = some (.int .i64) by kernel_rfl] at h; cases h
theorem ti4 : TIis Tryd.prog 4 ⟨.bool, 1, 1, [(.bool false)]⟩ where
  under := ⟨.bool, by kernel_rfl, rfl⟩
  info := ⟨Tryd.t4, (.bool false), by kernel_rfl, by kernel_rfl, by kernel_rfl, by kernel_rfl, by kernel_rfl, by kernel_rfl⟩
  zero1 := List.all_eq_true.1 (by kernel_rfl)
  fields := fun fs h => by rw [show Tryd.prog.underlying 4 = some .bool by kernel_rfl] at h; cases h
theorem ti5 : TIis Tryd.prog 5 ⟨.int .u8, 1, 1, [(.int .u8 0)]⟩ where
  under := ⟨(.int .u8), by kernel_rfl, rfl⟩
  info := ⟨Tryd.t5, (.int .u8 0), by kernel_rfl, by kernel_rfl, by kernel_rfl, by kernel_rfl, by kernel_rfl, by kernel_rfl⟩
  zero1 := List.all_eq_true.1 (by kernel_rfl)
  fields := fun fs h => by rw [show Tryd.prog.underlying 5 = some (.int .u8) by kernel_rfl] at h; cases h
theorem ti9 : TIis Tryd.prog 9 ⟨.str, 1, 16, [(.string ByteArray.empty)]⟩ where
  under := ⟨.string, by kernel_rfl, rfl⟩
  info := ⟨Tryd.t9, (.string ByteArray.empty), by kernel_rfl, by kernel_rfl, by kernel_rfl, by kernel_rfl, by kernel_rfl, by kernel_rfl⟩
  zero1 := List.all_eq_true.1 (by kernel_rfl)
  fields := fun fs h => by rw [show Tryd.prog.underlying 9 = some .string by kernel_rfl] at h; cases h
theorem ti22 : TIis Tryd.prog 22 ⟨.arr 32 5, 32, 32, List.replicate 32 (.int .u8 0)⟩ where
  under := ⟨(.array 32 5), by kernel_rfl, rfl⟩
  info := ⟨Tryd.t22, (.agg (List.replicate 32 (.int .u8 0) : List Value).toArray), by kernel_rfl, by kernel_rfl, by kernel_rfl, by kernel_rfl, by kernel_rfl, by kernel_rfl⟩
  zero1 := List.all_eq_true.1 (by kernel_rfl)
  fields := fun fs h => by rw [show Tryd.prog.underlying 22 = some (.array 32 5) by kernel_rfl] at h; cases h
theorem ti23 : TIis Tryd.prog 23 ⟨.arr 32 5, 32, 32, List.replicate 32 (.int .u8 0)⟩ where
  under := ⟨(.array 32 5), by kernel_rfl, rfl⟩
  info := ⟨Tryd.t23, (.agg (List.replicate 32 (.int .u8 0) : List Value).toArray), by kernel_rfl, by kernel_rfl, by kernel_rfl, by kernel_rfl, by kernel_rfl, by kernel_rfl⟩
  zero1 := List.all_eq_true.1 (by kernel_rfl)
  fields := fun fs h => by rw [show Tryd.prog.underlying 23 = some (.array 32 5) by kernel_rfl] at h; cases h
theorem ti24 : TIis Tryd.prog 24 ⟨.st [(0, 3), (1, 3), (2, 3)], 3, 24, [(.int .i64 0), (.int .i64 0), (.int .i64 0)]⟩ where
  under := st_under (P := Tryd.prog) (t := 24) (by kernel_rfl)
  info := ⟨Tryd.t24, (.agg ([(.int .i64 0), (.int .i64 0), (.int .i64 0)] : List Value).toArray), by kernel_rfl, by kernel_rfl, by kernel_rfl, by kernel_rfl, by kernel_rfl, by kernel_rfl⟩
  zero1 := List.all_eq_true.1 (by kernel_rfl)
  fields := ti_fields (P := Tryd.prog) (t := 24) (by kernel_rfl)
theorem ti25 : TIis Tryd.prog 25 ⟨.st [(0, 3), (1, 3), (2, 3)], 3, 24, [(.int .i64 0), (.int .i64 0), (.int .i64 0)]⟩ where
  under := st_under (P := Tryd.prog) (t := 25) (by kernel_rfl)
  info := ⟨Tryd.t25, (.agg ([(.int .i64 0), (.int .i64 0), (.int .i64 0)] : List Value).toArray), by kernel_rfl, by kernel_rfl, by kernel_rfl, by kernel_rfl, by kernel_rfl, by kernel_rfl⟩
  zero1 := List.all_eq_true.1 (by kernel_rfl)
  fields := ti_fields (P := Tryd.prog) (t := 25) (by kernel_rfl)
theorem ti27 : TIis Tryd.prog 27 ⟨.int .i64, 1, 8, [(.int .i64 0)]⟩ where
  under := ⟨(.int .i64), by kernel_rfl, rfl⟩
  info := ⟨Tryd.t27, (.int .i64 0), by kernel_rfl, by kernel_rfl, by kernel_rfl, by kernel_rfl, by kernel_rfl, by kernel_rfl⟩
  zero1 := List.all_eq_true.1 (by kernel_rfl)
  fields := fun fs h => by rw [show Tryd.prog.underlying 27 = some (.int .i64) by kernel_rfl] at h; cases h
theorem ti30 : TIis Tryd.prog 30 ⟨.arr 12 5, 12, 12, List.replicate 12 (.int .u8 0)⟩ where
  under := ⟨(.array 12 5), by kernel_rfl, rfl⟩
  info := ⟨Tryd.t30, (.agg (List.replicate 12 (.int .u8 0) : List Value).toArray), by kernel_rfl, by kernel_rfl, by kernel_rfl, by kernel_rfl, by kernel_rfl, by kernel_rfl⟩
  zero1 := List.all_eq_true.1 (by kernel_rfl)
  fields := fun fs h => by rw [show Tryd.prog.underlying 30 = some (.array 12 5) by kernel_rfl] at h; cases h
theorem ti31 : TIis Tryd.prog 31 ⟨.arr 12 5, 12, 12, List.replicate 12 (.int .u8 0)⟩ where
  under := ⟨(.array 12 5), by kernel_rfl, rfl⟩
  info := ⟨Tryd.t31, (.agg (List.replicate 12 (.int .u8 0) : List Value).toArray), by kernel_rfl, by kernel_rfl, by kernel_rfl, by kernel_rfl, by kernel_rfl, by kernel_rfl⟩
  zero1 := List.all_eq_true.1 (by kernel_rfl)
  fields := fun fs h => by rw [show Tryd.prog.underlying 31 = some (.array 12 5) by kernel_rfl] at h; cases h
theorem ti36 : TIis Tryd.prog 36 ⟨.slice 5, 1, 24, [(.slice none 0 0)]⟩ where
  under := ⟨(.slice 5), by kernel_rfl, rfl⟩
  info := ⟨Tryd.t36, (.slice none 0 0), by kernel_rfl, by kernel_rfl, by kernel_rfl, by kernel_rfl, by kernel_rfl, by kernel_rfl⟩
  zero1 := List.all_eq_true.1 (by kernel_rfl)
  fields := fun fs h => by rw [show Tryd.prog.underlying 36 = some (.slice 5) by kernel_rfl] at h; cases h
theorem ti44 : TIis Tryd.prog 44 ⟨.slice 3, 1, 24, [(.slice none 0 0)]⟩ where
  under := ⟨(.slice 3), by kernel_rfl, rfl⟩
  info := ⟨Tryd.t44, (.slice none 0 0), by kernel_rfl, by kernel_rfl, by kernel_rfl, by kernel_rfl, by kernel_rfl, by kernel_rfl⟩
  zero1 := List.all_eq_true.1 (by kernel_rfl)
  fields := fun fs h => by rw [show Tryd.prog.underlying 44 = some (.slice 3) by kernel_rfl] at h; cases h
theorem ti52 : TIis Tryd.prog 52 ⟨.int .u32, 1, 4, [(.int .u32 0)]⟩ where
  under := ⟨(.int .u32), by kernel_rfl, rfl⟩
  info := ⟨Tryd.t52, (.int .u32 0), by kernel_rfl, by kernel_rfl, by kernel_rfl, by kernel_rfl, by kernel_rfl, by kernel_rfl⟩
  zero1 := List.all_eq_true.1 (by kernel_rfl)
  fields := fun fs h => by rw [show Tryd.prog.underlying 52 = some (.int .u32) by kernel_rfl] at h; cases h
theorem ti53 : TIis Tryd.prog 53 ⟨.arr 8 52, 8, 32, List.replicate 8 (.int .u32 0)⟩ where
  under := ⟨(.array 8 52), by kernel_rfl, rfl⟩
  info := ⟨Tryd.t53, (.agg (List.replicate 8 (.int .u32 0) : List Value).toArray), by kernel_rfl, by kernel_rfl, by kernel_rfl, by kernel_rfl, by kernel_rfl, by kernel_rfl⟩
  zero1 := List.all_eq_true.1 (by kernel_rfl)
  fields := fun fs h => by rw [show Tryd.prog.underlying 53 = some (.array 8 52) by kernel_rfl] at h; cases h
theorem ti109 : TIis Tryd.prog 109 ⟨.arr 16 5, 16, 16, List.replicate 16 (.int .u8 0)⟩ where
  under := ⟨(.array 16 5), by kernel_rfl, rfl⟩
  info := ⟨Tryd.t109, (.agg (List.replicate 16 (.int .u8 0) : List Value).toArray), by kernel_rfl, by kernel_rfl, by kernel_rfl, by kernel_rfl, by kernel_rfl, by kernel_rfl⟩
  zero1 := List.all_eq_true.1 (by kernel_rfl)
  fields := fun fs h => by rw [show Tryd.prog.underlying 109 = some (.array 16 5) by kernel_rfl] at h; cases h
theorem ti112 : TIis Tryd.prog 112 ⟨.arr 32 5, 32, 32, List.replicate 32 (.int .u8 0)⟩ where
  under := ⟨(.array 32 5), by kernel_rfl, rfl⟩
  info := ⟨Tryd.t112, (.agg (List.replicate 32 (.int .u8 0) : List Value).toArray), by kernel_rfl, by kernel_rfl, by kernel_rfl, by kernel_rfl, by kernel_rfl, by kernel_rfl⟩
  zero1 := List.all_eq_true.1 (by kernel_rfl)
  fields := fun fs h => by rw [show Tryd.prog.underlying 112 = some (.array 32 5) by kernel_rfl] at h; cases h
theorem ti157 : TIis Tryd.prog 157 ⟨.arr 15 109, 240, 240, List.replicate 240 (.int .u8 0)⟩ where
  under := ⟨(.array 15 109), by kernel_rfl, rfl⟩
  info := ⟨Tryd.t157, (.agg (List.replicate 240 (.int .u8 0) : List Value).toArray), by kernel_rfl, by kernel_rfl, by kernel_rfl, by kernel_rfl, by kernel_rfl, by kernel_rfl⟩
  zero1 := List.all_eq_true.1 (by kernel_rfl)
  fields := fun fs h => by rw [show Tryd.prog.underlying 157 = some (.array 15 109) by kernel_rfl] at h; cases h
theorem ti158 : TIis Tryd.prog 158 ⟨.arr 15 109, 240, 240, List.replicate 240 (.int .u8 0)⟩ where
  under := ⟨(.array 15 109), by kernel_rfl, rfl⟩
  info := ⟨Tryd.t158, (.agg (List.replicate 240 (.int .u8 0) : List Value).toArray), by kernel_rfl, by kernel_rfl, by kernel_rfl, by kernel_rfl, by kernel_rfl, by kernel_rfl⟩
  zero1 := List.all_eq_true.1 (by kernel_rfl)
  fields := fun fs h => by rw [show Tryd.prog.underlying 158 = some (.array 15 109) by kernel_rfl] at h; cases h
theorem ti165 : TIis Tryd.prog 165 ⟨.arr 64 5, 64, 64, List.replicate 64 (.int .u8 0)⟩ where
  under := ⟨(.array 64 5), by kernel_rfl, rfl⟩
  info := ⟨Tryd.t165, (.agg (List.replicate 64 (.int .u8 0) : List Value).toArray), by kernel_rfl, by kernel_rfl, by kernel_rfl, by kernel_rfl, by kernel_rfl, by kernel_rfl⟩
  zero1 := List.all_eq_true.1 (by kernel_rfl)
  fields := fun fs h => by rw [show Tryd.prog.underlying 165 = some (.array 64 5) by kernel_rfl] at h; cases h
theorem ti170 : TIis Tryd.prog 170 ⟨.int .u64, 1, 8, [(.int .u64 0)]⟩ where
  under := ⟨(.int .u64), by kernel_rfl, rfl⟩
  info := ⟨Tryd.t170, (.int .u64 0), by kernel_rfl, by kernel_rfl, by kernel_rfl, by kernel_rfl, by kernel_rfl, by kernel_rfl⟩
  zero1 := List.all_eq_true.1 (by kernel_rfl)
  fields := fun fs h => by rw [show Tryd.prog.underlying 170 = some (.int .u64) by kernel_rfl] at h; cases h
theorem ti173 : TIis Tryd.prog 173 ⟨.int .u64, 1, 8, [(.int .u64 0)]⟩ where
  under := ⟨(.int .u64), by kernel_rfl, rfl⟩
  info := ⟨Tryd.t173, (.int .u64 0), by kernel_rfl, by kernel_rfl, by kernel_rfl, by kernel_rfl, by kernel_rfl, by kernel_rfl⟩
  zero1 := List.all_eq_true.1 (by kernel_rfl)
  fields := fun fs h => by rw [show Tryd.prog.underlying 173 = some (.int .u64) by kernel_rfl] at h; cases h
theorem ti192 : TIis Tryd.prog 192 ⟨.slice 36, 1, 24, [(.slice none 0 0)]⟩ where
  under := ⟨(.slice 36), by kernel_rfl, rfl⟩
  info := ⟨Tryd.t192, (.slice none 0 0), by kernel_rfl, by kernel_rfl, by kernel_rfl, by kernel_rfl, by kernel_rfl, by kernel_rfl⟩
  zero1 := List.all_eq_true.1 (by kernel_rfl)
  fields := fun fs h => by rw [show Tryd.prog.underlying 192 = some (.slice 36) by kernel_rfl] at h; cases h
theorem ti199 : TIis Tryd.prog 199 ⟨.arr 4 5, 4, 4, List.replicate 4 (.int .u8 0)⟩ where
  under := ⟨(.array 4 5), by kernel_rfl, rfl⟩
  info := ⟨Tryd.t199, (.agg (List.replicate 4 (.int .u8 0) : List Value).toArray), by kernel_rfl, by kernel_rfl, by kernel_rfl, by kernel_rfl, by kernel_rfl, by kernel_rfl⟩
  zero1 := List.all_eq_true.1 (by kernel_rfl)
  fields := fun fs h => by rw [show Tryd.prog.underlying 199 = some (.array 4 5) by kernel_rfl] at h; cases h
theorem ti200 : TIis Tryd.prog 200 ⟨.arr 60 199, 240, 240, List.replicate 240 (.int .u8 0)⟩ where
  under := ⟨(.array 60 199), by kernel_rfl, rfl⟩
  info := ⟨Tryd.t200, (.agg (List.replicate 240 (.int .u8 0) : List Value).toArray), by kernel_rfl, by kernel_rfl, by kernel_rfl, by kernel_rfl, by kernel_rfl, by kernel_rfl⟩
  zero1 := List.all_eq_true.1 (by kernel_rfl)
  fields := fun fs h => by rw [show Tryd.prog.underlying 200 = some (.array 60 199) by kernel_rfl] at h; cases h
theorem ti203 : TIis Tryd.prog 203 ⟨.ptr 158, 1, 8, [(.pointer none)]⟩ where
  under := ⟨(.pointer 158), by kernel_rfl, rfl⟩
  info := ⟨Tryd.t203, (.pointer none), by kernel_rfl, by kernel_rfl, by kernel_rfl, by kernel_rfl, by kernel_rfl, by kernel_rfl⟩
  zero1 := List.all_eq_true.1 (by kernel_rfl)
  fields := fun fs h => by rw [show Tryd.prog.underlying 203 = some (.pointer 158) by kernel_rfl] at h; cases h
theorem ti205 : TIis Tryd.prog 205 ⟨.arr 64 52, 64, 256, List.replicate 64 (.int .u32 0)⟩ where
  under := ⟨(.array 64 52), by kernel_rfl, rfl⟩
  info := ⟨Tryd.t205, (.agg (List.replicate 64 (.int .u32 0) : List Value).toArray), by kernel_rfl, by kernel_rfl, by kernel_rfl, by kernel_rfl, by kernel_rfl, by kernel_rfl⟩
  zero1 := List.all_eq_true.1 (by kernel_rfl)
  fields := fun fs h => by rw [show Tryd.prog.underlying 205 = some (.array 64 52) by kernel_rfl] at h; cases h

theorem te_ok : TeOK Tryd.prog te := by
  intro t ti h
  unfold te at h
  split at h
  · cases h; exact ti2
  · cases h; exact ti3
  · cases h; exact ti4
  · cases h; exact ti5
  · cases h; exact ti9
  · cases h; exact ti22
  · cases h; exact ti23
  · cases h; exact ti24
  · cases h; exact ti25
  · cases h; exact ti27
  · cases h; exact ti30
  · cases h; exact ti31
  · cases h; exact ti36
  · cases h; exact ti44
  · cases h; exact ti52
  · cases h; exact ti53
  · cases h; exact ti109
  · cases h; exact ti112
  · cases h; exact ti157
  · cases h; exact ti158
  · cases h; exact ti165
  · cases h; exact ti170
  · cases h; exact ti173
  · cases h; exact ti192
  · cases h; exact ti199
  · cases h; exact ti200
  · cases h; exact ti203
  · cases h; exact ti205
  · cases h

def teE := (And.intro te2 (And.intro te3 (And.intro te4 (And.intro te5 (And.intro te9 (And.intro te22 (And.intro te23 (And.intro te24 (And.intro te25 (And.intro te27 (And.intro te30 (And.intro te31 (And.intro te36 (And.intro te44 (And.intro te52 (And.intro te53 (And.intro te109 (And.intro te112 (And.intro te157 (And.intro te158 (And.intro te165 (And.intro te170 (And.intro te173 (And.intro te192 (And.intro te199 (And.intro te200 (And.intro te203 te205)))))))))))))))))))))))))))

theorem mixed : Tryd.prog.follows .mixedOrders = true := by kernel_rfl
end Go.Proofs.YtjnmdphoaafjaaaDoor
