/- The types of this seat's program, as the machine sees them. -/
import Derived.Test.YteooikdcafodfaaDoorAx
import Derived.Test.YteooikdcafodfaaDoorProg
import Derived.KernelRfl
namespace Go.Proofs.YteooikdcafodfaaDoor
open Go Go.Abs

def te : TypeId → Option TI
  | 2 => some ⟨.int .i64, 1, 8, [(.int .i64 0)]⟩
  | 3 => some ⟨.int .i64, 1, 8, [(.int .i64 0)]⟩
  | 4 => some ⟨.bool, 1, 1, [(.bool false)]⟩
  | 5 => some ⟨.int .u8, 1, 1, [(.int .u8 0)]⟩
  | 9 => some ⟨.str, 1, 16, [(.string ByteArray.empty)]⟩
  | 21 => some ⟨.int .i32, 1, 4, [(.int .i32 0)]⟩
  | 22 => some ⟨.slice 5, 1, 24, [(.slice none 0 0)]⟩
  | 24 => some ⟨.arr 32 5, 32, 32, List.replicate 32 (.int .u8 0)⟩
  | 25 => some ⟨.arr 32 5, 32, 32, List.replicate 32 (.int .u8 0)⟩
  | 28 => some ⟨.int .u32, 1, 4, [(.int .u32 0)]⟩
  | 29 => some ⟨.arr 8 28, 8, 32, List.replicate 8 (.int .u32 0)⟩
  | 30 => some ⟨.arr 64 5, 64, 64, List.replicate 64 (.int .u8 0)⟩
  | 38 => some ⟨.int .i64, 1, 8, [(.int .i64 0)]⟩
  | 42 => some ⟨.slice 28, 1, 24, [(.slice none 0 0)]⟩
  | 43 => some ⟨.st [(0, 42), (1, 29)], 9, 56, [(.slice none 0 0)] ++ List.replicate 8 (.int .u32 0)⟩
  | 44 => some ⟨.st [(0, 42), (1, 29)], 9, 56, [(.slice none 0 0)] ++ List.replicate 8 (.int .u32 0)⟩
  | 46 => some ⟨.arr 64 28, 64, 256, List.replicate 64 (.int .u32 0)⟩
  | 47 => some ⟨.int .u64, 1, 8, [(.int .u64 0)]⟩
  | 51 => some ⟨.slice 54, 1, 24, [(.slice none 0 0)]⟩
  | 54 => some ⟨.int .u64, 1, 8, [(.int .u64 0)]⟩
  | 59 => some ⟨.slice 22, 1, 24, [(.slice none 0 0)]⟩
  | 61 => some ⟨.arr 4 54, 4, 32, List.replicate 4 (.int .u64 0)⟩
  | 62 => some ⟨.arr 12 54, 12, 96, List.replicate 12 (.int .u64 0)⟩
  | 64 => some ⟨.arr 8 54, 8, 64, List.replicate 8 (.int .u64 0)⟩
  | _ => none

theorem te2 : te 2 = some ⟨.int .i64, 1, 8, [(.int .i64 0)]⟩ := rfl
theorem kd2 : kd te 2 = .int .i64 := rfl
theorem te3 : te 3 = some ⟨.int .i64, 1, 8, [(.int .i64 0)]⟩ := rfl
theorem kd3 : kd te 3 = .int .i64 := rfl
theorem te4 : te 4 = some ⟨.bool, 1, 1, [(.bool false)]⟩ := rfl
theorem kd4 : kd te 4 = .bool := rfl
theorem te5 : te 5 = some ⟨.int .u8, 1, 1, [(.int .u8 0)]⟩ := rfl
theorem kd5 : kd te 5 = .int .u8 := rfl
theorem te9 : te 9 = some ⟨.str, 1, 16, [(.string ByteArray.empty)]⟩ := rfl
theorem kd9 : kd te 9 = .str := rfl
theorem te21 : te 21 = some ⟨.int .i32, 1, 4, [(.int .i32 0)]⟩ := rfl
theorem kd21 : kd te 21 = .int .i32 := rfl
theorem te22 : te 22 = some ⟨.slice 5, 1, 24, [(.slice none 0 0)]⟩ := rfl
theorem kd22 : kd te 22 = .slice 5 := rfl
theorem te24 : te 24 = some ⟨.arr 32 5, 32, 32, List.replicate 32 (.int .u8 0)⟩ := rfl
theorem kd24 : kd te 24 = .arr 32 5 := rfl
theorem te25 : te 25 = some ⟨.arr 32 5, 32, 32, List.replicate 32 (.int .u8 0)⟩ := rfl
theorem kd25 : kd te 25 = .arr 32 5 := rfl
theorem te28 : te 28 = some ⟨.int .u32, 1, 4, [(.int .u32 0)]⟩ := rfl
theorem kd28 : kd te 28 = .int .u32 := rfl
theorem te29 : te 29 = some ⟨.arr 8 28, 8, 32, List.replicate 8 (.int .u32 0)⟩ := rfl
theorem kd29 : kd te 29 = .arr 8 28 := rfl
theorem te30 : te 30 = some ⟨.arr 64 5, 64, 64, List.replicate 64 (.int .u8 0)⟩ := rfl
theorem kd30 : kd te 30 = .arr 64 5 := rfl
theorem te38 : te 38 = some ⟨.int .i64, 1, 8, [(.int .i64 0)]⟩ := rfl
theorem kd38 : kd te 38 = .int .i64 := rfl
theorem te42 : te 42 = some ⟨.slice 28, 1, 24, [(.slice none 0 0)]⟩ := rfl
theorem kd42 : kd te 42 = .slice 28 := rfl
theorem te43 : te 43 = some ⟨.st [(0, 42), (1, 29)], 9, 56, [(.slice none 0 0)] ++ List.replicate 8 (.int .u32 0)⟩ := rfl
theorem kd43 : kd te 43 = .st [(0, 42), (1, 29)] := rfl
theorem te44 : te 44 = some ⟨.st [(0, 42), (1, 29)], 9, 56, [(.slice none 0 0)] ++ List.replicate 8 (.int .u32 0)⟩ := rfl
theorem kd44 : kd te 44 = .st [(0, 42), (1, 29)] := rfl
theorem te46 : te 46 = some ⟨.arr 64 28, 64, 256, List.replicate 64 (.int .u32 0)⟩ := rfl
theorem kd46 : kd te 46 = .arr 64 28 := rfl
theorem te47 : te 47 = some ⟨.int .u64, 1, 8, [(.int .u64 0)]⟩ := rfl
theorem kd47 : kd te 47 = .int .u64 := rfl
theorem te51 : te 51 = some ⟨.slice 54, 1, 24, [(.slice none 0 0)]⟩ := rfl
theorem kd51 : kd te 51 = .slice 54 := rfl
theorem te54 : te 54 = some ⟨.int .u64, 1, 8, [(.int .u64 0)]⟩ := rfl
theorem kd54 : kd te 54 = .int .u64 := rfl
theorem te59 : te 59 = some ⟨.slice 22, 1, 24, [(.slice none 0 0)]⟩ := rfl
theorem kd59 : kd te 59 = .slice 22 := rfl
theorem te61 : te 61 = some ⟨.arr 4 54, 4, 32, List.replicate 4 (.int .u64 0)⟩ := rfl
theorem kd61 : kd te 61 = .arr 4 54 := rfl
theorem te62 : te 62 = some ⟨.arr 12 54, 12, 96, List.replicate 12 (.int .u64 0)⟩ := rfl
theorem kd62 : kd te 62 = .arr 12 54 := rfl
theorem te64 : te 64 = some ⟨.arr 8 54, 8, 64, List.replicate 8 (.int .u64 0)⟩ := rfl
theorem kd64 : kd te 64 = .arr 8 54 := rfl

theorem ti2 : TIis Tryd.prog 2 ⟨.int .i64, 1, 8, [(.int .i64 0)]⟩ where
  under := ⟨(.int .i64), by kernel_rfl, rfl⟩
  info := ⟨Tryd.t2, (.int .i64 0), by kernel_rfl, by kernel_rfl, by kernel_rfl, by kernel_rfl, by kernel_rfl, by kernel_rfl⟩
  zero1 := List.all_eq_true.1 (by kernel_rfl)
  fields := fun fs h => by rw [show Tryd.prog.underlying 2 = some (.int .i64) by kernel_rfl] at h; cases h
theorem ti3 : TIis Tryd.prog 3 ⟨.int .i64, 1, 8, [(.int .i64 0)]⟩ where
  under := ⟨(.int .i64), by kernel_rfl, rfl⟩
  info := ⟨Tryd.t3, (.int .i64 0), by kernel_rfl, by kernel_rfl, by kernel_rfl, by kernel_rfl, by kernel_rfl, by kernel_rfl⟩
  zero1 := List.all_eq_true.1 (by kernel_rfl)
  fields := fun fs h => by rw [show Tryd.prog.underlying 3 = some (.int .i64) by kernel_rfl] at h; cases h
theorem ti4 : TIis Tryd.prog 4 ⟨.bool, 1, 1, [(.bool false)]⟩ where
  under := ⟨.bool, by kernel_rfl, rfl⟩
  info := ⟨Tryd.t4, (.bool false), by kernel_rfl, by kernel_rfl, by kernel_rfl, by kernel_rfl, by kernel_rfl, by kernel_rfl⟩
  zero1 := List.all_eq_true.1 (by kernel_rfl)
  fields := fun fs h => by rw [show Tryd.prog.underlying 4 = some .bool by kernel_rfl] at h; cases h
theorem ti5 : TIis Tryd.prog 5 ⟨.int .u8, 1, 1, [(.int .u8 0)]⟩ where
  under := ⟨(.int .u8), by kernel_rfl, rfl⟩
  info := ⟨Tryd.t5, (.int .u8 0), by kernel_rfl, by kernel_rfl, by kernel_rfl, by kernel_rfl, by kernel_rfl, by kernel_rfl⟩
  zero1 := List.all_eq_true.1 (by kernel_rfl)
  fields := fun fs h => by rw [show Tryd.prog.underlying 5 = some (.int .u8) by kernel_rfl] at h; cases h
theorem ti9 : TIis Tryd.prog 9 ⟨.str, 1, 16, [(.string ByteArray.empty)]⟩ where
  under := ⟨.string, by kernel_rfl, rfl⟩
  info := ⟨Tryd.t9, (.string ByteArray.empty), by kernel_rfl, by kernel_rfl, by kernel_rfl, by kernel_rfl, by kernel_rfl, by kernel_rfl⟩
  zero1 := List.all_eq_true.1 (by kernel_rfl)
  fields := fun fs h => by rw [show Tryd.prog.underlying 9 = some .string by kernel_rfl] at h; cases h
theorem ti21 : TIis Tryd.prog 21 ⟨.int .i32, 1, 4, [(.int .i32 0)]⟩ where
  under := ⟨(.int .i32), by kernel_rfl, rfl⟩
  info := ⟨Tryd.t21, (.int .i32 0), by kernel_rfl, by kernel_rfl, by kernel_rfl, by kernel_rfl, by kernel_rfl, by kernel_rfl⟩
  zero1 := List.all_eq_true.1 (by kernel_rfl)
  fields := fun fs h => by rw [show Tryd.prog.underlying 21 = some (.int .i32) by kernel_rfl] at h; cases h
theorem ti22 : TIis Tryd.prog 22 ⟨.slice 5, 1, 24, [(.slice none 0 0)]⟩ where
  under := ⟨(.slice 5), by kernel_rfl, rfl⟩
  info := ⟨Tryd.t22, (.slice none 0 0), by kernel_rfl, by kernel_rfl, by kernel_rfl, by kernel_rfl, by kernel_rfl, by kernel_rfl⟩
  zero1 := List.all_eq_true.1 (by kernel_rfl)
  fields := fun fs h => by rw [show Tryd.prog.underlying 22 = some (.slice 5) by kernel_rfl] at h; cases h
theorem ti24 : TIis Tryd.prog 24 ⟨.arr 32 5, 32, 32, List.replicate 32 (.int .u8 0)⟩ where
  under := ⟨(.array 32 5), by kernel_rfl, rfl⟩
  info := ⟨Tryd.t24, (.agg (List.replicate 32 (.int .u8 0) : List Value).toArray), by kernel_rfl, by kernel_rfl, by kernel_rfl, by kernel_rfl, by kernel_rfl, by kernel_rfl⟩
  zero1 := List.all_eq_true.1 (by kernel_rfl)
  fields := fun fs h => by rw [show Tryd.prog.underlying 24 = some (.array 32 5) by kernel_rfl] at h; cases h
theorem ti25 : TIis Tryd.prog 25 ⟨.arr 32 5, 32, 32, List.replicate 32 (.int .u8 0)⟩ where
  under := ⟨(.array 32 5), by kernel_rfl, rfl⟩
  info := ⟨Tryd.t25, (.agg (List.replicate 32 (.int .u8 0) : List Value).toArray), by kernel_rfl, by kernel_rfl, by kernel_rfl, by kernel_rfl, by kernel_rfl, by kernel_rfl⟩
  zero1 := List.all_eq_true.1 (by kernel_rfl)
  fields := fun fs h => by rw [show Tryd.prog.underlying 25 = some (.array 32 5) by kernel_rfl] at h; cases h
theorem ti28 : TIis Tryd.prog 28 ⟨.int .u32, 1, 4, [(.int .u32 0)]⟩ where
  under := ⟨(.int .u32), by kernel_rfl, rfl⟩
  info := ⟨Tryd.t28, (.int .u32 0), by kernel_rfl, by kernel_rfl, by kernel_rfl, by kernel_rfl, by kernel_rfl, by kernel_rfl⟩
  zero1 := List.all_eq_true.1 (by kernel_rfl)
  fields := fun fs h => by rw [show Tryd.prog.underlying 28 = some (.int .u32) by kernel_rfl] at h; cases h
theorem ti29 : TIis Tryd.prog 29 ⟨.arr 8 28, 8, 32, List.replicate 8 (.int .u32 0)⟩ where
  under := ⟨(.array 8 28), by kernel_rfl, rfl⟩
  info := ⟨Tryd.t29, (.agg (List.replicate 8 (.int .u32 0) : List Value).toArray), by kernel_rfl, by kernel_rfl, by kernel_rfl, by kernel_rfl, by kernel_rfl, by kernel_rfl⟩
  zero1 := List.all_eq_true.1 (by kernel_rfl)
  fields := fun fs h => by rw [show Tryd.prog.underlying 29 = some (.array 8 28) by kernel_rfl] at h; cases h
theorem ti30 : TIis Tryd.prog 30 ⟨.arr 64 5, 64, 64, List.replicate 64 (.int .u8 0)⟩ where
  under := ⟨(.array 64 5), by kernel_rfl, rfl⟩
  info := ⟨Tryd.t30, (.agg (List.replicate 64 (.int .u8 0) : List Value).toArray), by kernel_rfl, by kernel_rfl, by kernel_rfl, by kernel_rfl, by kernel_rfl, by kernel_rfl⟩
  zero1 := List.all_eq_true.1 (by kernel_rfl)
  fields := fun fs h => by rw [show Tryd.prog.underlying 30 = some (.array 64 5) by kernel_rfl] at h; cases h
theorem ti38 : TIis Tryd.prog 38 ⟨.int .i64, 1, 8, [(.int .i64 0)]⟩ where
  under := ⟨(.int .i64), by kernel_rfl, rfl⟩
  info := ⟨Tryd.t38, (.int .i64 0), by kernel_rfl, by kernel_rfl, by kernel_rfl, by kernel_rfl, by kernel_rfl, by kernel_rfl⟩
  zero1 := List.all_eq_true.1 (by kernel_rfl)
  fields := fun fs h => by rw [show Tryd.prog.underlying 38 = some (.int .i64) by kernel_rfl] at h; cases h
theorem ti42 : TIis Tryd.prog 42 ⟨.slice 28, 1, 24, [(.slice none 0 0)]⟩ where
  under := ⟨(.slice 28), by kernel_rfl, rfl⟩
  info := ⟨Tryd.t42, (.slice none 0 0), by kernel_rfl, by kernel_rfl, by kernel_rfl, by kernel_rfl, by kernel_rfl, by kernel_rfl⟩
  zero1 := List.all_eq_true.1 (by kernel_rfl)
  fields := fun fs h => by rw [show Tryd.prog.underlying 42 = some (.slice 28) by kernel_rfl] at h; cases h
theorem ti43 : TIis Tryd.prog 43 ⟨.st [(0, 42), (1, 29)], 9, 56, [(.slice none 0 0)] ++ List.replicate 8 (.int .u32 0)⟩ where
  under := st_under (P := Tryd.prog) (t := 43) (by kernel_rfl)
  info := ⟨Tryd.t43, (.agg ([(.slice none 0 0)] ++ List.replicate 8 (.int .u32 0) : List Value).toArray), by kernel_rfl, by kernel_rfl, by kernel_rfl, by kernel_rfl, by kernel_rfl, by kernel_rfl⟩
  zero1 := List.all_eq_true.1 (by kernel_rfl)
  fields := ti_fields (P := Tryd.prog) (t := 43) (by kernel_rfl)
theorem ti44 : TIis Tryd.prog 44 ⟨.st [(0, 42), (1, 29)], 9, 56, [(.slice none 0 0)] ++ List.replicate 8 (.int .u32 0)⟩ where
  under := st_under (P := Tryd.prog) (t := 44) (by kernel_rfl)
  info := ⟨Tryd.t44, (.agg ([(.slice none 0 0)] ++ List.replicate 8 (.int .u32 0) : List Value).toArray), by kernel_rfl, by kernel_rfl, by kernel_rfl, by kernel_rfl, by kernel_rfl, by kernel_rfl⟩
  zero1 := List.all_eq_true.1 (by kernel_rfl)
  fields := ti_fields (P := Tryd.prog) (t := 44) (by kernel_rfl)
theorem ti46 : TIis Tryd.prog 46 ⟨.arr 64 28, 64, 256, List.replicate 64 (.int .u32 0)⟩ where
  under := ⟨(.array 64 28), by kernel_rfl, rfl⟩
  info := ⟨Tryd.t46, (.agg (List.replicate 64 (.int .u32 0) : List Value).toArray), by kernel_rfl, by kernel_rfl, by kernel_rfl, by kernel_rfl, by kernel_rfl, by kernel_rfl⟩
  zero1 := List.all_eq_true.1 (by kernel_rfl)
  fields := fun fs h => by rw [show Tryd.prog.underlying 46 = some (.array 64 28) by kernel_rfl] at h; cases h
theorem ti47 : TIis Tryd.prog 47 ⟨.int .u64, 1, 8, [(.int .u64 0)]⟩ where
  under := ⟨(.int .u64), by kernel_rfl, rfl⟩
  info := ⟨Tryd.t47, (.int .u64 0), by kernel_rfl, by kernel_rfl, by kernel_rfl, by kernel_rfl, by kernel_rfl, by kernel_rfl⟩
  zero1 := List.all_eq_true.1 (by kernel_rfl)
  fields := fun fs h => by rw [show Tryd.prog.underlying 47 = some (.int .u64) by kernel_rfl] at h; cases h
theorem ti51 : TIis Tryd.prog 51 ⟨.slice 54, 1, 24, [(.slice none 0 0)]⟩ where
  under := ⟨(.slice 54), by kernel_rfl, rfl⟩
  info := ⟨Tryd.t51, (.slice none 0 0), by kernel_rfl, by kernel_rfl, by kernel_rfl, by kernel_rfl, by kernel_rfl, by kernel_rfl⟩
  zero1 := List.all_eq_true.1 (by kernel_rfl)
  fields := fun fs h => by rw [show Tryd.prog.underlying 51 = some (.slice 54) by kernel_rfl] at h; cases h
theorem ti54 : TIis Tryd.prog 54 ⟨.int .u64, 1, 8, [(.int .u64 0)]⟩ where
  under := ⟨(.int .u64), by kernel_rfl, rfl⟩
  info := ⟨Tryd.t54, (.int .u64 0), by kernel_rfl, by kernel_rfl, by kernel_rfl, by kernel_rfl, by kernel_rfl, by kernel_rfl⟩
  zero1 := List.all_eq_true.1 (by kernel_rfl)
  fields := fun fs h => by rw [show Tryd.prog.underlying 54 = some (.int .u64) by kernel_rfl] at h; cases h
theorem ti59 : TIis Tryd.prog 59 ⟨.slice 22, 1, 24, [(.slice none 0 0)]⟩ where
  under := ⟨(.slice 22), by kernel_rfl, rfl⟩
  info := ⟨Tryd.t59, (.slice none 0 0), by kernel_rfl, by kernel_rfl, by kernel_rfl, by kernel_rfl, by kernel_rfl, by kernel_rfl⟩
  zero1 := List.all_eq_true.1 (by kernel_rfl)
  fields := fun fs h => by rw [show Tryd.prog.underlying 59 = some (.slice 22) by kernel_rfl] at h; cases h
theorem ti61 : TIis Tryd.prog 61 ⟨.arr 4 54, 4, 32, List.replicate 4 (.int .u64 0)⟩ where
  under := ⟨(.array 4 54), by kernel_rfl, rfl⟩
  info := ⟨Tryd.t61, (.agg (List.replicate 4 (.int .u64 0) : List Value).toArray), by kernel_rfl, by kernel_rfl, by kernel_rfl, by kernel_rfl, by kernel_rfl, by kernel_rfl⟩
  zero1 := List.all_eq_true.1 (by kernel_rfl)
  fields := fun fs h => by rw [show Tryd.prog.underlying 61 = some (.array 4 54) by kernel_rfl] at h; cases h
theorem ti62 : TIis Tryd.prog 62 ⟨.arr 12 54, 12, 96, List.replicate 12 (.int .u64 0)⟩ where
  under := ⟨(.array 12 54), by kernel_rfl, rfl⟩
  info := ⟨Tryd.t62, (.agg (List.replicate 12 (.int .u64 0) : List Value).toArray), by kernel_rfl, by kernel_rfl, by kernel_rfl, by kernel_rfl, by kernel_rfl, by kernel_rfl⟩
  zero1 := List.all_eq_true.1 (by kernel_rfl)
  fields := fun fs h => by rw [show Tryd.prog.underlying 62 = some (.array 12 54) by kernel_rfl] at h; cases h
theorem ti64 : TIis Tryd.prog 64 ⟨.arr 8 54, 8, 64, List.replicate 8 (.int .u64 0)⟩ where
  under := ⟨(.array 8 54), by kernel_rfl, rfl⟩
  info := ⟨Tryd.t64, (.agg (List.replicate 8 (.int .u64 0) : List Value).toArray), by kernel_rfl, by kernel_rfl, by kernel_rfl, by kernel_rfl, by kernel_rfl, by kernel_rfl⟩
  zero1 := List.all_eq_true.1 (by kernel_rfl)
  fields := fun fs h => by rw [show Tryd.prog.underlying 64 = some (.array 8 54) by kernel_rfl] at h; cases h

theorem te_ok : TeOK Tryd.prog te := by
  intro t ti h
  unfold te at h
  split at h
  · cases h; exact ti2
  · cases h; exact ti3
  · cases h; exact ti4
  · cases h; exact ti5
  · cases h; exact ti9
  · cases h; exact ti21
  · cases h; exact ti22
  · cases h; exact ti24
  · cases h; exact ti25
  · cases h; exact ti28
  · cases h; exact ti29
  · cases h; exact ti30
  · cases h; exact ti38
  · cases h; exact ti42
  · cases h; exact ti43
  · cases h; exact ti44
  · cases h; exact ti46
  · cases h; exact ti47
  · cases h; exact ti51
  · cases h; exact ti54
  · cases h; exact ti59
  · cases h; exact ti61
  · cases h; exact ti62
  · cases h; exact ti64
  · cases h

theorem mixed : Tryd.prog.follows .mixedOrders = true := by kernel_rfl
end Go.Proofs.YteooikdcafodfaaDoor
