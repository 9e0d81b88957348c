/- The types of this seat's program, as the machine sees them. -/
import Derived.Test.YtohemglpjjcohaaG7
import Derived.Test.YtohemglpjjcohaaProg
import Derived.KernelRfl
namespace Go.Proofs.Ytohemglpjjcohaa
set_option linter.unusedVariables false
open Go Go.Abs

def te : TypeId → Option TI
  | 2 => some ⟨.int .i64, 1, 8, [(.int .i64 0)]⟩
  | 3 => some ⟨.int .i64, 1, 8, [(.int .i64 0)]⟩
  | 4 => some ⟨.bool, 1, 1, [(.bool false)]⟩
  | 5 => some ⟨.int .u8, 1, 1, [(.int .u8 0)]⟩
  | 9 => some ⟨.str, 1, 16, [(.string ByteArray.empty)]⟩
  | 21 => some ⟨.int .i32, 1, 4, [(.int .i32 0)]⟩
  | 22 => some ⟨.slice 5, 1, 24, [(.slice none 0 0)]⟩
  | 24 => some ⟨.int .i64, 1, 8, [(.int .i64 0)]⟩
  | 36 => some ⟨.slice 3, 1, 24, [(.slice none 0 0)]⟩
  | 46 => some ⟨.int .u64, 1, 8, [(.int .u64 0)]⟩
  | 52 => some ⟨.int .u32, 1, 4, [(.int .u32 0)]⟩
  | 54 => some ⟨.int .u64, 1, 8, [(.int .u64 0)]⟩
  | 57 => some ⟨.st [(0, 17), (1, 17), (2, 17), (3, 9)], 4, 40, [(.pointer none), (.pointer none), (.pointer none)] ++ [(.string ByteArray.empty)]⟩
  | 58 => some ⟨.st [(0, 17), (1, 17), (2, 17), (3, 9)], 4, 40, [(.pointer none), (.pointer none), (.pointer none)] ++ [(.string ByteArray.empty)]⟩
  | 59 => some ⟨.arr 0 16, 0, 0, []⟩
  | 60 => some ⟨.st [(0, 59)], 0, 0, []⟩
  | 61 => some ⟨.st [(0, 59)], 0, 0, []⟩
  | 63 => some ⟨.int .u8, 1, 1, [(.int .u8 0)]⟩
  | 64 => some ⟨.int .u8, 1, 1, [(.int .u8 0)]⟩
  | 66 => some ⟨.ptr 5, 1, 8, [(.pointer none)]⟩
  | 67 => some ⟨.int .i32, 1, 4, [(.int .i32 0)]⟩
  | 68 => some ⟨.int .i32, 1, 4, [(.int .i32 0)]⟩
  | _ => none

theorem te2 : te 2 = some ⟨.int .i64, 1, 8, [(.int .i64 0)]⟩ := rfl
theorem kd2 : kd te 2 = .int .i64 := rfl
theorem te3 : te 3 = some ⟨.int .i64, 1, 8, [(.int .i64 0)]⟩ := rfl
theorem kd3 : kd te 3 = .int .i64 := rfl
theorem te4 : te 4 = some ⟨.bool, 1, 1, [(.bool false)]⟩ := rfl
theorem kd4 : kd te 4 = .bool := rfl
theorem te5 : te 5 = some ⟨.int .u8, 1, 1, [(.int .u8 0)]⟩ := rfl
theorem kd5 : kd te 5 = .int .u8 := rfl
theorem te9 : te 9 = some ⟨.str, 1, 16, [(.string ByteArray.empty)]⟩ := rfl
theorem kd9 : kd te 9 = .str := rfl
theorem te21 : te 21 = some ⟨.int .i32, 1, 4, [(.int .i32 0)]⟩ := rfl
theorem kd21 : kd te 21 = .int .i32 := rfl
theorem te22 : te 22 = some ⟨.slice 5, 1, 24, [(.slice none 0 0)]⟩ := rfl
theorem kd22 : kd te 22 = .slice 5 := rfl
theorem te24 : te 24 = some ⟨.int .i64, 1, 8, [(.int .i64 0)]⟩ := rfl
theorem kd24 : kd te 24 = .int .i64 := rfl
theorem te36 : te 36 = some ⟨.slice 3, 1, 24, [(.slice none 0 0)]⟩ := rfl
theorem kd36 : kd te 36 = .slice 3 := rfl
theorem te46 : te 46 = some ⟨.int .u64, 1, 8, [(.int .u64 0)]⟩ := rfl
theorem kd46 : kd te 46 = .int .u64 := rfl
theorem te52 : te 52 = some ⟨.int .u32, 1, 4, [(.int .u32 0)]⟩ := rfl
theorem kd52 : kd te 52 = .int .u32 := rfl
theorem te54 : te 54 = some ⟨.int .u64, 1, 8, [(.int .u64 0)]⟩ := rfl
theorem kd54 : kd te 54 = .int .u64 := rfl
theorem te57 : te 57 = some ⟨.st [(0, 17), (1, 17), (2, 17), (3, 9)], 4, 40, [(.pointer none), (.pointer none), (.pointer none)] ++ [(.string ByteArray.empty)]⟩ := rfl
theorem kd57 : kd te 57 = .st [(0, 17), (1, 17), (2, 17), (3, 9)] := rfl
theorem te58 : te 58 = some ⟨.st [(0, 17), (1, 17), (2, 17), (3, 9)], 4, 40, [(.pointer none), (.pointer none), (.pointer none)] ++ [(.string ByteArray.empty)]⟩ := rfl
theorem kd58 : kd te 58 = .st [(0, 17), (1, 17), (2, 17), (3, 9)] := rfl
theorem te59 : te 59 = some ⟨.arr 0 16, 0, 0, []⟩ := rfl
theorem kd59 : kd te 59 = .arr 0 16 := rfl
theorem te60 : te 60 = some ⟨.st [(0, 59)], 0, 0, []⟩ := rfl
theorem kd60 : kd te 60 = .st [(0, 59)] := rfl
theorem te61 : te 61 = some ⟨.st [(0, 59)], 0, 0, []⟩ := rfl
theorem kd61 : kd te 61 = .st [(0, 59)] := rfl
theorem te63 : te 63 = some ⟨.int .u8, 1, 1, [(.int .u8 0)]⟩ := rfl
theorem kd63 : kd te 63 = .int .u8 := rfl
theorem te64 : te 64 = some ⟨.int .u8, 1, 1, [(.int .u8 0)]⟩ := rfl
theorem kd64 : kd te 64 = .int .u8 := rfl
theorem te66 : te 66 = some ⟨.ptr 5, 1, 8, [(.pointer none)]⟩ := rfl
theorem kd66 : kd te 66 = .ptr 5 := rfl
theorem te67 : te 67 = some ⟨.int .i32, 1, 4, [(.int .i32 0)]⟩ := rfl
theorem kd67 : kd te 67 = .int .i32 := rfl
theorem te68 : te 68 = some ⟨.int .i32, 1, 4, [(.int .i32 0)]⟩ := rfl
theorem kd68 : kd te 68 = .int .i32 := rfl

theorem ti2 : TIis Try.prog 2 ⟨.int .i64, 1, 8, [(.int .i64 0)]⟩ where
  under := ⟨(.int .i64), by kernel_rfl, rfl⟩
  info := ⟨Try.t2, (.int .i64 0), by kernel_rfl, by kernel_rfl, by kernel_rfl, by kernel_rfl, by kernel_rfl, by kernel_rfl⟩
  zero1 := List.all_eq_true.1 (by kernel_rfl)
  fields := fun fs h => by rw [show Try.prog.underlying 2 = some (.int .i64) by kernel_rfl] at h; cases h
theorem ti3 : TIis Try.prog 3 ⟨.int .i64, 1, 8, [(.int .i64 0)]⟩ where
  under := ⟨(.int .i64), by kernel_rfl, rfl⟩
  info := ⟨Try.t3, (.int .i64 0), by kernel_rfl, by kernel_rfl, by kernel_rfl, by kernel_rfl, by kernel_rfl, by kernel_rfl⟩
  zero1 := List.all_eq_true.1 (by kernel_rfl)
  fields := fun fs h => by rw [show Try.prog.underlying 3 = some (.int .i64) by kernel_rfl] at h; cases h
theorem ti4 : TIis Try.prog 4 ⟨.bool, 1, 1, [(.bool false)]⟩ where
  under := ⟨.bool, by kernel_rfl, rfl⟩
  info := ⟨Try.t4, (.bool false), by kernel_rfl, by kernel_rfl, by kernel_rfl, by kernel_rfl, by kernel_rfl, by kernel_rfl⟩
  zero1 := List.all_eq_true.1 (by kernel_rfl)
  fields := fun fs h => by rw [show Try.prog.underlying 4 = some .bool by kernel_rfl] at h; cases h
theorem ti5 : TIis Try.prog 5 ⟨.int .u8, 1, 1, [(.int .u8 0)]⟩ where
  under := ⟨(.int .u8), by kernel_rfl, rfl⟩
  info := ⟨Try.t5, (.int .u8 0), by kernel_rfl, by kernel_rfl, by kernel_rfl, by kernel_rfl, by kernel_rfl, by kernel_rfl⟩
  zero1 := List.all_eq_true.1 (by kernel_rfl)
  fields := fun fs h => by rw [show Try.prog.underlying 5 = some (.int .u8) by kernel_rfl] at h; cases h
theorem ti9 : TIis Try.prog 9 ⟨.str, 1, 16, [(.string ByteArray.empty)]⟩ where
  under := ⟨.string, by kernel_rfl, rfl⟩
  info := ⟨Try.t9, (.string ByteArray.empty), by kernel_rfl, by kernel_rfl, by kernel_rfl, by kernel_rfl, by kernel_rfl, by kernel_rfl⟩
  zero1 := List.all_eq_true.1 (by kernel_rfl)
  fields := fun fs h => by rw [show Try.prog.underlying 9 = some .string by kernel_rfl] at h; cases h
theorem ti21 : TIis Try.prog 21 ⟨.int .i32, 1, 4, [(.int .i32 0)]⟩ where
  under := ⟨(.int .i32), by kernel_rfl, rfl⟩
  info := ⟨Try.t21, (.int .i32 0), by kernel_rfl, by kernel_rfl, by kernel_rfl, by kernel_rfl, by kernel_rfl, by kernel_rfl⟩
  zero1 := List.all_eq_true.1 (by kernel_rfl)
  fields := fun fs h => by rw [show Try.prog.underlying 21 = some (.int .i32) by kernel_rfl] at h; cases h
theorem ti22 : TIis Try.prog 22 ⟨.slice 5, 1, 24, [(.slice none 0 0)]⟩ where
  under := ⟨(.slice 5), by kernel_rfl, rfl⟩
  info := ⟨Try.t22, (.slice none 0 0), by kernel_rfl, by kernel_rfl, by kernel_rfl, by kernel_rfl, by kernel_rfl, by kernel_rfl⟩
  zero1 := List.all_eq_true.1 (by kernel_rfl)
  fields := fun fs h => by rw [show Try.prog.underlying 22 = some (.slice 5) by kernel_rfl] at h; cases h
theorem ti24 : TIis Try.prog 24 ⟨.int .i64, 1, 8, [(.int .i64 0)]⟩ where
  under := ⟨(.int .i64), by kernel_rfl, rfl⟩
  info := ⟨Try.t24, (.int .i64 0), by kernel_rfl, by kernel_rfl, by kernel_rfl, by kernel_rfl, by kernel_rfl, by kernel_rfl⟩
  zero1 := List.all_eq_true.1 (by kernel_rfl)
  fields := fun fs h => by rw [show Try.prog.underlying 24 = some (.int .i64) by kernel_rfl] at h; cases h
theorem ti36 : TIis Try.prog 36 ⟨.slice 3, 1, 24, [(.slice none 0 0)]⟩ where
  under := ⟨(.slice 3), by kernel_rfl, rfl⟩
  info := ⟨Try.t36, (.slice none 0 0), by kernel_rfl, by kernel_rfl, by kernel_rfl, by kernel_rfl, by kernel_rfl, by kernel_rfl⟩
  zero1 := List.all_eq_true.1 (by kernel_rfl)
  fields := fun fs h => by rw [show Try.prog.underlying 36 = some (.slice 3) by kernel_rfl] at h; cases h
theorem ti46 : TIis Try.prog 46 ⟨.int .u64, 1, 8, [(.int .u64 0)]⟩ where
  under := ⟨(.int .u64), by kernel_rfl, rfl⟩
  info := ⟨Try.t46, (.int .u64 0), by kernel_rfl, by kernel_rfl, by kernel_rfl, by kernel_rfl, by kernel_rfl, by kernel_rfl⟩
  zero1 := List.all_eq_true.1 (by kernel_rfl)
  fields := fun fs h => by rw [show Try.prog.underlying 46 = some (.int .u64) by kernel_rfl] at h; cases h
theorem ti52 : TIis Try.prog 52 ⟨.int .u32, 1, 4, [(.int .u32 0)]⟩ where
  under := ⟨(.int .u32), by kernel_rfl, rfl⟩
  info := ⟨Try.t52, (.int .u32 0), by kernel_rfl, by kernel_rfl, by kernel_rfl, by kernel_rfl, by kernel_rfl, by kernel_rfl⟩
  zero1 := List.all_eq_true.1 (by kernel_rfl)
  fields := fun fs h => by rw [show Try.prog.underlying 52 = some (.int .u32) by kernel_rfl] at h; cases h
theorem ti54 : TIis Try.prog 54 ⟨.int .u64, 1, 8, [(.int .u64 0)]⟩ where
  under := ⟨(.int .u64), by kernel_rfl, rfl⟩
  info := ⟨Try.t54, (.int .u64 0), by kernel_rfl, by kernel_rfl, by kernel_rfl, by kernel_rfl, by kernel_rfl, by kernel_rfl⟩
  zero1 := List.all_eq_true.1 (by kernel_rfl)
  fields := fun fs h => by rw [show Try.prog.underlying 54 = some (.int .u64) by kernel_rfl] at h; cases h
theorem ti57 : TIis Try.prog 57 ⟨.st [(0, 17), (1, 17), (2, 17), (3, 9)], 4, 40, [(.pointer none), (.pointer none), (.pointer none)] ++ [(.string ByteArray.empty)]⟩ where
  under := st_under (P := Try.prog) (t := 57) (by kernel_rfl)
  info := ⟨Try.t57, (.agg ([(.pointer none), (.pointer none), (.pointer none)] ++ [(.string ByteArray.empty)] : List Value).toArray), by kernel_rfl, by kernel_rfl, by kernel_rfl, by kernel_rfl, by kernel_rfl, by kernel_rfl⟩
  zero1 := List.all_eq_true.1 (by kernel_rfl)
  fields := ti_fields (P := Try.prog) (t := 57) (by kernel_rfl)
theorem ti58 : TIis Try.prog 58 ⟨.st [(0, 17), (1, 17), (2, 17), (3, 9)], 4, 40, [(.pointer none), (.pointer none), (.pointer none)] ++ [(.string ByteArray.empty)]⟩ where
  under := st_under (P := Try.prog) (t := 58) (by kernel_rfl)
  info := ⟨Try.t58, (.agg ([(.pointer none), (.pointer none), (.pointer none)] ++ [(.string ByteArray.empty)] : List Value).toArray), by kernel_rfl, by kernel_rfl, by kernel_rfl, by kernel_rfl, by kernel_rfl, by kernel_rfl⟩
  zero1 := List.all_eq_true.1 (by kernel_rfl)
  fields := ti_fields (P := Try.prog) (t := 58) (by kernel_rfl)
theorem ti59 : TIis Try.prog 59 ⟨.arr 0 16, 0, 0, []⟩ where
  under := ⟨(.array 0 16), by kernel_rfl, rfl⟩
  info := ⟨Try.t59, (.agg ([] : List Value).toArray), by kernel_rfl, by kernel_rfl, by kernel_rfl, by kernel_rfl, by kernel_rfl, by kernel_rfl⟩
  zero1 := List.all_eq_true.1 (by kernel_rfl)
  fields := fun fs h => by rw [show Try.prog.underlying 59 = some (.array 0 16) by kernel_rfl] at h; cases h
theorem ti60 : TIis Try.prog 60 ⟨.st [(0, 59)], 0, 0, []⟩ where
  under := st_under (P := Try.prog) (t := 60) (by kernel_rfl)
  info := ⟨Try.t60, (.agg ([] : List Value).toArray), by kernel_rfl, by kernel_rfl, by kernel_rfl, by kernel_rfl, by kernel_rfl, by kernel_rfl⟩
  zero1 := List.all_eq_true.1 (by kernel_rfl)
  fields := ti_fields (P := Try.prog) (t := 60) (by kernel_rfl)
theorem ti61 : TIis Try.prog 61 ⟨.st [(0, 59)], 0, 0, []⟩ where
  under := st_under (P := Try.prog) (t := 61) (by kernel_rfl)
  info := ⟨Try.t61, (.agg ([] : List Value).toArray), by kernel_rfl, by kernel_rfl, by kernel_rfl, by kernel_rfl, by kernel_rfl, by kernel_rfl⟩
  zero1 := List.all_eq_true.1 (by kernel_rfl)
  fields := ti_fields (P := Try.prog) (t := 61) (by kernel_rfl)
theorem ti63 : TIis Try.prog 63 ⟨.int .u8, 1, 1, [(.int .u8 0)]⟩ where
  under := ⟨(.int .u8), by kernel_rfl, rfl⟩
  info := ⟨Try.t63, (.int .u8 0), by kernel_rfl, by kernel_rfl, by kernel_rfl, by kernel_rfl, by kernel_rfl, by kernel_rfl⟩
  zero1 := List.all_eq_true.1 (by kernel_rfl)
  fields := fun fs h => by rw [show Try.prog.underlying 63 = some (.int .u8) by kernel_rfl] at h; cases h
theorem ti64 : TIis Try.prog 64 ⟨.int .u8, 1, 1, [(.int .u8 0)]⟩ where
  under := ⟨(.int .u8), by kernel_rfl, rfl⟩
  info := ⟨Try.t64, (.int .u8 0), by kernel_rfl, by kernel_rfl, by kernel_rfl, by kernel_rfl, by kernel_rfl, by kernel_rfl⟩
  zero1 := List.all_eq_true.1 (by kernel_rfl)
  fields := fun fs h => by rw [show Try.prog.underlying 64 = some (.int .u8) by kernel_rfl] at h; cases h
theorem ti66 : TIis Try.prog 66 ⟨.ptr 5, 1, 8, [(.pointer none)]⟩ where
  under := ⟨(.pointer 5), by kernel_rfl, rfl⟩
  info := ⟨Try.t66, (.pointer none), by kernel_rfl, by kernel_rfl, by kernel_rfl, by kernel_rfl, by kernel_rfl, by kernel_rfl⟩
  zero1 := List.all_eq_true.1 (by kernel_rfl)
  fields := fun fs h => by rw [show Try.prog.underlying 66 = some (.pointer 5) by kernel_rfl] at h; cases h
theorem ti67 : TIis Try.prog 67 ⟨.int .i32, 1, 4, [(.int .i32 0)]⟩ where
  under := ⟨(.int .i32), by kernel_rfl, rfl⟩
  info := ⟨Try.t67, (.int .i32 0), by kernel_rfl, by kernel_rfl, by kernel_rfl, by kernel_rfl, by kernel_rfl, by kernel_rfl⟩
  zero1 := List.all_eq_true.1 (by kernel_rfl)
  fields := fun fs h => by rw [show Try.prog.underlying 67 = some (.int .i32) by kernel_rfl] at h; cases h
theorem ti68 : TIis Try.prog 68 ⟨.int .i32, 1, 4, [(.int .i32 0)]⟩ where
  under := ⟨(.int .i32), by kernel_rfl, rfl⟩
  info := ⟨Try.t68, (.int .i32 0), by kernel_rfl, by kernel_rfl, by kernel_rfl, by kernel_rfl, by kernel_rfl, by kernel_rfl⟩
  zero1 := List.all_eq_true.1 (by kernel_rfl)
  fields := fun fs h => by rw [show Try.prog.underlying 68 = some (.int .i32) by kernel_rfl] at h; cases h

theorem te_ok : TeOK Try.prog te := by
  intro t ti h
  unfold te at h
  split at h
  · cases h; exact ti2
  · cases h; exact ti3
  · cases h; exact ti4
  · cases h; exact ti5
  · cases h; exact ti9
  · cases h; exact ti21
  · cases h; exact ti22
  · cases h; exact ti24
  · cases h; exact ti36
  · cases h; exact ti46
  · cases h; exact ti52
  · cases h; exact ti54
  · cases h; exact ti57
  · cases h; exact ti58
  · cases h; exact ti59
  · cases h; exact ti60
  · cases h; exact ti61
  · cases h; exact ti63
  · cases h; exact ti64
  · cases h; exact ti66
  · cases h; exact ti67
  · cases h; exact ti68
  · cases h

theorem mixed : Try.prog.follows .mixedOrders = true := by kernel_rfl
end Go.Proofs.Ytohemglpjjcohaa
