/- The types of this seat's program,as the machine sees them. -/
import Derived.Test.YtddeffdgldjdjaaDoorM2
import Derived.Test.YtddeffdgldjdjaaDoorProg
import Derived.KernelRfl
namespace Go.Proofs.YtddeffdgldjdjaaDoor
set_option linter.unusedVariables false
set_option linter.defProp false
open Go Go.Abs
def te : TypeId → Option TI
  | 2=>some ⟨.int .i64,1,8,[(.int .i64 0)]⟩
  | 3=>some ⟨.int .i64,1,8,[(.int .i64 0)]⟩
  | 4=>some ⟨.bool,1,1,[(.bool false)]⟩
  | 5=>some ⟨.int .u8,1,1,[(.int .u8 0)]⟩
  | 9=>some ⟨.str,1,16,[(.string ByteArray.empty)]⟩
  | 21=>some ⟨.int .i32,1,4,[(.int .i32 0)]⟩
  | 22=>some ⟨.arr 32 5,32,32,List.replicate 32 (.int .u8 0)⟩
  | 23=>some ⟨.arr 32 5,32,32,List.replicate 32 (.int .u8 0)⟩
  | 24=>some ⟨.slice 5,1,24,[(.slice none 0 0)]⟩
  | 25=>some ⟨.st [(0,3),(1,3),(2,24)],3,40,[(.int .i64 0),(.int .i64 0)] ++ [(.slice none 0 0)]⟩
  | 26=>some ⟨.st [(0,3),(1,3),(2,24)],3,40,[(.int .i64 0),(.int .i64 0)] ++ [(.slice none 0 0)]⟩
  | 28=>some ⟨.ptr 101,1,8,[(.pointer none)]⟩
  | 31=>some ⟨.int .i64,1,8,[(.int .i64 0)]⟩
  | 41=>some ⟨.slice 26,1,24,[(.slice none 0 0)]⟩
  | 43=>some ⟨.ptr 107,1,8,[(.pointer none)]⟩
  | 48=>some ⟨.arr 32 5,32,32,List.replicate 32 (.int .u8 0)⟩
  | 49=>some ⟨.st [(0,3),(1,3),(2,3)],3,24,[(.int .i64 0),(.int .i64 0),(.int .i64 0)]⟩
  | 50=>some ⟨.st [(0,3),(1,3),(2,3)],3,24,[(.int .i64 0),(.int .i64 0),(.int .i64 0)]⟩
  | 53=>some ⟨.arr 12 5,12,12,List.replicate 12 (.int .u8 0)⟩
  | 54=>some ⟨.arr 12 5,12,12,List.replicate 12 (.int .u8 0)⟩
  | 62=>some ⟨.st [(0,3),(1,3)],2,16,[(.int .i64 0),(.int .i64 0)]⟩
  | 63=>some ⟨.st [(0,3),(1,3)],2,16,[(.int .i64 0),(.int .i64 0)]⟩
  | 64=>some ⟨.slice 3,1,24,[(.slice none 0 0)]⟩
  | 65=>some ⟨.st [(0,3),(1,3),(2,24),(3,64)],4,64,[(.int .i64 0),(.int .i64 0)] ++ [(.slice none 0 0),(.slice none 0 0)]⟩
  | 66=>some ⟨.st [(0,3),(1,3),(2,24),(3,64)],4,64,[(.int .i64 0),(.int .i64 0)] ++ [(.slice none 0 0),(.slice none 0 0)]⟩
  | 67=>some ⟨.st [(0,3),(1,3),(2,3),(3,3),(4,63),(6,66)],10,112,List.replicate 8 (.int .i64 0) ++ [(.slice none 0 0),(.slice none 0 0)]⟩
  | 68=>some ⟨.st [(0,3),(1,3),(2,3),(3,3),(4,63),(6,66)],10,112,List.replicate 8 (.int .i64 0) ++ [(.slice none 0 0),(.slice none 0 0)]⟩
  | 71=>some ⟨.slice 72,1,24,[(.slice none 0 0)]⟩
  | 72=>some ⟨.int .u32,1,4,[(.int .u32 0)]⟩
  | 73=>some ⟨.arr 8 72,8,32,List.replicate 8 (.int .u32 0)⟩
  | 74=>some ⟨.st [(0,71),(1,73)],9,56,[(.slice none 0 0)] ++ List.replicate 8 (.int .u32 0)⟩
  | 75=>some ⟨.st [(0,71),(1,73)],9,56,[(.slice none 0 0)] ++ List.replicate 8 (.int .u32 0)⟩
  | 79=>some ⟨.slice 68,1,24,[(.slice none 0 0)]⟩
  | 85=>some ⟨.slice 66,1,24,[(.slice none 0 0)]⟩
  | 86=>some ⟨.st [(0,63),(2,3),(3,3),(4,3),(5,85)],6,64,List.replicate 5 (.int .i64 0) ++ [(.slice none 0 0)]⟩
  | 87=>some ⟨.st [(0,63),(2,3),(3,3),(4,3),(5,85)],6,64,List.replicate 5 (.int .i64 0) ++ [(.slice none 0 0)]⟩
  | 90=>some ⟨.st [(0,63),(2,3),(3,3),(4,3),(5,85)],6,64,List.replicate 5 (.int .i64 0) ++ [(.slice none 0 0)]⟩
  | 95=>some ⟨.arr 2 3,2,16,[(.int .i64 0),(.int .i64 0)]⟩
  | 100=>some ⟨.st [(0,23),(32,23),(64,3)],65,72,List.replicate 64 (.int .u8 0) ++ [(.int .i64 0)]⟩
  | 101=>some ⟨.st [(0,23),(32,23),(64,3)],65,72,List.replicate 64 (.int .u8 0) ++ [(.int .i64 0)]⟩
  | 104=>some ⟨.arr 64 5,64,64,List.replicate 64 (.int .u8 0)⟩
  | 106=>some ⟨.st [(0,75),(9,23),(41,23),(73,3)],74,128,[(.slice none 0 0)] ++ List.replicate 8 (.int .u32 0) ++ List.replicate 64 (.int .u8 0) ++ [(.int .i64 0)]⟩
  | 107=>some ⟨.st [(0,75),(9,23),(41,23),(73,3)],74,128,[(.slice none 0 0)] ++ List.replicate 8 (.int .u32 0) ++ List.replicate 64 (.int .u8 0) ++ [(.int .i64 0)]⟩
  | 113=>some ⟨.arr 16 5,16,16,List.replicate 16 (.int .u8 0)⟩
  | 114=>some ⟨.arr 16 5,16,16,List.replicate 16 (.int .u8 0)⟩
  | 134=>some ⟨.slice 24,1,24,[(.slice none 0 0)]⟩
  | 138=>some ⟨.arr 15 114,240,240,List.replicate 240 (.int .u8 0)⟩
  | 139=>some ⟨.arr 15 114,240,240,List.replicate 240 (.int .u8 0)⟩
  | 146=>some ⟨.slice 149,1,24,[(.slice none 0 0)]⟩
  | 149=>some ⟨.int .u64,1,8,[(.int .u64 0)]⟩
  | 152=>some ⟨.int .u64,1,8,[(.int .u64 0)]⟩
  | 156=>some ⟨.st [],0,0,[]⟩
  | 157=>some ⟨.ptr 159,1,8,[(.pointer none)]⟩
  | 158=>some ⟨.st [(0,24)],1,24,[(.slice none 0 0)]⟩
  | 159=>some ⟨.st [(0,24)],1,24,[(.slice none 0 0)]⟩
  | 165=>some ⟨.ptr 87,1,8,[(.pointer none)]⟩
  | 166=>some ⟨.arr 64 72,64,256,List.replicate 64 (.int .u32 0)⟩
  | 168=>some ⟨.arr 256 5,256,256,List.replicate 256 (.int .u8 0)⟩
  | 172=>some ⟨.arr 4 5,4,4,List.replicate 4 (.int .u8 0)⟩
  | 173=>some ⟨.arr 4 5,4,4,List.replicate 4 (.int .u8 0)⟩
  | 174=>some ⟨.arr 60 173,240,240,List.replicate 240 (.int .u8 0)⟩
  | 177=>some ⟨.ptr 139,1,8,[(.pointer none)]⟩
  | 193=>some ⟨.arr 4 149,4,32,List.replicate 4 (.int .u64 0)⟩
  | 194=>some ⟨.arr 12 149,12,96,List.replicate 12 (.int .u64 0)⟩
  | 196=>some ⟨.arr 8 149,8,64,List.replicate 8 (.int .u64 0)⟩
  | 197=>some ⟨.ptr 199,1,8,[(.pointer none)]⟩
  | 198=>some ⟨.st [(0,24),(1,31)],2,32,[(.slice none 0 0)] ++ [(.int .i64 0)]⟩
  | 199=>some ⟨.st [(0,24),(1,31)],2,32,[(.slice none 0 0)] ++ [(.int .i64 0)]⟩
  | _=>none
theorem te2 : te 2 = some ⟨.int .i64,1,8,[(.int .i64 0)]⟩:=rfl
theorem te3 : te 3 = some ⟨.int .i64,1,8,[(.int .i64 0)]⟩:=rfl
theorem te4 : te 4 = some ⟨.bool,1,1,[(.bool false)]⟩:=rfl
theorem te5 : te 5 = some ⟨.int .u8,1,1,[(.int .u8 0)]⟩:=rfl
theorem te9 : te 9 = some ⟨.str,1,16,[(.string ByteArray.empty)]⟩:=rfl
theorem te21 : te 21 = some ⟨.int .i32,1,4,[(.int .i32 0)]⟩:=rfl
theorem te22 : te 22 = some ⟨.arr 32 5,32,32,List.replicate 32 (.int .u8 0)⟩:=rfl
theorem te23 : te 23 = some ⟨.arr 32 5,32,32,List.replicate 32 (.int .u8 0)⟩:=rfl
theorem te24 : te 24 = some ⟨.slice 5,1,24,[(.slice none 0 0)]⟩:=rfl
theorem te25 : te 25 = some ⟨.st [(0,3),(1,3),(2,24)],3,40,[(.int .i64 0),(.int .i64 0)] ++ [(.slice none 0 0)]⟩:=rfl
theorem te26 : te 26 = some ⟨.st [(0,3),(1,3),(2,24)],3,40,[(.int .i64 0),(.int .i64 0)] ++ [(.slice none 0 0)]⟩:=rfl
theorem te28 : te 28 = some ⟨.ptr 101,1,8,[(.pointer none)]⟩:=rfl
theorem te31 : te 31 = some ⟨.int .i64,1,8,[(.int .i64 0)]⟩:=rfl
theorem te41 : te 41 = some ⟨.slice 26,1,24,[(.slice none 0 0)]⟩:=rfl
theorem te43 : te 43 = some ⟨.ptr 107,1,8,[(.pointer none)]⟩:=rfl
theorem te48 : te 48 = some ⟨.arr 32 5,32,32,List.replicate 32 (.int .u8 0)⟩:=rfl
theorem te49 : te 49 = some ⟨.st [(0,3),(1,3),(2,3)],3,24,[(.int .i64 0),(.int .i64 0),(.int .i64 0)]⟩:=rfl
theorem te50 : te 50 = some ⟨.st [(0,3),(1,3),(2,3)],3,24,[(.int .i64 0),(.int .i64 0),(.int .i64 0)]⟩:=rfl
theorem te53 : te 53 = some ⟨.arr 12 5,12,12,List.replicate 12 (.int .u8 0)⟩:=rfl
theorem te54 : te 54 = some ⟨.arr 12 5,12,12,List.replicate 12 (.int .u8 0)⟩:=rfl
theorem te62 : te 62 = some ⟨.st [(0,3),(1,3)],2,16,[(.int .i64 0),(.int .i64 0)]⟩:=rfl
theorem te63 : te 63 = some ⟨.st [(0,3),(1,3)],2,16,[(.int .i64 0),(.int .i64 0)]⟩:=rfl
theorem te64 : te 64 = some ⟨.slice 3,1,24,[(.slice none 0 0)]⟩:=rfl
theorem te65 : te 65 = some ⟨.st [(0,3),(1,3),(2,24),(3,64)],4,64,[(.int .i64 0),(.int .i64 0)] ++ [(.slice none 0 0),(.slice none 0 0)]⟩:=rfl
theorem te66 : te 66 = some ⟨.st [(0,3),(1,3),(2,24),(3,64)],4,64,[(.int .i64 0),(.int .i64 0)] ++ [(.slice none 0 0),(.slice none 0 0)]⟩:=rfl
theorem te67 : te 67 = some ⟨.st [(0,3),(1,3),(2,3),(3,3),(4,63),(6,66)],10,112,List.replicate 8 (.int .i64 0) ++ [(.slice none 0 0),(.slice none 0 0)]⟩:=rfl
theorem te68 : te 68 = some ⟨.st [(0,3),(1,3),(2,3),(3,3),(4,63),(6,66)],10,112,List.replicate 8 (.int .i64 0) ++ [(.slice none 0 0),(.slice none 0 0)]⟩:=rfl
theorem te71 : te 71 = some ⟨.slice 72,1,24,[(.slice none 0 0)]⟩:=rfl
theorem te72 : te 72 = some ⟨.int .u32,1,4,[(.int .u32 0)]⟩:=rfl
theorem te73 : te 73 = some ⟨.arr 8 72,8,32,List.replicate 8 (.int .u32 0)⟩:=rfl
theorem te74 : te 74 = some ⟨.st [(0,71),(1,73)],9,56,[(.slice none 0 0)] ++ List.replicate 8 (.int .u32 0)⟩:=rfl
theorem te75 : te 75 = some ⟨.st [(0,71),(1,73)],9,56,[(.slice none 0 0)] ++ List.replicate 8 (.int .u32 0)⟩:=rfl
theorem te79 : te 79 = some ⟨.slice 68,1,24,[(.slice none 0 0)]⟩:=rfl
theorem te85 : te 85 = some ⟨.slice 66,1,24,[(.slice none 0 0)]⟩:=rfl
theorem te86 : te 86 = some ⟨.st [(0,63),(2,3),(3,3),(4,3),(5,85)],6,64,List.replicate 5 (.int .i64 0) ++ [(.slice none 0 0)]⟩:=rfl
theorem te87 : te 87 = some ⟨.st [(0,63),(2,3),(3,3),(4,3),(5,85)],6,64,List.replicate 5 (.int .i64 0) ++ [(.slice none 0 0)]⟩:=rfl
theorem te90 : te 90 = some ⟨.st [(0,63),(2,3),(3,3),(4,3),(5,85)],6,64,List.replicate 5 (.int .i64 0) ++ [(.slice none 0 0)]⟩:=rfl
theorem te95 : te 95 = some ⟨.arr 2 3,2,16,[(.int .i64 0),(.int .i64 0)]⟩:=rfl
theorem te100 : te 100 = some ⟨.st [(0,23),(32,23),(64,3)],65,72,List.replicate 64 (.int .u8 0) ++ [(.int .i64 0)]⟩:=rfl
theorem te101 : te 101 = some ⟨.st [(0,23),(32,23),(64,3)],65,72,List.replicate 64 (.int .u8 0) ++ [(.int .i64 0)]⟩:=rfl
theorem te104 : te 104 = some ⟨.arr 64 5,64,64,List.replicate 64 (.int .u8 0)⟩:=rfl
theorem te106 : te 106 = some ⟨.st [(0,75),(9,23),(41,23),(73,3)],74,128,[(.slice none 0 0)] ++ List.replicate 8 (.int .u32 0) ++ List.replicate 64 (.int .u8 0) ++ [(.int .i64 0)]⟩:=rfl
theorem te107 : te 107 = some ⟨.st [(0,75),(9,23),(41,23),(73,3)],74,128,[(.slice none 0 0)] ++ List.replicate 8 (.int .u32 0) ++ List.replicate 64 (.int .u8 0) ++ [(.int .i64 0)]⟩:=rfl
theorem te113 : te 113 = some ⟨.arr 16 5,16,16,List.replicate 16 (.int .u8 0)⟩:=rfl
theorem te114 : te 114 = some ⟨.arr 16 5,16,16,List.replicate 16 (.int .u8 0)⟩:=rfl
theorem te134 : te 134 = some ⟨.slice 24,1,24,[(.slice none 0 0)]⟩:=rfl
theorem te138 : te 138 = some ⟨.arr 15 114,240,240,List.replicate 240 (.int .u8 0)⟩:=rfl
theorem te139 : te 139 = some ⟨.arr 15 114,240,240,List.replicate 240 (.int .u8 0)⟩:=rfl
theorem te146 : te 146 = some ⟨.slice 149,1,24,[(.slice none 0 0)]⟩:=rfl
theorem te149 : te 149 = some ⟨.int .u64,1,8,[(.int .u64 0)]⟩:=rfl
theorem te152 : te 152 = some ⟨.int .u64,1,8,[(.int .u64 0)]⟩:=rfl
theorem te156 : te 156 = some ⟨.st [],0,0,[]⟩:=rfl
theorem te157 : te 157 = some ⟨.ptr 159,1,8,[(.pointer none)]⟩:=rfl
theorem te158 : te 158 = some ⟨.st [(0,24)],1,24,[(.slice none 0 0)]⟩:=rfl
theorem te159 : te 159 = some ⟨.st [(0,24)],1,24,[(.slice none 0 0)]⟩:=rfl
theorem te165 : te 165 = some ⟨.ptr 87,1,8,[(.pointer none)]⟩:=rfl
theorem te166 : te 166 = some ⟨.arr 64 72,64,256,List.replicate 64 (.int .u32 0)⟩:=rfl
theorem te168 : te 168 = some ⟨.arr 256 5,256,256,List.replicate 256 (.int .u8 0)⟩:=rfl
theorem te172 : te 172 = some ⟨.arr 4 5,4,4,List.replicate 4 (.int .u8 0)⟩:=rfl
theorem te173 : te 173 = some ⟨.arr 4 5,4,4,List.replicate 4 (.int .u8 0)⟩:=rfl
theorem te174 : te 174 = some ⟨.arr 60 173,240,240,List.replicate 240 (.int .u8 0)⟩:=rfl
theorem te177 : te 177 = some ⟨.ptr 139,1,8,[(.pointer none)]⟩:=rfl
theorem te193 : te 193 = some ⟨.arr 4 149,4,32,List.replicate 4 (.int .u64 0)⟩:=rfl
theorem te194 : te 194 = some ⟨.arr 12 149,12,96,List.replicate 12 (.int .u64 0)⟩:=rfl
theorem te196 : te 196 = some ⟨.arr 8 149,8,64,List.replicate 8 (.int .u64 0)⟩:=rfl
theorem te197 : te 197 = some ⟨.ptr 199,1,8,[(.pointer none)]⟩:=rfl
theorem te198 : te 198 = some ⟨.st [(0,24),(1,31)],2,32,[(.slice none 0 0)] ++ [(.int .i64 0)]⟩:=rfl
theorem te199 : te 199 = some ⟨.st [(0,24),(1,31)],2,32,[(.slice none 0 0)] ++ [(.int .i64 0)]⟩:=rfl
theorem ti2 : TIis Tryd.prog 2 ⟨.int .i64,1,8,[(.int .i64 0)]⟩ where
  under:=⟨(.int .i64),by kernel_rfl,rfl⟩
  info:=⟨Tryd.t2,(.int .i64 0),by kernel_rfl,by kernel_rfl,by kernel_rfl,by kernel_rfl,by kernel_rfl,by kernel_rfl⟩
  zero1:=List.all_eq_true.1 (by kernel_rfl)
  fields:=fun fs h=>by rw [show Tryd.prog.underlying 2 = some (.int .i64) by kernel_rfl] at h; cases h
theorem ti3 : TIis Tryd.prog 3 ⟨.int .i64,1,8,[(.int .i64 0)]⟩ where
  under:=⟨(.int .i64),by kernel_rfl,rfl⟩
  info:=⟨Tryd.t3,(.int .i64 0),by kernel_rfl,by kernel_rfl,by kernel_rfl,by kernel_rfl,by kernel_rfl,by kernel_rfl⟩
  zero1:=List.all_eq_true.1 (by kernel_rfl)
  fields:=fun fs h=>by rw [show Tryd.prog.underlying 3 = some (.int .i64) by kernel_rfl] at h; cases h
theorem ti4 : TIis Tryd.prog 4 ⟨.bool,1,1,[(.bool false)]⟩ where
  under:=⟨.bool,by kernel_rfl,rfl⟩
  info:=⟨Tryd.t4,(.bool false),by kernel_rfl,by kernel_rfl,by kernel_rfl,by kernel_rfl,by kernel_rfl,by kernel_rfl⟩
  zero1:=List.all_eq_true.1 (by kernel_rfl)
  fields:=fun fs h=>by rw [show Tryd.prog.underlying 4 = some .bool by kernel_rfl] at h; cases h
theorem ti5 : TIis Tryd.prog 5 ⟨.int .u8,1,1,[(.int .u8 0)]⟩ where
  under:=⟨(.int .u8),by kernel_rfl,rfl⟩
  info:=⟨Tryd.t5,(.int .u8 0),by kernel_rfl,by kernel_rfl,by kernel_rfl,by kernel_rfl,by kernel_rfl,by kernel_rfl⟩
  zero1:=List.all_eq_true.1 (by kernel_rfl)
  fields:=fun fs h=>by rw [show Tryd.prog.underlying 5 = some (.int .u8) by kernel_rfl] at h; cases h
theorem ti9 : TIis Tryd.prog 9 ⟨.str,1,16,[(.string ByteArray.empty)]⟩ where
  under:=⟨.string,by kernel_rfl,rfl⟩
  info:=⟨Tryd.t9,(.string ByteArray.empty),by kernel_rfl,by kernel_rfl,by kernel_rfl,by kernel_rfl,by kernel_rfl,by kernel_rfl⟩
  zero1:=List.all_eq_true.1 (by kernel_rfl)
  fields:=fun fs h=>by rw [show Tryd.prog.underlying 9 = some .string by kernel_rfl] at h; cases h
theorem ti21 : TIis Tryd.prog 21 ⟨.int .i32,1,4,[(.int .i32 0)]⟩ where
  under:=⟨(.int .i32),by kernel_rfl,rfl⟩
  info:=⟨Tryd.t21,(.int .i32 0),by kernel_rfl,by kernel_rfl,by kernel_rfl,by kernel_rfl,by kernel_rfl,by kernel_rfl⟩
  zero1:=List.all_eq_true.1 (by kernel_rfl)
  fields:=fun fs h=>by rw [show Tryd.prog.underlying 21 = some (.int .i32) by kernel_rfl] at h; cases h
theorem ti22 : TIis Tryd.prog 22 ⟨.arr 32 5,32,32,List.replicate 32 (.int .u8 0)⟩ where
  under:=⟨(.array 32 5),by kernel_rfl,rfl⟩
  info:=⟨Tryd.t22,(.agg (List.replicate 32 (.int .u8 0) : List Value).toArray),by kernel_rfl,by kernel_rfl,by kernel_rfl,by kernel_rfl,by kernel_rfl,by kernel_rfl⟩
  zero1:=List.all_eq_true.1 (by kernel_rfl)
  fields:=fun fs h=>by rw [show Tryd.prog.underlying 22 = some (.array 32 5) by kernel_rfl] at h; cases h
theorem ti23 : TIis Tryd.prog 23 ⟨.arr 32 5,32,32,List.replicate 32 (.int .u8 0)⟩ where
  under:=⟨(.array 32 5),by kernel_rfl,rfl⟩
  info:=⟨Tryd.t23,(.agg (List.replicate 32 (.int .u8 0) : List Value).toArray),by kernel_rfl,by kernel_rfl,by kernel_rfl,by kernel_rfl,by kernel_rfl,by kernel_rfl⟩
  zero1:=List.all_eq_true.1 (by kernel_rfl)
  fields:=fun fs h=>by rw [show Tryd.prog.underlying 23 = some (.array 32 5) by kernel_rfl] at h; cases h
theorem ti24 : TIis Tryd.prog 24 ⟨.slice 5,1,24,[(.slice none 0 0)]⟩ where
  under:=⟨(.slice 5),by kernel_rfl,rfl⟩
  info:=⟨Tryd.t24,(.slice none 0 0),by kernel_rfl,by kernel_rfl,by kernel_rfl,by kernel_rfl,by kernel_rfl,by kernel_rfl⟩
  zero1:=List.all_eq_true.1 (by kernel_rfl)
  fields:=fun fs h=>by rw [show Tryd.prog.underlying 24 = some (.slice 5) by kernel_rfl] at h; cases h
theorem ti25 : TIis Tryd.prog 25 ⟨.st [(0,3),(1,3),(2,24)],3,40,[(.int .i64 0),(.int .i64 0)] ++ [(.slice none 0 0)]⟩ where
  under:=st_under (P:=Tryd.prog) (t:=25) (by kernel_rfl)
  info:=⟨Tryd.t25,(.agg ([(.int .i64 0),(.int .i64 0)] ++ [(.slice none 0 0)] : List Value).toArray),by kernel_rfl,by kernel_rfl,by kernel_rfl,by kernel_rfl,by kernel_rfl,by kernel_rfl⟩
  zero1:=List.all_eq_true.1 (by kernel_rfl)
  fields:=ti_fields (P:=Tryd.prog) (t:=25) (by kernel_rfl)
theorem ti26 : TIis Tryd.prog 26 ⟨.st [(0,3),(1,3),(2,24)],3,40,[(.int .i64 0),(.int .i64 0)] ++ [(.slice none 0 0)]⟩ where
  under:=st_under (P:=Tryd.prog) (t:=26) (by kernel_rfl)
  info:=⟨Tryd.t26,(.agg ([(.int .i64 0),(.int .i64 0)] ++ [(.slice none 0 0)] : List Value).toArray),by kernel_rfl,by kernel_rfl,by kernel_rfl,by kernel_rfl,by kernel_rfl,by kernel_rfl⟩
  zero1:=List.all_eq_true.1 (by kernel_rfl)
  fields:=ti_fields (P:=Tryd.prog) (t:=26) (by kernel_rfl)
theorem ti28 : TIis Tryd.prog 28 ⟨.ptr 101,1,8,[(.pointer none)]⟩ where
  under:=⟨(.pointer 101),by kernel_rfl,rfl⟩
  info:=⟨Tryd.t28,(.pointer none),by kernel_rfl,by kernel_rfl,by kernel_rfl,by kernel_rfl,by kernel_rfl,by kernel_rfl⟩
  zero1:=List.all_eq_true.1 (by kernel_rfl)
  fields:=fun fs h=>by rw [show Tryd.prog.underlying 28 = some (.pointer 101) by kernel_rfl] at h; cases h
theorem ti31 : TIis Tryd.prog 31 ⟨.int .i64,1,8,[(.int .i64 0)]⟩ where
  under:=⟨(.int .i64),by kernel_rfl,rfl⟩
  info:=⟨Tryd.t31,(.int .i64 0),by kernel_rfl,by kernel_rfl,by kernel_rfl,by kernel_rfl,by kernel_rfl,by kernel_rfl⟩
  zero1:=List.all_eq_true.1 (by kernel_rfl)
  fields:=fun fs h=>by rw [show Tryd.prog.underlying 31 = some (.int .i64) by kernel_rfl] at h; cases h
theorem ti41 : TIis Tryd.prog 41 ⟨.slice 26,1,24,[(.slice none 0 0)]⟩ where
  under:=⟨(.slice 26),by kernel_rfl,rfl⟩
  info:=⟨Tryd.t41,(.slice none 0 0),by kernel_rfl,by kernel_rfl,by kernel_rfl,by kernel_rfl,by kernel_rfl,by kernel_rfl⟩
  zero1:=List.all_eq_true.1 (by kernel_rfl)
  fields:=fun fs h=>by rw [show Tryd.prog.underlying 41 = some (.slice 26) by kernel_rfl] at h; cases h
theorem ti43 : TIis Tryd.prog 43 ⟨.ptr 107,1,8,[(.pointer none)]⟩ where
  under:=⟨(.pointer 107),by kernel_rfl,rfl⟩
  info:=⟨Tryd.t43,(.pointer none),by kernel_rfl,by kernel_rfl,by kernel_rfl,by kernel_rfl,by kernel_rfl,by kernel_rfl⟩
  zero1:=List.all_eq_true.1 (by kernel_rfl)
  fields:=fun fs h=>by rw [show Tryd.prog.underlying 43 = some (.pointer 107) by kernel_rfl] at h; cases h
theorem ti48 : TIis Tryd.prog 48 ⟨.arr 32 5,32,32,List.replicate 32 (.int .u8 0)⟩ where
  under:=⟨(.array 32 5),by kernel_rfl,rfl⟩
  info:=⟨Tryd.t48,(.agg (List.replicate 32 (.int .u8 0) : List Value).toArray),by kernel_rfl,by kernel_rfl,by kernel_rfl,by kernel_rfl,by kernel_rfl,by kernel_rfl⟩
  zero1:=List.all_eq_true.1 (by kernel_rfl)
  fields:=fun fs h=>by rw [show Tryd.prog.underlying 48 = some (.array 32 5) by kernel_rfl] at h; cases h
theorem ti49 : TIis Tryd.prog 49 ⟨.st [(0,3),(1,3),(2,3)],3,24,[(.int .i64 0),(.int .i64 0),(.int .i64 0)]⟩ where
  under:=st_under (P:=Tryd.prog) (t:=49) (by kernel_rfl)
  info:=⟨Tryd.t49,(.agg ([(.int .i64 0),(.int .i64 0),(.int .i64 0)] : List Value).toArray),by kernel_rfl,by kernel_rfl,by kernel_rfl,by kernel_rfl,by kernel_rfl,by kernel_rfl⟩
  zero1:=List.all_eq_true.1 (by kernel_rfl)
  fields:=ti_fields (P:=Tryd.prog) (t:=49) (by kernel_rfl)
theorem ti50 : TIis Tryd.prog 50 ⟨.st [(0,3),(1,3),(2,3)],3,24,[(.int .i64 0),(.int .i64 0),(.int .i64 0)]⟩ where
  under:=st_under (P:=Tryd.prog) (t:=50) (by kernel_rfl)
  info:=⟨Tryd.t50,(.agg ([(.int .i64 0),(.int .i64 0),(.int .i64 0)] : List Value).toArray),by kernel_rfl,by kernel_rfl,by kernel_rfl,by kernel_rfl,by kernel_rfl,by kernel_rfl⟩
  zero1:=List.all_eq_true.1 (by kernel_rfl)
  fields:=ti_fields (P:=Tryd.prog) (t:=50) (by kernel_rfl)
theorem ti53 : TIis Tryd.prog 53 ⟨.arr 12 5,12,12,List.replicate 12 (.int .u8 0)⟩ where
  under:=⟨(.array 12 5),by kernel_rfl,rfl⟩
  info:=⟨Tryd.t53,(.agg (List.replicate 12 (.int .u8 0) : List Value).toArray),by kernel_rfl,by kernel_rfl,by kernel_rfl,by kernel_rfl,by kernel_rfl,by kernel_rfl⟩
  zero1:=List.all_eq_true.1 (by kernel_rfl)
  fields:=fun fs h=>by rw [show Tryd.prog.underlying 53 = some (.array 12 5) by kernel_rfl] at h; cases h
theorem ti54 : TIis Tryd.prog 54 ⟨.arr 12 5,12,12,List.replicate 12 (.int .u8 0)⟩ where
  under:=⟨(.array 12 5),by kernel_rfl,rfl⟩
  info:=⟨Tryd.t54,(.agg (List.replicate 12 (.int .u8 0) : List Value).toArray),by kernel_rfl,by kernel_rfl,by kernel_rfl,by kernel_rfl,by kernel_rfl,by kernel_rfl⟩
  zero1:=List.all_eq_true.1 (by kernel_rfl)
  fields:=fun fs h=>by rw [show Tryd.prog.underlying 54 = some (.array 12 5) by kernel_rfl] at h; cases h
theorem ti62 : TIis Tryd.prog 62 ⟨.st [(0,3),(1,3)],2,16,[(.int .i64 0),(.int .i64 0)]⟩ where
  under:=st_under (P:=Tryd.prog) (t:=62) (by kernel_rfl)
  info:=⟨Tryd.t62,(.agg ([(.int .i64 0),(.int .i64 0)] : List Value).toArray),by kernel_rfl,by kernel_rfl,by kernel_rfl,by kernel_rfl,by kernel_rfl,by kernel_rfl⟩
  zero1:=List.all_eq_true.1 (by kernel_rfl)
  fields:=ti_fields (P:=Tryd.prog) (t:=62) (by kernel_rfl)
theorem ti63 : TIis Tryd.prog 63 ⟨.st [(0,3),(1,3)],2,16,[(.int .i64 0),(.int .i64 0)]⟩ where
  under:=st_under (P:=Tryd.prog) (t:=63) (by kernel_rfl)
  info:=⟨Tryd.t63,(.agg ([(.int .i64 0),(.int .i64 0)] : List Value).toArray),by kernel_rfl,by kernel_rfl,by kernel_rfl,by kernel_rfl,by kernel_rfl,by kernel_rfl⟩
  zero1:=List.all_eq_true.1 (by kernel_rfl)
  fields:=ti_fields (P:=Tryd.prog) (t:=63) (by kernel_rfl)
theorem ti64 : TIis Tryd.prog 64 ⟨.slice 3,1,24,[(.slice none 0 0)]⟩ where
  under:=⟨(.slice 3),by kernel_rfl,rfl⟩
  info:=⟨Tryd.t64,(.slice none 0 0),by kernel_rfl,by kernel_rfl,by kernel_rfl,by kernel_rfl,by kernel_rfl,by kernel_rfl⟩
  zero1:=List.all_eq_true.1 (by kernel_rfl)
  fields:=fun fs h=>by rw [show Tryd.prog.underlying 64 = some (.slice 3) by kernel_rfl] at h; cases h
theorem ti65 : TIis Tryd.prog 65 ⟨.st [(0,3),(1,3),(2,24),(3,64)],4,64,[(.int .i64 0),(.int .i64 0)] ++ [(.slice none 0 0),(.slice none 0 0)]⟩ where
  under:=st_under (P:=Tryd.prog) (t:=65) (by kernel_rfl)
  info:=⟨Tryd.t65,(.agg ([(.int .i64 0),(.int .i64 0)] ++ [(.slice none 0 0),(.slice none 0 0)] : List Value).toArray),by kernel_rfl,by kernel_rfl,by kernel_rfl,by kernel_rfl,by kernel_rfl,by kernel_rfl⟩
  zero1:=List.all_eq_true.1 (by kernel_rfl)
  fields:=ti_fields (P:=Tryd.prog) (t:=65) (by kernel_rfl)
theorem ti66 : TIis Tryd.prog 66 ⟨.st [(0,3),(1,3),(2,24),(3,64)],4,64,[(.int .i64 0),(.int .i64 0)] ++ [(.slice none 0 0),(.slice none 0 0)]⟩ where
  under:=st_under (P:=Tryd.prog) (t:=66) (by kernel_rfl)
  info:=⟨Tryd.t66,(.agg ([(.int .i64 0),(.int .i64 0)] ++ [(.slice none 0 0),(.slice none 0 0)] : List Value).toArray),by kernel_rfl,by kernel_rfl,by kernel_rfl,by kernel_rfl,by kernel_rfl,by kernel_rfl⟩
  zero1:=List.all_eq_true.1 (by kernel_rfl)
  fields:=ti_fields (P:=Tryd.prog) (t:=66) (by kernel_rfl)
theorem ti67 : TIis Tryd.prog 67 ⟨.st [(0,3),(1,3),(2,3),(3,3),(4,63),(6,66)],10,112,List.replicate 8 (.int .i64 0) ++ [(.slice none 0 0),(.slice none 0 0)]⟩ where
  under:=st_under (P:=Tryd.prog) (t:=67) (by kernel_rfl)
  info:=⟨Tryd.t67,(.agg (List.replicate 8 (.int .i64 0) ++ [(.slice none 0 0),(.slice none 0 0)] : List Value).toArray),by kernel_rfl,by kernel_rfl,by kernel_rfl,by kernel_rfl,by kernel_rfl,by kernel_rfl⟩
  zero1:=List.all_eq_true.1 (by kernel_rfl)
  fields:=ti_fields (P:=Tryd.prog) (t:=67) (by kernel_rfl)
theorem ti68 : TIis Tryd.prog 68 ⟨.st [(0,3),(1,3),(2,3),(3,3),(4,63),(6,66)],10,112,List.replicate 8 (.int .i64 0) ++ [(.slice none 0 0),(.slice none 0 0)]⟩ where
  under:=st_under (P:=Tryd.prog) (t:=68) (by kernel_rfl)
  info:=⟨Tryd.t68,(.agg (List.replicate 8 (.int .i64 0) ++ [(.slice none 0 0),(.slice none 0 0)] : List Value).toArray),by kernel_rfl,by kernel_rfl,by kernel_rfl,by kernel_rfl,by kernel_rfl,by kernel_rfl⟩
  zero1:=List.all_eq_true.1 (by kernel_rfl)
  fields:=ti_fields (P:=Tryd.prog) (t:=68) (by kernel_rfl)
theorem ti71 : TIis Tryd.prog 71 ⟨.slice 72,1,24,[(.slice none 0 0)]⟩ where
  under:=⟨(.slice 72),by kernel_rfl,rfl⟩
  info:=⟨Tryd.t71,(.slice none 0 0),by kernel_rfl,by kernel_rfl,by kernel_rfl,by kernel_rfl,by kernel_rfl,by kernel_rfl⟩
  zero1:=List.all_eq_true.1 (by kernel_rfl)
  fields:=fun fs h=>by rw [show Tryd.prog.underlying 71 = some (.slice 72) by kernel_rfl] at h; cases h
theorem ti72 : TIis Tryd.prog 72 ⟨.int .u32,1,4,[(.int .u32 0)]⟩ where
  under:=⟨(.int .u32),by kernel_rfl,rfl⟩
  info:=⟨Tryd.t72,(.int .u32 0),by kernel_rfl,by kernel_rfl,by kernel_rfl,by kernel_rfl,by kernel_rfl,by kernel_rfl⟩
  zero1:=List.all_eq_true.1 (by kernel_rfl)
  fields:=fun fs h=>by rw [show Tryd.prog.underlying 72 = some (.int .u32) by kernel_rfl] at h; cases h
theorem ti73 : TIis Tryd.prog 73 ⟨.arr 8 72,8,32,List.replicate 8 (.int .u32 0)⟩ where
  under:=⟨(.array 8 72),by kernel_rfl,rfl⟩
  info:=⟨Tryd.t73,(.agg (List.replicate 8 (.int .u32 0) : List Value).toArray),by kernel_rfl,by kernel_rfl,by kernel_rfl,by kernel_rfl,by kernel_rfl,by kernel_rfl⟩
  zero1:=List.all_eq_true.1 (by kernel_rfl)
  fields:=fun fs h=>by rw [show Tryd.prog.underlying 73 = some (.array 8 72) by kernel_rfl] at h; cases h
theorem ti74 : TIis Tryd.prog 74 ⟨.st [(0,71),(1,73)],9,56,[(.slice none 0 0)] ++ List.replicate 8 (.int .u32 0)⟩ where
  under:=st_under (P:=Tryd.prog) (t:=74) (by kernel_rfl)
  info:=⟨Tryd.t74,(.agg ([(.slice none 0 0)] ++ List.replicate 8 (.int .u32 0) : List Value).toArray),by kernel_rfl,by kernel_rfl,by kernel_rfl,by kernel_rfl,by kernel_rfl,by kernel_rfl⟩
  zero1:=List.all_eq_true.1 (by kernel_rfl)
  fields:=ti_fields (P:=Tryd.prog) (t:=74) (by kernel_rfl)
theorem ti75 : TIis Tryd.prog 75 ⟨.st [(0,71),(1,73)],9,56,[(.slice none 0 0)] ++ List.replicate 8 (.int .u32 0)⟩ where
  under:=st_under (P:=Tryd.prog) (t:=75) (by kernel_rfl)
  info:=⟨Tryd.t75,(.agg ([(.slice none 0 0)] ++ List.replicate 8 (.int .u32 0) : List Value).toArray),by kernel_rfl,by kernel_rfl,by kernel_rfl,by kernel_rfl,by kernel_rfl,by kernel_rfl⟩
  zero1:=List.all_eq_true.1 (by kernel_rfl)
  fields:=ti_fields (P:=Tryd.prog) (t:=75) (by kernel_rfl)
theorem ti79 : TIis Tryd.prog 79 ⟨.slice 68,1,24,[(.slice none 0 0)]⟩ where
  under:=⟨(.slice 68),by kernel_rfl,rfl⟩
  info:=⟨Tryd.t79,(.slice none 0 0),by kernel_rfl,by kernel_rfl,by kernel_rfl,by kernel_rfl,by kernel_rfl,by kernel_rfl⟩
  zero1:=List.all_eq_true.1 (by kernel_rfl)
  fields:=fun fs h=>by rw [show Tryd.prog.underlying 79 = some (.slice 68) by kernel_rfl] at h; cases h
theorem ti85 : TIis Tryd.prog 85 ⟨.slice 66,1,24,[(.slice none 0 0)]⟩ where
  under:=⟨(.slice 66),by kernel_rfl,rfl⟩
  info:=⟨Tryd.t85,(.slice none 0 0),by kernel_rfl,by kernel_rfl,by kernel_rfl,by kernel_rfl,by kernel_rfl,by kernel_rfl⟩
  zero1:=List.all_eq_true.1 (by kernel_rfl)
  fields:=fun fs h=>by rw [show Tryd.prog.underlying 85 = some (.slice 66) by kernel_rfl] at h; cases h
theorem ti86 : TIis Tryd.prog 86 ⟨.st [(0,63),(2,3),(3,3),(4,3),(5,85)],6,64,List.replicate 5 (.int .i64 0) ++ [(.slice none 0 0)]⟩ where
  under:=st_under (P:=Tryd.prog) (t:=86) (by kernel_rfl)
  info:=⟨Tryd.t86,(.agg (List.replicate 5 (.int .i64 0) ++ [(.slice none 0 0)] : List Value).toArray),by kernel_rfl,by kernel_rfl,by kernel_rfl,by kernel_rfl,by kernel_rfl,by kernel_rfl⟩
  zero1:=List.all_eq_true.1 (by kernel_rfl)
  fields:=ti_fields (P:=Tryd.prog) (t:=86) (by kernel_rfl)
theorem ti87 : TIis Tryd.prog 87 ⟨.st [(0,63),(2,3),(3,3),(4,3),(5,85)],6,64,List.replicate 5 (.int .i64 0) ++ [(.slice none 0 0)]⟩ where
  under:=st_under (P:=Tryd.prog) (t:=87) (by kernel_rfl)
  info:=⟨Tryd.t87,(.agg (List.replicate 5 (.int .i64 0) ++ [(.slice none 0 0)] : List Value).toArray),by kernel_rfl,by kernel_rfl,by kernel_rfl,by kernel_rfl,by kernel_rfl,by kernel_rfl⟩
  zero1:=List.all_eq_true.1 (by kernel_rfl)
  fields:=ti_fields (P:=Tryd.prog) (t:=87) (by kernel_rfl)
theorem ti90 : TIis Tryd.prog 90 ⟨.st [(0,63),(2,3),(3,3),(4,3),(5,85)],6,64,List.replicate 5 (.int .i64 0) ++ [(.slice none 0 0)]⟩ where
  under:=st_under (P:=Tryd.prog) (t:=90) (by kernel_rfl)
  info:=⟨Tryd.t90,(.agg (List.replicate 5 (.int .i64 0) ++ [(.slice none 0 0)] : List Value).toArray),by kernel_rfl,by kernel_rfl,by kernel_rfl,by kernel_rfl,by kernel_rfl,by kernel_rfl⟩
  zero1:=List.all_eq_true.1 (by kernel_rfl)
  fields:=ti_fields (P:=Tryd.prog) (t:=90) (by kernel_rfl)
theorem ti95 : TIis Tryd.prog 95 ⟨.arr 2 3,2,16,[(.int .i64 0),(.int .i64 0)]⟩ where
  under:=⟨(.array 2 3),by kernel_rfl,rfl⟩
  info:=⟨Tryd.t95,(.agg ([(.int .i64 0),(.int .i64 0)] : List Value).toArray),by kernel_rfl,by kernel_rfl,by kernel_rfl,by kernel_rfl,by kernel_rfl,by kernel_rfl⟩
  zero1:=List.all_eq_true.1 (by kernel_rfl)
  fields:=fun fs h=>by rw [show Tryd.prog.underlying 95 = some (.array 2 3) by kernel_rfl] at h; cases h
theorem ti100 : TIis Tryd.prog 100 ⟨.st [(0,23),(32,23),(64,3)],65,72,List.replicate 64 (.int .u8 0) ++ [(.int .i64 0)]⟩ where
  under:=st_under (P:=Tryd.prog) (t:=100) (by kernel_rfl)
  info:=⟨Tryd.t100,(.agg (List.replicate 64 (.int .u8 0) ++ [(.int .i64 0)] : List Value).toArray),by kernel_rfl,by kernel_rfl,by kernel_rfl,by kernel_rfl,by kernel_rfl,by kernel_rfl⟩
  zero1:=List.all_eq_true.1 (by kernel_rfl)
  fields:=ti_fields (P:=Tryd.prog) (t:=100) (by kernel_rfl)
theorem ti101 : TIis Tryd.prog 101 ⟨.st [(0,23),(32,23),(64,3)],65,72,List.replicate 64 (.int .u8 0) ++ [(.int .i64 0)]⟩ where
  under:=st_under (P:=Tryd.prog) (t:=101) (by kernel_rfl)
  info:=⟨Tryd.t101,(.agg (List.replicate 64 (.int .u8 0) ++ [(.int .i64 0)] : List Value).toArray),by kernel_rfl,by kernel_rfl,by kernel_rfl,by kernel_rfl,by kernel_rfl,by kernel_rfl⟩
  zero1:=List.all_eq_true.1 (by kernel_rfl)
  fields:=ti_fields (P:=Tryd.prog) (t:=101) (by kernel_rfl)
theorem ti104 : TIis Tryd.prog 104 ⟨.arr 64 5,64,64,List.replicate 64 (.int .u8 0)⟩ where
  under:=⟨(.array 64 5),by kernel_rfl,rfl⟩
  info:=⟨Tryd.t104,(.agg (List.replicate 64 (.int .u8 0) : List Value).toArray),by kernel_rfl,by kernel_rfl,by kernel_rfl,by kernel_rfl,by kernel_rfl,by kernel_rfl⟩
  zero1:=List.all_eq_true.1 (by kernel_rfl)
  fields:=fun fs h=>by rw [show Tryd.prog.underlying 104 = some (.array 64 5) by kernel_rfl] at h; cases h
theorem ti106 : TIis Tryd.prog 106 ⟨.st [(0,75),(9,23),(41,23),(73,3)],74,128,[(.slice none 0 0)] ++ List.replicate 8 (.int .u32 0) ++ List.replicate 64 (.int .u8 0) ++ [(.int .i64 0)]⟩ where
  under:=st_under (P:=Tryd.prog) (t:=106) (by kernel_rfl)
  info:=⟨Tryd.t106,(.agg ([(.slice none 0 0)] ++ List.replicate 8 (.int .u32 0) ++ List.replicate 64 (.int .u8 0) ++ [(.int .i64 0)] : List Value).toArray),by kernel_rfl,by kernel_rfl,by kernel_rfl,by kernel_rfl,by kernel_rfl,by kernel_rfl⟩
  zero1:=List.all_eq_true.1 (by kernel_rfl)
  fields:=ti_fields (P:=Tryd.prog) (t:=106) (by kernel_rfl)
theorem ti107 : TIis Tryd.prog 107 ⟨.st [(0,75),(9,23),(41,23),(73,3)],74,128,[(.slice none 0 0)] ++ List.replicate 8 (.int .u32 0) ++ List.replicate 64 (.int .u8 0) ++ [(.int .i64 0)]⟩ where
  under:=st_under (P:=Tryd.prog) (t:=107) (by kernel_rfl)
  info:=⟨Tryd.t107,(.agg ([(.slice none 0 0)] ++ List.replicate 8 (.int .u32 0) ++ List.replicate 64 (.int .u8 0) ++ [(.int .i64 0)] : List Value).toArray),by kernel_rfl,by kernel_rfl,by kernel_rfl,by kernel_rfl,by kernel_rfl,by kernel_rfl⟩
  zero1:=List.all_eq_true.1 (by kernel_rfl)
  fields:=ti_fields (P:=Tryd.prog) (t:=107) (by kernel_rfl)
theorem ti113 : TIis Tryd.prog 113 ⟨.arr 16 5,16,16,List.replicate 16 (.int .u8 0)⟩ where
  under:=⟨(.array 16 5),by kernel_rfl,rfl⟩
  info:=⟨Tryd.t113,(.agg (List.replicate 16 (.int .u8 0) : List Value).toArray),by kernel_rfl,by kernel_rfl,by kernel_rfl,by kernel_rfl,by kernel_rfl,by kernel_rfl⟩
  zero1:=List.all_eq_true.1 (by kernel_rfl)
  fields:=fun fs h=>by rw [show Tryd.prog.underlying 113 = some (.array 16 5) by kernel_rfl] at h; cases h
theorem ti114 : TIis Tryd.prog 114 ⟨.arr 16 5,16,16,List.replicate 16 (.int .u8 0)⟩ where
  under:=⟨(.array 16 5),by kernel_rfl,rfl⟩
  info:=⟨Tryd.t114,(.agg (List.replicate 16 (.int .u8 0) : List Value).toArray),by kernel_rfl,by kernel_rfl,by kernel_rfl,by kernel_rfl,by kernel_rfl,by kernel_rfl⟩
  zero1:=List.all_eq_true.1 (by kernel_rfl)
  fields:=fun fs h=>by rw [show Tryd.prog.underlying 114 = some (.array 16 5) by kernel_rfl] at h; cases h
theorem ti134 : TIis Tryd.prog 134 ⟨.slice 24,1,24,[(.slice none 0 0)]⟩ where
  under:=⟨(.slice 24),by kernel_rfl,rfl⟩
  info:=⟨Tryd.t134,(.slice none 0 0),by kernel_rfl,by kernel_rfl,by kernel_rfl,by kernel_rfl,by kernel_rfl,by kernel_rfl⟩
  zero1:=List.all_eq_true.1 (by kernel_rfl)
  fields:=fun fs h=>by rw [show Tryd.prog.underlying 134 = some (.slice 24) by kernel_rfl] at h; cases h
theorem ti138 : TIis Tryd.prog 138 ⟨.arr 15 114,240,240,List.replicate 240 (.int .u8 0)⟩ where
  under:=⟨(.array 15 114),by kernel_rfl,rfl⟩
  info:=⟨Tryd.t138,(.agg (List.replicate 240 (.int .u8 0) : List Value).toArray),by kernel_rfl,by kernel_rfl,by kernel_rfl,by kernel_rfl,by kernel_rfl,by kernel_rfl⟩
  zero1:=List.all_eq_true.1 (by kernel_rfl)
  fields:=fun fs h=>by rw [show Tryd.prog.underlying 138 = some (.array 15 114) by kernel_rfl] at h; cases h
theorem ti139 : TIis Tryd.prog 139 ⟨.arr 15 114,240,240,List.replicate 240 (.int .u8 0)⟩ where
  under:=⟨(.array 15 114),by kernel_rfl,rfl⟩
  info:=⟨Tryd.t139,(.agg (List.replicate 240 (.int .u8 0) : List Value).toArray),by kernel_rfl,by kernel_rfl,by kernel_rfl,by kernel_rfl,by kernel_rfl,by kernel_rfl⟩
  zero1:=List.all_eq_true.1 (by kernel_rfl)
  fields:=fun fs h=>by rw [show Tryd.prog.underlying 139 = some (.array 15 114) by kernel_rfl] at h; cases h
theorem ti146 : TIis Tryd.prog 146 ⟨.slice 149,1,24,[(.slice none 0 0)]⟩ where
  under:=⟨(.slice 149),by kernel_rfl,rfl⟩
  info:=⟨Tryd.t146,(.slice none 0 0),by kernel_rfl,by kernel_rfl,by kernel_rfl,by kernel_rfl,by kernel_rfl,by kernel_rfl⟩
  zero1:=List.all_eq_true.1 (by kernel_rfl)
  fields:=fun fs h=>by rw [show Tryd.prog.underlying 146 = some (.slice 149) by kernel_rfl] at h; cases h
theorem ti149 : TIis Tryd.prog 149 ⟨.int .u64,1,8,[(.int .u64 0)]⟩ where
  under:=⟨(.int .u64),by kernel_rfl,rfl⟩
  info:=⟨Tryd.t149,(.int .u64 0),by kernel_rfl,by kernel_rfl,by kernel_rfl,by kernel_rfl,by kernel_rfl,by kernel_rfl⟩
  zero1:=List.all_eq_true.1 (by kernel_rfl)
  fields:=fun fs h=>by rw [show Tryd.prog.underlying 149 = some (.int .u64) by kernel_rfl] at h; cases h
theorem ti152 : TIis Tryd.prog 152 ⟨.int .u64,1,8,[(.int .u64 0)]⟩ where
  under:=⟨(.int .u64),by kernel_rfl,rfl⟩
  info:=⟨Tryd.t152,(.int .u64 0),by kernel_rfl,by kernel_rfl,by kernel_rfl,by kernel_rfl,by kernel_rfl,by kernel_rfl⟩
  zero1:=List.all_eq_true.1 (by kernel_rfl)
  fields:=fun fs h=>by rw [show Tryd.prog.underlying 152 = some (.int .u64) by kernel_rfl] at h; cases h
theorem ti156 : TIis Tryd.prog 156 ⟨.st [],0,0,[]⟩ where
  under:=st_under (P:=Tryd.prog) (t:=156) (by kernel_rfl)
  info:=⟨Tryd.t156,(.agg ([] : List Value).toArray),by kernel_rfl,by kernel_rfl,by kernel_rfl,by kernel_rfl,by kernel_rfl,by kernel_rfl⟩
  zero1:=List.all_eq_true.1 (by kernel_rfl)
  fields:=ti_fields (P:=Tryd.prog) (t:=156) (by kernel_rfl)
theorem ti157 : TIis Tryd.prog 157 ⟨.ptr 159,1,8,[(.pointer none)]⟩ where
  under:=⟨(.pointer 159),by kernel_rfl,rfl⟩
  info:=⟨Tryd.t157,(.pointer none),by kernel_rfl,by kernel_rfl,by kernel_rfl,by kernel_rfl,by kernel_rfl,by kernel_rfl⟩
  zero1:=List.all_eq_true.1 (by kernel_rfl)
  fields:=fun fs h=>by rw [show Tryd.prog.underlying 157 = some (.pointer 159) by kernel_rfl] at h; cases h
theorem ti158 : TIis Tryd.prog 158 ⟨.st [(0,24)],1,24,[(.slice none 0 0)]⟩ where
  under:=st_under (P:=Tryd.prog) (t:=158) (by kernel_rfl)
  info:=⟨Tryd.t158,(.agg ([(.slice none 0 0)] : List Value).toArray),by kernel_rfl,by kernel_rfl,by kernel_rfl,by kernel_rfl,by kernel_rfl,by kernel_rfl⟩
  zero1:=List.all_eq_true.1 (by kernel_rfl)
  fields:=ti_fields (P:=Tryd.prog) (t:=158) (by kernel_rfl)
theorem ti159 : TIis Tryd.prog 159 ⟨.st [(0,24)],1,24,[(.slice none 0 0)]⟩ where
  under:=st_under (P:=Tryd.prog) (t:=159) (by kernel_rfl)
  info:=⟨Tryd.t159,(.agg ([(.slice none 0 0)] : List Value).toArray),by kernel_rfl,by kernel_rfl,by kernel_rfl,by kernel_rfl,by kernel_rfl,by kernel_rfl⟩
  zero1:=List.all_eq_true.1 (by kernel_rfl)
  fields:=ti_fields (P:=Tryd.prog) (t:=159) (by kernel_rfl)
theorem ti165 : TIis Tryd.prog 165 ⟨.ptr 87,1,8,[(.pointer none)]⟩ where
  under:=⟨(.pointer 87),by kernel_rfl,rfl⟩
  info:=⟨Tryd.t165,(.pointer none),by kernel_rfl,by kernel_rfl,by kernel_rfl,by kernel_rfl,by kernel_rfl,by kernel_rfl⟩
  zero1:=List.all_eq_true.1 (by kernel_rfl)
  fields:=fun fs h=>by rw [show Tryd.prog.underlying 165 = some (.pointer 87) by kernel_rfl] at h; cases h
theorem ti166 : TIis Tryd.prog 166 ⟨.arr 64 72,64,256,List.replicate 64 (.int .u32 0)⟩ where
  under:=⟨(.array 64 72),by kernel_rfl,rfl⟩
  info:=⟨Tryd.t166,(.agg (List.replicate 64 (.int .u32 0) : List Value).toArray),by kernel_rfl,by kernel_rfl,by kernel_rfl,by kernel_rfl,by kernel_rfl,by kernel_rfl⟩
  zero1:=List.all_eq_true.1 (by kernel_rfl)
  fields:=fun fs h=>by rw [show Tryd.prog.underlying 166 = some (.array 64 72) by kernel_rfl] at h; cases h
theorem ti168 : TIis Tryd.prog 168 ⟨.arr 256 5,256,256,List.replicate 256 (.int .u8 0)⟩ where
  under:=⟨(.array 256 5),by kernel_rfl,rfl⟩
  info:=⟨Tryd.t168,(.agg (List.replicate 256 (.int .u8 0) : List Value).toArray),by kernel_rfl,by kernel_rfl,by kernel_rfl,by kernel_rfl,by kernel_rfl,by kernel_rfl⟩
  zero1:=List.all_eq_true.1 (by kernel_rfl)
  fields:=fun fs h=>by rw [show Tryd.prog.underlying 168 = some (.array 256 5) by kernel_rfl] at h; cases h
theorem ti172 : TIis Tryd.prog 172 ⟨.arr 4 5,4,4,List.replicate 4 (.int .u8 0)⟩ where
  under:=⟨(.array 4 5),by kernel_rfl,rfl⟩
  info:=⟨Tryd.t172,(.agg (List.replicate 4 (.int .u8 0) : List Value).toArray),by kernel_rfl,by kernel_rfl,by kernel_rfl,by kernel_rfl,by kernel_rfl,by kernel_rfl⟩
  zero1:=List.all_eq_true.1 (by kernel_rfl)
  fields:=fun fs h=>by rw [show Tryd.prog.underlying 172 = some (.array 4 5) by kernel_rfl] at h; cases h
theorem ti173 : TIis Tryd.prog 173 ⟨.arr 4 5,4,4,List.replicate 4 (.int .u8 0)⟩ where
  under:=⟨(.array 4 5),by kernel_rfl,rfl⟩
  info:=⟨Tryd.t173,(.agg (List.replicate 4 (.int .u8 0) : List Value).toArray),by kernel_rfl,by kernel_rfl,by kernel_rfl,by kernel_rfl,by kernel_rfl,by kernel_rfl⟩
  zero1:=List.all_eq_true.1 (by kernel_rfl)
  fields:=fun fs h=>by rw [show Tryd.prog.underlying 173 = some (.array 4 5) by kernel_rfl] at h; cases h
theorem ti174 : TIis Tryd.prog 174 ⟨.arr 60 173,240,240,List.replicate 240 (.int .u8 0)⟩ where
  under:=⟨(.array 60 173),by kernel_rfl,rfl⟩
  info:=⟨Tryd.t174,(.agg (List.replicate 240 (.int .u8 0) : List Value).toArray),by kernel_rfl,by kernel_rfl,by kernel_rfl,by kernel_rfl,by kernel_rfl,by kernel_rfl⟩
  zero1:=List.all_eq_true.1 (by kernel_rfl)
  fields:=fun fs h=>by rw [show Tryd.prog.underlying 174 = some (.array 60 173) by kernel_rfl] at h; cases h
theorem ti177 : TIis Tryd.prog 177 ⟨.ptr 139,1,8,[(.pointer none)]⟩ where
  under:=⟨(.pointer 139),by kernel_rfl,rfl⟩
  info:=⟨Tryd.t177,(.pointer none),by kernel_rfl,by kernel_rfl,by kernel_rfl,by kernel_rfl,by kernel_rfl,by kernel_rfl⟩
  zero1:=List.all_eq_true.1 (by kernel_rfl)
  fields:=fun fs h=>by rw [show Tryd.prog.underlying 177 = some (.pointer 139) by kernel_rfl] at h; cases h
theorem ti193 : TIis Tryd.prog 193 ⟨.arr 4 149,4,32,List.replicate 4 (.int .u64 0)⟩ where
  under:=⟨(.array 4 149),by kernel_rfl,rfl⟩
  info:=⟨Tryd.t193,(.agg (List.replicate 4 (.int .u64 0) : List Value).toArray),by kernel_rfl,by kernel_rfl,by kernel_rfl,by kernel_rfl,by kernel_rfl,by kernel_rfl⟩
  zero1:=List.all_eq_true.1 (by kernel_rfl)
  fields:=fun fs h=>by rw [show Tryd.prog.underlying 193 = some (.array 4 149) by kernel_rfl] at h; cases h
theorem ti194 : TIis Tryd.prog 194 ⟨.arr 12 149,12,96,List.replicate 12 (.int .u64 0)⟩ where
  under:=⟨(.array 12 149),by kernel_rfl,rfl⟩
  info:=⟨Tryd.t194,(.agg (List.replicate 12 (.int .u64 0) : List Value).toArray),by kernel_rfl,by kernel_rfl,by kernel_rfl,by kernel_rfl,by kernel_rfl,by kernel_rfl⟩
  zero1:=List.all_eq_true.1 (by kernel_rfl)
  fields:=fun fs h=>by rw [show Tryd.prog.underlying 194 = some (.array 12 149) by kernel_rfl] at h; cases h
theorem ti196 : TIis Tryd.prog 196 ⟨.arr 8 149,8,64,List.replicate 8 (.int .u64 0)⟩ where
  under:=⟨(.array 8 149),by kernel_rfl,rfl⟩
  info:=⟨Tryd.t196,(.agg (List.replicate 8 (.int .u64 0) : List Value).toArray),by kernel_rfl,by kernel_rfl,by kernel_rfl,by kernel_rfl,by kernel_rfl,by kernel_rfl⟩
  zero1:=List.all_eq_true.1 (by kernel_rfl)
  fields:=fun fs h=>by rw [show Tryd.prog.underlying 196 = some (.array 8 149) by kernel_rfl] at h; cases h
theorem ti197 : TIis Tryd.prog 197 ⟨.ptr 199,1,8,[(.pointer none)]⟩ where
  under:=⟨(.pointer 199),by kernel_rfl,rfl⟩
  info:=⟨Tryd.t197,(.pointer none),by kernel_rfl,by kernel_rfl,by kernel_rfl,by kernel_rfl,by kernel_rfl,by kernel_rfl⟩
  zero1:=List.all_eq_true.1 (by kernel_rfl)
  fields:=fun fs h=>by rw [show Tryd.prog.underlying 197 = some (.pointer 199) by kernel_rfl] at h; cases h
theorem ti198 : TIis Tryd.prog 198 ⟨.st [(0,24),(1,31)],2,32,[(.slice none 0 0)] ++ [(.int .i64 0)]⟩ where
  under:=st_under (P:=Tryd.prog) (t:=198) (by kernel_rfl)
  info:=⟨Tryd.t198,(.agg ([(.slice none 0 0)] ++ [(.int .i64 0)] : List Value).toArray),by kernel_rfl,by kernel_rfl,by kernel_rfl,by kernel_rfl,by kernel_rfl,by kernel_rfl⟩
  zero1:=List.all_eq_true.1 (by kernel_rfl)
  fields:=ti_fields (P:=Tryd.prog) (t:=198) (by kernel_rfl)
theorem ti199 : TIis Tryd.prog 199 ⟨.st [(0,24),(1,31)],2,32,[(.slice none 0 0)] ++ [(.int .i64 0)]⟩ where
  under:=st_under (P:=Tryd.prog) (t:=199) (by kernel_rfl)
  info:=⟨Tryd.t199,(.agg ([(.slice none 0 0)] ++ [(.int .i64 0)] : List Value).toArray),by kernel_rfl,by kernel_rfl,by kernel_rfl,by kernel_rfl,by kernel_rfl,by kernel_rfl⟩
  zero1:=List.all_eq_true.1 (by kernel_rfl)
  fields:=ti_fields (P:=Tryd.prog) (t:=199) (by kernel_rfl)
theorem te_ok : TeOK Tryd.prog te:=by
  intro t ti h
  unfold te at h
  split at h
  · cases h; exact ti2
  · cases h; exact ti3
  · cases h; exact ti4
  · cases h; exact ti5
  · cases h; exact ti9
  · cases h; exact ti21
  · cases h; exact ti22
  · cases h; exact ti23
  · cases h; exact ti24
  · cases h; exact ti25
  · cases h; exact ti26
  · cases h; exact ti28
  · cases h; exact ti31
  · cases h; exact ti41
  · cases h; exact ti43
  · cases h; exact ti48
  · cases h; exact ti49
  · cases h; exact ti50
  · cases h; exact ti53
  · cases h; exact ti54
  · cases h; exact ti62
  · cases h; exact ti63
  · cases h; exact ti64
  · cases h; exact ti65
  · cases h; exact ti66
  · cases h; exact ti67
  · cases h; exact ti68
  · cases h; exact ti71
  · cases h; exact ti72
  · cases h; exact ti73
  · cases h; exact ti74
  · cases h; exact ti75
  · cases h; exact ti79
  · cases h; exact ti85
  · cases h; exact ti86
  · cases h; exact ti87
  · cases h; exact ti90
  · cases h; exact ti95
  · cases h; exact ti100
  · cases h; exact ti101
  · cases h; exact ti104
  · cases h; exact ti106
  · cases h; exact ti107
  · cases h; exact ti113
  · cases h; exact ti114
  · cases h; exact ti134
  · cases h; exact ti138
  · cases h; exact ti139
  · cases h; exact ti146
  · cases h; exact ti149
  · cases h; exact ti152
  · cases h; exact ti156
  · cases h; exact ti157
  · cases h; exact ti158
  · cases h; exact ti159
  · cases h; exact ti165
  · cases h; exact ti166
  · cases h; exact ti168
  · cases h; exact ti172
  · cases h; exact ti173
  · cases h; exact ti174
  · cases h; exact ti177
  · cases h; exact ti193
  · cases h; exact ti194
  · cases h; exact ti196
  · cases h; exact ti197
  · cases h; exact ti198
  · cases h; exact ti199
  · cases h
def teE:=(And.intro (And.intro (And.intro (And.intro (And.intro (And.intro te2 te3) (And.intro te4 te5)) (And.intro (And.intro te9 te21) (And.intro te22 te23))) (And.intro (And.intro (And.intro te24 te25) (And.intro te26 te28)) (And.intro (And.intro te31 te41) (And.intro te43 (And.intro te48 te49))))) (And.intro (And.intro (And.intro (And.intro te50 te53) (And.intro te54 te62)) (And.intro (And.intro te63 te64) (And.intro te65 te66))) (And.intro (And.intro (And.intro te67 te68) (And.intro te71 te72)) (And.intro (And.intro te73 te74) (And.intro te75 (And.intro te79 te85)))))) (And.intro (And.intro (And.intro (And.intro (And.intro te86 te87) (And.intro te90 te95)) (And.intro (And.intro te100 te101) (And.intro te104 te106))) (And.intro (And.intro (And.intro te107 te113) (And.intro te114 te134)) (And.intro (And.intro te138 te139) (And.intro te146 (And.intro te149 te152))))) (And.intro (And.intro (And.intro (And.intro te156 te157) (And.intro te158 te159)) (And.intro (And.intro te165 te166) (And.intro te168 te172))) (And.intro (And.intro (And.intro te173 te174) (And.intro te177 te193)) (And.intro (And.intro te194 te196) (And.intro te197 (And.intro te198 te199)))))))
theorem mixed : Tryd.prog.follows .mixedOrders = true:=by kernel_rfl
end Go.Proofs.YtddeffdgldjdjaaDoor
