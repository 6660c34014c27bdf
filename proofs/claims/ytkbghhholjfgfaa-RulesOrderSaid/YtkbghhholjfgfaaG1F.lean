import Derived.Test.YtkbghhholjfgfaaProg
import Derived.Test.YtkbghhholjfgfaaPv25
set_option linter.unusedSimpArgs false
set_option linter.unusedVariables false
namespace Pv
open Go Go.Proofs
theorem mix : Try.prog.follows .mixedOrders = true := by kernel_rfl
theorem ty24 : tyI Try.prog 24 = some ⟨true, 17, 17, (.agg [(.bool false), (.int .u8 0), (.int .u8 0), (.int .u8 0), (.int .u8 0), (.int .u8 0), (.int .u8 0), (.int .u8 0), (.int .u8 0), (.int .u8 0), (.int .u8 0), (.int .u8 0), (.int .u8 0), (.int .u8 0), (.int .u8 0), (.int .u8 0), (.int .u8 0)])⟩ := by kernel_rfl
theorem ty26 : tyI Try.prog 26 = some ⟨true, 18, 32, (.agg [(.bool false), (.int .u8 0), (.int .u8 0), (.int .u8 0), (.int .u8 0), (.int .u8 0), (.int .u8 0), (.int .u8 0), (.int .u8 0), (.int .u8 0), (.int .u8 0), (.int .u8 0), (.int .u8 0), (.int .u8 0), (.int .u8 0), (.int .u8 0), (.int .u8 0), (.int .i64 0)])⟩ := by kernel_rfl
theorem ty28 : tyI Try.prog 28 = some ⟨true, 2, 32, (.agg [(.str ByteArray.empty), (.str ByteArray.empty)])⟩ := by kernel_rfl
theorem ty3 : tyI Try.prog 3 = some ⟨false, 1, 8, (.int .i64 0)⟩ := by kernel_rfl
theorem ty30 : tyI Try.prog 30 = some ⟨true, 26, 112, (.agg [(.int .i64 0), (.bool false), (.int .u8 0), (.int .u8 0), (.int .u8 0), (.int .u8 0), (.int .u8 0), (.int .u8 0), (.int .u8 0), (.int .u8 0), (.int .u8 0), (.int .u8 0), (.int .u8 0), (.int .u8 0), (.int .u8 0), (.int .u8 0), (.int .u8 0), (.int .u8 0), (.int .i64 0), (.str ByteArray.empty), (.str ByteArray.empty), (.str ByteArray.empty), (.int .i64 0), (.bool false), (.bool false), (.int .i64 0)])⟩ := by kernel_rfl
theorem ty32 : tyI Try.prog 32 = some ⟨true, 5, 56, (.agg [(.str ByteArray.empty), (.str ByteArray.empty), (.str ByteArray.empty), (.bool false), (.bool false)])⟩ := by kernel_rfl
theorem ty33 : tyI Try.prog 33 = some ⟨true, 10, 112, (.agg [(.str ByteArray.empty), (.str ByteArray.empty), (.str ByteArray.empty), (.bool false), (.bool false), (.str ByteArray.empty), (.str ByteArray.empty), (.str ByteArray.empty), (.bool false), (.bool false)])⟩ := by kernel_rfl
theorem ty36 : tyI Try.prog 36 = some ⟨true, 26, 112, (.agg [(.int .i64 0), (.bool false), (.int .u8 0), (.int .u8 0), (.int .u8 0), (.int .u8 0), (.int .u8 0), (.int .u8 0), (.int .u8 0), (.int .u8 0), (.int .u8 0), (.int .u8 0), (.int .u8 0), (.int .u8 0), (.int .u8 0), (.int .u8 0), (.int .u8 0), (.int .u8 0), (.int .i64 0), (.str ByteArray.empty), (.str ByteArray.empty), (.str ByteArray.empty), (.int .i64 0), (.bool false), (.bool false), (.int .i64 0)])⟩ := by kernel_rfl
theorem ty37 : tyI Try.prog 37 = some ⟨true, 5, 56, (.agg [(.str ByteArray.empty), (.str ByteArray.empty), (.str ByteArray.empty), (.bool false), (.bool false)])⟩ := by kernel_rfl
theorem ty4 : tyI Try.prog 4 = some ⟨false, 1, 1, (.bool false)⟩ := by kernel_rfl
theorem ty5 : tyI Try.prog 5 = some ⟨false, 1, 1, (.int .u8 0)⟩ := by kernel_rfl
theorem ty60 : tyI Try.prog 60 = some ⟨true, 3, 56, (.agg [(.str ByteArray.empty), (.str ByteArray.empty), .nils])⟩ := by kernel_rfl
theorem ty69 : tyI Try.prog 69 = some ⟨true, 8, 112, (.agg [(.str ByteArray.empty), (.str ByteArray.empty), (.str ByteArray.empty), (.bool false), (.bool false), (.int .i64 0), .nils, .nils])⟩ := by kernel_rfl
theorem ty9 : tyI Try.prog 9 = some ⟨false, 1, 16, (.str ByteArray.empty)⟩ := by kernel_rfl
theorem co28 : Try.prog.cellsOf 28 = 2 := by kernel_rfl
theorem co3 : Try.prog.cellsOf 3 = 1 := by kernel_rfl
theorem co32 : Try.prog.cellsOf 32 = 5 := by kernel_rfl
theorem co4 : Try.prog.cellsOf 4 = 1 := by kernel_rfl
theorem co5 : Try.prog.cellsOf 5 = 1 := by kernel_rfl
theorem co9 : Try.prog.cellsOf 9 = 1 := by kernel_rfl
theorem el22 : elemI Try.prog 22 = some (.array 16, 5) := by kernel_rfl
theorem el33 : elemI Try.prog 33 = some (.array 2, 32) := by kernel_rfl
theorem el35 : elemI Try.prog 35 = some (.slice, 9) := by kernel_rfl
theorem el65 : elemI Try.prog 65 = some (.slice, 3) := by kernel_rfl
theorem el9 : elemI Try.prog 9 = none := by kernel_rfl
theorem pl28 : plainT Try.prog 100 28 = some NKey.ls := by kernel_rfl
theorem eq28 (a b : NKey) (H : FH) : sBinH Try.prog H .eql 28 a.pv b.pv = some { v := .bool (decide (a = b)) } := sBinH_eql (sEq_of ty28 rfl pl28 (NKey.eq a b))
theorem neq28 (a b : NKey) (H : FH) : sBinH Try.prog H .neq 28 a.pv b.pv = some { v := .bool (!decide (a = b)) } := sBinH_neq (sEq_of ty28 rfl pl28 (NKey.eq a b))
theorem pl37 : plainT Try.prog 100 37 = some NId.ls := by kernel_rfl
theorem eq37 (a b : NId) (H : FH) : sBinH Try.prog H .eql 37 a.pv b.pv = some { v := .bool (decide (a = b)) } := sBinH_eql (sEq_of ty37 rfl pl37 (NId.eq a b))
theorem neq37 (a b : NId) (H : FH) : sBinH Try.prog H .neq 37 a.pv b.pv = some { v := .bool (!decide (a = b)) } := sBinH_neq (sEq_of ty37 rfl pl37 (NId.eq a b))
theorem eq4 (a b : Bool) (H : FH) : sBinH Try.prog H .eql 4 (.bool a) (.bool b) = some { v := .bool (a == b) } := sBinH_beq Try.underlying4 a b
theorem neq4 (a b : Bool) (H : FH) : sBinH Try.prog H .neq 4 (.bool a) (.bool b) = some { v := .bool (!(a == b)) } := sBinH_bne Try.underlying4 a b
theorem fl24_0 : fldI Try.prog 24 0 = some (0, 4) := by kernel_rfl
theorem fl24_1 : fldI Try.prog 24 1 = some (1, 22) := by kernel_rfl
theorem fl26_0 : fldI Try.prog 26 0 = some (0, 24) := by kernel_rfl
theorem fl26_1 : fldI Try.prog 26 1 = some (17, 3) := by kernel_rfl
theorem fl28_0 : fldI Try.prog 28 0 = some (0, 9) := by kernel_rfl
theorem fl28_1 : fldI Try.prog 28 1 = some (1, 9) := by kernel_rfl
theorem fl30_0 : fldI Try.prog 30 0 = some (0, 3) := by kernel_rfl
theorem fl30_1 : fldI Try.prog 30 1 = some (1, 26) := by kernel_rfl
theorem fl30_2 : fldI Try.prog 30 2 = some (19, 28) := by kernel_rfl
theorem fl30_3 : fldI Try.prog 30 3 = some (21, 9) := by kernel_rfl
theorem fl30_4 : fldI Try.prog 30 4 = some (22, 3) := by kernel_rfl
theorem fl30_5 : fldI Try.prog 30 5 = some (23, 4) := by kernel_rfl
theorem fl30_6 : fldI Try.prog 30 6 = some (24, 4) := by kernel_rfl
theorem fl30_7 : fldI Try.prog 30 7 = some (25, 3) := by kernel_rfl
theorem fl32_0 : fldI Try.prog 32 0 = some (0, 28) := by kernel_rfl
theorem fl32_1 : fldI Try.prog 32 1 = some (2, 9) := by kernel_rfl
theorem fl32_2 : fldI Try.prog 32 2 = some (3, 4) := by kernel_rfl
theorem fl32_3 : fldI Try.prog 32 3 = some (4, 4) := by kernel_rfl
theorem fl36_0 : fldI Try.prog 36 0 = some (0, 3) := by kernel_rfl
theorem fl36_1 : fldI Try.prog 36 1 = some (1, 26) := by kernel_rfl
theorem fl36_2 : fldI Try.prog 36 2 = some (19, 28) := by kernel_rfl
theorem fl36_3 : fldI Try.prog 36 3 = some (21, 9) := by kernel_rfl
theorem fl36_4 : fldI Try.prog 36 4 = some (22, 3) := by kernel_rfl
theorem fl36_5 : fldI Try.prog 36 5 = some (23, 4) := by kernel_rfl
theorem fl36_6 : fldI Try.prog 36 6 = some (24, 4) := by kernel_rfl
theorem fl36_7 : fldI Try.prog 36 7 = some (25, 3) := by kernel_rfl
theorem fl37_0 : fldI Try.prog 37 0 = some (0, 28) := by kernel_rfl
theorem fl37_1 : fldI Try.prog 37 1 = some (2, 9) := by kernel_rfl
theorem fl37_2 : fldI Try.prog 37 2 = some (3, 4) := by kernel_rfl
theorem fl37_3 : fldI Try.prog 37 3 = some (4, 4) := by kernel_rfl
theorem fl60_0 : fldI Try.prog 60 0 = some (0, 28) := by kernel_rfl
theorem fl69_0 : fldI Try.prog 69 0 = some (0, 32) := by kernel_rfl
theorem is9 : sLen.isStr Try.prog 9 = true := by kernel_rfl
theorem st32 : sBuild.isStruct Try.prog 32 = true := by kernel_rfl
theorem st37 : sBuild.isStruct Try.prog 37 = true := by kernel_rfl
theorem en7 : Enters Try.prog 7 := fun a w => Try.call7 a w
theorem en8 : Enters Try.prog 8 := fun a w => Try.call8 a w
theorem en9 : Enters Try.prog 9 := fun a w => Try.call9 a w
theorem en10 : Enters Try.prog 10 := fun a w => Try.call10 a w
theorem en11 : Enters Try.prog 11 := fun a w => Try.call11 a w
theorem en12 : Enters Try.prog 12 := fun a w => Try.call12 a w
theorem en13 : Enters Try.prog 13 := fun a w => Try.call13 a w
theorem en14 : Enters Try.prog 14 := fun a w => Try.call14 a w
theorem en29 : Enters Try.prog 29 := fun a w => Try.call29 a w
theorem en30 : Enters Try.prog 30 := fun a w => Try.call30 a w
theorem en31 : Enters Try.prog 31 := fun a w => Try.call31 a w
theorem en32 : Enters Try.prog 32 := fun a w => Try.call32 a w
theorem en33 : Enters Try.prog 33 := fun a w => Try.call33 a w
theorem en34 : Enters Try.prog 34 := fun a w => Try.call34 a w
theorem en35 : Enters Try.prog 35 := fun a w => Try.call35 a w
theorem en36 : Enters Try.prog 36 := fun a w => Try.call36 a w
theorem en37 : Enters Try.prog 37 := fun a w => Try.call37 a w
theorem en38 : Enters Try.prog 38 := fun a w => Try.call38 a w
theorem en39 : Enters Try.prog 39 := fun a w => Try.call39 a w
theorem en40 : Enters Try.prog 40 := fun a w => Try.call40 a w
theorem en62 : Enters Try.prog 62 := fun a w => Try.call62 a w
theorem en63 : Enters Try.prog 63 := fun a w => Try.call63 a w
theorem en64 : Enters Try.prog 64 := fun a w => Try.call64 a w
theorem en65 : Enters Try.prog 65 := fun a w => Try.call65 a w
theorem en66 : Enters Try.prog 66 := fun a w => Try.call66 a w
theorem en80 : Enters Try.prog 80 := fun a w => Try.call80 a w
theorem en89 : Enters Try.prog 89 := fun a w => Try.call89 a w
theorem x93 (args : Array Value) (w : World) : (callFunc 93 args).run Try.prog w = ((Extern.BytealgCompare.compare args).run Try.prog w).andThen fun v w' => .ok (.value v) w' :=
  run_callFunc_extern Try.func93 (by decide) rfl (by kernel_rfl) (by kernel_rfl) args w
theorem xok : XOK Try.prog [(93, cmpX)] := .cons (cmpX_ok x93) (.nil _)
theorem alive_pf : PFun Try.prog 6 [] (.bool true) ∧ Enters Try.prog 6 := PFun.of_ev xok (by kernel_rfl) rfl
end Pv
