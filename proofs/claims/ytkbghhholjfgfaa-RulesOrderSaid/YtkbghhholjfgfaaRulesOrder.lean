/- The law linkboy.RulesOrder of this seat holds for every input. -/
import Derived.Test.YtkbghhholjfgfaaRows
import Derived.Test.YtkbghhholjfgfaaPv27
import Derived.Test.YtkbghhholjfgfaaG1
import Derived.WalkKit
import Derived.ProofKit
import Derived.OpenShut
set_option linter.unusedSimpArgs false
set_option linter.unusedVariables false
set_option maxRecDepth 100000
namespace Go.Proofs.Ytkbghhholjfgfaa.rulesOrder
open Go Pv Go.ChangeShapes Go.WideShapes Go.ChangeAt Go.RowKit

theorem own : ownKnob Try.prog.godebug = none := by kernel_rfl
theorem rd3 : Rd Try.prog 3 Int (fun b => [.int .i64 b]) := (Rd.int Try.underlying3).map (·.1) fun _ => rfl
theorem rd4 : Rd Try.prog 4 Bool (fun b => [.bool b]) := Rd.bool Try.underlying4
theorem rd5 : Rd Try.prog 5 UInt8 (fun b => [.int .u8 b.toNat]) := (Rd.int Try.underlying5).map (fun n => UInt8.ofNat n.1.toNat) u8_cs
theorem rco5 : Try.prog.cellsOf 5 = 1 := by kernel_rfl
theorem rco22 : Try.prog.cellsOf 22 = 16 := by kernel_rfl
theorem rd22 : Rd Try.prog 22 (Vector UInt8 16) (pvB) := by
  have h := Rd.array Try.underlying22 rco5 rco22 rd5
  exact h.map (fun x => x) (fun x => by exact pvB_of x)
theorem rco4 : Try.prog.cellsOf 4 = 1 := by kernel_rfl
theorem rco24 : Try.prog.cellsOf 24 = 17 := by kernel_rfl
theorem rd24 : Rd Try.prog 24 NAddr NAddr.cs := by
  have h := Rd.struct Try.underlying24 rco24 (RdF.cons (off := 0) (n := 1) (m := 16) rd4 rfl rco4 (RdF.cons (off := 1) (n := 16) (m := 0) rd22 rfl rco22 (RdF.nil 17)))
  exact h.map (fun x => ⟨x.1, x.2.1⟩) (fun x => by simp [NAddr.cs])
theorem rco3 : Try.prog.cellsOf 3 = 1 := by kernel_rfl
theorem rco26 : Try.prog.cellsOf 26 = 18 := by kernel_rfl
theorem rd26 : Rd Try.prog 26 NPoint NPoint.cs := by
  have h := Rd.struct Try.underlying26 rco26 (RdF.cons (off := 0) (n := 17) (m := 1) rd24 rfl rco24 (RdF.cons (off := 17) (n := 1) (m := 0) rd3 rfl rco3 (RdF.nil 18)))
  exact h.map (fun x => ⟨x.1, x.2.1⟩) (fun x => by simp [NPoint.cs])
theorem rd9 : Rd Try.prog 9 ByteArray (fun b => [.str b]) := (Rd.str Try.underlying9).map (·.1) fun _ => rfl
theorem rco9 : Try.prog.cellsOf 9 = 1 := by kernel_rfl
theorem rco28 : Try.prog.cellsOf 28 = 2 := by kernel_rfl
theorem rd28 : Rd Try.prog 28 NKey NKey.cs := by
  have h := Rd.struct Try.underlying28 rco28 (RdF.cons (off := 0) (n := 1) (m := 1) rd9 rfl rco9 (RdF.cons (off := 1) (n := 1) (m := 0) rd9 rfl rco9 (RdF.nil 2)))
  exact h.map (fun x => ⟨x.1, x.2.1⟩) (fun x => by simp [NKey.cs])
theorem rco30 : Try.prog.cellsOf 30 = 26 := by kernel_rfl
theorem rd30 : Rd Try.prog 30 NFront NFront.cs := by
  have h := Rd.struct Try.underlying30 rco30 (RdF.cons (off := 0) (n := 1) (m := 25) rd3 rfl rco3 (RdF.cons (off := 1) (n := 18) (m := 7) rd26 rfl rco26 (RdF.cons (off := 19) (n := 2) (m := 5) rd28 rfl rco28 (RdF.cons (off := 21) (n := 1) (m := 4) rd9 rfl rco9 (RdF.cons (off := 22) (n := 1) (m := 3) rd3 rfl rco3 (RdF.cons (off := 23) (n := 1) (m := 2) rd4 rfl rco4 (RdF.cons (off := 24) (n := 1) (m := 1) rd4 rfl rco4 (RdF.cons (off := 25) (n := 1) (m := 0) rd3 rfl rco3 (RdF.nil 26)))))))))
  exact h.map (fun x => ⟨x.1, x.2.1, x.2.2.1, x.2.2.2.1, x.2.2.2.2.1, x.2.2.2.2.2.1, x.2.2.2.2.2.2.1, x.2.2.2.2.2.2.2.1⟩) (fun x => by simp [NFront.cs])
theorem rco32 : Try.prog.cellsOf 32 = 5 := by kernel_rfl
theorem rd32 : Rd Try.prog 32 NId NId.cs := by
  have h := Rd.struct Try.underlying32 rco32 (RdF.cons (off := 0) (n := 2) (m := 3) rd28 rfl rco28 (RdF.cons (off := 2) (n := 1) (m := 2) rd9 rfl rco9 (RdF.cons (off := 3) (n := 1) (m := 1) rd4 rfl rco4 (RdF.cons (off := 4) (n := 1) (m := 0) rd4 rfl rco4 (RdF.nil 5)))))
  exact h.map (fun x => ⟨x.1, x.2.1, x.2.2.1, x.2.2.2.1⟩) (fun x => by simp [NId.cs])
theorem rco33 : Try.prog.cellsOf 33 = 10 := by kernel_rfl
theorem rd33 : Rd Try.prog 33 (NId × NId) (fun p => twoCs p.1 p.2) := by
  have h := Rd.array Try.underlying33 rco32 rco33 rd32
  exact h.map (fun x => (x[0], x[1])) (fun x => by exact two_of x)
theorem reads : RdAll Try.prog Try.f3.params.toList (NFront × NFront × NId × NId) (fun x => [x.1.pv, x.2.1.pv, twoPv x.2.2.1 x.2.2.2]) :=
  RdAll.map (RdAll.agg rd30 (.inl ⟨_, Try.underlying30⟩) (RdAll.agg rd30 (.inl ⟨_, Try.underlying30⟩) (RdAll.agg rd33 (.inr ⟨_, _, Try.underlying33⟩) RdAll.nil))) (fun x => (x.1, x.2.1, x.2.2.1.1, x.2.2.1.2)) (fun x => by rfl)
theorem laid : laidOutB Try.prog = true := by kernel_rfl

set_option maxRecDepth 100000 in
theorem lifted (os : Os) (started : os.Started) (H : Type) (enc : TypeId × Value → H) :
    ReturnsInHanded {} Try.checked os 3 .any (Rows.rulesOrderSpec.pre6 enc Try.prog Try.f3 Rows.rulesOrderRow.domain false) (Rows.rulesOrderSpec.post enc Try.prog Try.f3 false true false false) := by
  refine returnsInHanded_of_change (C := Try.checked) own started (by kernel_rfl) Try.func3
    (ChangeSpec.witness6 (enc := enc) (C := Try.checked) false ⟨#[], #[(.agg #[(.int .i64 0), (.bool false), (.int .u8 0), (.int .u8 0), (.int .u8 0), (.int .u8 0), (.int .u8 0), (.int .u8 0), (.int .u8 0), (.int .u8 0), (.int .u8 0), (.int .u8 0), (.int .u8 0), (.int .u8 0), (.int .u8 0), (.int .u8 0), (.int .u8 0), (.int .u8 0), (.int .i64 0), (.string ByteArray.empty), (.string ByteArray.empty), (.string ByteArray.empty), (.int .i64 0), (.bool false), (.bool false), (.int .i64 0)]), (.agg #[(.int .i64 0), (.bool false), (.int .u8 0), (.int .u8 0), (.int .u8 0), (.int .u8 0), (.int .u8 0), (.int .u8 0), (.int .u8 0), (.int .u8 0), (.int .u8 0), (.int .u8 0), (.int .u8 0), (.int .u8 0), (.int .u8 0), (.int .u8 0), (.int .u8 0), (.int .u8 0), (.int .i64 0), (.string ByteArray.empty), (.string ByteArray.empty), (.string ByteArray.empty), (.int .i64 0), (.bool false), (.bool false), (.int .i64 0)]), (.agg #[(.string ByteArray.empty), (.string ByteArray.empty), (.string ByteArray.empty), (.bool false), (.bool false), (.string ByteArray.empty), (.string ByteArray.empty), (.string ByteArray.empty), (.bool false), (.bool false)])], []⟩ 8 (by kernel_rfl) (by kernel_rfl) (by kernel_rfl) (by kernel_rfl)) ?_
  intro W base args ds gs before hval hW _ _
  exact law_true (P := Try.prog) (fn := Try.f3) laid (by kernel_rfl) rfl Try.underlying4 rfl (fun ds h => by
    match ds, h with
    | [d0, d1, d2], _ => rfl) reads (fun x => order_pf x.1 x.2.1 x.2.2.1 x.2.2.2) W base args ds gs before hval hW

theorem over : Rows.rulesOrderRow.holds Try.pinned (OpenSpec.ofChange Rows.rulesOrderSpec) :=
  OpenClaim.holds_of_wide 3 Try.f3 rfl rfl rfl rfl rfl rfl rfl ⟨rfl, rfl, rfl, rfl, rfl⟩ rfl rfl rfl rfl rfl (by kernel_rfl) Try.func3 (by kernel_rfl)
    (of_decide_eq_true (by kernel_rfl)) (by unfold Func.isWrapper; first | (rw [if_pos (by decide +kernel)]; kernel_rfl) | (rw [if_neg (by decide +kernel)]; exact ⟨rfl, rfl⟩))
    (fun os started H enc _ => lifted os started H enc)

theorem proved : Rows.RulesOrderSaid :=
  over
#print axioms proved
end Go.Proofs.Ytkbghhholjfgfaa.rulesOrder
