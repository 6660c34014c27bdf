/- The law linkboy.RulesJoin of this seat holds for every input. -/
import Derived.Test.YtkbghhholjfgfaaRows
import Derived.Test.YtkbghhholjfgfaaB1
import Derived.Test.YtkbghhholjfgfaaG12
import Derived.WalkKit
import Derived.ProofKit
import Derived.OpenShut
set_option linter.unusedSimpArgs false
set_option linter.unusedVariables false
set_option maxRecDepth 100000
namespace Go.Proofs.Ytkbghhholjfgfaa.rulesJoin
open Go Pv Go.ChangeShapes Go.WideShapes Go.ChangeAt Go.RowKit

theorem own : ownKnob Try.prog.godebug = none := by kernel_rfl
theorem rd3 : Rd Try.prog 3 Int (fun b => [.int .i64 b]) := (Rd.int Try.underlying3).map (·.1) fun _ => rfl
theorem rd4 : Rd Try.prog 4 Bool (fun b => [.bool b]) := Rd.bool Try.underlying4
theorem rd5 : Rd Try.prog 5 UInt8 (fun b => [.int .u8 b.toNat]) := (Rd.int Try.underlying5).map (fun n => UInt8.ofNat n.1.toNat) u8_cs
theorem rco5 : Try.prog.cellsOf 5 = 1 := by kernel_rfl
theorem rco22 : Try.prog.cellsOf 22 = 16 := by kernel_rfl
theorem rd22 : Rd Try.prog 22 (Vector UInt8 16) (pvB) := by
  have h := Rd.array Try.underlying22 rco5 rco22 rd5
  exact h.map (fun x => x) (fun x => by exact pvB_of x)
theorem rco4 : Try.prog.cellsOf 4 = 1 := by kernel_rfl
theorem rco24 : Try.prog.cellsOf 24 = 17 := by kernel_rfl
theorem rd24 : Rd Try.prog 24 NAddr NAddr.cs := by
  have h := Rd.struct Try.underlying24 rco24 (RdF.cons (off := 0) (n := 1) (m := 16) rd4 rfl rco4 (RdF.cons (off := 1) (n := 16) (m := 0) rd22 rfl rco22 (RdF.nil 17)))
  exact h.map (fun x => ⟨x.1, x.2.1⟩) (fun x => by simp [NAddr.cs])
theorem rco3 : Try.prog.cellsOf 3 = 1 := by kernel_rfl
theorem rco26 : Try.prog.cellsOf 26 = 18 := by kernel_rfl
theorem rd26 : Rd Try.prog 26 NPoint NPoint.cs := by
  have h := Rd.struct Try.underlying26 rco26 (RdF.cons (off := 0) (n := 17) (m := 1) rd24 rfl rco24 (RdF.cons (off := 17) (n := 1) (m := 0) rd3 rfl rco3 (RdF.nil 18)))
  exact h.map (fun x => ⟨x.1, x.2.1⟩) (fun x => by simp [NPoint.cs])
theorem rd9 : Rd Try.prog 9 ByteArray (fun b => [.str b]) := (Rd.str Try.underlying9).map (·.1) fun _ => rfl
theorem rco9 : Try.prog.cellsOf 9 = 1 := by kernel_rfl
theorem rco28 : Try.prog.cellsOf 28 = 2 := by kernel_rfl
theorem rd28 : Rd Try.prog 28 NKey NKey.cs := by
  have h := Rd.struct Try.underlying28 rco28 (RdF.cons (off := 0) (n := 1) (m := 1) rd9 rfl rco9 (RdF.cons (off := 1) (n := 1) (m := 0) rd9 rfl rco9 (RdF.nil 2)))
  exact h.map (fun x => ⟨x.1, x.2.1⟩) (fun x => by simp [NKey.cs])
theorem rco30 : Try.prog.cellsOf 30 = 26 := by kernel_rfl
theorem rd30 : Rd Try.prog 30 NFront NFront.cs := by
  have h := Rd.struct Try.underlying30 rco30 (RdF.cons (off := 0) (n := 1) (m := 25) rd3 rfl rco3 (RdF.cons (off := 1) (n := 18) (m := 7) rd26 rfl rco26 (RdF.cons (off := 19) (n := 2) (m := 5) rd28 rfl rco28 (RdF.cons (off := 21) (n := 1) (m := 4) rd9 rfl rco9 (RdF.cons (off := 22) (n := 1) (m := 3) rd3 rfl rco3 (RdF.cons (off := 23) (n := 1) (m := 2) rd4 rfl rco4 (RdF.cons (off := 24) (n := 1) (m := 1) rd4 rfl rco4 (RdF.cons (off := 25) (n := 1) (m := 0) rd3 rfl rco3 (RdF.nil 26)))))))))
  exact h.map (fun x => ⟨x.1, x.2.1, x.2.2.1, x.2.2.2.1, x.2.2.2.2.1, x.2.2.2.2.2.1, x.2.2.2.2.2.2.1, x.2.2.2.2.2.2.2.1⟩) (fun x => by simp [NFront.cs])
theorem rd46 : Rd Try.prog 46 (List NFront) (fun l => [.sl 26 (l.map (NFront.pv))]) := (Rd.slice Try.underlying46 rco30 (by decide) rd30 (NFront.pv) (fun _ => rfl)).map (·.1) fun _ => rfl
theorem rco32 : Try.prog.cellsOf 32 = 5 := by kernel_rfl
theorem rd32 : Rd Try.prog 32 NId NId.cs := by
  have h := Rd.struct Try.underlying32 rco32 (RdF.cons (off := 0) (n := 2) (m := 3) rd28 rfl rco28 (RdF.cons (off := 2) (n := 1) (m := 2) rd9 rfl rco9 (RdF.cons (off := 3) (n := 1) (m := 1) rd4 rfl rco4 (RdF.cons (off := 4) (n := 1) (m := 0) rd4 rfl rco4 (RdF.nil 5)))))
  exact h.map (fun x => ⟨x.1, x.2.1, x.2.2.1, x.2.2.2.1⟩) (fun x => by simp [NId.cs])
theorem rd64 : Rd Try.prog 64 (List NPoint) (fun l => [.sl 18 (l.map (NPoint.pv))]) := (Rd.slice Try.underlying64 rco26 (by decide) rd26 (NPoint.pv) (fun _ => rfl)).map (·.1) fun _ => rfl
theorem rd65 : Rd Try.prog 65 (List Int) (fun l => [.sl 1 (l.map (PV.int .i64))]) := (Rd.slice Try.underlying65 rco3 (by decide) rd3 (PV.int .i64) (fun _ => rfl)).map (·.1) fun _ => rfl
theorem rco64 : Try.prog.cellsOf 64 = 1 := by kernel_rfl
theorem rco65 : Try.prog.cellsOf 65 = 1 := by kernel_rfl
theorem rco67 : Try.prog.cellsOf 67 = 3 := by kernel_rfl
theorem rd67 : Rd Try.prog 67 NTable NTable.cs := by
  have h := Rd.struct Try.underlying67 rco67 (RdF.cons (off := 0) (n := 1) (m := 2) rd3 rfl rco3 (RdF.cons (off := 1) (n := 1) (m := 1) rd64 rfl rco64 (RdF.cons (off := 2) (n := 1) (m := 0) rd65 rfl rco65 (RdF.nil 3))))
  exact h.map (fun x => ⟨x.1, x.2.1, x.2.2.1⟩) (fun x => by simp [NTable.cs])
theorem rco69 : Try.prog.cellsOf 69 = 8 := by kernel_rfl
theorem rd69 : Rd Try.prog 69 NGroup NGroup.cs := by
  have h := Rd.struct Try.underlying69 rco69 (RdF.cons (off := 0) (n := 5) (m := 3) rd32 rfl rco32 (RdF.cons (off := 5) (n := 3) (m := 0) rd67 rfl rco67 (RdF.nil 8)))
  exact h.map (fun x => ⟨x.1, x.2.1⟩) (fun x => by simp [NGroup.cs])
theorem rd47 : Rd Try.prog 47 (List NGroup) (fun l => [.sl 8 (l.map (NGroup.pv))]) := (Rd.slice Try.underlying47 rco69 (by decide) rd69 (NGroup.pv) (fun _ => rfl)).map (·.1) fun _ => rfl
theorem rco98 : Try.prog.cellsOf 98 = 18 := by kernel_rfl
theorem rd98 : Rd Try.prog 98 NCidr NCidr.cs := by
  have h := Rd.struct Try.underlying98 rco98 (RdF.cons (off := 0) (n := 17) (m := 1) rd24 rfl rco24 (RdF.cons (off := 17) (n := 1) (m := 0) rd3 rfl rco3 (RdF.nil 18)))
  exact h.map (fun x => ⟨x.1, x.2.1⟩) (fun x => by simp [NCidr.cs])
theorem rd58 : Rd Try.prog 58 (List NCidr) (fun l => [.sl 18 (l.map (NCidr.pv))]) := (Rd.slice Try.underlying58 rco98 (by decide) rd98 (NCidr.pv) (fun _ => rfl)).map (·.1) fun _ => rfl
theorem rco58 : Try.prog.cellsOf 58 = 1 := by kernel_rfl
theorem rco60 : Try.prog.cellsOf 60 = 3 := by kernel_rfl
theorem rd60 : Rd Try.prog 60 NFilter NFilter.cs := by
  have h := Rd.struct Try.underlying60 rco60 (RdF.cons (off := 0) (n := 2) (m := 1) rd28 rfl rco28 (RdF.cons (off := 2) (n := 1) (m := 0) rd58 rfl rco58 (RdF.nil 3)))
  exact h.map (fun x => ⟨x.1, x.2.1⟩) (fun x => by simp [NFilter.cs])
theorem rd48 : Rd Try.prog 48 (List NFilter) (fun l => [.sl 3 (l.map (NFilter.pv))]) := (Rd.slice Try.underlying48 rco60 (by decide) rd60 (NFilter.pv) (fun _ => rfl)).map (·.1) fun _ => rfl
theorem rco46 : Try.prog.cellsOf 46 = 1 := by kernel_rfl
theorem rco47 : Try.prog.cellsOf 47 = 1 := by kernel_rfl
theorem rco48 : Try.prog.cellsOf 48 = 1 := by kernel_rfl
theorem rco50 : Try.prog.cellsOf 50 = 3 := by kernel_rfl
theorem rd50 : Rd Try.prog 50 NRows NRows.cs := by
  have h := Rd.struct Try.underlying50 rco50 (RdF.cons (off := 0) (n := 1) (m := 2) rd46 rfl rco46 (RdF.cons (off := 1) (n := 1) (m := 1) rd47 rfl rco47 (RdF.cons (off := 2) (n := 1) (m := 0) rd48 rfl rco48 (RdF.nil 3))))
  exact h.map (fun x => ⟨x.1, x.2.1, x.2.2.1⟩) (fun x => by simp [NRows.cs])
theorem reads : RdAll Try.prog Try.f4.params.toList (NRows × NRows) (fun x => [x.1.pv, x.2.pv]) :=
  RdAll.map (RdAll.agg rd50 (.inl ⟨_, Try.underlying50⟩) (RdAll.agg rd50 (.inl ⟨_, Try.underlying50⟩) RdAll.nil)) (fun x => (x.1, x.2.1)) (fun x => by rfl)
theorem laid : laidOutB Try.prog = true := by kernel_rfl

set_option maxRecDepth 100000 in
theorem lifted (os : Os) (started : os.Started) (H : Type) (enc : TypeId × Value → H) :
    ReturnsInHanded {} Try.checked os 4 .any (Rows.rulesJoinSpec.pre6 enc Try.prog Try.f4 Rows.rulesJoinRow.domain false) (Rows.rulesJoinSpec.post enc Try.prog Try.f4 false true false false) := by
  refine returnsInHanded_of_change (C := Try.checked) own started (by kernel_rfl) Try.func4
    (ChangeSpec.witness6 (enc := enc) (C := Try.checked) false ⟨#[], #[(.agg #[.slice none 0 0, .slice none 0 0, .slice none 0 0]), (.agg #[.slice none 0 0, .slice none 0 0, .slice none 0 0])], []⟩ 8 (by kernel_rfl) (by kernel_rfl) (by kernel_rfl) (by kernel_rfl)) ?_
  intro W base args ds gs before hval hW _ _
  exact law_true (P := Try.prog) (fn := Try.f4) laid (by kernel_rfl) rfl Try.underlying4 rfl (fun ds h => by
    match ds, h with
    | [d0, d1], _ => rfl) reads (fun x => joinLaw_pf x.1 x.2) W base args ds gs before hval hW

theorem over : Rows.rulesJoinRow.holds Try.pinned (OpenSpec.ofChange Rows.rulesJoinSpec) :=
  OpenClaim.holds_of_wide 4 Try.f4 rfl rfl rfl rfl rfl rfl rfl ⟨rfl, rfl, rfl, rfl, rfl⟩ rfl rfl rfl rfl rfl (by kernel_rfl) Try.func4 (by kernel_rfl)
    (of_decide_eq_true (by kernel_rfl)) (by unfold Func.isWrapper; first | (rw [if_pos (by decide +kernel)]; kernel_rfl) | (rw [if_neg (by decide +kernel)]; exact ⟨rfl, rfl⟩))
    (fun os started H enc _ => lifted os started H enc)

theorem proved : Rows.RulesJoinSaid :=
  over
#print axioms proved
end Go.Proofs.Ytkbghhholjfgfaa.rulesJoin
