import Derived.Test.YtkbghhholjfgfaaPv22
set_option linter.unusedSimpArgs false
set_option linter.unusedVariables false
namespace Pv
open Go

section
variable (n : Nat)
@[simp] theorem ld_int (k i) : loadE false n (.int k i) 0 = some (.int k i) := rfl
@[simp] theorem ld_bool (b) : loadE false n (.bool b) 0 = some (.bool b) := rfl
@[simp] theorem ld_str (s) : loadE false n (.str s) 0 = some (.str s) := rfl
@[simp] theorem ld_sl (s xs) : loadE false n (.sl s xs) 0 = some (.sl s xs) := rfl
@[simp] theorem ld_bsl (b g s i k) : loadE false n (.bsl b g s i k) 0 = some (.bsl b g s i k) := rfl
@[simp] theorem ld_nils : loadE false n .nils 0 = some .nils := rfl
@[simp] theorem ld_ptr (b g s i k) : loadE false n (.ptr b g s i k) 0 = some (.ptr b g s i k) := rfl
@[simp] theorem ld_any : loadE false n .any 0 = some .any := rfl
@[simp] theorem ld_agg_f (cs o) : loadE false n (.agg cs) o = cs[o]? := rfl
@[simp] theorem ld_agg_t (cs o) : loadE true n (.agg cs) o = if o + n ≤ cs.length then some (.agg ((cs.drop o).take n)) else none := rfl
end
@[simp] theorem ok_int (k i) : okElem (.int k i) 1 = true := rfl
@[simp] theorem ok_bool (b) : okElem (.bool b) 1 = true := rfl
@[simp] theorem ok_str (s) : okElem (.str s) 1 = true := rfl
@[simp] theorem ok_sl (s xs) : okElem (.sl s xs) 1 = true := rfl
@[simp] theorem ok_bsl (b g s i k) : okElem (.bsl b g s i k) 1 = true := rfl
@[simp] theorem ok_nils : okElem .nils 1 = true := rfl
@[simp] theorem ok_ptr (b g s i k) : okElem (.ptr b g s i k) 1 = true := rfl
@[simp] theorem ok_nili : okElem .nili 1 = true := rfl
@[simp] theorem ok_agg (cs n) : okElem (.agg cs) n = (cs.length == n && cs.all PV.cellB) := rfl
@[simp] theorem cb_int (k i) : (PV.int k i).cellB = true := rfl
@[simp] theorem cb_bool (b) : (PV.bool b).cellB = true := rfl
@[simp] theorem cb_str (s) : (PV.str s).cellB = true := rfl
@[simp] theorem cb_sl (s xs) : (PV.sl s xs).cellB = true := rfl
@[simp] theorem cb_bsl (b g s i k) : (PV.bsl b g s i k).cellB = true := rfl
@[simp] theorem cb_nils : (PV.nils).cellB = true := rfl
@[simp] theorem cb_ptr (b g s i k) : (PV.ptr b g s i k).cellB = true := rfl
@[simp] theorem cb_nili : (PV.nili).cellB = true := rfl
@[simp] theorem cl_int (k i) : (PV.int k i).closed = true := rfl
@[simp] theorem cl_bool (b) : (PV.bool b).closed = true := rfl
@[simp] theorem cl_str (s) : (PV.str s).closed = true := rfl
@[simp] theorem cl_sl (s xs) : (PV.sl s xs).closed = true := rfl
@[simp] theorem cl_nils : (PV.nils).closed = true := rfl
@[simp] theorem cl_clo (f) : (PV.clo f [] []).closed = true := rfl
@[simp] theorem cells_int (k i) : (PV.int k i).cells = [.int k i] := rfl
@[simp] theorem cells_bool (b) : (PV.bool b).cells = [.bool b] := rfl
@[simp] theorem cells_str (s) : (PV.str s).cells = [.str s] := rfl
@[simp] theorem cells_sl (s xs) : (PV.sl s xs).cells = [.sl s xs] := rfl
@[simp] theorem cells_bsl (b g s i k) : (PV.bsl b g s i k).cells = [.bsl b g s i k] := rfl
@[simp] theorem cells_nils : (PV.nils).cells = [.nils] := rfl
@[simp] theorem cells_ptr (b g s i k) : (PV.ptr b g s i k).cells = [.ptr b g s i k] := rfl
@[simp] theorem cells_agg (cs) : (PV.agg cs).cells = cs := rfl
@[simp] theorem NAddr.cells (a : NAddr) : a.pv.cells = a.cs := rfl
@[simp] theorem NCidr.cells (a : NCidr) : a.pv.cells = a.cs := rfl
@[simp] theorem NPoint.cells (a : NPoint) : a.pv.cells = a.cs := rfl
@[simp] theorem NKey.cells (a : NKey) : a.pv.cells = a.cs := rfl
@[simp] theorem NFront.cells (a : NFront) : a.pv.cells = a.cs := rfl
@[simp] theorem NId.cells (a : NId) : a.pv.cells = a.cs := rfl
@[simp] theorem NFilter.cells (a : NFilter) : a.pv.cells = a.cs := rfl
@[simp] theorem NTable.cells (a : NTable) : a.pv.cells = a.cs := rfl
@[simp] theorem NGroup.cells (a : NGroup) : a.pv.cells = a.cs := rfl
@[simp] theorem NRows.cells (a : NRows) : a.pv.cells = a.cs := rfl

theorem eqL_app {l1 l2 : List LK} {x1 x2 y1 y2 : List PV} {b1 b2 : Bool} (h1 : eqL l1 x1 y1 = some b1) (h2 : eqL l2 x2 y2 = some b2) : eqL (l1 ++ l2) (x1 ++ x2) (y1 ++ y2) = some (b1 && b2) := by
  induction l1 generalizing x1 y1 b1 with
  | nil => obtain ⟨rfl, rfl, rfl⟩ := eqL_nil h1; simpa using h2
  | cons l l1 ih =>
    obtain ⟨x, xs', y, ys', b3, b4, rfl, rfl, g1, g2, rfl⟩ := eqL_cons h1
    simp only [List.cons_append]
    rw [Bool.and_assoc]
    exact eqL_cons_mk g1 (ih g2)

theorem eqL_ints (k : IntKind) : ∀ (l m : List Int), l.length = m.length → eqL (List.replicate l.length .int) (l.map (.int k)) (m.map (.int k)) = some (decide (l = m))
  | [], [], _ => rfl
  | x :: l, y :: m, h => by
    have ih := eqL_ints k l m (by simpa using h)
    simp only [List.length_cons, List.replicate_succ, List.map_cons, eqL, if_true, ih, Option.map_some]
    by_cases hxy : x = y <;> by_cases hlm : l = m <;> simp [hxy, hlm]

theorem bytes_eq (a b : ByteArray) : (a.toList == b.toList) = decide (a = b) := by
  rw [ByteArray.toList_eq, ByteArray.toList_eq]
  obtain ⟨⟨x⟩⟩ := a
  obtain ⟨⟨y⟩⟩ := b
  by_cases h : x = y <;> simp [h]

def NAddr.ls : List LK := .bool :: List.replicate 16 .int
def NCidr.ls : List LK := NAddr.ls ++ [.int]
def NPoint.ls : List LK := NAddr.ls ++ [.int]
def NKey.ls : List LK := [.str, .str]
def NFront.ls : List LK := [.int] ++ NPoint.ls ++ NKey.ls ++ [.str, .int, .bool, .bool, .int]
def NId.ls : List LK := NKey.ls ++ [.str, .bool, .bool]

theorem eqL_bytes : ∀ (l m : List UInt8), l.length = m.length → eqL (List.replicate l.length .int) (pvBy l) (pvBy m) = some (decide (l = m))
  | [], [], _ => rfl
  | x :: l, y :: m, h => by
    have ih := eqL_bytes l m (by simpa using h)
    simp only [pvBy] at ih
    simp only [pvBy, List.length_cons, List.replicate_succ, List.map_cons, eqL, if_true, ih, Option.map_some]
    have hxy : ((x.toNat : Int) == (y.toNat : Int)) = decide (x = y) := by
      apply Bool.eq_iff_iff.2
      simp only [beq_iff_eq, decide_eq_true_eq, Int.ofNat_inj]
      exact ⟨fun h => UInt8.toNat_inj.1 h, fun h => by rw [h]⟩
    rw [hxy]
    by_cases hxy : x = y <;> by_cases hlm : l = m <;> simp [hxy, hlm]

theorem eqL_b (a b : Vector UInt8 16) : eqL (List.replicate 16 .int) (pvB a) (pvB b) = some (decide (a = b)) := by
  have h := eqL_bytes a.toList b.toList (by simp)
  simp only [Vector.length_toList] at h
  rw [pvB, pvB, h]
  congr 1
  simp [Vector.toList_inj]

theorem NAddr.eq (a b : NAddr) : eqL NAddr.ls a.cs b.cs = some (decide (a = b)) := by
  have := eqL_cons_mk (l := .bool) (x := .bool a.six) (y := .bool b.six) (b1 := a.six == b.six) (by simp [eqL]) (eqL_b a.b b.b)
  rw [show NAddr.ls = _ :: _ from rfl, NAddr.cs, NAddr.cs, this]
  congr 1
  cases a; cases b
  simp only [NAddr.mk.injEq]
  rename_i s1 b1 s2 b2
  by_cases h1 : s1 = s2 <;> by_cases h2 : b1 = b2 <;> simp [h1, h2]
theorem NCidr.eq (a b : NCidr) : eqL NCidr.ls a.cs b.cs = some (decide (a = b)) := by
  have := eqL_app (NAddr.eq a.addr b.addr) (l2 := [.int]) (x2 := [.int .i64 a.bits]) (y2 := [.int .i64 b.bits]) (b2 := a.bits == b.bits) (by simp [eqL])
  rw [NCidr.ls, NCidr.cs, NCidr.cs, this]
  congr 1
  cases a; cases b
  simp only [NCidr.mk.injEq]
  rename_i s1 b1 s2 b2
  by_cases h1 : s1 = s2 <;> by_cases h2 : b1 = b2 <;> simp [h1, h2]
theorem NPoint.eq (a b : NPoint) : eqL NPoint.ls a.cs b.cs = some (decide (a = b)) := by
  have := eqL_app (NAddr.eq a.addr b.addr) (l2 := [.int]) (x2 := [.int .i64 a.port]) (y2 := [.int .i64 b.port]) (b2 := a.port == b.port) (by simp [eqL])
  rw [NPoint.ls, NPoint.cs, NPoint.cs, this]
  congr 1
  cases a; cases b
  simp only [NPoint.mk.injEq]
  rename_i s1 b1 s2 b2
  by_cases h1 : s1 = s2 <;> by_cases h2 : b1 = b2 <;> simp [h1, h2]
theorem NKey.eq (a b : NKey) : eqL NKey.ls a.cs b.cs = some (decide (a = b)) := by
  cases a; cases b
  rename_i s1 b1 s2 b2
  simp only [NKey.ls, NKey.cs, eqL, Option.map_some, NKey.mk.injEq, bytes_eq]
  by_cases h1 : s1 = s2 <;> by_cases h2 : b1 = b2 <;> simp [h1, h2]
theorem NFront.eq (a b : NFront) : eqL NFront.ls a.cs b.cs = some (decide (a = b)) := by
  have h1 := eqL_app (eqL_app (eqL_app (l1 := [.int]) (x1 := [.int .i64 a.proto]) (y1 := [.int .i64 b.proto]) (b1 := a.proto == b.proto) (by simp [eqL]) (NPoint.eq a.point b.point)) (NKey.eq a.service b.service))
    (l2 := [.str, .int, .bool, .bool, .int]) (x2 := [.str a.name, .int .i64 a.how, .bool a.loc, .bool a.asked, .int .i64 a.ticks]) (y2 := [.str b.name, .int .i64 b.how, .bool b.loc, .bool b.asked, .int .i64 b.ticks]) rfl
  rw [NFront.ls, NFront.cs, NFront.cs, h1]
  congr 1
  cases a; cases b
  simp only [NFront.mk.injEq, bytes_eq]
  apply Bool.eq_iff_iff.2
  simp only [Bool.and_eq_true, decide_eq_true_eq, beq_iff_eq, and_assoc, and_true]
theorem NId.eq (a b : NId) : eqL NId.ls a.cs b.cs = some (decide (a = b)) := by
  have h1 := eqL_app (NKey.eq a.service b.service) (l2 := [.str, .bool, .bool]) (x2 := [.str a.name, .bool a.six, .bool a.loc]) (y2 := [.str b.name, .bool b.six, .bool b.loc]) rfl
  rw [NId.ls, NId.cs, NId.cs, h1]
  congr 1
  cases a; cases b
  simp only [NId.mk.injEq, bytes_eq]
  apply Bool.eq_iff_iff.2
  simp only [Bool.and_eq_true, decide_eq_true_eq, beq_iff_eq, and_true]

section
variable {P : Program} {t : TypeId} {ti : TI} (hti : tyI P t = some ti) (ha : ti.agg = true)
include hti ha
theorem sEq_of {ls : List LK} (hp : plainT P 100 t = some ls) {xs ys : List PV} {b : Bool} (h : eqL ls xs ys = some b) : sEq P t (.agg xs) (.agg ys) = some b := by
  simp only [sEq, hti, hp, ha, if_true, h]
end

end Pv
