import Derived.Test.YtkbghhholjfgfaaPv23
import Derived.Lib.Bytealg
import Derived.Laws.Externs
set_option linter.unusedSimpArgs false
set_option linter.unusedVariables false
namespace Pv
open Go

/-- Bytes read out of a row. -/
theorem run_loadBytes {P : Program} {w : World} {k : Nat} {cells : Array Value} {e : TypeId} {fr : Nat × Nat} (hh : w.heap[k]? = some (.cells cells e fr)) : ∀ (l : List UInt8) (off : Nat) (acc : ByteArray),
    (∀ (j : Nat) b, l[j]? = some b → cells[off + j]? = some (.int .u8 b.toNat)) → (Extern.Bytes.loadBytes ⟨k, off, none⟩ l.length acc).run P w = .ok ⟨acc.data ++ l.toArray⟩ w
  | [], off, acc, _ => by simp [Extern.Bytes.loadBytes]
  | b :: l, off, acc, h => by
    have h0 : w.cell? ⟨k, off, none⟩ = some (.int .u8 b.toNat) := by rw [cell_of_row w k off cells e fr hh]; simpa using h 0 b rfl
    have ih := run_loadBytes (P := P) hh l (off + 1) (acc.push b) (fun j b' hj => by have := h (j + 1) b' (by simpa using hj); rwa [show off + (j + 1) = off + 1 + j by omega] at this)
    have hb : ((b.toNat : Int).toNat.toUInt8) = b := by simp
    simp only [List.length_cons, Extern.Bytes.loadBytes, Sem.run_bind, run_load, h0, Result.andThen_ok, Addr.add_lit, hb, ih]
    congr 1
    obtain ⟨⟨acc⟩⟩ := acc
    simp [ByteArray.push]

theorem run_bytesOf {P : Program} {c : Cx} {cl : Bool} {l : List UInt8} {v : Value} (h : Rel c cl (.sl 1 (pvBy l)) v) : (Extern.Bytes.bytesOf v).run P c.w = .ok ⟨l.toArray⟩ c.w := by
  generalize hp : PV.sl 1 (pvBy l) = p at h
  cases h with
  | slnil s a =>
    simp only [PV.sl.injEq] at hp
    have : l = [] := by cases l with | nil => rfl | cons x t => simp [pvBy] at hp
    subst this
    cases a <;> rfl
  | sl k off cap cells e fr hA hh hz hcap hs h1 h2 =>
    simp only [PV.sl.injEq] at hp
    obtain ⟨rfl, rfl⟩ := hp
    have hl : (pvBy l).length = l.length := by simp [pvBy]
    have hr := run_loadBytes (P := P) hh l off .empty (fun j b hj => by
      have hx : (pvBy l)[j]? = some (.int .u8 b.toNat) := by simp [pvBy, hj]
      have hlt : off + j < cells.size := by
        have := (List.getElem?_eq_some_iff.1 hj).1; omega
      have := h2 j _ 0 (.int .u8 b.toNat) _ hx (by rfl) (by rw [Nat.mul_one, Nat.add_zero]; exact Array.getElem?_eq_getElem hlt)
      rw [Array.getElem?_eq_getElem hlt, this.int_inv])
    simp only [Extern.Bytes.bytesOf, hl]
    rw [hr]
    simp [ByteArray.empty, ByteArray.emptyWithCapacity]
    first | done | rfl
  | _ => simp at hp

/-- internal/bytealg.Compare, the model's own entry. -/
theorem sem_cmpBytes {P : Program} {f : FuncId} (hf : ∀ args w, (callFunc f args).run P w = ((Extern.BytealgCompare.compare args).run P w).andThen fun v w' => .ok (.value v) w') (l m : List UInt8) (H : FH) :
    CallSem P f [.sl 1 (pvBy l), .sl 1 (pvBy m)] H { v := .int .i64 (Lib.compareBytes l m) } := by
  intro H' _ c vs hs ha
  match vs, ha with
  | [a, b], ha =>
    have r1 := run_bytesOf (P := P) (ha.2 0 _ a rfl rfl)
    have r2 := run_bytesOf (P := P) (ha.2 1 _ b rfl rfl)
    have : (callFunc f [a, b].toArray).run P c.w = .ok (.value (.int .i64 (Lib.compareBytes l m))) c.w := by
      rw [hf]
      change ((Sem.run P (do pure (goInt (Extern.BytealgCompare.cmp (← Extern.Bytes.bytesOf a) (← Extern.Bytes.bytesOf b)))) c.w).andThen _) = _
      simp only [Sem.run_bind, r1, r2, Result.andThen_ok, Sem.run_pure, Lib.cmp_eq]
      rfl
    rw [this]
    exact ⟨_, c, H', rfl, ⟨rfl, rfl⟩, hs, .int _ _, .refl c H'⟩
  | [], ha => exact absurd ha.1 (by simp)
  | [_], ha => exact absurd ha.1 (by simp)
  | _ :: _ :: _ :: _, ha => exact absurd ha.1 (by simp)

def cmpI (a b : Int) : Int := if a < b then -1 else if a > b then 1 else 0
def cmpS (a b : ByteArray) : Int := if Go.Op.bytesLess a.toList b.toList then -1 else if a.toList = b.toList then 0 else 1
def firstNZ : List Int → Int
  | [] => 0
  | x :: t => if x = 0 then firstNZ t else x

theorem sBinH_eql {P : Program} {H : FH} {t : TypeId} {xs ys : List PV} {b : Bool} (h : sEq P t (.agg xs) (.agg ys) = some b) : sBinH P H .eql t (.agg xs) (.agg ys) = some { v := .bool b } := by
  simp [sBinH, sBin, h]
theorem sBinH_neq {P : Program} {H : FH} {t : TypeId} {xs ys : List PV} {b : Bool} (h : sEq P t (.agg xs) (.agg ys) = some b) : sBinH P H .neq t (.agg xs) (.agg ys) = some { v := .bool (!b) } := by
  simp [sBinH, sBin, h]

/-- Numbers of one kind, read out of plain values. -/
def isI : PV → Bool
  | .int .i64 _ => true
  | _ => false
def firstP : List PV → Int
  | .int _ n :: t => if n = 0 then firstP t else n
  | _ => 0
theorem isI_ex {xs : List PV} (h : xs.all isI = true) : ∃ l : List Int, xs = l.map (.int .i64) := by
  induction xs with
  | nil => exact ⟨[], rfl⟩
  | cons x t ih =>
    simp only [List.all_cons, Bool.and_eq_true] at h
    obtain ⟨l, rfl⟩ := ih h.2
    cases x with
    | int k n => cases k <;> first | exact ⟨n :: l, rfl⟩ | exact absurd h.1 (by simp [isI])
    | _ => exact absurd h.1 (by simp [isI])
theorem firstP_map (l : List Int) : firstP (l.map (.int .i64)) = firstNZ l := by
  induction l with
  | nil => rfl
  | cons x t ih => simp [firstP, firstNZ, ih]

theorem getN {α : Type} {l : List α} {k : Nat} (h : k < l.length) : ∃ x, l[k]? = some x := ⟨l[k], List.getElem?_eq_getElem h⟩
theorem drop_get {α : Type} {l : List α} {k : Nat} {x : α} (h : l[k]? = some x) : l.drop k = x :: l.drop (k + 1) := by
  obtain ⟨h1, h2⟩ := List.getElem?_eq_some_iff.1 h
  rw [List.drop_eq_getElem_cons h1, h2]
theorem take_get {α : Type} {l : List α} {k : Nat} {x : α} (h : l[k]? = some x) : l.take (k + 1) = l.take k ++ [x] := by
  rw [List.take_add_one, h]; rfl
theorem drop_end {α : Type} {l : List α} {k : Nat} (h : ¬ k < l.length) : l.drop k = [] := List.drop_eq_nil_of_le (by omega)

/-- How a walk calls a function whose argument is a box's row of numbers. -/
theorem PFun.ints {P : Program} {f : FuncId} {g : List PV → PV} (h : ∀ l : List Int, PFun P f [.sl 1 (l.map (.int .i64))] (g (l.map (.int .i64)))) (xs : List PV) (hx : xs.all isI = true) : PFun P f [.sl 1 xs] (g xs) := by
  obtain ⟨l, rfl⟩ := isI_ex hx
  exact h l

theorem pEv0_call' {P : Program} {all : Array Oper} {n0 : Nat} {o : Oper} {os : List Oper} {K : PS → Prop} {st : PS} {f : FuncId} {args : List PV} {r : Res} (hg : guardDec all st.T o = some true) (hn : fstep P n0 (find st.H) st.T o = none) (hc : callOf st.T o = some (f, args))
    (hs : CallSem P f args (find st.H) r) (h : pEv0 P all n0 os K ⟨setD st.T o.dst r.v, puts st.H r.wr⟩) : pEv0 P all n0 (o :: os) K st := pEv0_call hs hg hn hc h
theorem pEv_call' {P : Program} {all : Array Oper} {n0 : Nat} {o : Oper} {os : List Oper} {acc : List (List Nat × List Nat)} {K : List (List Nat × List Nat) → PS → Prop} {st : PS} {f : FuncId} {args : List PV} {r : Res} (hg : guardDec all st.T o = some true) (hn : fstep P n0 (find st.H) st.T o = none) (hc : callOf st.T o = some (f, args))
    (hs : CallSem P f args (find st.H) r) (h : pEv P all n0 os ((r.rd, r.wr.map (·.1)) :: acc) K ⟨setD st.T o.dst r.v, puts st.H r.wr⟩) : pEv P all n0 (o :: os) acc K st := pEv_call hs hg hn hc h

def bn (a : Bool) : Int := if a = true then 1 else 0
def keyCmp (a b : NKey) : Int := firstNZ [cmpS a.space b.space, cmpS a.name b.name]
def idCmp (a b : NId) : Int := firstNZ [keyCmp a.service b.service, cmpS a.name b.name, cmpI (bn a.six) (bn b.six), cmpI (bn a.loc) (bn b.loc)]
def addrCmp (a b : NAddr) : Int := if a.six = b.six then Lib.compareBytes a.b.toList b.b.toList else if a.six = true then 1 else -1
def pointCmp (a b : NPoint) : Int := firstNZ [addrCmp a.addr b.addr, cmpI a.port b.port]
def placeCmp (a b : NFront) : Int := firstNZ [cmpI a.proto b.proto, pointCmp a.point b.point, keyCmp a.service b.service, cmpS a.name b.name]
def frontCmp (a b : NFront) : Int := firstNZ [placeCmp a b, cmpI a.how b.how, cmpI (bn a.loc) (bn b.loc), cmpI (bn a.asked) (bn b.asked), cmpI a.ticks b.ticks]
def idOf (a : NFront) : NId := ⟨a.service, a.name, a.point.addr.six, a.loc⟩

@[simp] theorem NAddr.drop1 (a : NAddr) : a.cs.drop 1 = pvB a.b := rfl
@[simp] theorem pvB_take (l : Vector UInt8 16) : (pvB l).take 16 = pvB l := List.take_of_length_le (by simp)
theorem pvB_ok (l : Vector UInt8 16) : ∀ x ∈ pvB l, x.cellB = true ∧ x.closed = true := by
  intro x hx
  simp only [pvB, pvBy, List.mem_map] at hx
  obtain ⟨b, _, rfl⟩ := hx
  exact ⟨rfl, rfl⟩
@[simp] theorem pvB_all (l : Vector UInt8 16) : ((pvB l).all fun q => q.cellB && q.closed) = true := by
  rw [List.all_eq_true]
  intro x hx
  simp [pvB_ok l x hx]
@[simp] theorem NAddr.tail1 (a : NAddr) : a.cs.tail = pvB a.b := rfl
@[simp] theorem pvB_ok' (l : Vector UInt8 16) : (∀ x, x ∈ pvB l → x.cellB = true ∧ x.closed = true) ↔ True := iff_true_intro (pvB_ok l)
section
variable {l m : List UInt8} {k : Nat} {x y : UInt8} {r : Int} (hf : Lib.compareBytes (l.drop k) (m.drop k) = r) (hx : l[k]? = some x) (hy : m[k]? = some y)
include hf hx hy
theorem cmpB_lt (h : x.toNat < y.toNat) : r = -1 := by
  rw [← hf, drop_get hx, drop_get hy, Lib.compareBytes, if_pos (UInt8.lt_iff_toNat_lt.2 h)]
theorem cmpB_gt (h : y.toNat < x.toNat) : r = 1 := by
  rw [← hf, drop_get hx, drop_get hy, Lib.compareBytes, if_neg (by rw [UInt8.lt_iff_toNat_lt]; omega), if_pos (UInt8.lt_iff_toNat_lt.2 h)]
theorem cmpB_next (h : y.toNat ≤ x.toNat) (h' : x.toNat ≤ y.toNat) : Lib.compareBytes (l.drop (k + 1)) (m.drop (k + 1)) = r := by
  rw [← hf, drop_get hx, drop_get hy, Lib.compareBytes, if_neg (by rw [UInt8.lt_iff_toNat_lt]; omega), if_neg (by rw [UInt8.lt_iff_toNat_lt]; omega)]
end
theorem cmpB_end {l m : List UInt8} {r : Int} {k : Nat} (hf : Lib.compareBytes (l.drop k) (m.drop k) = r) (h1 : ¬ k < l.length) (h2 : ¬ k < m.length) : r = 0 := by
  rw [← hf, drop_end h1, drop_end h2]; rfl
theorem NAddr.ld_at (n : Nat) {a : NAddr} {k : Nat} {b : UInt8} (h : a.b.toList[k]? = some b) : loadE false n a.pv (1 + k) = some (.int .u8 b.toNat) := by
  change (PV.bool a.six :: pvB a.b)[1 + k]? = _
  rw [Nat.add_comm 1 k, List.getElem?_cons_succ]
  simp [pvB, pvBy, h]

theorem sBinH_beq {P : Program} {H : FH} {t : TypeId} (h : P.underlying t = some .bool) (a b : Bool) : sBinH P H .eql t (.bool a) (.bool b) = some { v := .bool (a == b) } := by
  simp [sBinH, sBin, sEq, h]
theorem sBinH_bne {P : Program} {H : FH} {t : TypeId} (h : P.underlying t = some .bool) (a b : Bool) : sBinH P H .neq t (.bool a) (.bool b) = some { v := .bool (!(a == b)) } := by
  simp [sBinH, sBin, sEq, h]

/-- linkboyref05.Compare, as it is written. -/
def keyCmp' (a b : NKey) : Int := if Op.bytesLess a.space.toList b.space.toList = true ∨ (a.space.toList = b.space.toList ∧ Op.bytesLess a.name.toList b.name.toList = true) then -1 else if a = b then 0 else 1

theorem toList_inj {a b : ByteArray} : a.toList = b.toList ↔ a = b := by
  have h := bytes_eq a b
  by_cases hab : a = b
  · simp [hab]
  · simp only [hab, decide_false, beq_eq_false_iff_ne] at h
    simp [hab, h]

theorem keyCmp_eq (a b : NKey) : keyCmp a b = keyCmp' a b := by
  obtain ⟨s1, n1⟩ := a
  obtain ⟨s2, n2⟩ := b
  simp only [keyCmp, keyCmp', firstNZ, cmpS, NKey.mk.injEq, toList_inj]
  generalize Op.bytesLess s1.toList s2.toList = x
  generalize Op.bytesLess n1.toList n2.toList = y
  by_cases h2 : s1 = s2 <;> by_cases h4 : n1 = n2 <;> cases x <;> cases y <;> simp [h2, h4]

theorem beq_off {a w : Bool} (h : (a == w) = false) : a = !w := by cases a <;> cases w <;> simp_all

@[simp] theorem NAddr.fold (a : NAddr) : PV.agg a.cs = a.pv := rfl
@[simp] theorem NCidr.fold (a : NCidr) : PV.agg a.cs = a.pv := rfl
@[simp] theorem NPoint.fold (a : NPoint) : PV.agg a.cs = a.pv := rfl
@[simp] theorem NKey.fold (a : NKey) : PV.agg a.cs = a.pv := rfl
@[simp] theorem NFront.fold (a : NFront) : PV.agg a.cs = a.pv := rfl
@[simp] theorem NId.fold (a : NId) : PV.agg a.cs = a.pv := rfl
@[simp] theorem NFilter.fold (a : NFilter) : PV.agg a.cs = a.pv := rfl
@[simp] theorem NTable.fold (a : NTable) : PV.agg a.cs = a.pv := rfl
@[simp] theorem NGroup.fold (a : NGroup) : PV.agg a.cs = a.pv := rfl
@[simp] theorem NRows.fold (a : NRows) : PV.agg a.cs = a.pv := rfl

/-- Two keys of groups in a row. -/
def twoCs (a b : NId) : List PV := a.cs ++ b.cs
def twoPv (a b : NId) : PV := .agg (twoCs a b)
section
variable (a b : NId) (n : Nat)
@[simp] theorem two_len : (twoCs a b).length = 10 := rfl
@[simp] theorem two_closed : (twoPv a b).closed = true := closed_of_good (by simp [twoCs, goodC_append])
@[simp] theorem two_ok : okElem (twoPv a b) 10 = true := okElem_of_good (by simp [twoCs, goodC_append]) rfl
@[simp] theorem two_cells : (twoPv a b).cells = twoCs a b := rfl
@[simp] theorem two_0 : loadE true 5 (twoPv a b) 0 = some a.pv := rfl
@[simp] theorem two_1 : loadE true 5 (twoPv a b) 5 = some b.pv := rfl
@[simp] theorem two_s0 : loadE false n (twoPv a b) 0 = some (.str a.service.space) := rfl
@[simp] theorem two_s1 : loadE false n (twoPv a b) 1 = some (.str a.service.name) := rfl
@[simp] theorem two_s2 : loadE false n (twoPv a b) 2 = some (.str a.name) := rfl
@[simp] theorem two_s5 : loadE false n (twoPv a b) 5 = some (.str b.service.space) := rfl
@[simp] theorem two_s6 : loadE false n (twoPv a b) 6 = some (.str b.service.name) := rfl
@[simp] theorem two_s7 : loadE false n (twoPv a b) 7 = some (.str b.name) := rfl
end
def ordTexts (a b : NFront) (i j : NId) : List ByteArray := [a.name, b.name, a.service.space, a.service.name, b.service.space, b.service.name, i.name, j.name, i.service.space, i.service.name, j.service.space, j.service.name]

end Pv
