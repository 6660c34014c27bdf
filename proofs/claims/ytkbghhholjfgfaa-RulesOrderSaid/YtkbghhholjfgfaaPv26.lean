import Derived.Test.YtkbghhholjfgfaaPv25
import Derived.Carry
import Derived.OpenShut
set_option linter.unusedSimpArgs false
set_option linter.unusedVariables false
namespace Pv
open Go

/-! ### What a caller hands over, read as plain values -/

/-- Ahead of a call: every block is one that the call does not write. -/
def rc (w : World) : Cx := ⟨w, fun k => k < w.heap.size, fun _ => none, fun _ => none⟩

/-- Cells that read so. -/
def CRel (w : World) (ps : List PV) (vs : List Value) : Prop :=
  ps.length = vs.length ∧ ∀ (i : Nat) p v, ps[i]? = some p → vs[i]? = some v → v.oneCell' = true ∧ Rel (rc w) true p v

theorem CRel.nil (w : World) : CRel w [] [] := ⟨rfl, fun i p v h => by simp at h⟩
theorem CRel.one {w : World} {p : PV} {v : Value} (h1 : v.oneCell' = true) (h : Rel (rc w) true p v) : CRel w [p] [v] :=
  ⟨rfl, fun i q u a b => by cases i with | zero => simp at a b; subst a; subst b; exact ⟨h1, h⟩ | succ i => simp at a⟩
theorem CRel.append {w : World} {ps qs : List PV} {us vs : List Value} (h : CRel w ps us) (h' : CRel w qs vs) : CRel w (ps ++ qs) (us ++ vs) := by
  refine ⟨by simp [h.1, h'.1], fun i p v a b => ?_⟩
  rw [List.getElem?_append] at a b
  rw [← h.1] at b
  split at a
  · rename_i hi; rw [if_pos hi] at b; exact h.2 i p v a b
  · rename_i hi; rw [if_neg hi] at b; exact h'.2 _ p v a b

/-- What is read at a type is one of these. -/
def Rd (P : Program) (t : TypeId) (X : Type) (cs : X → List PV) : Prop :=
  ∀ (H : Type) (enc : TypeId × Value → H) (w : World) (fuel : Nat) (vs : List Value) (x : DataW H × List MemPlace), DataW.trod enc P w 0 (fun _ => true) true fuel t vs = some x → ∃ a : X, CRel w (cs a) vs

section
variable {P : Program} {t : TypeId}

theorem Rd.map {X Y : Type} {cs : X → List PV} {ds : Y → List PV} (h : Rd P t X cs) (g : X → Y) (hg : ∀ x, ds (g x) = cs x) : Rd P t Y ds := by
  intro H enc w fuel vs x hx
  obtain ⟨a, ha⟩ := h H enc w fuel vs x hx
  exact ⟨g a, by rw [hg]; exact ha⟩

theorem Rd.bool (ht : P.underlying t = some .bool) : Rd P t Bool fun b => [.bool b] := by
  intro H enc w fuel vs x hx
  obtain ⟨b, rfl, _⟩ := DataW.trod_bool ht hx
  exact ⟨b, .one rfl (.bool b)⟩

theorem Rd.int {k : IntKind} (ht : P.underlying t = some (.int k)) : Rd P t { n : Int // (Lit.int k n).wf = true } fun n => [.int k n.1] := by
  intro H enc w fuel vs x hx
  obtain ⟨n, rfl, _, hn⟩ := DataW.trod_int ht hx
  exact ⟨⟨n, hn⟩, .one rfl (.int k n)⟩

theorem Rd.str (ht : P.underlying t = some .string) : Rd P t { s : ByteArray // s.size ≤ maxLen } fun s => [.str s.1] := by
  intro H enc w fuel vs x hx
  obtain ⟨s, rfl, _, hs⟩ := DataW.trod_string ht hx
  exact ⟨⟨s, hs⟩, .one rfl (.str s)⟩

/-- Fields, one behind the other. -/
def RdF (P : Program) (fs : List Field) (off m : Nat) (X : Type) (cs : X → List PV) : Prop :=
  ∀ (H : Type) (enc : TypeId × Value → H) (w : World) (fuel : Nat) (vs : List Value), vs.length = off + m →
    (∀ f ∈ fs, ∃ x, DataW.trod enc P w 0 (fun _ => true) true fuel f.type ((vs.drop f.offset).take (P.cellsOf f.type)) = some x) → ∃ a : X, CRel w (cs a) (vs.drop off)

theorem RdF.nil (off : Nat) : RdF P [] off 0 Unit fun _ => [] := by
  intro H enc w fuel vs hl _
  exact ⟨(), by rw [List.drop_eq_nil_of_le (by omega)]; exact .nil w⟩

theorem RdF.cons {f : Field} {fs : List Field} {off n m : Nat} {X Y : Type} {cs : X → List PV} {ds : Y → List PV} (hf : Rd P f.type X cs) (hoff : f.offset = off) (hn : P.cellsOf f.type = n) (hr : RdF P fs (off + n) m Y ds) :
    RdF P (f :: fs) off (n + m) (X × Y) fun p => cs p.1 ++ ds p.2 := by
  intro H enc w fuel vs hl h
  obtain ⟨x, hx⟩ := h f (by simp)
  obtain ⟨a, ha⟩ := hf H enc w fuel _ x hx
  obtain ⟨b, hb⟩ := hr H enc w fuel vs (by omega) fun g hg => h g (by simp [hg])
  refine ⟨(a, b), ?_⟩
  rw [hoff, hn] at ha
  have : vs.drop off = (vs.drop off).take n ++ vs.drop (off + n) := by rw [← List.drop_drop, List.take_append_drop]
  rw [this]
  exact ha.append hb

theorem Rd.struct {fs : Array Field} {m : Nat} {X : Type} {cs : X → List PV} (ht : P.underlying t = some (.struct fs)) (hm : P.cellsOf t = m) (h : RdF P fs.toList 0 m X cs) : Rd P t X cs := by
  intro H enc w fuel vs x hx
  obtain ⟨xs, n, rfl, rfl, hl, hlen, hf⟩ := DataW.trod_struct ht hx
  obtain ⟨a, ha⟩ := h H enc w n vs (by omega) fun f hf' => by
    obtain ⟨i, hi⟩ := List.mem_iff_getElem?.1 hf'
    have hi' : fs[i]? = some f := by simpa using hi
    have hlt : i < xs.length := by rw [hlen]; exact (Array.getElem?_eq_some_iff.1 hi').1
    exact ⟨xs[i], by rw [hf i f hi']; exact List.getElem?_eq_getElem hlt⟩
  exact ⟨a, by simpa using ha⟩

theorem Rd.array {e : TypeId} {k n : Nat} {X : Type} {cs : X → List PV} (ht : P.underlying t = some (.array k e)) (hn : P.cellsOf e = n) (hm : P.cellsOf t = k * n) (h : Rd P e X cs) : Rd P t (Vector X k) fun v => v.toList.flatMap cs := by
  intro H enc w fuel vs x hx
  obtain ⟨xs, m, rfl, rfl, hl, hlen, hf⟩ := DataW.trod_array ht hx
  have key : ∀ j, j ≤ k → ∃ l : List X, l.length = j ∧ CRel w (l.flatMap cs) (vs.take (j * n)) := by
    intro j
    induction j with
    | zero => intro _; exact ⟨[], rfl, by simpa using CRel.nil w⟩
    | succ j ih =>
      intro hj
      obtain ⟨l, h1, h2⟩ := ih (by omega)
      have hx := hf j (by omega)
      rw [List.getElem?_eq_getElem (by omega), hn] at hx
      obtain ⟨a, ha⟩ := h H enc w m _ _ hx
      refine ⟨l ++ [a], by simp [h1], ?_⟩
      have : vs.take ((j + 1) * n) = vs.take (j * n) ++ (vs.drop (j * n)).take n := by rw [Nat.add_mul, Nat.one_mul, List.take_add]
      rw [this, List.flatMap_append]
      simp only [List.flatMap_cons, List.flatMap_nil, List.append_nil]
      exact h2.append ha
  obtain ⟨l, h1, h2⟩ := key k (Nat.le_refl _)
  refine ⟨⟨l.toArray, by simpa using h1⟩, ?_⟩
  rw [List.take_of_length_le (by omega)] at h2
  simpa using h2

theorem cells_get {w : World} {a : Addr} {n : Nat} {cs : List Value} (h : w.cells? 0 a n = some cs) (hn : 0 < n) :
    ∃ c e fr, w.heap[a.block]? = some (.cells c e fr) ∧ a.spot = none ∧ cs.length = n ∧ a.off + n ≤ c.size ∧ ∀ j, j < n → c[a.off + j]? = cs[j]? := by
  simp only [World.cells?, Nat.zero_le, if_true] at h
  have hlen := mapM_some_length h
  simp only [List.length_range] at hlen
  have hg : ∀ j, j < n → w.cell? (a.add j) = cs[j]? := fun j hj => mapM_some_get h j j (by simp [hj])
  have h0 := hg 0 hn
  rw [List.getElem?_eq_getElem (by omega)] at h0
  simp only [Addr.add, if_true, World.cell?] at h0
  cases hh : w.heap[a.block]? with
  | none => simp [hh] at h0
  | some o =>
    cases o with
    | cells c e fr =>
      simp only [hh] at h0
      cases hs : a.spot with
      | some s => simp [hs] at h0
      | none =>
        have hall : ∀ j, j < n → c[a.off + j]? = cs[j]? := by
          intro j hj
          have := hg j hj
          unfold World.cell? at this
          by_cases hj0 : j = 0
          · subst hj0; simpa [Addr.add, hh, hs] using this
          · simpa [Addr.add, hj0, hh] using this
        refine ⟨c, e, fr, rfl, rfl, hlen, ?_, hall⟩
        have := hall (n - 1) (by omega)
        rw [List.getElem?_eq_getElem (by omega)] at this
        have := (Array.getElem?_eq_some_iff.1 this).1
        omega
    | _ => simp [hh] at h0

theorem Rd.slice {e : TypeId} {n : Nat} {X : Type} {cs : X → List PV} (ht : P.underlying t = some (.slice e)) (hn : P.cellsOf e = n) (hpos : 0 < n) (h : Rd P e X cs) (pv : X → PV) (hpv : ∀ x, (pv x).cells = cs x) :
    Rd P t { l : List X // l.length ≤ maxLen } fun l => [.sl n (l.1.map pv)] := by
  intro H enc w fuel vs x hx
  rcases DataW.trod_slice ht hx with ⟨rfl, _⟩ | ⟨a, len, cap, elems, rest, m, rfl, rfl, _, _, h1, h2, h3, h4, h5, _⟩
  · exact ⟨⟨[], by simp⟩, .one rfl (.slnil _ _)⟩
  obtain ⟨h5, h6⟩ := h5 rfl
  rw [hn] at h4 h6
  by_cases hcap : cap = 0
  · have : len = 0 := by omega
    subst hcap; subst this
    exact ⟨⟨[], by simp⟩, .one rfl (.slnil _ _)⟩
  -- the row's block
  have hblk : ∃ c e' fr, w.heap[a.block]? = some (.cells c e' fr) ∧ a.spot = none := by
    by_cases hl : len = 0
    · obtain ⟨y, hy⟩ : ∃ y, rest[0]? = some y := ⟨_, List.getElem?_eq_getElem (by omega)⟩
      have := h6 0 (by omega)
      rw [hy, hl] at this
      obtain ⟨cs', g1, _⟩ := Option.bind_eq_some_iff.1 this
      simp only [Nat.add_zero, Nat.zero_mul, Addr.add, if_true] at g1
      obtain ⟨c, e', fr, g2, g3, _⟩ := cells_get g1 hpos
      exact ⟨c, e', fr, g2, g3⟩
    · have := h4 0 (by omega)
      rw [List.getElem?_eq_getElem (by omega)] at this
      obtain ⟨cs', g1, _⟩ := Option.bind_eq_some_iff.1 this
      simp only [Nat.zero_mul, Addr.add, if_true] at g1
      obtain ⟨c, e', fr, g2, g3, _⟩ := cells_get g1 hpos
      exact ⟨c, e', fr, g2, g3⟩
  obtain ⟨c, e', fr, hh, hsp⟩ := hblk
  obtain ⟨k, off, spot⟩ := a
  simp only at hsp hh
  subst hsp
  have hel : ∀ i, i < len → ∃ x : X, (cs x).length = n ∧ off + i * n + n ≤ c.size ∧ ∀ (j : Nat) p v, (cs x)[j]? = some p → c[off + i * n + j]? = some v → v.oneCell' = true ∧ Rel (rc w) true p v := by
    intro i hi
    have := h4 i hi
    rw [List.getElem?_eq_getElem (by omega)] at this
    obtain ⟨cs', g1, g2⟩ := Option.bind_eq_some_iff.1 this
    obtain ⟨x, hx⟩ := h H enc w m _ _ g2
    obtain ⟨c', e'', fr', f1, f2, f3, f4, f5⟩ := cells_get g1 hpos
    have hblock : ((⟨k, off, none⟩ : Addr).add (i * n)).block = k := by simp only [Addr.add]; split <;> rfl
    have hoff : ((⟨k, off, none⟩ : Addr).add (i * n)).off = off + i * n := by
      simp only [Addr.add]
      split
      · rename_i h0; simp [h0]
      · rfl
    rw [hblock, hh] at f1
    simp only [Option.some.injEq, Obj.cells.injEq] at f1
    obtain ⟨rfl, rfl, rfl⟩ := f1
    rw [hoff] at f4 f5
    refine ⟨x, by rw [hx.1]; exact f3, f4, fun j p v hp hv => ?_⟩
    have hj : j < n := by rw [← f3, ← hx.1]; exact (List.getElem?_eq_some_iff.1 hp).1
    rw [f5 j hj] at hv
    exact hx.2 j p v hp hv
  have hlist : ∀ j, j ≤ len → ∃ l : List X, l.length = j ∧ ∀ (i : Nat) x, l[i]? = some x → (cs x).length = n ∧ ∀ (j : Nat) p v, (cs x)[j]? = some p → c[off + i * n + j]? = some v → v.oneCell' = true ∧ Rel (rc w) true p v := by
    intro j
    induction j with
    | zero => intro _; exact ⟨[], rfl, fun i x hx => by simp at hx⟩
    | succ j ih =>
      intro hj
      obtain ⟨l, g1, g2⟩ := ih (by omega)
      obtain ⟨x, g3, g4, g5⟩ := hel j (by omega)
      refine ⟨l ++ [x], by simp [g1], fun i y hy => ?_⟩
      rw [List.getElem?_append] at hy
      split at hy
      · exact g2 i y hy
      · rename_i hi
        have : i = j := by
          have := (List.getElem?_eq_some_iff.1 hy).1
          simp at this; omega
        subst this
        rw [g1] at hy
        simp at hy
        subst hy
        exact ⟨g3, g5⟩
  obtain ⟨l, g1, g2⟩ := hlist len (Nat.le_refl _)
  refine ⟨⟨l, by omega⟩, .one rfl ?_⟩
  subst g1
  have hsz : off + l.length * n ≤ c.size := by
    by_cases hl : l.length = 0
    · rw [hl, Nat.zero_mul]
      obtain ⟨y, hy⟩ : ∃ y, rest[0]? = some y := ⟨_, List.getElem?_eq_getElem (by omega)⟩
      have := h6 0 (by omega)
      rw [hy, hl] at this
      obtain ⟨cs', f1, _⟩ := Option.bind_eq_some_iff.1 this
      simp only [Nat.add_zero, Nat.zero_mul, Addr.add, if_true] at f1
      obtain ⟨c', e'', fr', f2, f3, f4, f5, _⟩ := cells_get f1 hpos
      simp only [hh, Option.some.injEq, Obj.cells.injEq] at f2
      obtain ⟨rfl, _⟩ := f2
      have f5' : off + n ≤ c.size := f5
      omega
    · obtain ⟨x, _, f, _⟩ := hel (l.length - 1) (by omega)
      have : (l.length - 1) * n + n = l.length * n := by
        rw [← Nat.succ_mul]; congr 1; omega
      omega
  have hlen : l.length = (l.map pv).length := by simp
  have hk : k < w.heap.size := (Array.getElem?_eq_some_iff.1 hh).1
  have hgoal : Rel (rc w) true (.sl n (l.map pv)) (.slice (some ⟨k, off, none⟩) (l.map pv).length cap) → Rel (rc w) true (.sl n (l.map pv)) (.slice (some ⟨k, off, none⟩) l.length cap) := by rw [← hlen]; exact id
  refine hgoal ?_
  refine Rel.sl (c := rc w) k off cap c e' fr hk hh (by simpa using hsz) (by simpa using h1) ?_ ?_ ?_
  · intro i y hy
    simp only [List.getElem?_map, Option.map_eq_some_iff] at hy
    obtain ⟨x, hx, rfl⟩ := hy
    rw [hpv]; exact (g2 i x hx).1
  · intro i y j z v hy hz hv
    simp only [List.getElem?_map, Option.map_eq_some_iff] at hy
    obtain ⟨x, hx, rfl⟩ := hy
    rw [hpv] at hz
    exact ((g2 i x hx).2 j z v hz hv).1
  · intro i y j z v hy hz hv
    simp only [List.getElem?_map, Option.map_eq_some_iff] at hy
    obtain ⟨x, hx, rfl⟩ := hy
    rw [hpv] at hz
    exact ((g2 i x hx).2 j z v hz hv).2
end
end Pv
