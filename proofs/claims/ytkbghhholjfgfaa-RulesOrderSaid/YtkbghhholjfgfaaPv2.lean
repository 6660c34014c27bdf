import Derived.Test.YtkbghhholjfgfaaPv1
import Derived.Laws.AppendOwn
namespace Pv
open Go

/-- Where a plain value is read: the world, the blocks that nobody writes any more, the boxes' blocks and generations. -/
structure Cx where
  w : World
  A : Nat → Prop
  β : Nat → Option Nat
  γ : Nat → Option Nat

/-- 'v' reads as the plain value. 'true': no box is met. -/
inductive Rel (c : Cx) : Bool → PV → Value → Prop where
  | any {cl} (v) : Rel c cl .any v
  | bool {cl} (b) : Rel c cl (.bool b) (.bool b)
  | ub {cl} (b) : Rel c cl .ub (.bool b)
  | int {cl} (k n) : Rel c cl (.int k n) (.int k n)
  | str {cl} (s) : Rel c cl (.str s) (.string s)
  | agg {cl cs vs} : cs.length = vs.size → (∀ (i : Nat) x v, cs[i]? = some x → vs[i]? = some v → Rel c cl x v) → Rel c cl (.agg cs) (.agg vs)
  | tup {cl cs vs} : cs.length = vs.size → (∀ (i : Nat) x v, cs[i]? = some x → vs[i]? = some v → Rel c cl x v) → Rel c cl (.tup cs) (.tuple vs)
  | ptr {b g s i o v} (cur : Nat) : v.oneCell' = true → c.γ b = some cur → g ≤ cur → (g = cur → ∃ k, c.β b = some k ∧ v = .pointer (some ⟨k, i * s + o, none⟩)) → Rel c false (.ptr b g s i o) v
  | addr {cl} (a) : Rel c cl (.addr a) (.pointer (some a))
  | nilp {cl} : Rel c cl .nilp (.pointer none)
  | slnil {cl} (s a) : Rel c cl (.sl s []) (.slice a 0 0)
  | sl {cl s xs} (k off cap : Nat) (cells : Array Value) (e : TypeId) (fr : Nat × Nat) : c.A k → c.w.heap[k]? = some (.cells cells e fr) → off + xs.length * s ≤ cells.size → xs.length ≤ cap →
      (∀ (i : Nat) x, xs[i]? = some x → x.cells.length = s) →
      (∀ (i : Nat) x (j : Nat) y v, xs[i]? = some x → x.cells[j]? = some y → cells[off + i * s + j]? = some v → v.oneCell' = true) →
      (∀ (i : Nat) x (j : Nat) y v, xs[i]? = some x → x.cells[j]? = some y → cells[off + i * s + j]? = some v → Rel c true y v) →
      Rel c cl (.sl s xs) (.slice (some ⟨k, off, none⟩) xs.length cap)
  | ept {cl s xs} (i o k off : Nat) (cells : Array Value) (e : TypeId) (fr : Nat × Nat) : c.A k → c.w.heap[k]? = some (.cells cells e fr) → off + xs.length * s ≤ cells.size →
      (∀ (i : Nat) x, xs[i]? = some x → x.cells.length = s) →
      (∀ (i : Nat) x (j : Nat) y v, xs[i]? = some x → x.cells[j]? = some y → cells[off + i * s + j]? = some v → v.oneCell' = true) →
      (∀ (i : Nat) x (j : Nat) y v, xs[i]? = some x → x.cells[j]? = some y → cells[off + i * s + j]? = some v → Rel c true y v) →
      Rel c cl (.ept s xs i o) (.pointer (some ⟨k, off + i * s + o, none⟩))
  | bsl {b g s i n v} (cur : Nat) : v.oneCell' = true → c.γ b = some cur → g ≤ cur →
      (g = cur → (∃ k cells e fr cap, c.β b = some k ∧ c.w.heap[k]? = some (.cells cells e fr) ∧ v = .slice (some ⟨k, i * s, none⟩) n cap ∧ n ≤ cap ∧ (i + cap) * s ≤ cells.size) ∨ (n = 0 ∧ ∃ a, v = .slice a 0 0)) →
      Rel c false (.bsl b g s i n) v
  | nils {cl} : Rel c cl .nils (.slice none 0 0)
  | clo {cl f xs ys us vs} : xs.length = us.size → (∀ (i : Nat) x v, xs[i]? = some x → us[i]? = some v → Rel c cl x v) → ys.length = vs.size →
      (∀ (i : Nat) x v, ys[i]? = some x → vs[i]? = some v → Rel c cl x v) → Rel c cl (.clo f xs ys) (.func (.func f) us vs)
  | nilf {cl} : Rel c cl .nilf .nilFunc
  | ifc {cl t x v} : Rel c cl x v → Rel c cl (.ifc t x) (.iface t v)
  | nili {cl} : Rel c cl .nili .nilIface
  | map {b g v} (cur : Nat) : v.oneCell' = true → c.γ b = some cur → g ≤ cur → (g = cur → ∃ k, c.β b = some k ∧ v = .map (some k)) → Rel c false (.map b g) v
  | nilm {cl} : Rel c cl .nilm (.map none)

structure Cx.Le (c c' : Cx) : Prop where
  imm : ∀ k, c.A k → c'.A k ∧ c'.w.heap[k]? = c.w.heap[k]?
  box : ∀ b cur, c.γ b = some cur → ∃ cur', c'.γ b = some cur' ∧ cur ≤ cur' ∧ (cur' = cur → c'.β b = c.β b ∧
    ∀ k cells e fr, c.β b = some k → c.w.heap[k]? = some (.cells cells e fr) → ∃ cells' fr', c'.w.heap[k]? = some (.cells cells' e fr') ∧ cells'.size = cells.size)

theorem Cx.Le.refl (c : Cx) : c.Le c := ⟨fun _ h => ⟨h, rfl⟩, fun _ cur h => ⟨cur, h, Nat.le_refl _, fun _ => ⟨rfl, fun _ cells _ fr _ h => ⟨cells, fr, h, rfl⟩⟩⟩⟩

theorem Cx.Le.trans {a b c : Cx} (h : a.Le b) (h' : b.Le c) : a.Le c := by
  refine ⟨fun k hk => ?_, fun i cur hi => ?_⟩
  · obtain ⟨h1, h2⟩ := h.imm k hk
    obtain ⟨h3, h4⟩ := h'.imm k h1
    exact ⟨h3, h4.trans h2⟩
  · obtain ⟨cur1, h1, h2, h3⟩ := h.box i cur hi
    obtain ⟨cur2, h4, h5, h6⟩ := h'.box i cur1 h1
    refine ⟨cur2, h4, Nat.le_trans h2 h5, fun he => ?_⟩
    have e1 : cur1 = cur := by omega
    have e2 : cur2 = cur1 := by omega
    obtain ⟨f1, f2⟩ := h3 e1
    obtain ⟨f3, f4⟩ := h6 e2
    refine ⟨f3.trans f1, fun k cells e fr hk hc => ?_⟩
    obtain ⟨cells1, fr1, g1, g2⟩ := f2 k cells e fr hk hc
    obtain ⟨cells2, fr2, g3, g4⟩ := f4 k cells1 e fr1 (f1.trans hk) g1
    exact ⟨cells2, fr2, g3, g4.trans g2⟩

theorem Rel.mono {c c' : Cx} (hle : c.Le c') {cl : Bool} {p : PV} {v : Value} (h : Rel c cl p v) : Rel c' cl p v := by
  induction h with
  | any v => exact .any v
  | bool b => exact .bool b
  | ub b => exact .ub b
  | int k n => exact .int k n
  | str s => exact .str s
  | agg hl _ ih => exact .agg hl ih
  | tup hl _ ih => exact .tup hl ih
  | ptr cur h1c hc hg hv =>
    obtain ⟨cur', h1, h2, h3⟩ := hle.box _ cur hc
    refine .ptr cur' h1c h1 (Nat.le_trans hg h2) fun he => ?_
    obtain ⟨k, h4, h5⟩ := hv (by omega)
    exact ⟨k, (h3 (by omega)).1.trans h4, h5⟩
  | addr a => exact .addr a
  | nilp => exact .nilp
  | slnil s a => exact .slnil s a
  | sl k off cap cells e fr hA hh hsz hcap hs h1 _ ih =>
    obtain ⟨g1, g2⟩ := hle.imm k hA
    exact .sl k off cap cells e fr g1 (g2.trans hh) hsz hcap hs h1 ih
  | ept i o k off cells e fr hA hh hsz hs h1 _ ih =>
    obtain ⟨g1, g2⟩ := hle.imm k hA
    exact .ept i o k off cells e fr g1 (g2.trans hh) hsz hs h1 ih
  | bsl cur h1c hc hg hv =>
    obtain ⟨cur', h1, h2, h3⟩ := hle.box _ cur hc
    refine .bsl cur' h1c h1 (Nat.le_trans hg h2) fun he => ?_
    rcases hv (by omega) with ⟨k, cells, e, fr, cap, h4, h5, h6, h7, h8⟩ | hn
    · obtain ⟨f1, f2⟩ := h3 (by omega)
      obtain ⟨cells', fr', g1, g2⟩ := f2 k cells e fr h4 h5
      exact .inl ⟨k, cells', e, fr', cap, f1.trans h4, g1, h6, h7, by omega⟩
    · exact .inr hn
  | nils => exact .nils
  | clo h1 _ h2 _ ih1 ih2 => exact .clo h1 ih1 h2 ih2
  | nilf => exact .nilf
  | ifc _ ih => exact .ifc ih
  | nili => exact .nili
  | map cur h1c hc hg hv =>
    obtain ⟨cur', h1, h2, h3⟩ := hle.box _ cur hc
    refine .map cur' h1c h1 (Nat.le_trans hg h2) fun he => ?_
    obtain ⟨k, h4, h5⟩ := hv (by omega)
    exact ⟨k, (h3 (by omega)).1.trans h4, h5⟩
  | nilm => exact .nilm

/-- A closed reading leans on the blocks that nobody writes alone. -/
theorem Rel.closed {c c' : Cx} (himm : ∀ k, c.A k → c'.A k ∧ c'.w.heap[k]? = c.w.heap[k]?) {p : PV} {v : Value} {b : Bool} (h : Rel c b p v) (hb : b = true) : ∀ cl, Rel c' cl p v := by
  induction h with
  | any v => exact fun _ => .any v
  | bool b => exact fun _ => .bool b
  | ub b => exact fun _ => .ub b
  | int k n => exact fun _ => .int k n
  | str s => exact fun _ => .str s
  | agg hl _ ih => exact fun cl => .agg hl fun i x v h1 h2 => ih i x v h1 h2 hb cl
  | tup hl _ ih => exact fun cl => .tup hl fun i x v h1 h2 => ih i x v h1 h2 hb cl
  | ptr => cases hb
  | addr a => exact fun _ => .addr a
  | nilp => exact fun _ => .nilp
  | slnil s a => exact fun _ => .slnil s a
  | sl k off cap cells e fr hA hh hsz hcap hs h1 _ ih =>
    obtain ⟨g1, g2⟩ := himm k hA
    exact fun cl => .sl k off cap cells e fr g1 (g2.trans hh) hsz hcap hs h1 fun i x j y v a b c => ih i x j y v a b c rfl true
  | ept i o k off cells e fr hA hh hsz hs h1 _ ih =>
    obtain ⟨g1, g2⟩ := himm k hA
    exact fun cl => .ept i o k off cells e fr g1 (g2.trans hh) hsz hs h1 fun i x j y v a b c => ih i x j y v a b c rfl true
  | bsl => cases hb
  | nils => exact fun _ => .nils
  | clo h1 _ h2 _ ih1 ih2 => exact fun cl => .clo h1 (fun i x v a b => ih1 i x v a b hb cl) h2 (fun i x v a b => ih2 i x v a b hb cl)
  | nilf => exact fun _ => .nilf
  | ifc _ ih => exact fun cl => .ifc (ih hb cl)
  | nili => exact fun _ => .nili
  | map => cases hb
  | nilm => exact fun _ => .nilm

theorem PV.within_go {S : Nat → Bool} {l : List PV} (h : PV.within.go S l = true) : ∀ (i : Nat) x, l[i]? = some x → x.within S = true := by
  induction l with
  | nil => intro i x hx; simp at hx
  | cons y t ih =>
    simp only [PV.within.go, Bool.and_eq_true] at h
    intro i x hx
    cases i with
    | zero => simp at hx; subst hx; exact h.1
    | succ i => exact ih h.2 i x (by simpa using hx)

theorem Rel.narrow {c : Cx} {S : Nat → Bool} {γ' : Nat → Option Nat} (hγ : ∀ b, S b = true → γ' b = c.γ b) {cl : Bool} {p : PV} {v : Value} (h : Rel c cl p v) :
    p.within S = true → Rel { c with γ := γ' } cl p v := by
  induction h with
  | any v => exact fun _ => .any v
  | bool b => exact fun _ => .bool b
  | ub b => exact fun _ => .ub b
  | int k n => exact fun _ => .int k n
  | str s => exact fun _ => .str s
  | agg hl _ ih => exact fun hw => .agg hl fun i x v h1 h2 => ih i x v h1 h2 (PV.within_go hw i x h1)
  | tup hl _ ih => exact fun hw => .tup hl fun i x v h1 h2 => ih i x v h1 h2 (PV.within_go hw i x h1)
  | ptr cur h1c hc hg hv => exact fun hw => .ptr cur h1c ((hγ _ hw).trans hc) hg hv
  | addr a => exact fun _ => .addr a
  | nilp => exact fun _ => .nilp
  | slnil s a => exact fun _ => .slnil s a
  | sl k off cap cells e fr hA hh hsz hcap hs h1 h2 _ => exact fun _ => .sl k off cap cells e fr hA hh hsz hcap hs h1 fun i x j y v a b d => Rel.closed (c := c) (c' := { c with γ := γ' }) (fun k h => ⟨h, rfl⟩) (h2 i x j y v a b d) rfl true
  | ept i o k off cells e fr hA hh hsz hs h1 h2 _ => exact fun _ => .ept i o k off cells e fr hA hh hsz hs h1 fun i x j y v a b d => Rel.closed (c := c) (c' := { c with γ := γ' }) (fun k h => ⟨h, rfl⟩) (h2 i x j y v a b d) rfl true
  | bsl cur h1c hc hg hv => exact fun hw => .bsl cur h1c ((hγ _ hw).trans hc) hg hv
  | nils => exact fun _ => .nils
  | clo h1 _ h2 _ ih1 ih2 =>
    intro hw
    simp only [PV.within, Bool.and_eq_true] at hw
    exact .clo h1 (fun i x v a b => ih1 i x v a b (PV.within_go hw.1 i x a)) h2 (fun i x v a b => ih2 i x v a b (PV.within_go hw.2 i x a))
  | nilf => exact fun _ => .nilf
  | ifc _ ih => exact fun hw => .ifc (ih hw)
  | nili => exact fun _ => .nili
  | map cur h1c hc hg hv => exact fun hw => .map cur h1c ((hγ _ hw).trans hc) hg hv
  | nilm => exact fun _ => .nilm

/-- A closed plain value: its reading names no box. -/
theorem Rel.toClosed {c : Cx} {cl : Bool} {p : PV} {v : Value} (h : Rel c cl p v) : p.closed = true → Rel c true p v := by
  induction h with
  | any v => exact fun _ => .any v
  | bool b => exact fun _ => .bool b
  | ub b => exact fun _ => .ub b
  | int k n => exact fun _ => .int k n
  | str s => exact fun _ => .str s
  | agg hl _ ih => exact fun hw => .agg hl fun i x v h1 h2 => ih i x v h1 h2 (PV.within_go hw i x h1)
  | tup hl _ ih => exact fun hw => .tup hl fun i x v h1 h2 => ih i x v h1 h2 (PV.within_go hw i x h1)
  | ptr cur h1c hc hg hv => exact fun hw => by simp [PV.closed, PV.within] at hw
  | addr a => exact fun _ => .addr a
  | nilp => exact fun _ => .nilp
  | slnil s a => exact fun _ => .slnil s a
  | sl k off cap cells e fr hA hh hsz hcap hs h1 h2 _ => exact fun _ => .sl k off cap cells e fr hA hh hsz hcap hs h1 h2
  | ept i o k off cells e fr hA hh hsz hs h1 h2 _ => exact fun _ => .ept i o k off cells e fr hA hh hsz hs h1 h2
  | bsl cur h1c hc hg hv => exact fun hw => by simp [PV.closed, PV.within] at hw
  | nils => exact fun _ => .nils
  | clo h1 _ h2 _ ih1 ih2 =>
    intro hw
    simp only [PV.closed, PV.within, Bool.and_eq_true] at hw
    exact .clo h1 (fun i x v a b => ih1 i x v a b (PV.within_go hw.1 i x a)) h2 (fun i x v a b => ih2 i x v a b (PV.within_go hw.2 i x a))
  | nilf => exact fun _ => .nilf
  | ifc _ ih => exact fun hw => .ifc (ih hw)
  | nili => exact fun _ => .nili
  | map cur h1c hc hg hv => exact fun hw => by simp [PV.closed, PV.within] at hw
  | nilm => exact fun _ => .nilm

theorem Rel.open {c : Cx} {p : PV} {v : Value} (h : Rel c true p v) : Rel c false p v := h.closed (fun _ h => ⟨h, rfl⟩) rfl false

/-! ### What a box holds -/

def Box.live (x : Box) : Bool := match x.body with | .dead => false | _ => true

structure RowRel (c : Cx) (own : Bool) (s : Nat) (xs : List PV) (k : Nat) : Prop where
  ex : ∃ cells e fr, c.w.heap[k]? = some (.cells cells e fr) ∧ (own = true → fr = (0, 0)) ∧ xs.length * s ≤ cells.size ∧
    (∀ (i : Nat) x, xs[i]? = some x → x.cells.length = s) ∧
    (∀ (i : Nat) x (j : Nat) y v, xs[i]? = some x → x.cells[j]? = some y → cells[i * s + j]? = some v → v.oneCell' = true ∧ Rel c false y v)

def stampsOk (es : List MapEntry) (clock : Nat) : Prop := (es.map (·.born)).Nodup ∧ ∀ m ∈ es, m.born < clock

structure MapRel (c : Cx) (es : List (PV × PV)) (k : Nat) : Prop where
  ex : ∃ ms clock, c.w.heap[k]? = some (.map ms clock) ∧ es.length = ms.size ∧ stampsOk ms.toList clock ∧
    (∀ (i : Nat) e m, es[i]? = some e → ms[i]? = some m → Rel c true e.1 m.key ∧ Rel c false e.2 m.val)

def BoxRel (c : Cx) (b : Nat) (x : Box) : Prop :=
  match x.body with
  | .dead => True
  | .arr s xs => (∃ k, c.β b = some k ∧ RowRel c x.own s xs k) ∨ (xs = [] ∧ c.β b = none)
  | .map es => ∃ k, c.β b = some k ∧ MapRel c es k

abbrev FH := Nat → Option Box

structure Sim (c : Cx) (H : FH) : Prop where
  gam : ∀ b, c.γ b = (H b).map Box.gen
  box : ∀ b x, H b = some x → BoxRel c b x
  inj : ∀ b b' x x' k, H b = some x → H b' = some x' → x.own = true → x.live = true → x'.live = true → b ≠ b' → c.β b = some k → c.β b' ≠ some k
  sep : ∀ b x k, H b = some x → x.own = true → x.live = true → c.β b = some k → ¬ c.A k
  frz : ∀ b x k, H b = some x → x.own = false → x.live = true → c.β b = some k → c.A k
  bnd : ∀ k, c.A k → k < c.w.heap.size
  ded : ∀ b x, H b = some x → x.live = false → c.β b = none

/-- Is the block one of the boxes that may be written? -/
def Owned (c : Cx) (H : FH) (k : Nat) : Prop := ∃ b x, H b = some x ∧ x.own = true ∧ x.live = true ∧ c.β b = some k

/-- From a start to a later moment of one call. -/
structure Ext (c : Cx) (H : FH) (c' : Cx) (H' : FH) : Prop where
  le : c.Le c'
  os : c'.w.os = c.w.os
  tape : c'.w.tape = c.w.tape
  output : c'.w.output = c.w.output
  size : c.w.heap.size ≤ c'.w.heap.size
  old : ∀ k, k < c.w.heap.size → ¬ Owned c H k → c'.w.heap[k]? = c.w.heap[k]?
  imm : ∀ k, c'.A k → c.A k ∨ c.w.heap.size ≤ k ∨ Owned c H k
  own : ∀ k, Owned c' H' k → c.w.heap.size ≤ k ∨ Owned c H k

theorem Ext.refl (c : Cx) (H : FH) : Ext c H c H :=
  ⟨.refl c, rfl, rfl, rfl, Nat.le_refl _, fun _ _ _ => rfl, fun _ h => .inl h, fun _ h => .inr h⟩

theorem Ext.trans {c c' c'' : Cx} {H H' H'' : FH} (h : Ext c H c' H') (h' : Ext c' H' c'' H'') : Ext c H c'' H'' := by
  refine ⟨h.le.trans h'.le, h'.os.trans h.os, h'.tape.trans h.tape, h'.output.trans h.output, Nat.le_trans h.size h'.size, fun k hk ho => ?_, fun k hk => ?_, fun k hk => ?_⟩
  · rw [h'.old k (Nat.lt_of_lt_of_le hk h.size) (fun hw => ?_), h.old k hk ho]
    rcases h.own k hw with h1 | h1
    · omega
    · exact ho h1
  · rcases h'.imm k hk with h1 | h1 | h1
    · exact h.imm k h1
    · exact .inr (.inl (Nat.le_trans h.size h1))
    · rcases h.own k h1 with h2 | h2
      · exact .inr (.inl h2)
      · exact .inr (.inr h2)
  · rcases h'.own k hk with h1 | h1
    · exact .inl (Nat.le_trans h.size h1)
    · exact h.own k h1

def RelL (c : Cx) (ps : List PV) (vs : List Value) : Prop := ps.length = vs.length ∧ ∀ (i : Nat) p v, ps[i]? = some p → vs[i]? = some v → Rel c false p v

theorem RelL.mono {c c' : Cx} (hle : c.Le c') {ps : List PV} {vs : List Value} (h : RelL c ps vs) : RelL c' ps vs :=
  ⟨h.1, fun i p v a b => (h.2 i p v a b).mono hle⟩

theorem RelL.nil (c : Cx) : RelL c [] [] := ⟨rfl, fun i p v h => by simp at h⟩
theorem RelL.cons {c : Cx} {p : PV} {v : Value} {ps : List PV} {vs : List Value} (h : Rel c false p v) (ht : RelL c ps vs) : RelL c (p :: ps) (v :: vs) := by
  refine ⟨by simp [ht.1], fun i q u a b => ?_⟩
  cases i with
  | zero => simp at a b; subst a; subst b; exact h
  | succ i => exact ht.2 i q u (by simpa using a) (by simpa using b)
theorem RelL.set {c : Cx} {ps : List PV} {vs : List Value} (h : RelL c ps vs) {p : PV} {v : Value} (hp : Rel c false p v) (d : Nat) : RelL c (ps.set d p) (vs.set d v) := by
  refine ⟨by simp [h.1], fun i q u a b => ?_⟩
  rw [List.getElem?_set] at a b
  by_cases hd : d = i
  · subst hd
    simp only [if_true] at a b
    split at a
    · rw [if_pos (by rw [← h.1]; assumption)] at b
      simp at a b; subst a; subst b; exact hp
    · simp at a
  · simp only [hd, if_false] at a b
    exact h.2 i q u a b

/-- What a call does, in plain values: whatever blocks the boxes are. -/
def PCall (P : Program) (f : FuncId) (args : List PV) (H : FH) (R : PV → FH → Prop) : Prop :=
  ∀ (c : Cx) (vs : List Value), Sim c H → RelL c args vs → Calls P f vs.toArray c.w fun e w' => ∃ r v c' H', e = .returned v ∧ c'.w = w' ∧ R r H' ∧ Sim c' H' ∧ Rel c' false r v ∧ Ext c H c' H'

theorem PCall.mono {P : Program} {f : FuncId} {args : List PV} {H : FH} {R R' : PV → FH → Prop} (h : PCall P f args H R) (hr : ∀ r H', R r H' → R' r H') : PCall P f args H R' :=
  fun c vs hs ha => (h c vs hs ha).mono fun _ _ ⟨r, v, c', H', h1, h2, h3, h4⟩ => ⟨r, v, c', H', h1, h2, hr _ _ h3, h4⟩

end Pv
