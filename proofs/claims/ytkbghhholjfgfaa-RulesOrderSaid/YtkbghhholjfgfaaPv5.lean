import Derived.Test.YtkbghhholjfgfaaPv4
import Derived.Laws.CopyRow
namespace Pv
open Go

def upd (H : FH) : List (Nat × Box) → FH
  | [] => H
  | (k, x) :: t => upd (fun b => if b = k then some x else H b) t

theorem find_put (h : Heap) (k : Nat) (x : Box) : find (put h k x) = fun b => if b = k then some x else find h b := by
  funext b
  induction h with
  | nil =>
    by_cases e : b = k
    · subst e; simp [put, find]
    · have e' : ¬ k = b := fun e' => e e'.symm
      simp [put, find, e, e']
  | cons p t ih =>
    obtain ⟨i, y⟩ := p
    by_cases hi : i = k
    · subst hi
      by_cases e : b = i
      · subst e; simp [put, find]
      · have e' : ¬ i = b := fun e' => e e'.symm
        simp [put, find, e, e']
    · by_cases e : b = k
      · subst e
        simp [put, find, hi, ih]
      · by_cases e2 : i = b
        · subst e2; simp [put, find, hi]
        · simp [put, find, hi, e2, ih, e]

theorem find_puts (h : Heap) (l : List (Nat × Box)) : find (puts h l) = upd (find h) l := by
  induction l generalizing h with
  | nil => rfl
  | cons p t ih =>
    obtain ⟨k, x⟩ := p
    simp only [puts, upd]
    rw [ih, find_put]

section
variable {c : Cx} {H : FH}

/-- The world has gone on, the boxes have not. -/
theorem Sim.world (hs : Sim c H) (w' : World) (hh : ∀ k, k < c.w.heap.size → w'.heap[k]? = c.w.heap[k]?) (hz : c.w.heap.size ≤ w'.heap.size) (ho : w'.os = c.w.os) (ht : w'.tape = c.w.tape) (hu : w'.output = c.w.output) :
    Sim { c with w := w' } H ∧ Ext c H { c with w := w' } H := by
  have hle : c.Le { c with w := w' } := by
    refine ⟨fun k hk => ⟨hk, hh k (hs.bnd k hk)⟩, fun b cur hb => ⟨cur, hb, Nat.le_refl _, fun _ => ⟨rfl, fun k cells e fr hk hc => ⟨cells, fr, ?_, rfl⟩⟩⟩⟩
    exact (hh k (Array.getElem?_eq_some_iff.1 hc).1).trans hc
  refine ⟨⟨hs.gam, fun b x hb => ?_, hs.inj, hs.sep, hs.frz, fun k hk => Nat.lt_of_lt_of_le (hs.bnd k hk) hz, hs.ded⟩, ⟨hle, ho, ht, hu, hz, fun k hk _ => hh k hk, fun k hk => .inl hk, fun k hk => .inr hk⟩⟩
  cases hl : x.live with
  | false =>
    have : x.body = .dead := by unfold Box.live at hl; cases hx : x.body <;> simp_all
    simp [BoxRel, this]
  | true => exact (hs.box b x hb).mono hle rfl fun k hk => hh k ((hs.box b x hb).lt hl hk)

/-- An own row written anew, in place. -/
theorem Sim.write (hs : Sim c H) {b : Nat} {x : Box} (hb : H b = some x) (ho : x.own = true) (hl : x.live = true) {k : Nat} (hk : c.β b = some k) {cells cells' : Array Value} {e : TypeId}
    (hh : c.w.heap[k]? = some (.cells cells e (0, 0))) (hz : cells'.size = cells.size) (g' : Nat) (hg : x.gen ≤ g') {s : Nat} {xs' : List PV} (h1 : xs'.length * s ≤ cells.size)
    (h2 : ∀ (i : Nat) y, xs'[i]? = some y → y.cells.length = s)
    (h3 : ∀ (i : Nat) y (j : Nat) p v, xs'[i]? = some y → y.cells[j]? = some p → cells'[i * s + j]? = some v → v.oneCell' = true ∧ Rel c false p v) :
    ∃ c', c'.w = c.w.setRow k cells' ∧ c'.β = c.β ∧ c'.γ b = some g' ∧ c.Le c' ∧ Sim c' (upd H [(b, ⟨g', true, .arr s xs'⟩)]) ∧ Ext c H c' (upd H [(b, ⟨g', true, .arr s xs'⟩)]) := by
  let c' : Cx := { c with w := c.w.setRow k cells', γ := fun i => if i = b then some g' else c.γ i }
  have hnew : c'.w.heap[k]? = some (.cells cells' e (0, 0)) := setRow_heap c.w k cells cells' e (0, 0) hh
  have hoth : ∀ k', k' ≠ k → c'.w.heap[k']? = c.w.heap[k']? := fun k' h => setRow_other c.w k k' cells' h
  have hsz : c'.w.heap.size = c.w.heap.size := by simp [c', World.setRow]
  have hle : c.Le c' := by
    refine ⟨fun k' hk' => ⟨hk', hoth k' fun e => hs.sep b x k hb ho hl hk (e ▸ hk')⟩, fun i cur hi => ?_⟩
    by_cases hib : i = b
    · subst hib
      rw [hs.gam i, hb] at hi
      simp only [Option.map_some, Option.some.injEq] at hi
      subst hi
      refine ⟨g', by simp [c'], hg, fun _ => ⟨rfl, fun k1 cells1 e1 fr1 hk1 hc1 => ?_⟩⟩
      rw [hk] at hk1; cases hk1
      rw [hh] at hc1; cases hc1
      exact ⟨cells', (0, 0), hnew, hz⟩
    · refine ⟨cur, by simp [c', hib, hi], Nat.le_refl _, fun _ => ⟨rfl, fun k1 cells1 e1 fr1 hk1 hc1 => ?_⟩⟩
      by_cases hkk : k1 = k
      · subst hkk
        rw [hh] at hc1; cases hc1
        exact ⟨cells', (0, 0), hnew, hz⟩
      · exact ⟨cells1, fr1, (hoth k1 hkk).trans hc1, rfl⟩
  have hlive : Box.live ⟨g', true, .arr s xs'⟩ = true := rfl
  refine ⟨c', rfl, rfl, by simp [c'], hle, ⟨fun i => ?_, fun i y hi => ?_, fun i i' y y' k1 hi hi' ho1 hl1 hl1' hne hk1 => ?_, fun i y k1 hi ho1 hl1 hk1 => ?_, fun i y k1 hi ho1 hl1 hk1 => ?_, fun k1 hk1 => ?_, fun i y hi hl1 => ?_⟩, ⟨hle, rfl, rfl, rfl, by omega, fun k1 _ ho1 => ?_, fun k1 hk1 => .inl hk1, fun k1 hk1 => ?_⟩⟩
  · simp only [upd, c']
    by_cases hib : i = b
    · simp [hib]
    · simp [hib, hs.gam i]
  · simp only [upd] at hi
    by_cases hib : i = b
    · subst hib
      simp only [if_true, Option.some.injEq] at hi
      subst hi
      refine .inl ⟨k, hk, ⟨cells', e, (0, 0), hnew, fun _ => rfl, by omega, h2, fun i y j p v a1 a2 a3 => ?_⟩⟩
      exact ⟨(h3 i y j p v a1 a2 a3).1, (h3 i y j p v a1 a2 a3).2.mono hle⟩
    · simp only [hib, if_false] at hi
      cases hl1 : y.live with
      | false =>
        have : y.body = .dead := by unfold Box.live at hl1; cases hx : y.body <;> simp_all
        simp [BoxRel, this]
      | true =>
        refine (hs.box i y hi).mono hle rfl fun k1 hk1 => hoth k1 fun e => ?_
        subst e
        exact hs.inj b i x y k1 hb hi ho hl hl1 (fun e => hib e.symm) hk hk1
  · simp only [upd] at hi hi'
    by_cases hib : i = b
    · subst hib
      have hne' : ¬ i' = i := fun e => hne e.symm
      simp only [hne', if_false] at hi'
      exact hs.inj i i' x y' k1 hb hi' ho hl hl1' hne hk1
    · simp only [hib, if_false] at hi
      by_cases hib' : i' = b
      · subst hib'
        exact hs.inj i i' y x k1 hi hb ho1 hl1 hl hne hk1
      · simp only [hib', if_false] at hi'
        exact hs.inj i i' y y' k1 hi hi' ho1 hl1 hl1' hne hk1
  · simp only [upd] at hi
    by_cases hib : i = b
    · subst hib
      exact hs.sep i x k1 hb ho hl hk1
    · simp only [hib, if_false] at hi
      exact hs.sep i y k1 hi ho1 hl1 hk1
  · simp only [upd] at hi
    by_cases hib : i = b
    · subst hib
      simp only [if_true, Option.some.injEq] at hi
      subst hi
      simp at ho1
    · simp only [hib, if_false] at hi
      exact hs.frz i y k1 hi ho1 hl1 hk1
  · have := hs.bnd k1 hk1
    omega
  · simp only [upd] at hi
    by_cases hib : i = b
    · subst hib
      simp only [if_true, Option.some.injEq] at hi
      subst hi
      simp [Box.live] at hl1
    · simp only [hib, if_false] at hi
      exact hs.ded i y hi hl1
  · exact hoth k1 fun e => ho1 ⟨b, x, hb, ho, hl, e ▸ hk⟩
  · obtain ⟨i, y, hi, ho1, hl1, hk1⟩ := hk1
    simp only [upd] at hi
    by_cases hib : i = b
    · subst hib
      exact .inr ⟨i, x, hb, ho, hl, hk1⟩
    · simp only [hib, if_false] at hi
      exact .inr ⟨i, y, hi, ho1, hl1, hk1⟩

/-- A new row at the heap's end, for a box. -/
theorem Sim.fresh (hs : Sim c H) (b g' : Nat) (hg : ∀ x, H b = some x → x.gen < g') {w' : World} {cells : Array Value} {e : TypeId} (hw : w'.heap = c.w.heap.push (.cells cells e (0, 0)))
    (ho : w'.os = c.w.os) (ht : w'.tape = c.w.tape) (hu : w'.output = c.w.output) {s : Nat} {xs' : List PV} (h1 : xs'.length * s ≤ cells.size)
    (h2 : ∀ (i : Nat) y, xs'[i]? = some y → y.cells.length = s)
    (h3 : ∀ (i : Nat) y (j : Nat) p v, xs'[i]? = some y → y.cells[j]? = some p → cells[i * s + j]? = some v → v.oneCell' = true ∧ Rel c false p v) :
    ∃ c', c'.w = w' ∧ c'.β b = some c.w.heap.size ∧ c'.γ b = some g' ∧ c.Le c' ∧ Sim c' (upd H [(b, ⟨g', true, .arr s xs'⟩)]) ∧ Ext c H c' (upd H [(b, ⟨g', true, .arr s xs'⟩)]) := by
  let c' : Cx := ⟨w', c.A, fun i => if i = b then some c.w.heap.size else c.β i, fun i => if i = b then some g' else c.γ i⟩
  have hnew : c'.w.heap[c.w.heap.size]? = some (.cells cells e (0, 0)) := by show w'.heap[c.w.heap.size]? = _; rw [hw]; simp
  have hoth : ∀ k', k' < c.w.heap.size → c'.w.heap[k']? = c.w.heap[k']? := fun k' h => by
    show w'.heap[k']? = _
    rw [hw, Array.getElem?_push, if_neg (by omega)]
  have hsz : c'.w.heap.size = c.w.heap.size + 1 := by show w'.heap.size = _; rw [hw]; simp
  have hle : c.Le c' := by
    refine ⟨fun k' hk' => ⟨hk', hoth k' (hs.bnd k' hk')⟩, fun i cur hi => ?_⟩
    by_cases hib : i = b
    · subst hib
      rw [hs.gam i] at hi
      cases hx : H i with
      | none => simp [hx] at hi
      | some x =>
        simp only [hx, Option.map_some, Option.some.injEq] at hi
        have := hg x hx
        exact ⟨g', by simp [c'], by omega, fun h => by omega⟩
    · refine ⟨cur, by simp [c', hib, hi], Nat.le_refl _, fun _ => ⟨by simp [c', hib], fun k1 cells1 e1 fr1 hk1 hc1 => ?_⟩⟩
      exact ⟨cells1, fr1, (hoth k1 (Array.getElem?_eq_some_iff.1 hc1).1).trans hc1, rfl⟩
  have hβ : ∀ i, i ≠ b → c'.β i = c.β i := fun i h => by simp [c', h]
  refine ⟨c', rfl, by simp [c'], by simp [c'], hle, ⟨fun i => ?_, fun i y hi => ?_, fun i i' y y' k1 hi hi' ho1 hl1 hl1' hne hk1 hk1' => ?_, fun i y k1 hi ho1 hl1 hk1 hA => ?_, fun i y k1 hi ho1 hl1 hk1 => ?_, fun k1 hk1 => ?_, fun i y hi hl1 => ?_⟩, ⟨hle, ho, ht, hu, by omega, fun k1 hk1 _ => hoth k1 hk1, fun k1 hk1 => .inl hk1, fun k1 hk1 => ?_⟩⟩
  · simp only [upd, c']
    by_cases hib : i = b
    · simp [hib]
    · simp [hib, hs.gam i]
  · simp only [upd] at hi
    by_cases hib : i = b
    · subst hib
      simp only [if_true, Option.some.injEq] at hi
      subst hi
      refine .inl ⟨c.w.heap.size, by simp [c'], ⟨cells, e, (0, 0), hnew, fun _ => rfl, h1, h2, fun i y j p v a1 a2 a3 => ?_⟩⟩
      exact ⟨(h3 i y j p v a1 a2 a3).1, (h3 i y j p v a1 a2 a3).2.mono hle⟩
    · simp only [hib, if_false] at hi
      cases hl1 : y.live with
      | false =>
        have : y.body = .dead := by unfold Box.live at hl1; cases hx : y.body <;> simp_all
        simp [BoxRel, this]
      | true => exact (hs.box i y hi).mono hle (hβ i hib) fun k1 hk1 => hoth k1 ((hs.box i y hi).lt hl1 hk1)
  · simp only [upd] at hi hi'
    by_cases hib : i = b
    · subst hib
      have hne' : ¬ i' = i := fun e => hne e.symm
      simp only [hne', if_false] at hi'
      rw [hβ i' hne'] at hk1'
      have := (hs.box i' y' hi').lt hl1' hk1'
      simp only [c', if_true, Option.some.injEq] at hk1
      omega
    · simp only [hib, if_false] at hi
      rw [hβ i hib] at hk1
      have h5 := (hs.box i y hi).lt hl1 hk1
      by_cases hib' : i' = b
      · subst hib'
        simp only [c', if_true, Option.some.injEq] at hk1'
        omega
      · simp only [hib', if_false] at hi'
        rw [hβ i' hib'] at hk1'
        exact hs.inj i i' y y' k1 hi hi' ho1 hl1 hl1' hne hk1 hk1'
  · simp only [upd] at hi
    by_cases hib : i = b
    · subst hib
      simp only [c', if_true, Option.some.injEq] at hk1
      have := hs.bnd k1 hA
      omega
    · simp only [hib, if_false] at hi
      rw [hβ i hib] at hk1
      exact hs.sep i y k1 hi ho1 hl1 hk1 hA
  · simp only [upd] at hi
    by_cases hib : i = b
    · subst hib
      simp only [if_true, Option.some.injEq] at hi
      subst hi
      simp at ho1
    · simp only [hib, if_false] at hi
      rw [hβ i hib] at hk1
      exact hs.frz i y k1 hi ho1 hl1 hk1
  · have := hs.bnd k1 hk1
    omega
  · simp only [upd] at hi
    by_cases hib : i = b
    · subst hib
      simp only [if_true, Option.some.injEq] at hi
      subst hi
      simp [Box.live] at hl1
    · simp only [hib, if_false] at hi
      rw [hβ i hib]
      exact hs.ded i y hi hl1
  · obtain ⟨i, y, hi, ho1, hl1, hk1⟩ := hk1
    simp only [upd] at hi
    by_cases hib : i = b
    · subst hib
      simp only [c', if_true, Option.some.injEq] at hk1
      exact .inl (by omega)
    · simp only [hib, if_false] at hi
      rw [hβ i hib] at hk1
      exact .inr ⟨i, y, hi, ho1, hl1, hk1⟩

/-- A box without a block: nothing in it. -/
theorem Sim.virt (hs : Sim c H) (b g' : Nat) (hg : ∀ x, H b = some x → x.gen < g') (x' : Box) (hx' : x'.gen = g') (hb' : (∃ s, x'.body = .arr s []) ∨ x'.body = .dead) :
    ∃ c', c'.w = c.w ∧ c'.γ b = some g' ∧ c.Le c' ∧ Sim c' (upd H [(b, x')]) ∧ Ext c H c' (upd H [(b, x')]) := by
  let c' : Cx := ⟨c.w, c.A, fun i => if i = b then none else c.β i, fun i => if i = b then some g' else c.γ i⟩
  have hle : c.Le c' := by
    refine ⟨fun k' hk' => ⟨hk', rfl⟩, fun i cur hi => ?_⟩
    by_cases hib : i = b
    · subst hib
      rw [hs.gam i] at hi
      cases hx : H i with
      | none => simp [hx] at hi
      | some x =>
        simp only [hx, Option.map_some, Option.some.injEq] at hi
        have := hg x hx
        exact ⟨g', by simp [c'], by omega, fun h => by omega⟩
    · exact ⟨cur, by simp [c', hib, hi], Nat.le_refl _, fun _ => ⟨by simp [c', hib], fun k1 cells1 e1 fr1 hk1 hc1 => ⟨cells1, fr1, hc1, rfl⟩⟩⟩
  have hβ : ∀ i, i ≠ b → c'.β i = c.β i := fun i h => by simp [c', h]
  have hβb : c'.β b = none := by simp [c']
  refine ⟨c', rfl, by simp [c'], hle, ⟨fun i => ?_, fun i y hi => ?_, fun i i' y y' k1 hi hi' ho1 hl1 hl1' hne hk1 hk1' => ?_, fun i y k1 hi ho1 hl1 hk1 hA => ?_, fun i y k1 hi ho1 hl1 hk1 => ?_, hs.bnd, fun i y hi hl1 => ?_⟩, ⟨hle, rfl, rfl, rfl, Nat.le_refl _, fun k1 hk1 _ => rfl, fun k1 hk1 => .inl hk1, fun k1 hk1 => ?_⟩⟩
  · simp only [upd, c']
    by_cases hib : i = b
    · simp [hib, hx']
    · simp [hib, hs.gam i]
  · simp only [upd] at hi
    by_cases hib : i = b
    · subst hib
      simp only [if_true, Option.some.injEq] at hi
      subst hi
      rcases hb' with ⟨s, hb'⟩ | hb'
      · simp only [BoxRel, hb']
        exact .inr ⟨trivial, hβb⟩
      · simp [BoxRel, hb']
    · simp only [hib, if_false] at hi
      exact (hs.box i y hi).mono hle (hβ i hib) fun k1 hk1 => rfl
  · simp only [upd] at hi hi'
    by_cases hib : i = b
    · subst hib; rw [hβb] at hk1; cases hk1
    · by_cases hib' : i' = b
      · subst hib'; rw [hβb] at hk1'; cases hk1'
      · simp only [hib, hib', if_false] at hi hi'
        rw [hβ i hib] at hk1
        rw [hβ i' hib'] at hk1'
        exact hs.inj i i' y y' k1 hi hi' ho1 hl1 hl1' hne hk1 hk1'
  · simp only [upd] at hi
    by_cases hib : i = b
    · subst hib; rw [hβb] at hk1; cases hk1
    · simp only [hib, if_false] at hi
      rw [hβ i hib] at hk1
      exact hs.sep i y k1 hi ho1 hl1 hk1 hA
  · simp only [upd] at hi
    by_cases hib : i = b
    · subst hib; rw [hβb] at hk1; cases hk1
    · simp only [hib, if_false] at hi
      rw [hβ i hib] at hk1
      exact hs.frz i y k1 hi ho1 hl1 hk1
  · simp only [upd] at hi
    by_cases hib : i = b
    · subst hib; exact hβb
    · simp only [hib, if_false] at hi
      rw [hβ i hib]
      exact hs.ded i y hi hl1
  · obtain ⟨i, y, hi, ho1, hl1, hk1⟩ := hk1
    simp only [upd] at hi
    by_cases hib : i = b
    · subst hib; rw [hβb] at hk1; cases hk1
    · simp only [hib, if_false] at hi
      rw [hβ i hib] at hk1
      exact .inr ⟨i, y, hi, ho1, hl1, hk1⟩

/-- A box that nobody writes any more. -/
theorem Sim.freeze (hs : Sim c H) {b : Nat} {x : Box} (hb : H b = some x) :
    ∃ c', c'.w = c.w ∧ c'.γ = c.γ ∧ c'.β = c.β ∧ (∀ k, x.live = true → c.β b = some k → c'.A k) ∧ c.Le c' ∧ Sim c' (upd H [(b, { x with own := false })]) ∧ Ext c H c' (upd H [(b, { x with own := false })]) := by
  let c' : Cx := { c with A := fun k => c.A k ∨ (x.live = true ∧ c.β b = some k) }
  have hle : c.Le c' := ⟨fun k' hk' => ⟨.inl hk', rfl⟩, fun i cur hi => ⟨cur, hi, Nat.le_refl _, fun _ => ⟨rfl, fun k1 cells1 e1 fr1 _ hc1 => ⟨cells1, fr1, hc1, rfl⟩⟩⟩⟩
  refine ⟨c', rfl, rfl, rfl, fun k h1 h2 => .inr ⟨h1, h2⟩, hle, ⟨fun i => ?_, fun i y hi => ?_, fun i i' y y' k1 hi hi' ho1 hl1 hl1' hne hk1 hk1' => ?_, fun i y k1 hi ho1 hl1 hk1 hA => ?_, fun i y k1 hi ho1 hl1 hk1 => ?_, fun k1 hk1 => ?_, fun i y hi hl1 => ?_⟩, ⟨hle, rfl, rfl, rfl, Nat.le_refl _, fun k1 hk1 _ => rfl, fun k1 hk1 => ?_, fun k1 hk1 => ?_⟩⟩
  · simp only [upd, c']
    by_cases hib : i = b
    · subst hib; simp [hs.gam i, hb]
    · simp [hib, hs.gam i]
  · simp only [upd] at hi
    by_cases hib : i = b
    · subst hib
      simp only [if_true, Option.some.injEq] at hi
      subst hi
      have h5 := (hs.box i x hb).mono (c' := c') hle rfl fun _ _ => rfl
      unfold BoxRel at h5 ⊢
      simp only at h5 ⊢
      split at h5
      · trivial
      · rcases h5 with ⟨k, a1, a2⟩ | a1
        · obtain ⟨cells, e, fr, g1, _, g3⟩ := a2.ex
          exact .inl ⟨k, a1, ⟨cells, e, fr, g1, fun h => by simp at h, g3⟩⟩
        · exact .inr a1
      · exact h5
    · simp only [hib, if_false] at hi
      exact (hs.box i y hi).mono hle rfl fun k1 hk1 => rfl
  · simp only [upd] at hi hi'
    by_cases hib : i = b
    · subst hib
      simp only [if_true, Option.some.injEq] at hi
      subst hi
      simp at ho1
    · simp only [hib, if_false] at hi
      by_cases hib' : i' = b
      · subst hib'
        simp only [if_true, Option.some.injEq] at hi'
        subst hi'
        exact hs.inj i i' y x k1 hi hb ho1 hl1 hl1' hne hk1 hk1'
      · simp only [hib', if_false] at hi'
        exact hs.inj i i' y y' k1 hi hi' ho1 hl1 hl1' hne hk1 hk1'
  · simp only [upd] at hi
    by_cases hib : i = b
    · subst hib
      simp only [if_true, Option.some.injEq] at hi
      subst hi
      simp at ho1
    · simp only [hib, if_false] at hi
      rcases hA with hA | ⟨hA1, hA2⟩
      · exact hs.sep i y k1 hi ho1 hl1 hk1 hA
      · exact hs.inj i b y x k1 hi hb ho1 hl1 hA1 hib hk1 hA2
  · simp only [upd] at hi
    by_cases hib : i = b
    · subst hib
      simp only [if_true, Option.some.injEq] at hi
      subst hi
      exact .inr ⟨hl1, hk1⟩
    · simp only [hib, if_false] at hi
      exact .inl (hs.frz i y k1 hi ho1 hl1 hk1)
  · rcases hk1 with hk1 | ⟨h1, h2⟩
    · exact hs.bnd k1 hk1
    · exact (hs.box b x hb).lt h1 h2
  · simp only [upd] at hi
    by_cases hib : i = b
    · subst hib
      simp only [if_true, Option.some.injEq] at hi
      subst hi
      exact hs.ded i x hb hl1
    · simp only [hib, if_false] at hi
      exact hs.ded i y hi hl1
  · rcases hk1 with hk1 | ⟨h1, h2⟩
    · exact .inl hk1
    · cases ho : x.own with
      | true => exact .inr (.inr ⟨b, x, hb, ho, h1, h2⟩)
      | false => exact .inl (hs.frz b x k1 hb ho h1 h2)
  · obtain ⟨i, y, hi, ho1, hl1, hk1⟩ := hk1
    simp only [upd] at hi
    by_cases hib : i = b
    · subst hib
      simp only [if_true, Option.some.injEq] at hi
      subst hi
      simp at ho1
    · simp only [hib, if_false] at hi
      exact .inr ⟨i, y, hi, ho1, hl1, hk1⟩

end
end Pv
