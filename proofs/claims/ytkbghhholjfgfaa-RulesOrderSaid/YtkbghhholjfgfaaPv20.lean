import Derived.Test.YtkbghhholjfgfaaPv19
set_option linter.unusedSimpArgs false
set_option linter.unusedVariables false
namespace Pv
open Go

mutual
theorem view_ids {H : FH} : ∀ {p q : PV} {ids : List Nat}, view H p = some (q, ids) → ∀ b ∈ ids, (H b).isSome = true
  | .bsl b g s st n, q, ids, h => by
    simp only [view] at h
    split at h
    · rename_i x xs hb
      split at h
      · simp only [Option.some.injEq, Prod.mk.injEq] at h
        obtain ⟨_, rfl⟩ := h
        intro b' hb'
        simp at hb'; subst hb'
        rw [(boxArr_inv hb).1]; rfl
      · cases h
    · cases h
  | .agg cs, q, ids, h => by
    simp only [view] at h
    cases hv : viewL H cs with
    | none => simp [hv] at h
    | some pr =>
      obtain ⟨ys, js⟩ := pr
      simp only [hv, Option.map_some, Option.some.injEq, Prod.mk.injEq] at h
      obtain ⟨_, rfl⟩ := h
      exact viewL_ids hv
  | .any, q, ids, h => by simp only [view] at h; split at h <;> simp at h; obtain ⟨_, rfl⟩ := h; simp
  | .bool _, q, ids, h => by simp only [view] at h; split at h <;> simp at h; obtain ⟨_, rfl⟩ := h; simp
  | .int _ _, q, ids, h => by simp only [view] at h; split at h <;> simp at h; obtain ⟨_, rfl⟩ := h; simp
  | .str _, q, ids, h => by simp only [view] at h; split at h <;> simp at h; obtain ⟨_, rfl⟩ := h; simp
  | .tup _, q, ids, h => by simp only [view] at h; split at h <;> simp at h; obtain ⟨_, rfl⟩ := h; simp
  | .ptr _ _ _ _ _, q, ids, h => by simp only [view] at h; split at h <;> simp at h; obtain ⟨_, rfl⟩ := h; simp
  | .addr _, q, ids, h => by simp only [view] at h; split at h <;> simp at h; obtain ⟨_, rfl⟩ := h; simp
  | .nilp, q, ids, h => by simp only [view] at h; split at h <;> simp at h; obtain ⟨_, rfl⟩ := h; simp
  | .ept _ _ _ _, q, ids, h => by simp only [view] at h; split at h <;> simp at h; obtain ⟨_, rfl⟩ := h; simp
  | .sl _ _, q, ids, h => by simp only [view] at h; split at h <;> simp at h; obtain ⟨_, rfl⟩ := h; simp
  | .ub, q, ids, h => by simp only [view] at h; split at h <;> simp at h; obtain ⟨_, rfl⟩ := h; simp
  | .nils, q, ids, h => by simp only [view] at h; split at h <;> simp at h; obtain ⟨_, rfl⟩ := h; simp
  | .clo _ _ _, q, ids, h => by simp only [view] at h; split at h <;> simp at h; obtain ⟨_, rfl⟩ := h; simp
  | .nilf, q, ids, h => by simp only [view] at h; split at h <;> simp at h; obtain ⟨_, rfl⟩ := h; simp
  | .ifc _ _, q, ids, h => by simp only [view] at h; split at h <;> simp at h; obtain ⟨_, rfl⟩ := h; simp
  | .nili, q, ids, h => by simp only [view] at h; split at h <;> simp at h; obtain ⟨_, rfl⟩ := h; simp
  | .map _ _, q, ids, h => by simp only [view] at h; split at h <;> simp at h; obtain ⟨_, rfl⟩ := h; simp
  | .nilm, q, ids, h => by simp only [view] at h; split at h <;> simp at h; obtain ⟨_, rfl⟩ := h; simp
theorem viewL_ids {H : FH} : ∀ {ps qs : List PV} {ids : List Nat}, viewL H ps = some (qs, ids) → ∀ b ∈ ids, (H b).isSome = true
  | [], qs, ids, h => by simp only [viewL, Option.some.injEq, Prod.mk.injEq] at h; obtain ⟨_, rfl⟩ := h; simp
  | x :: t, qs, ids, h => by
    simp only [viewL] at h
    split at h
    · rename_i y is ys js h1 h2
      simp only [Option.some.injEq, Prod.mk.injEq] at h
      obtain ⟨_, rfl⟩ := h
      intro b hb
      rw [List.mem_append] at hb
      rcases hb with hb | hb
      · exact view_ids h1 b hb
      · exact viewL_ids h2 b hb
    · cases h
end

mutual
theorem view_congr {H H' : FH} : ∀ {p q : PV} {ids : List Nat}, view H p = some (q, ids) → (∀ b ∈ ids, H' b = H b) → view H' p = some (q, ids)
  | .bsl b g s st n, q, ids, h, hr => by
    simp only [view] at h ⊢
    split at h
    · rename_i x xs hb
      split at h
      · rename_i hc
        simp only [Option.some.injEq, Prod.mk.injEq] at h
        obtain ⟨rfl, rfl⟩ := h
        rw [boxArr_congr (hr b (by simp)), hb]
        simp only [hc.1, hc.2, and_self, if_true]
      · cases h
    · cases h
  | .agg cs, q, ids, h, hr => by
    simp only [view] at h ⊢
    cases hv : viewL H cs with
    | none => simp [hv] at h
    | some pr =>
      obtain ⟨ys, js⟩ := pr
      simp only [hv, Option.map_some, Option.some.injEq, Prod.mk.injEq] at h
      obtain ⟨rfl, rfl⟩ := h
      rw [viewL_congr hv hr]; rfl
  | .any, q, ids, h, _ => by simpa only [view] using h
  | .bool _, q, ids, h, _ => by simpa only [view] using h
  | .int _ _, q, ids, h, _ => by simpa only [view] using h
  | .str _, q, ids, h, _ => by simpa only [view] using h
  | .tup _, q, ids, h, _ => by simpa only [view] using h
  | .ptr _ _ _ _ _, q, ids, h, _ => by simpa only [view] using h
  | .addr _, q, ids, h, _ => by simpa only [view] using h
  | .nilp, q, ids, h, _ => by simpa only [view] using h
  | .ept _ _ _ _, q, ids, h, _ => by simpa only [view] using h
  | .sl _ _, q, ids, h, _ => by simpa only [view] using h
  | .ub, q, ids, h, _ => by simpa only [view] using h
  | .nils, q, ids, h, _ => by simpa only [view] using h
  | .clo _ _ _, q, ids, h, _ => by simpa only [view] using h
  | .nilf, q, ids, h, _ => by simpa only [view] using h
  | .ifc _ _, q, ids, h, _ => by simpa only [view] using h
  | .nili, q, ids, h, _ => by simpa only [view] using h
  | .map _ _, q, ids, h, _ => by simpa only [view] using h
  | .nilm, q, ids, h, _ => by simpa only [view] using h
theorem viewL_congr {H H' : FH} : ∀ {ps qs : List PV} {ids : List Nat}, viewL H ps = some (qs, ids) → (∀ b ∈ ids, H' b = H b) → viewL H' ps = some (qs, ids)
  | [], qs, ids, h, _ => h
  | x :: t, qs, ids, h, hr => by
    simp only [viewL] at h ⊢
    split at h
    · rename_i y is ys js h1 h2
      simp only [Option.some.injEq, Prod.mk.injEq] at h
      obtain ⟨rfl, rfl⟩ := h
      rw [view_congr h1 fun b hb => hr b (by simp [hb]), viewL_congr h2 fun b hb => hr b (by simp [hb])]
    · cases h
end

theorem viewL_get {H : FH} : ∀ {ps qs : List PV} {ids : List Nat}, viewL H ps = some (qs, ids) → qs.length = ps.length ∧ ∀ (i : Nat) y, qs[i]? = some y → ∃ x js, ps[i]? = some x ∧ view H x = some (y, js) ∧ ∀ b ∈ js, b ∈ ids
  | [], qs, ids, h => by simp only [viewL, Option.some.injEq, Prod.mk.injEq] at h; obtain ⟨rfl, rfl⟩ := h; exact ⟨rfl, fun i y hy => by simp at hy⟩
  | x :: t, qs, ids, h => by
    simp only [viewL] at h
    split at h
    · rename_i y is ys js h1 h2
      simp only [Option.some.injEq, Prod.mk.injEq] at h
      obtain ⟨rfl, rfl⟩ := h
      obtain ⟨k1, k2⟩ := viewL_get h2
      refine ⟨by simp [k1], fun i z hz => ?_⟩
      cases i with
      | zero => simp at hz; subst hz; exact ⟨x, is, rfl, h1, fun b hb => by simp [hb]⟩
      | succ i =>
        obtain ⟨x', js', a1, a2, a3⟩ := k2 i z (by simpa using hz)
        exact ⟨x', js', by simpa using a1, a2, fun b hb => by simp [a3 b hb]⟩
    · cases h

/-- A function of plain values, called with slices that the caller may still write: what comes back leads to no memory. -/
theorem call_view {P : Program} {f : FuncId} {args args' : List PV} {ids : List Nat} {r : PV} (h : PFun P f args' r) (he : Enters P f) {H : FH} (hv : viewL H args = some (args', ids)) (hg : r.ground = true) : CallSem P f args H { v := r, rd := ids } := by
  intro H' hH'
  refine PInv.of_call he ?_
  intro c vs hs ha
  have hv' := viewL_congr hv hH'
  have hsm := Sim.empty (c := c) (fun k => k < c.w.heap.size) (fun _ h => h)
  obtain ⟨k1, k2⟩ := viewL_get hv'
  have has : RelL ⟨c.w, fun k => k < c.w.heap.size, fun _ => none, fun _ => none⟩ args' vs := by
    refine ⟨k1.trans ha.1, fun i p v a b => ?_⟩
    obtain ⟨x, js, a1, a2, a3⟩ := k2 i p a
    refine (view_rel hs (c' := ⟨c.w, fun k => k < c.w.heap.size, fun _ => none, fun _ => none⟩) rfl (fun k hk => hs.bnd k hk) (S := ids) (fun b hb k hk => ?_) x p js false v a2 a3 (ha.2 i x v a1 b)).open
    obtain ⟨y, hy⟩ := Option.isSome_iff_exists.1 (viewL_ids hv' b hb)
    cases hl : y.live with
    | true => exact (hs.box b y hy).lt hl hk
    | false => rw [hs.ded b y hy hl] at hk; cases hk
  refine (h.2 _ vs hsm has).mono ?_
  rintro e w' ⟨q, v, c1, H1, rfl, rfl, rfl, h1, hr, hx⟩
  have hno : ∀ k, ¬ Owned (⟨c.w, fun k => k < c.w.heap.size, fun _ => none, fun _ => none⟩ : Cx) (find []) k := fun k ⟨b, x, hb, _⟩ => by cases hb
  obtain ⟨g1, g2⟩ := hs.world c1.w (fun k hk => hx.old k hk (hno k)) hx.size hx.os hx.tape hx.output
  exact ⟨q, v, ⟨c1.w, c.A, c.β, c.γ⟩, H', rfl, rfl, ⟨rfl, rfl⟩, g1, hr.of_ground hg false, g2⟩

end Pv
