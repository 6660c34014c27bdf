import Derived.Test.YtkbghhholjfgfaaPv2
namespace Pv
open Go

def Body.within (S : Nat → Bool) : Body → Prop
  | .dead => True
  | .arr _ xs => ∀ x ∈ xs, x.within S = true
  | .map es => ∀ e ∈ es, e.2.within S = true

theorem PV.within_cells {S : Nat → Bool} {x : PV} (h : x.within S = true) : ∀ (j : Nat) y, x.cells[j]? = some y → y.within S = true := by
  intro j y hy
  cases x with
  | agg cs => exact PV.within_go (by simpa [PV.within] using h) j y (by simpa [PV.cells] using hy)
  | _ =>
    simp only [PV.cells] at hy
    cases j with
    | zero => simp at hy; subst hy; exact h
    | succ j => simp at hy

theorem RowRel.mono {c c' : Cx} (hle : c.Le c') {own : Bool} {s : Nat} {xs : List PV} {k : Nat} (hk : c'.w.heap[k]? = c.w.heap[k]?) (h : RowRel c own s xs k) : RowRel c' own s xs k := by
  obtain ⟨cells, e, fr, h1, h2, h3, h4, h5⟩ := h.ex
  exact ⟨cells, e, fr, hk.trans h1, h2, h3, h4, fun i x j y v a b d => ⟨(h5 i x j y v a b d).1, (h5 i x j y v a b d).2.mono hle⟩⟩

theorem MapRel.mono {c c' : Cx} (hle : c.Le c') {es : List (PV × PV)} {k : Nat} (hk : c'.w.heap[k]? = c.w.heap[k]?) (h : MapRel c es k) : MapRel c' es k := by
  obtain ⟨ms, clock, h1, h2, h3, h4⟩ := h.ex
  exact ⟨ms, clock, hk.trans h1, h2, h3, fun i e m a b => ⟨(h4 i e m a b).1.mono hle, (h4 i e m a b).2.mono hle⟩⟩

theorem BoxRel.mono {c c' : Cx} (hle : c.Le c') {b : Nat} {x : Box} (hb : c'.β b = c.β b) (hk : ∀ k, c.β b = some k → c'.w.heap[k]? = c.w.heap[k]?) (h : BoxRel c b x) : BoxRel c' b x := by
  unfold BoxRel at *
  split at h
  · trivial
  · rcases h with ⟨k, h1, h2⟩ | ⟨h1, h2⟩
    · exact .inl ⟨k, hb.trans h1, h2.mono hle (hk k h1)⟩
    · exact .inr ⟨h1, hb.trans h2⟩
  · obtain ⟨k, h1, h2⟩ := h
    exact ⟨k, hb.trans h1, h2.mono hle (hk k h1)⟩

theorem BoxRel.narrow {c : Cx} {S : Nat → Bool} {γ' : Nat → Option Nat} (hγ : ∀ b, S b = true → γ' b = c.γ b) {b : Nat} {x : Box} (hw : x.body.within S) (h : BoxRel c b x) :
    BoxRel { c with γ := γ' } b x := by
  unfold BoxRel at *
  split at h
  · simp_all
  · rename_i s xs hb
    rw [hb] at hw
    simp only [Body.within] at hw
    rcases h with ⟨k, h1, h2⟩ | h1
    · obtain ⟨cells, e, fr, g1, g2, g3, g4, g5⟩ := h2.ex
      refine .inl ⟨k, h1, ⟨cells, e, fr, g1, g2, g3, g4, fun i x j y v a b d => ⟨(g5 i x j y v a b d).1, (g5 i x j y v a b d).2.narrow hγ ?_⟩⟩⟩
      exact PV.within_cells (hw x (List.mem_of_getElem? a)) j y b
    · exact .inr h1
  · rename_i es hb
    rw [hb] at hw
    simp only [Body.within] at hw
    obtain ⟨k, h1, h2⟩ := h
    obtain ⟨ms, clock, g1, g2, g3, g4⟩ := h2.ex
    exact ⟨k, h1, ⟨ms, clock, g1, g2, g3, fun i e m a b => ⟨(g4 i e m a b).1.closed (c := c) (c' := { c with γ := γ' }) (fun _ h => ⟨h, rfl⟩) rfl true, (g4 i e m a b).2.narrow hγ (hw e (List.mem_of_getElem? a))⟩⟩⟩

theorem BoxRel.lt {c : Cx} {b : Nat} {x : Box} (h : BoxRel c b x) (hl : x.live = true) {k : Nat} (hk : c.β b = some k) : k < c.w.heap.size := by
  unfold BoxRel at h
  unfold Box.live at hl
  split at h
  · simp_all
  · rcases h with ⟨k', h1, h2⟩ | ⟨_, h2⟩
    · obtain ⟨cells, e, fr, g1, _⟩ := h2.ex
      rw [h1] at hk; cases hk
      exact (Array.getElem?_eq_some_iff.1 g1).1
    · rw [h2] at hk; cases hk
  · obtain ⟨k', h1, h2⟩ := h
    obtain ⟨ms, clock, g1, _⟩ := h2.ex
    rw [h1] at hk; cases hk
    exact (Array.getElem?_eq_some_iff.1 g1).1

/-- THE FRAME RULE: a call that knows some of the boxes leaves the others as they are. -/
theorem PCall.frame {P : Program} {f : FuncId} {args : List PV} {H : FH} {R : PV → FH → Prop} (h : PCall P f args H R) (Hb : FH)
    (hsub : ∀ b x, H b = some x → Hb b = some x) (hin : ∀ a ∈ args, a.within (fun b => (H b).isSome) = true) (hbox : ∀ b x, H b = some x → x.body.within (fun b => (H b).isSome))
    (hfresh : ∀ r H1, R r H1 → ∀ b, (H1 b).isSome = true → (H b).isSome = true ∨ Hb b = none) :
    PCall P f args Hb fun r H' => ∃ H1, R r H1 ∧ H' = fun b => (H1 b).or (Hb b) := by
  intro c vs hs ha
  have hγ : ∀ b, (H b).isSome = true → (H b).map Box.gen = c.γ b := fun b hb => by
    obtain ⟨x, hx⟩ := Option.isSome_iff_exists.1 hb
    rw [hs.gam b, hx, hsub b x hx]
  have hsm : Sim { c with γ := fun b => (H b).map Box.gen } H :=
    ⟨fun _ => rfl, fun b x hx => (hs.box b x (hsub b x hx)).narrow (S := fun b => (H b).isSome) hγ (hbox b x hx),
     fun b b' x x' k hx hx' => hs.inj b b' x x' k (hsub _ _ hx) (hsub _ _ hx'), fun b x k hx => hs.sep b x k (hsub _ _ hx), fun b x k hx => hs.frz b x k (hsub _ _ hx), hs.bnd, fun b x hx => hs.ded b x (hsub _ _ hx)⟩
  have has : RelL { c with γ := fun b => (H b).map Box.gen } args vs :=
    ⟨ha.1, fun i p v a b => (ha.2 i p v a b).narrow (S := fun b => (H b).isSome) hγ (hin p (List.mem_of_getElem? a))⟩
  refine (h _ vs hsm has).mono ?_
  rintro e w' ⟨r, v, c1, H1, rfl, rfl, hR, h1, hr, hx⟩
  have hown : ∀ k, Owned { c with γ := fun b => (H b).map Box.gen } H k → Owned c Hb k := fun k ⟨b, x, a1, a2, a3, a4⟩ => ⟨b, x, hsub _ _ a1, a2, a3, a4⟩
  have hin1 : ∀ b, (H b).isSome = true → (H1 b).isSome = true := fun b hb => by
    obtain ⟨x, hx'⟩ := Option.isSome_iff_exists.1 hb
    obtain ⟨cur', g1, _⟩ := hx.le.box b x.gen (by simp [hx'])
    rw [h1.gam b] at g1
    cases hh : H1 b <;> simp_all
  have hout : ∀ b, H1 b = none → H b = none := fun b hb => by
    cases hh : H b with
    | none => rfl
    | some x => have := hin1 b (by simp [hh]); simp [hb] at this
  have hnew : ∀ b x, H1 b = none → Hb b = some x → ∀ k, c.β b = some k → x.live = true → x.own = true → ¬ Owned { c with γ := fun b => (H b).map Box.gen } H k := by
    rintro b x hb hx' k hk hl ho ⟨b0, x0, a1, a2, a3, a4⟩
    refine hs.inj b0 b x0 x k (hsub _ _ a1) hx' a2 a3 hl (fun e => ?_) a4 hk
    subst e
    rw [hout b0 hb] at a1; cases a1
  have hkeep : ∀ b x, H1 b = none → Hb b = some x → ∀ k, c.β b = some k → c1.w.heap[k]? = c.w.heap[k]? := by
    intro b x hb hx' k hk
    cases hl : x.live with
    | false => rw [hs.ded b x hx' hl] at hk; cases hk
    | true =>
      cases ho : x.own with
      | true => exact hx.old k ((hs.box b x hx').lt hl hk) (hnew b x hb hx' k hk hl ho)
      | false => exact (hx.le.imm k (hs.frz b x k hx' ho hl hk)).2
  have hnA : ∀ b x, H1 b = none → Hb b = some x → x.own = true → x.live = true → ∀ k, c.β b = some k → ¬ c1.A k := by
    intro b x hb hx' ho hl k hk hA
    rcases hx.imm k hA with h2 | h2 | h2
    · exact hs.sep b x k hx' ho hl hk h2
    · exact absurd ((hs.box b x hx').lt hl hk) (Nat.not_lt.2 h2)
    · exact hnew b x hb hx' k hk hl ho h2
  let c' : Cx := ⟨c1.w, c1.A, fun b => if (H1 b).isSome then c1.β b else c.β b, fun b => ((H1 b).or (Hb b)).map Box.gen⟩
  have hβ1 : ∀ b x, H1 b = some x → c'.β b = c1.β b := fun b x hb => by simp [c', hb]
  have hβ0 : ∀ b, H1 b = none → c'.β b = c.β b := fun b hb => by simp [c', hb]
  have hle1 : c1.Le c' := by
    refine ⟨fun k hk => ⟨hk, rfl⟩, fun b cur hb => ⟨cur, ?_, Nat.le_refl _, fun _ => ?_⟩⟩
    · rw [h1.gam b] at hb
      cases hh : H1 b with
      | none => simp [hh] at hb
      | some x => simpa [c', hh] using hb
    · rw [h1.gam b] at hb
      cases hh : H1 b with
      | none => simp [hh] at hb
      | some x => exact ⟨hβ1 b x hh, fun k cells e fr _ h3 => ⟨cells, fr, h3, rfl⟩⟩
  have hle : c.Le c' := by
    refine ⟨fun k hk => hx.le.imm k hk, fun b cur hb => ?_⟩
    cases hh : H1 b with
    | none =>
      rw [hs.gam b] at hb
      cases hh' : Hb b with
      | none => simp [hh'] at hb
      | some x =>
        refine ⟨cur, by simpa [c', hh] using hb, Nat.le_refl _, fun _ => ⟨hβ0 b hh, fun k cells e fr hk h3 => ⟨cells, fr, ?_, rfl⟩⟩⟩
        exact (hkeep b x hh hh' k hk).trans h3
    | some x =>
      cases hh' : H b with
      | none =>
        rcases hfresh r H1 hR b (by simp [hh]) with h2 | h2
        · simp [hh'] at h2
        · rw [hs.gam b, h2] at hb; cases hb
      | some y =>
        obtain ⟨cur', g1, g2, g3⟩ := hx.le.box b cur (by rw [← hb]; exact hγ b (by simp [hh']))
        refine ⟨cur', ?_, g2, fun he => ⟨(hβ1 b x hh).trans (g3 he).1, (g3 he).2⟩⟩
        rw [h1.gam b] at g1
        simpa [c', hh] using g1
  refine ⟨r, v, c', fun b => (H1 b).or (Hb b), rfl, rfl, ⟨H1, hR, rfl⟩, ⟨fun _ => rfl, fun b x hb => ?_, fun b b' x x' k hb hb' ho hl hl' hne hk hk' => ?_, fun b x k hb ho hl hk hA => ?_, fun b x k hb ho hl hk => ?_, h1.bnd, fun b x hb hl => ?_⟩, hr.mono hle1, ⟨hle, hx.os, hx.tape, hx.output, hx.size, fun k hk ho => hx.old k hk fun h2 => ho (hown k h2), fun k hk => ?_, fun k hk => ?_⟩⟩
  · cases hh : H1 b with
    | some y =>
      simp only [hh, Option.some_or, Option.some.injEq] at hb
      subst hb
      exact (h1.box b y hh).mono hle1 (hβ1 b y hh) fun _ _ => rfl
    | none =>
      simp only [hh, Option.none_or] at hb
      exact (hs.box b x hb).mono hle (hβ0 b hh) fun k hk => hkeep b x hh hb k hk
  · cases hh : H1 b with
    | some y =>
      simp only [hh, Option.some_or, Option.some.injEq] at hb
      subst hb
      rw [hβ1 b y hh] at hk
      cases hh' : H1 b' with
      | some y' =>
        simp only [hh', Option.some_or, Option.some.injEq] at hb'
        subst hb'
        rw [hβ1 b' y' hh'] at hk'
        exact h1.inj b b' y y' k hh hh' ho hl hl' hne hk hk'
      | none =>
        simp only [hh', Option.none_or] at hb'
        rw [hβ0 b' hh'] at hk'
        rcases hx.own k ⟨b, y, hh, ho, hl, hk⟩ with h2 | ⟨b0, x0, a1, a2, a3, a4⟩
        · exact absurd ((hs.box b' x' hb').lt hl' hk') (Nat.not_lt.2 h2)
        · refine hs.inj b0 b' x0 x' k (hsub _ _ a1) hb' a2 a3 hl' (fun e => ?_) a4 hk'
          subst e
          rw [hout b0 hh'] at a1; cases a1
    | none =>
      simp only [hh, Option.none_or] at hb
      rw [hβ0 b hh] at hk
      cases hh' : H1 b' with
      | some y' =>
        simp only [hh', Option.some_or, Option.some.injEq] at hb'
        subst hb'
        rw [hβ1 b' y' hh'] at hk'
        cases ho' : y'.own with
        | true =>
          rcases hx.own k ⟨b', y', hh', ho', hl', hk'⟩ with h2 | h2
          · exact absurd ((hs.box b x hb).lt hl hk) (Nat.not_lt.2 h2)
          · exact hnew b x hh hb k hk hl ho h2
        | false => exact hnA b x hh hb ho hl k hk (h1.frz b' y' k hh' ho' hl' hk')
      | none =>
        simp only [hh', Option.none_or] at hb'
        rw [hβ0 b' hh'] at hk'
        exact hs.inj b b' x x' k hb hb' ho hl hl' hne hk hk'
  · cases hh : H1 b with
    | some y =>
      simp only [hh, Option.some_or, Option.some.injEq] at hb
      subst hb
      rw [hβ1 b y hh] at hk
      exact h1.sep b y k hh ho hl hk hA
    | none =>
      simp only [hh, Option.none_or] at hb
      rw [hβ0 b hh] at hk
      exact hnA b x hh hb ho hl k hk hA
  · cases hh : H1 b with
    | some y =>
      simp only [hh, Option.some_or, Option.some.injEq] at hb
      subst hb
      rw [hβ1 b y hh] at hk
      exact h1.frz b y k hh ho hl hk
    | none =>
      simp only [hh, Option.none_or] at hb
      rw [hβ0 b hh] at hk
      exact (hx.le.imm k (hs.frz b x k hb ho hl hk)).1
  · cases hh : H1 b with
    | some y =>
      simp only [hh, Option.some_or, Option.some.injEq] at hb
      subst hb
      rw [hβ1 b y hh]
      exact h1.ded b y hh hl
    | none =>
      simp only [hh, Option.none_or] at hb
      rw [hβ0 b hh]
      exact hs.ded b x hb hl
  · rcases hx.imm k hk with h2 | h2 | h2
    · exact .inl h2
    · exact .inr (.inl h2)
    · exact .inr (.inr (hown k h2))
  · obtain ⟨b, x, hb, ho, hl, hk'⟩ := hk
    cases hh : H1 b with
    | some y =>
      simp only [hh, Option.some_or, Option.some.injEq] at hb
      subst hb
      rw [hβ1 b y hh] at hk'
      rcases hx.own k ⟨b, y, hh, ho, hl, hk'⟩ with h2 | h2
      · exact .inl h2
      · exact .inr (hown k h2)
    | none =>
      simp only [hh, Option.none_or] at hb
      rw [hβ0 b hh] at hk'
      exact .inr ⟨b, x, hb, ho, hl, hk'⟩

end Pv
