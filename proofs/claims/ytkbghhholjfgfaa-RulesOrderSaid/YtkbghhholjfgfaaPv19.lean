import Derived.Test.YtkbghhholjfgfaaPv18
set_option linter.unusedSimpArgs false
set_option linter.unusedVariables false
namespace Pv
open Go

/-- Nothing in it leads to memory. -/
def PV.ground : PV → Bool
  | .bool _ | .int _ _ | .str _ | .nilp | .nilf | .nili | .nilm | .addr _ => true
  | .agg cs => go cs
  | .tup cs => go cs
  | .ifc _ x => x.ground
  | _ => false
where
  go : List PV → Bool
    | [] => true
    | x :: t => x.ground && go t

theorem ground_go {l : List PV} (h : PV.ground.go l = true) : ∀ (i : Nat) x, l[i]? = some x → x.ground = true := by
  induction l with
  | nil => intro i x hx; simp at hx
  | cons y t ih =>
    simp only [PV.ground.go, Bool.and_eq_true] at h
    intro i x hx
    cases i with
    | zero => simp at hx; subst hx; exact h.1
    | succ i => exact ih h.2 i x (by simpa using hx)

theorem Rel.of_ground {c c' : Cx} {cl : Bool} {p : PV} {v : Value} (h : Rel c cl p v) : p.ground = true → ∀ cl', Rel c' cl' p v := by
  induction h with
  | bool b => exact fun _ _ => .bool b
  | ub b => exact fun _ _ => .ub b
  | int k n => exact fun _ _ => .int k n
  | str s => exact fun _ _ => .str s
  | agg hl _ ih => exact fun hg cl' => .agg hl fun i x v h1 h2 => ih i x v h1 h2 (ground_go hg i x h1) cl'
  | tup hl _ ih => exact fun hg cl' => .tup hl fun i x v h1 h2 => ih i x v h1 h2 (ground_go hg i x h1) cl'
  | addr a => exact fun _ _ => .addr a
  | nilp => exact fun _ _ => .nilp
  | nilf => exact fun _ _ => .nilf
  | ifc _ ih => exact fun hg cl' => .ifc (ih hg cl')
  | nili => exact fun _ _ => .nili
  | nilm => exact fun _ _ => .nilm
  | _ => intro hg; simp [PV.ground] at hg

/-- A function of plain values. -/
def PFun (P : Program) (f : FuncId) (args : List PV) (r : PV) : Prop := r.closed = true ∧ PCall P f args (find []) fun q _ => q = r

theorem upd_nil (H : FH) : upd H [] = H := rfl

/-- The world has gone on; more of it stands still. -/
theorem Sim.world' {c : Cx} {H : FH} (hs : Sim c H) (w' : World) (A' : Nat → Prop) (hA : ∀ k, c.A k → A' k) (hA' : ∀ k, A' k → c.A k ∨ (c.w.heap.size ≤ k ∧ k < w'.heap.size)) (hh : ∀ k, k < c.w.heap.size → w'.heap[k]? = c.w.heap[k]?) (hz : c.w.heap.size ≤ w'.heap.size)
    (ho : w'.os = c.w.os) (ht : w'.tape = c.w.tape) (hu : w'.output = c.w.output) : Sim { c with w := w', A := A' } H ∧ Ext c H { c with w := w', A := A' } H := by
  have hle : c.Le { c with w := w', A := A' } := by
    refine ⟨fun k hk => ⟨hA k hk, hh k (hs.bnd k hk)⟩, fun b cur hb => ⟨cur, hb, Nat.le_refl _, fun _ => ⟨rfl, fun k cells e fr hk hc => ⟨cells, fr, ?_, rfl⟩⟩⟩⟩
    exact (hh k (Array.getElem?_eq_some_iff.1 hc).1).trans hc
  refine ⟨⟨hs.gam, fun b x hb => ?_, hs.inj, fun b x k hb ho hl hk hAk => ?_, fun b x k hb ho hl hk => hA k (hs.frz b x k hb ho hl hk), fun k hk => ?_, hs.ded⟩, ⟨hle, ho, ht, hu, hz, fun k hk _ => hh k hk, fun k hk => ?_, fun k hk => .inr hk⟩⟩
  · cases hl : x.live with
    | false =>
      have : x.body = .dead := by unfold Box.live at hl; cases hx : x.body <;> simp_all
      simp [BoxRel, this]
    | true => exact (hs.box b x hb).mono hle rfl fun k hk => hh k ((hs.box b x hb).lt hl hk)
  · rcases hA' k hAk with h1 | h1
    · exact hs.sep b x k hb ho hl hk h1
    · exact absurd ((hs.box b x hb).lt hl hk) (Nat.not_lt.2 h1.1)
  · rcases hA' k hk with h1 | h1
    · exact Nat.lt_of_lt_of_le (hs.bnd k h1) hz
    · exact h1.2
  · rcases hA' k hk with h1 | h1
    · exact .inl h1
    · exact .inr (.inl h1.1)

theorem emptyFH : (find [] : FH) = fun _ => none := rfl

theorem Sim.empty {c : Cx} (A : Nat → Prop) (hA : ∀ k, A k → k < c.w.heap.size) : Sim ⟨c.w, A, fun _ => none, fun _ => none⟩ (find []) :=
  ⟨fun b => rfl, fun b x h => (by cases h), fun b b' x x' k h => (by cases h), fun b x k h => (by cases h), fun b x k h => (by cases h), hA, fun b x h => (by cases h)⟩

/-- A function of plain values, called with closed ones. -/
theorem call_pure {P : Program} {f : FuncId} {args : List PV} {r : PV} (h : PFun P f args r) (he : Enters P f) (hc : args.all PV.closed = true) (H : FH) : CallSem P f args H { v := r } := by
  intro H' _
  refine PInv.of_call he ?_
  intro c vs hs ha
  have hsm := Sim.empty (c := c) c.A hs.bnd
  have has : RelL ⟨c.w, c.A, fun _ => none, fun _ => none⟩ args vs :=
    ⟨ha.1, fun i p v a b => ((ha.2 i p v a b).toClosed (List.all_eq_true.1 hc p (List.mem_of_getElem? a))).closed (c := c) (c' := ⟨c.w, c.A, fun _ => none, fun _ => none⟩) (fun _ h => ⟨h, rfl⟩) rfl false⟩
  refine (h.2 _ vs hsm has).mono ?_
  rintro e w' ⟨q, v, c1, H1, rfl, rfl, rfl, h1, hr, hx⟩
  have hno : ∀ k, ¬ Owned (⟨c.w, c.A, fun _ => none, fun _ => none⟩ : Cx) (find []) k := fun k ⟨b, x, hb, _⟩ => by cases hb
  obtain ⟨g1, g2⟩ := hs.world' c1.w c1.A (fun k hk => (hx.le.imm k hk).1) (fun k hk => by
    rcases hx.imm k hk with h2 | h2 | h2
    · exact .inl h2
    · exact .inr ⟨h2, h1.bnd k hk⟩
    · exact absurd h2 (hno k)) (fun k hk => hx.old k hk (hno k)) hx.size hx.os hx.tape hx.output
  refine ⟨q, v, ⟨c1.w, c1.A, c.β, c.γ⟩, H', rfl, rfl, ⟨rfl, rfl⟩, g1, ?_, g2⟩
  exact (hr.toClosed h.1).closed (c := c1) (c' := { c with w := c1.w, A := c1.A }) (fun k hk => ⟨hk, rfl⟩) rfl false

/-! ### Arguments seen as closed values -/

mutual
def view (H : FH) : PV → Option (PV × List Nat)
  | .bsl b g s st n => match boxArr H b g s with
    | some (_, xs) => if st + n ≤ xs.length ∧ xs.all PV.closed = true then some (.sl s ((xs.drop st).take n), [b]) else none
    | none => none
  | .agg cs => (viewL H cs).map fun p => (.agg p.1, p.2)
  | p => if p.closed = true then some (p, []) else none
def viewL (H : FH) : List PV → Option (List PV × List Nat)
  | [] => some ([], [])
  | x :: t => match view H x, viewL H t with
    | some (y, is), some (ys, js) => some (y :: ys, is ++ js)
    | _, _ => none
end

theorem view_closed (H : FH) (p : PV) (hp : p.closed = true) (hna : ∀ cs, p ≠ .agg cs) : view H p = some (p, []) := by
  cases p <;> first | (simp [view, hp]; done) | (simp [PV.closed, PV.within] at hp; done) | exact absurd rfl (hna _)

theorem bsl_view {c : Cx} {H : FH} (hs : Sim c H) {cl : Bool} {b g s st n : Nat} {v : Value} (h : Rel c cl (.bsl b g s st n) v) {x : Box} {xs : List PV} (hb : boxArr H b g s = some (x, xs)) (hfit : st + n ≤ xs.length) (hcl : xs.all PV.closed = true)
    {c' : Cx} (hw : c'.w = c.w) (hA : ∀ k, c.A k → c'.A k) (hk : ∀ k, c.β b = some k → c'.A k) (cl' : Bool) : Rel c' cl' (.sl s ((xs.drop st).take n)) v := by
  obtain ⟨g1, g2, g3⟩ := boxArr_inv hb
  have hlen : ((xs.drop st).take n).length = n := by simp; omega
  rcases h.bsl_inv hs (cur_of g1 g2) with ⟨kb, cells, et, fr, cap, hkb, hh, rfl, h5, h6⟩ | ⟨rfl, a, rfl⟩
  · obtain ⟨cells', e', fr', f1, f2, f3, f4, f5⟩ := (row_of hs g1 g3 hkb).ex
    rw [hh] at f1; cases f1
    have hge : ∀ (i : Nat) x, ((xs.drop st).take n)[i]? = some x → xs[st + i]? = some x := fun i x hx => by
      rw [List.getElem?_take] at hx
      split at hx
      · rwa [List.getElem?_drop] at hx
      · cases hx
    have := Rel.sl (c := c') (cl := cl') (s := s) (xs := (xs.drop st).take n) kb (st * s) cap cells et fr (hk kb hkb) (by rw [hw]; exact hh)
      (by rw [hlen, ← Nat.add_mul]; exact Nat.le_trans (Nat.mul_le_mul_right _ hfit) f3) (by omega) (fun i x hx => f4 _ x (hge i x hx))
      (fun i x j y v a b d => (f5 (st + i) x j y v (hge i x a) b (by rw [Nat.add_mul]; exact d)).1)
      (fun i x j y v a b d => by
        have h1 := (f5 (st + i) x j y v (hge i x a) b (by rw [Nat.add_mul]; exact d)).2
        have hxc := List.all_eq_true.1 hcl x (List.mem_of_getElem? (hge i x a))
        exact (h1.toClosed (PV.within_cells hxc j y b)).closed (c := c) (c' := c') (fun k hk => ⟨hA k hk, by rw [hw]⟩) rfl true)
    rw [hlen] at this
    exact this
  · simp only [List.take_zero]; exact .slnil s a

theorem view_rel {c : Cx} {H : FH} (hs : Sim c H) {c' : Cx} (hw : c'.w = c.w) (hA : ∀ k, c.A k → c'.A k) {S : List Nat} (hk : ∀ b ∈ S, ∀ k, c.β b = some k → c'.A k) :
    ∀ (p q : PV) (ids : List Nat) (cl : Bool) (v : Value), view H p = some (q, ids) → (∀ b ∈ ids, b ∈ S) → Rel c cl p v → Rel c' true q v := by
  intro p q ids cl v hv hin hr
  induction hr generalizing q ids with
  | agg hl hrel ih =>
    simp only [view] at hv
    rename_i cs vs
    cases hvl : viewL H cs with
    | none => simp [hvl] at hv
    | some pr =>
      simp only [hvl, Option.map_some, Option.some.injEq, Prod.mk.injEq] at hv
      obtain ⟨rfl, rfl⟩ := hv
      have key : ∀ (l : List PV) (pr : List PV × List Nat), viewL H l = some pr → pr.1.length = l.length ∧ ∀ (i : Nat) y, pr.1[i]? = some y → ∃ x js, l[i]? = some x ∧ view H x = some (y, js) ∧ ∀ b ∈ js, b ∈ pr.2 := by
        intro l
        induction l with
        | nil => intro pr h; simp only [viewL, Option.some.injEq] at h; subst h; exact ⟨rfl, fun i y hy => by simp at hy⟩
        | cons x t iht =>
          intro pr h
          simp only [viewL] at h
          split at h
          · rename_i y is ys js h1 h2
            simp only [Option.some.injEq] at h
            subst h
            obtain ⟨k1, k2⟩ := iht _ h2
            refine ⟨by simp [k1], fun i z hz => ?_⟩
            cases i with
            | zero => simp at hz; subst hz; exact ⟨x, is, rfl, h1, fun b hb => by simp [hb]⟩
            | succ i =>
              obtain ⟨x', js', a1, a2, a3⟩ := k2 i z (by simpa using hz)
              exact ⟨x', js', by simpa using a1, a2, fun b hb => by simp [a3 b hb]⟩
          · cases h
      obtain ⟨k1, k2⟩ := key cs pr hvl
      refine .agg (by omega) fun i y u hy hu => ?_
      obtain ⟨x, js, a1, a2, a3⟩ := k2 i y hy
      exact ih i x u a1 hu y js a2 fun b hb => hin b (a3 b hb)
  | bsl cur h1c hc hg hvv =>
    rename_i b g s st n v
    simp only [view] at hv
    split at hv
    · rename_i x xs hb
      split at hv
      · rename_i hcond
        simp only [Option.some.injEq, Prod.mk.injEq] at hv
        obtain ⟨rfl, rfl⟩ := hv
        exact bsl_view hs (.bsl cur h1c hc hg hvv) hb hcond.1 hcond.2 hw hA (fun k hkk => hk b (hin b (by simp)) k hkk) true
      · cases hv
    · cases hv
  | any v => simp only [view] at hv; split at hv <;> simp at hv; obtain ⟨rfl, rfl⟩ := hv; exact .any v
  | bool b => simp only [view] at hv; split at hv <;> simp at hv; obtain ⟨rfl, rfl⟩ := hv; exact .bool b
  | ub b => simp only [view] at hv; split at hv <;> simp at hv; obtain ⟨rfl, rfl⟩ := hv; exact .ub b
  | int k n => simp only [view] at hv; split at hv <;> simp at hv; obtain ⟨rfl, rfl⟩ := hv; exact .int k n
  | str s => simp only [view] at hv; split at hv <;> simp at hv; obtain ⟨rfl, rfl⟩ := hv; exact .str s
  | addr a => simp only [view] at hv; split at hv <;> simp at hv; obtain ⟨rfl, rfl⟩ := hv; exact .addr a
  | nilp => simp only [view] at hv; split at hv <;> simp at hv; obtain ⟨rfl, rfl⟩ := hv; exact .nilp
  | nilf => simp only [view] at hv; split at hv <;> simp at hv; obtain ⟨rfl, rfl⟩ := hv; exact .nilf
  | nili => simp only [view] at hv; split at hv <;> simp at hv; obtain ⟨rfl, rfl⟩ := hv; exact .nili
  | nilm => simp only [view] at hv; split at hv <;> simp at hv; obtain ⟨rfl, rfl⟩ := hv; exact .nilm
  | nils => simp only [view] at hv; split at hv <;> simp at hv; obtain ⟨rfl, rfl⟩ := hv; exact .nils
  | ptr cur h1c hc hg hvv => simp [view, PV.closed, PV.within] at hv
  | map cur h1c hc hg hvv => simp [view, PV.closed, PV.within] at hv
  | slnil s a => simp only [view] at hv; split at hv <;> simp at hv; obtain ⟨rfl, rfl⟩ := hv; exact .slnil s a
  | sl k off cap cells e fr h1 h2 h3 h4 h5 h6 h7 =>
    simp only [view] at hv; split at hv <;> simp at hv; obtain ⟨rfl, rfl⟩ := hv
    exact (Rel.sl (c := c) (cl := true) k off cap cells e fr h1 h2 h3 h4 h5 h6 h7).closed (c := c) (c' := c') (fun k hk => ⟨hA k hk, by rw [hw]⟩) rfl true
  | ept i o k off cells e fr h1 h2 h3 h5 h6 h7 =>
    simp only [view] at hv; split at hv <;> simp at hv; obtain ⟨rfl, rfl⟩ := hv
    exact (Rel.ept (c := c) (cl := true) i o k off cells e fr h1 h2 h3 h5 h6 h7).closed (c := c) (c' := c') (fun k hk => ⟨hA k hk, by rw [hw]⟩) rfl true
  | tup hl hrel ih =>
    simp only [view] at hv; split at hv
    · rename_i hcl
      simp at hv; obtain ⟨rfl, rfl⟩ := hv
      exact ((Rel.tup hl hrel).toClosed hcl).closed (c := c) (c' := c') (fun k hk => ⟨hA k hk, by rw [hw]⟩) rfl true
    · cases hv
  | clo h1 h2 h3 h4 _ _ =>
    simp only [view] at hv; split at hv
    · rename_i hcl
      simp at hv; obtain ⟨rfl, rfl⟩ := hv
      exact ((Rel.clo h1 h2 h3 h4).toClosed hcl).closed (c := c) (c' := c') (fun k hk => ⟨hA k hk, by rw [hw]⟩) rfl true
    · cases hv
  | ifc h1 _ =>
    simp only [view] at hv; split at hv
    · rename_i hcl
      simp at hv; obtain ⟨rfl, rfl⟩ := hv
      exact ((Rel.ifc h1).toClosed hcl).closed (c := c) (c' := c') (fun k hk => ⟨hA k hk, by rw [hw]⟩) rfl true
    · cases hv

end Pv
