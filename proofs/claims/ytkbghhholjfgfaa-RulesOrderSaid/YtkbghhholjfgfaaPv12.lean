import Derived.Test.YtkbghhholjfgfaaPv11
set_option linter.unusedSimpArgs false
set_option linter.unusedVariables false
namespace Pv
open Go

theorem eqL_cons {l : LK} {ls : List LK} {xs ys : List PV} {b : Bool} (h : eqL (l :: ls) xs ys = some b) :
    ∃ x xs' y ys' b1 b2, xs = x :: xs' ∧ ys = y :: ys' ∧ eqL [l] [x] [y] = some b1 ∧ eqL ls xs' ys' = some b2 ∧ b = (b1 && b2) := by
  rcases xs with _ | ⟨x, xs⟩
  · cases l <;> simp [eqL] at h
  rcases ys with _ | ⟨y, ys⟩
  · cases l <;> cases x <;> simp [eqL] at h
  refine ⟨x, xs, y, ys, ?_⟩
  cases l with
  | int =>
    cases x <;> try (simp [eqL] at h; done)
    cases y <;> try (simp [eqL] at h; done)
    simp only [eqL] at h
    split at h
    · rename_i hk
      cases h1 : eqL ls xs ys with
      | none => simp [h1] at h
      | some b2 =>
        simp only [h1, Option.map_some, Option.some.injEq] at h
        exact ⟨_, b2, rfl, rfl, by simp [eqL, hk], rfl, h.symm⟩
    · cases h
  | bool =>
    cases x <;> try (simp [eqL] at h; done)
    cases y <;> try (simp [eqL] at h; done)
    simp only [eqL] at h
    cases h1 : eqL ls xs ys with
    | none => simp [h1] at h
    | some b2 =>
      simp only [h1, Option.map_some, Option.some.injEq] at h
      exact ⟨_, b2, rfl, rfl, by simp [eqL], rfl, h.symm⟩
  | str =>
    cases x <;> try (simp [eqL] at h; done)
    cases y <;> try (simp [eqL] at h; done)
    simp only [eqL] at h
    cases h1 : eqL ls xs ys with
    | none => simp [h1] at h
    | some b2 =>
      simp only [h1, Option.map_some, Option.some.injEq] at h
      exact ⟨_, b2, rfl, rfl, by simp [eqL], rfl, h.symm⟩

theorem eqL_cons_mk {l : LK} {ls : List LK} {x y : PV} {xs ys : List PV} {b1 b2 : Bool} (h1 : eqL [l] [x] [y] = some b1) (h2 : eqL ls xs ys = some b2) : eqL (l :: ls) (x :: xs) (y :: ys) = some (b1 && b2) := by
  cases l with
  | int =>
    cases x <;> try (simp [eqL] at h1; done)
    cases y <;> try (simp [eqL] at h1; done)
    simp only [eqL] at h1 ⊢
    split at h1
    · rename_i hk
      simp only [eqL, Option.map_some, Bool.and_true, Option.some.injEq] at h1
      simp [hk, h2, h1]
    · cases h1
  | bool =>
    cases x <;> try (simp [eqL] at h1; done)
    cases y <;> try (simp [eqL] at h1; done)
    simp only [eqL] at h1 ⊢
    simp only [Option.map_some, Bool.and_true, Option.some.injEq] at h1
    simp [h2, h1]
  | str =>
    cases x <;> try (simp [eqL] at h1; done)
    cases y <;> try (simp [eqL] at h1; done)
    simp only [eqL] at h1 ⊢
    simp only [Option.map_some, Bool.and_true, Option.some.injEq] at h1
    simp [h2, h1]

theorem eqL_nil {xs ys : List PV} {b : Bool} (h : eqL [] xs ys = some b) : xs = [] ∧ ys = [] ∧ b = true := by
  rcases xs with _ | ⟨x, xs⟩
  · rcases ys with _ | ⟨y, ys⟩
    · simp only [eqL, Option.some.injEq] at h; exact ⟨rfl, rfl, h.symm⟩
    · simp [eqL] at h
  · simp [eqL] at h

theorem eqL_length : ∀ {ls : List LK} {xs ys : List PV} {b : Bool}, eqL ls xs ys = some b → xs.length = ls.length ∧ ys.length = ls.length
  | [], xs, ys, b, h => by obtain ⟨rfl, rfl, _⟩ := eqL_nil h; exact ⟨rfl, rfl⟩
  | l :: ls, xs, ys, b, h => by
    obtain ⟨x, xs', y, ys', b1, b2, rfl, rfl, _, h2, _⟩ := eqL_cons h
    have := eqL_length h2
    simp [this]

theorem eqL_append : ∀ {l1 l2 : List LK} {xs ys : List PV} {b : Bool}, eqL (l1 ++ l2) xs ys = some b →
    ∃ b1 b2, eqL l1 (xs.take l1.length) (ys.take l1.length) = some b1 ∧ eqL l2 (xs.drop l1.length) (ys.drop l1.length) = some b2 ∧ b = (b1 && b2)
  | [], l2, xs, ys, b, h => ⟨true, b, by simp [eqL], by simpa using h, by simp⟩
  | l :: l1, l2, xs, ys, b, h => by
    rw [List.cons_append] at h
    obtain ⟨x, xs', y, ys', b1, b2, rfl, rfl, h1, h2, rfl⟩ := eqL_cons h
    obtain ⟨b3, b4, g1, g2, rfl⟩ := eqL_append h2
    exact ⟨b1 && b3, b4, eqL_cons_mk h1 g1, g2, by rw [Bool.and_assoc]⟩

section
variable {P : Program} {c : Cx}

/-- Two plain values of a type, held against each other. -/
structure EqRun (P : Program) (c : Cx) (n : Nat) (t : TypeId) (ls : List LK) : Prop where
  agg : ∀ d, P.underlying t = some d → isAggD d = true → ∀ (xs ys : Array Value) (pxs pys : List PV) (b : Bool), pxs.length = xs.size → pys.length = ys.size →
    (∀ (i : Nat) p v, pxs[i]? = some p → xs[i]? = some v → Rel c false p v) → (∀ (i : Nat) p v, pys[i]? = some p → ys[i]? = some v → Rel c false p v) →
    eqL ls pxs pys = some b → (Op.equalIn n t (.agg xs) (.agg ys)).run P c.w = .ok b c.w
  one : ∀ d, P.underlying t = some d → isAggD d = false → ls.length = 1 ∧ ∀ (x y : Value) (px py : PV) (b : Bool), Rel c false px x → Rel c false py y → eqL ls [px] [py] = some b → (Op.equalIn n t x y).run P c.w = .ok b c.w

theorem EqRun.part {n : Nat} {t : TypeId} {ls : List LK} (h : EqRun P c n t ls) {inf : TypeInfo} (hi : P.info? t = some inf) {d : TypeDesc} (hu : P.underlying t = some d) (hsz : inf.size = ls.length)
    {xs ys : Array Value} {pxs pys : List PV} (hlx : pxs.length = xs.size) (hly : pys.length = ys.size) (hrx : ∀ (i : Nat) p v, pxs[i]? = some p → xs[i]? = some v → Rel c false p v)
    (hry : ∀ (i : Nat) p v, pys[i]? = some p → ys[i]? = some v → Rel c false p v) {off : Nat} {b : Bool} (he : eqL ls ((pxs.drop off).take ls.length) ((pys.drop off).take ls.length) = some b) :
    ∃ a a', (part t xs off).run P c.w = .ok a c.w ∧ (Go.part t ys off).run P c.w = .ok a' c.w ∧ (Op.equalIn n t a a').run P c.w = .ok b c.w := by
  obtain ⟨l1, l2⟩ := eqL_length he
  simp only [List.length_take, List.length_drop] at l1 l2
  have hpart : ∀ (zs : Array Value) (pzs : List PV), pzs.length = zs.size → (∀ (i : Nat) p v, pzs[i]? = some p → zs[i]? = some v → Rel c false p v) → off + ls.length ≤ zs.size →
      ((pzs.drop off).take ls.length).length = (zs.extract off (off + ls.length)).size ∧ ∀ (i : Nat) p v, ((pzs.drop off).take ls.length)[i]? = some p → (zs.extract off (off + ls.length))[i]? = some v → Rel c false p v := by
    intro zs pzs hl hr hle
    refine ⟨by simp; omega, fun i p v hp hv => ?_⟩
    rw [List.getElem?_take] at hp
    split at hp
    · rw [List.getElem?_drop] at hp
      have hvl := (Array.getElem?_eq_some_iff.1 hv).1
      simp only [Array.size_extract] at hvl
      rw [Array.getElem?_extract, if_pos (by omega)] at hv
      exact hr (off + i) p v hp hv
    · cases hp
  cases hd : isAggD d with
  | true =>
    have ha : (isAgg t).run P c.w = .ok true c.w := by rw [run_isAgg' hu, hd]
    by_cases h0 : ls.length = 0
    · have hls : ls = [] := List.eq_nil_of_length_eq_zero h0
      subst hls
      have hb : b = true := by simpa [eqL] using he.symm
      subst hb
      have hsz0 : inf.size = 0 := by simpa using hsz
      refine ⟨.agg #[], .agg #[], by simp [Go.part, ha, run_sizeOf' hi, hsz0]; omega, by simp [Go.part, ha, run_sizeOf' hi, hsz0]; omega, ?_⟩
      exact h.agg d hu hd #[] #[] [] [] true rfl rfl (fun i p v h => by simp at h) (fun i p v h => by simp at h) (by simp [eqL])
    · refine ⟨.agg (xs.extract off (off + ls.length)), .agg (ys.extract off (off + ls.length)), by simp [Go.part, ha, run_sizeOf' hi, hsz], by simp [Go.part, ha, run_sizeOf' hi, hsz], ?_⟩
      obtain ⟨p1, p2⟩ := hpart xs pxs hlx hrx (by omega)
      obtain ⟨p3, p4⟩ := hpart ys pys hly hry (by omega)
      exact h.agg d hu hd _ _ _ _ b p1 p3 p2 p4 he
  | false =>
    have ha : (isAgg t).run P c.w = .ok false c.w := by rw [run_isAgg' hu, hd]
    obtain ⟨hl, hrun⟩ := h.one d hu hd
    have hox : off < xs.size := by omega
    have hoy : off < ys.size := by omega
    have hgx : xs[off]? = some xs[off] := Array.getElem?_eq_getElem hox
    have hgy : ys[off]? = some ys[off] := Array.getElem?_eq_getElem hoy
    have hpx : pxs[off]? = some (pxs[off]'(by omega)) := List.getElem?_eq_getElem (by omega)
    have hpy : pys[off]? = some (pys[off]'(by omega)) := List.getElem?_eq_getElem (by omega)
    refine ⟨xs[off], ys[off], by simp [Go.part, ha, hgx], by simp [Go.part, ha, hgy], hrun _ _ (pxs[off]'(by omega)) (pys[off]'(by omega)) b (hrx off _ _ hpx hgx) (hry off _ _ hpy hgy) ?_⟩
    rw [hl] at he
    rw [← he]
    have hd1 : ∀ (l : List PV) (h : off < l.length), (l.drop off).take 1 = [l[off]] := fun l h => by
      rw [List.drop_eq_getElem_cons h]; rfl
    rw [hd1 pxs (by omega), hd1 pys (by omega)]

theorem info_of_under {t : TypeId} {d : TypeDesc} (h : P.underlying t = some d) : ∃ i, P.info? t = some i := by
  unfold Program.underlying at h
  cases hi : P.info? t with
  | none => simp [hi] at h
  | some i => exact ⟨i, rfl⟩

theorem run_eqFields {f : TypeId → Option (List LK)} {n : Nat} (hf : ∀ t ls, f t = some ls → EqRun P c n t ls ∧ ∃ d, P.underlying t = some d) {xs ys : Array Value} {pxs pys : List PV} (hlx : pxs.length = xs.size) (hly : pys.length = ys.size)
    (hrx : ∀ (i : Nat) p v, pxs[i]? = some p → xs[i]? = some v → Rel c false p v) (hry : ∀ (i : Nat) p v, pys[i]? = some p → ys[i]? = some v → Rel c false p v) :
    ∀ (fs : List Field) (off : Nat) (ls : List LK) (b : Bool), plainFs f P fs off = some ls → eqL ls (pxs.drop off) (pys.drop off) = some b → (Op.eqFields n xs ys fs).run P c.w = .ok b c.w
  | [], off, ls, b, h, he => by
    simp only [plainFs, Option.some.injEq] at h
    subst h
    obtain ⟨_, _, rfl⟩ := eqL_nil he
    simp [Op.eqFields]
  | x :: fs, off, ls, b, h, he => by
    simp only [plainFs] at h
    split at h
    · rename_i l1 h1
      split at h
      · rename_i hc
        obtain ⟨hname, hoff, hcell⟩ := hc
        cases h2 : plainFs f P fs (off + l1.length) with
        | none => simp [h2] at h
        | some l2 =>
          simp only [h2, Option.map_some, Option.some.injEq] at h
          subst h
          obtain ⟨b1, b2, e1, e2, e3⟩ := eqL_append he
          obtain ⟨hrun, d, hu⟩ := hf _ _ h1
          obtain ⟨inf, hi⟩ := info_of_under hu
          obtain ⟨a, a', r1, r2, r3⟩ := hrun.part hi hu (by rw [← hcell, cellsOf_info hi]) hlx hly hrx hry e1
          rw [List.drop_drop, List.drop_drop] at e2
          have ih := run_eqFields hf hlx hly hrx hry fs (off + l1.length) l2 b2 h2 e2
          subst hoff
          subst e3
          cases b1 with
          | false => simp [Op.eqFields, hname, r1, r2, r3]
          | true => simp [Op.eqFields, hname, r1, r2, r3, ih]
      · cases h
    · cases h

theorem run_eqArr {n : Nat} {e : TypeId} {ls : List LK} (hrun : EqRun P c n e ls) {inf : TypeInfo} (hi : P.info? e = some inf) {d : TypeDesc} (hu : P.underlying e = some d) (hsz : inf.size = ls.length)
    {xs ys : Array Value} {pxs pys : List PV} (hlx : pxs.length = xs.size) (hly : pys.length = ys.size)
    (hrx : ∀ (i : Nat) p v, pxs[i]? = some p → xs[i]? = some v → Rel c false p v) (hry : ∀ (i : Nat) p v, pys[i]? = some p → ys[i]? = some v → Rel c false p v) :
    ∀ (k i : Nat) (b : Bool), eqL (List.replicate k ls).flatten (pxs.drop (i * ls.length)) (pys.drop (i * ls.length)) = some b →
      (do
        let r ← forIn (List.range' i k) (none, ()) fun i (r : Option Bool × Unit) => do
          let a ← part e xs (i * ls.length)
          let a' ← part e ys (i * ls.length)
          let q ← Op.equalIn n e a a'
          if (!q) = true then pure (ForInStep.done (some false, ())) else pure (ForInStep.yield (none, ()))
        match r.1 with
        | none => pure true
        | some a => pure a : Sem Bool).run P c.w = .ok b c.w
  | 0, i, b, he => by
    simp only [List.replicate_zero, List.flatten_nil] at he
    obtain ⟨_, _, rfl⟩ := eqL_nil he
    simp
  | k + 1, i, b, he => by
    rw [List.replicate_succ, List.flatten_cons] at he
    obtain ⟨b1, b2, e1, e2, e3⟩ := eqL_append he
    obtain ⟨a, a', r1, r2, r3⟩ := hrun.part hi hu hsz hlx hly hrx hry e1
    rw [List.drop_drop, List.drop_drop] at e2
    have hii : i * ls.length + ls.length = (i + 1) * ls.length := by rw [Nat.add_mul]; omega
    rw [hii] at e2
    have ih := run_eqArr hrun hi hu hsz hlx hly hrx hry k (i + 1) b2 e2
    subst e3
    rw [List.range'_succ]
    cases b1 with
    | false => simp [r1, r2, r3]
    | true =>
      simp only [List.forIn_cons, Sem.run_bind, r1, r2, r3, Result.andThen_ok, Bool.not_true, Bool.false_eq_true, if_false, Sem.run_pure, Bool.true_and]
      simpa using ih

theorem eq_run : ∀ (d : Nat) (t : TypeId) (ls : List LK), plainT P d t = some ls → ∀ m, EqRun P c (d + m) t ls ∧ ∃ u, P.underlying t = some u
  | 0, t, ls, h, m => by simp [plainT] at h
  | d + 1, t, ls, h, m => by
    have ih := eq_run d
    have hdm : d + 1 + m = (d + m) + 1 := by omega
    rw [hdm]
    unfold plainT at h
    split at h
    · rename_i hu
      simp only [Option.some.injEq] at h
      subst h
      refine ⟨⟨fun d' hd ha => ?_, fun d' hd ha => ⟨rfl, fun x y px py b hx hy he => ?_⟩⟩, _, hu⟩
      · rw [hu] at hd; cases hd; cases ha
      · cases hx with
        | bool s1 =>
          cases hy with
          | bool s2 =>
            simp [eqL] at he
            subst he
            simp [Op.equalIn, run_underlying hu]
          | _ => simp [eqL] at he
        | _ => simp [eqL] at he
    · rename_i k hu
      simp only [Option.some.injEq] at h
      subst h
      refine ⟨⟨fun d' hd ha => ?_, fun d' hd ha => ⟨rfl, fun x y px py b hx hy he => ?_⟩⟩, _, hu⟩
      · rw [hu] at hd; cases hd; cases ha
      · cases hx with
        | int k1 n1 =>
          cases hy with
          | int k2 n2 =>
            by_cases hk : k1 = k2
            · subst hk
              simp [eqL] at he
              subst he
              simp [Op.equalIn, run_underlying hu]
            · simp [eqL, hk] at he
          | _ => simp [eqL] at he
        | _ => simp [eqL] at he
    · rename_i hu
      simp only [Option.some.injEq] at h
      subst h
      refine ⟨⟨fun d' hd ha => ?_, fun d' hd ha => ⟨rfl, fun x y px py b hx hy he => ?_⟩⟩, _, hu⟩
      · rw [hu] at hd; cases hd; cases ha
      · cases hx with
        | str s1 =>
          cases hy with
          | str s2 =>
            simp [eqL] at he
            subst he
            simp [Op.equalIn, run_underlying hu, beq_toListBytes]
          | _ => simp [eqL] at he
        | _ => simp [eqL] at he
    · rename_i fs hu
      split at h
      · cases h
      · rename_i hno
        refine ⟨⟨fun d' hd ha xs ys pxs pys b hlx hly hrx hry he => ?_, fun d' hd ha => ?_⟩, _, hu⟩
        · have hst : P.stoodInHeld t = false := by
            cases hq : P.stoodInHeld t with
            | false => rfl
            | true => exact absurd (.inl hq) hno
          have hfo : P.fieldsOf t = fs := by simp [Program.fieldsOf, hu]
          rw [run_equalIn_struct c.w (d + m) t xs ys (by rw [hfo]; exact hu) hst, hfo]
          exact run_eqFields (f := plainT P d) (fun t ls h => ih t ls h m) hlx hly hrx hry fs.toList 0 ls b h (by simpa using he)
        · rw [hu] at hd; cases hd; cases ha
    · rename_i k e hu
      split at h
      · cases h
      · split at h
        · rename_i l1 h1
          split at h
          · rename_i hcell
            simp only [Option.some.injEq] at h
            subst h
            obtain ⟨hrun, u, hue⟩ := ih e l1 h1 m
            obtain ⟨inf, hi⟩ := info_of_under hue
            have hsz : inf.size = l1.length := by rw [← hcell, cellsOf_info hi]
            refine ⟨⟨fun d' hd ha xs ys pxs pys b hlx hly hrx hry he => ?_, fun d' hd ha => ?_⟩, _, hu⟩
            · have h9 := run_eqArr hrun hi hue hsz hlx hly hrx hry k 0 b (by simpa using he)
              simp only [Op.equalIn, Sem.run_bind, run_underlying hu, Result.andThen_ok, run_sizeOf' hi, hsz]
              have hrange : Std.Legacy.Range.size [:k] = k := by simp [Std.Legacy.Range.size]
              rw [Std.Legacy.Range.forIn_eq_forIn_range', hrange]
              simp only [Sem.run_bind] at h9
              generalize (forIn (List.range' 0 k) (none, ()) fun i (r : Option Bool × Unit) => (do
                let a ← part e xs (i * l1.length)
                let a' ← part e ys (i * l1.length)
                let q ← Op.equalIn (d + m) e a a'
                if (!q) = true then pure (ForInStep.done (some false, ())) else pure (ForInStep.yield (none, ())) : Sem (ForInStep (Option Bool × Unit)))) = loop at h9
              refine Eq.trans ?_ h9
              congr 1
              funext a w'
              cases a.1 <;> rfl
            · rw [hu] at hd; cases hd; cases ha
          · cases h
        · cases h
    · cases h


theorem eqGuard_none {op : BinOp} {t : TypeId} {d : Nat} {ls : List LK} (h : plainT P (d + 1) t = some ls) {ox oy : Operand} {xs ys : Array Value} (w : World) :
    P.underlying t = P.underlying t → (∃ u, P.underlying t = some u ∧ isAggD u = true) → (eqGuard op t ox oy (.agg xs) (.agg ys)).run P w = .ok () w := by
  rintro - ⟨u, hu, ha⟩
  refine run_eqGuard_agg w op t ox oy xs ys ?_
  unfold plainT at h
  rw [hu] at h
  cases u <;> simp_all [isAggD]

theorem eqL_bool {t : TypeId} {xs ys : Array Value} {pxs pys : List PV} {ls : List LK} {b : Bool} (h : plainT P 100 t = some ls) (hlx : pxs.length = xs.size) (hly : pys.length = ys.size)
    (hrx : ∀ (i : Nat) p v, pxs[i]? = some p → xs[i]? = some v → Rel c false p v) (hry : ∀ (i : Nat) p v, pys[i]? = some p → ys[i]? = some v → Rel c false p v) (ha : ∃ u, P.underlying t = some u ∧ isAggD u = true)
    (he : eqL ls pxs pys = some b) : (Op.equalIn 10000 t (.agg xs) (.agg ys)).run P c.w = .ok b c.w := by
  obtain ⟨u, hu, ha⟩ := ha
  exact (eq_run 100 t ls h 9900).1.agg u hu ha xs ys pxs pys b hlx hly hrx hry he

end
end Pv
