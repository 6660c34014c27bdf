import Derived.Test.YtkbghhholjfgfaaPv12
set_option linter.unusedSimpArgs false
set_option linter.unusedVariables false
namespace Pv
open Go

section
variable {P : Program} {c : Cx} {H : FH}

theorem ok_bin (hs : Sim c H) {op : BinOp} {t : Nat} {ox oy : Operand} {x y : PV} {vx vy : Value} (hx : Rel c false x vx) (hy : Rel c false y vy) {p : PV} (h : sBin P op t x y = some p) :
    OpOk c H (((do pure (Next.value (← (do eqGuard op t ox oy vx vy; Go.binOp op t vx vy)))) : Sem Next).run P c.w) { v := p } := by
  have hgb : ∀ (op : BinOp) (a b : Bool), (eqGuard op t ox oy (.bool a) (.bool b)).run P c.w = .ok () c.w := fun op a b => by cases op <;> simp [eqGuard]
  have hagg : ∀ (xs ys : List PV) (b : Bool) (us vs : Array Value), sEq P t (.agg xs) (.agg ys) = some b → Rel c false (.agg xs) (.agg us) → Rel c false (.agg ys) (.agg vs) →
      (Op.equalIn 10000 t (.agg us) (.agg vs)).run P c.w = .ok b c.w ∧ ∀ op, (eqGuard op t ox oy (.agg us) (.agg vs)).run P c.w = .ok () c.w := by
    intro xs ys b us vs he hxr hyr
    simp only [sEq] at he
    split at he
    · rename_i ti ls ht hp
      split at he
      · rename_i hti
        obtain ⟨i, d, h1, h2, h3, _⟩ := tyI_inv ht
        have ha : ∃ u, P.underlying t = some u ∧ isAggD u = true := ⟨d, h2, by rw [← h3]; exact hti⟩
        cases hxr with
        | agg l1 r1 =>
          cases hyr with
          | agg l2 r2 => exact ⟨eqL_bool hp l1 l2 r1 r2 ha he, fun op => eqGuard_none hp c.w rfl ha⟩
      · cases he
    · cases he
  unfold sBin at h
  split at h
  · rename_i a b
    cases hb : sEq P t (.bool a) (.bool b) with
    | none => simp [hb] at h
    | some q =>
      simp only [hb, Option.map_some, Option.some.injEq] at h
      subst h
      simp only [sEq] at hb
      split at hb
      · rename_i hu
        simp only [Option.some.injEq] at hb
        subst hb
        cases hx; cases hy
        exact .pure hs (v := .bool (a == b)) (by simp only [Sem.run_bind, hgb, Result.andThen_ok]; simp [Go.binOp, Op.equal, Op.maxDepth, run_equalIn_bool' c.w 9999 t a b hu]) (.bool _) rfl
      · cases hb
  · rename_i xs ys
    cases hb : sEq P t (.agg xs) (.agg ys) with
    | none => simp [hb] at h
    | some q =>
      simp only [hb, Option.map_some, Option.some.injEq] at h
      subst h
      have hxa : ∃ us, vx = .agg us := by cases hx; exact ⟨_, rfl⟩
      have hya : ∃ us, vy = .agg us := by cases hy; exact ⟨_, rfl⟩
      obtain ⟨us, rfl⟩ := hxa
      obtain ⟨vs, rfl⟩ := hya
      obtain ⟨e1, e2⟩ := hagg xs ys q us vs hb hx hy
      exact .pure hs (v := .bool q) (by simp only [Sem.run_bind, e2, Result.andThen_ok, run_eql_struct, e1, Sem.run_pure]) (.bool _) rfl
  · rename_i a b
    cases hb : sEq P t (.bool a) (.bool b) with
    | none => simp [hb] at h
    | some q =>
      simp only [hb, Option.map_some, Option.some.injEq] at h
      subst h
      simp only [sEq] at hb
      split at hb
      · rename_i hu
        simp only [Option.some.injEq] at hb
        subst hb
        cases hx; cases hy
        exact .pure hs (v := .bool (!(a == b))) (by simp only [Sem.run_bind, hgb, Result.andThen_ok]; simp [Go.binOp, Op.equal, Op.maxDepth, run_equalIn_bool' c.w 9999 t a b hu]) (.bool _) rfl
      · cases hb
  · rename_i xs ys
    cases hb : sEq P t (.agg xs) (.agg ys) with
    | none => simp [hb] at h
    | some q =>
      simp only [hb, Option.map_some, Option.some.injEq] at h
      subst h
      have hxa : ∃ us, vx = .agg us := by cases hx; exact ⟨_, rfl⟩
      have hya : ∃ us, vy = .agg us := by cases hy; exact ⟨_, rfl⟩
      obtain ⟨us, rfl⟩ := hxa
      obtain ⟨vs, rfl⟩ := hya
      obtain ⟨e1, e2⟩ := hagg xs ys q us vs hb hx hy
      exact .pure hs (v := .bool (!q)) (by simp only [Sem.run_bind, e2, Result.andThen_ok, run_neq_struct, e1, Sem.run_pure]) (.bool _) rfl
  · exact ok_binop hs hx hy h

theorem run_equalIn_nil (w : World) (d : Nat) (t e : TypeId) (a : Option Addr) (n m : Nat) (h : P.underlying t = some (.slice e)) :
    (Op.equalIn (d + 1) t (.slice a n m) (.slice none 0 0)).run P w = .ok a.isNone w := by
  unfold Op.equalIn
  cases a <;> simp [run_underlying h, go_sem]

theorem ok_nil (hs : Sim c H) {op : BinOp} {t : Nat} {ox oy : Operand} {x y : PV} {vx vy : Value} {neg : Bool} (hop : op = if neg = true then .neq else .eql) (hx : Rel c false x vx) (hy : Rel c false y vy) {r : Res} (h : sNil H P t x y neg = some r) :
    OpOk c H (((do pure (Next.value (← (do eqGuard op t ox oy vx vy; Go.binOp op t vx vy)))) : Sem Next).run P c.w) r := by
  have key : ∀ (a : Option Addr) (n m : Nat) (e : TypeId), P.underlying t = some (.slice e) → vy = .slice none 0 0 → vx = .slice a n m → ∀ r : Res, r.wr = [] → Rel c false r.v (.bool (if neg = true then !a.isNone else a.isNone)) →
      OpOk c H (((do pure (Next.value (← (do eqGuard op t ox oy vx vy; Go.binOp op t vx vy)))) : Sem Next).run P c.w) r := by
    intro a n m e he h1 h2 r hr hrel
    subst h1; subst h2
    obtain ⟨rv, rrd, rwr⟩ := r
    simp only at hr hrel
    subst hr
    refine .pure hs ?_ hrel rfl
    have hq := run_equalIn_nil (P := P) c.w 9999 t e a n m he
    subst hop
    cases neg <;> simp [eqGuard, Go.binOp, Op.equal, Op.maxDepth, hq]
  unfold sNil at h
  split at h
  · rename_i e he
    have hvy : vy = .slice none 0 0 := by cases hy; rfl
    split at h
    · simp only [Option.some.injEq] at h
      subst h
      cases hx
      refine key none 0 0 e he hvy rfl _ rfl ?_
      cases neg <;> exact .bool _
    · simp only [Option.some.injEq] at h
      subst h
      cases hx with
      | slnil _ a => exact key a 0 0 e he hvy rfl _ rfl (.ub _)
      | sl => exact key _ _ _ e he hvy rfl _ rfl (.ub _)
    · simp only [Option.some.injEq] at h
      subst h
      cases hx with
      | sl => refine key _ _ _ e he hvy rfl _ rfl ?_; cases neg <;> exact .bool _
    · rename_i b g s i n
      split at h
      · rename_i hc
        simp only [Option.some.injEq] at h
        subst h
        rcases hx.bsl_inv hs hc with ⟨kb, cells, et, fr, cap, hk, hh, rfl, h5, h6⟩ | ⟨rfl, a, rfl⟩
        · refine key _ _ _ e he hvy rfl _ rfl ?_
          simp only
          split
          · cases neg <;> exact .bool _
          · exact .ub _
        · refine key _ _ _ e he hvy rfl _ rfl ?_
          simp only [Nat.lt_irrefl, if_false]
          exact .ub _
      · cases h
    · cases h
  · cases h

theorem ok_binH (hs : Sim c H) {op : BinOp} {t : Nat} {ox oy : Operand} {x y : PV} {vx vy : Value} (hx : Rel c false x vx) (hy : Rel c false y vy) {r : Res} (h : sBinH P H op t x y = some r) :
    OpOk c H (((do pure (Next.value (← (do eqGuard op t ox oy vx vy; Go.binOp op t vx vy)))) : Sem Next).run P c.w) r := by
  unfold sBinH at h
  split at h
  · exact ok_nil hs (neg := false) (by simp) hx hy h
  · exact ok_nil hs (neg := true) (by simp) hx hy h
  · cases hb : sBin P op t x y with
    | none => simp [hb] at h
    | some q =>
      simp only [hb, Option.map_some, Option.some.injEq] at h
      subst h
      exact ok_bin hs hx hy hb

theorem opt_rel {T : List PV} {a : Act} (hT : RelL c T a.tmps.toList) (o : Option Operand) : (∀ p, o.map (ev T) = some p → ∃ v, o.map a.eval = some v ∧ Rel c false p v) ∧ (o.map (ev T) = none → o.map a.eval = none) := by
  cases o with
  | none => exact ⟨fun p h => by simp at h, fun _ => rfl⟩
  | some x => exact ⟨fun p h => ⟨_, rfl, by simp at h; subst h; exact ev_rel hT x⟩, fun h => by simp at h⟩

theorem rels_map {T : List PV} {a : Act} (hT : RelL c T a.tmps.toList) (xs : Array Operand) : (xs.toList.map (ev T)).length = (xs.map a.eval).size ∧
    ∀ (i : Nat) p v, (xs.toList.map (ev T))[i]? = some p → (xs.map a.eval)[i]? = some v → Rel c false p v := by
  refine ⟨by simp, fun i p v hp hv => ?_⟩
  simp only [List.getElem?_map, Array.getElem?_toList, Option.map_eq_some_iff] at hp
  simp only [Array.getElem?_map, Option.map_eq_some_iff] at hv
  obtain ⟨x, h1, rfl⟩ := hp
  obtain ⟨y, h2, rfl⟩ := hv
  rw [h1] at h2; cases h2
  exact ev_rel hT x

/-- Any one operation that the executor takes. -/
theorem ok_step (hs : Sim c H) {T : List PV} {a : Act} (hT : RelL c T a.tmps.toList) {o : Oper} {n0 : Nat} {r : Res} (h : fstep P n0 H T o = some r) : OpOk c H ((execOp a.eval o).run P c.w) r := by
  obtain ⟨dst, op, ty, pos, after, guard⟩ := o
  cases op with
  | move x =>
    simp only [fstep, Option.some.injEq] at h; subst h
    exact .pure hs rfl (ev_rel hT x) rfl
  | assign x =>
    simp only [fstep, Option.some.injEq] at h; subst h
    exact .pure hs rfl (ev_rel hT x) rfl
  | pick x y z =>
    simp only [fstep] at h
    split at h
    · rename_i t ht
      simp only [Option.some.injEq] at h; subst h
      have hc := ev_rel hT x
      rw [ht] at hc
      have hcv := hc.bool_inv
      cases t with
      | true => exact .pure hs (v := a.eval y) (by simp [execOp, hcv, asBool]) (ev_rel hT y) rfl
      | false => exact .pure hs (v := a.eval z) (by simp [execOp, hcv, asBool]) (ev_rel hT z) rfl
    · cases h
  | fieldAddr t x f => exact ok_fieldAddr hs (ev_rel hT x) h
  | field t x f => exact ok_field hs (ev_rel hT x) h
  | load t x => exact ok_load hs (ev_rel hT x) h
  | store t x v => exact ok_store hs (ev_rel hT x) (ev_rel hT v) h
  | box t x =>
    simp only [fstep] at h
    split at h
    · exact ok_box hs (ev_rel hT x) h
    · cases h
  | alloc t =>
    simp only [fstep] at h
    split at h
    · exact ok_alloc hs h
    · cases h
  | indexAddr t x ix => exact ok_indexAddr hs (ev_rel hT x) (ev_rel hT ix) h
  | index t x ix => exact ok_index hs (ev_rel hT x) (ev_rel hT ix) h
  | binOp op t x y ty' =>
    exact ok_binH hs (ev_rel hT x) (ev_rel hT y) h
  | unOp op t x =>
    cases op with
    | not =>
      simp only [fstep] at h
      split at h
      · rename_i b hb
        simp only [Option.some.injEq] at h; subst h
        have hc := ev_rel hT x
        rw [hb] at hc
        exact .pure hs (v := .bool (!b)) (by simp [execOp, hc.bool_inv, Op.unary]) (.bool _) rfl
      · cases h
    | _ => simp [fstep] at h
  | convert src dst' x => exact ok_convert hs (ev_rel hT x) h
  | makeFunc fn first cap =>
    cases fn with
    | func f =>
      simp only [fstep, Option.some.injEq] at h; subst h
      obtain ⟨r1, r2⟩ := rels_map hT first
      obtain ⟨r3, r4⟩ := rels_map hT cap
      exact .pure hs (v := .func (.func f) (first.map a.eval) (cap.map a.eval)) (by simp [execOp, Instr.makeFunc]) (.clo r1 r2 r3 r4) rfl
    | _ => simp [fstep] at h
  | makeInterface t x =>
    simp only [fstep] at h
    split at h
    · rename_i hc
      simp only [Option.some.injEq] at h; subst h
      exact .pure hs (v := .iface t (a.eval x)) (by simp [execOp, run_makeInterface c.w t (a.eval x) hc]) (.ifc (ev_rel hT x)) rfl
    · cases h
  | extract x i =>
    simp only [fstep] at h
    split at h
    · rename_i vs hv
      have hc := ev_rel hT x
      rw [hv] at hc
      generalize hvx : a.eval x = vx at hc
      cases hp : vs[i]? with
      | none => simp [hp] at h
      | some q =>
        simp only [hp, Option.map_some, Option.some.injEq] at h; subst h
        cases hc with
        | tup hl hr =>
          rename_i us
          have hi : i < us.size := by
            have := (List.getElem?_eq_some_iff.1 hp).1; omega
          have hg : us[i]? = some us[i] := Array.getElem?_eq_getElem hi
          exact .pure hs (v := us[i]) (by simp [execOp, hvx, Instr.extract, hg]) (hr i _ _ hp hg) rfl
    · cases h
  | build t parts => exact ok_build hs hT h
  | buildSlice t len parts =>
    simp only [fstep] at h
    split at h
    · exact ok_buildSlice hs hT h
    · cases h
  | slice t x lo hi mx =>
    exact ok_slice hs (ev_rel hT x) (opt_rel hT lo).1 (opt_rel hT lo).2 (opt_rel hT hi).1 (opt_rel hT hi).2 (opt_rel hT mx).2 h
  | call cl =>
    obtain ⟨callee, args, argTypes⟩ := cl
    cases callee with
    | builtin b =>
      cases b with
      | len =>
        simp only [fstep] at h
        split at h
        · rename_i x t h1 h2
          have e1 : args = #[x] := by apply Array.ext'; simpa using h1
          have e2 : argTypes = #[t] := by apply Array.ext'; simpa using h2
          subst e1; subst e2
          have he : (execOp a.eval ⟨dst, .call { callee := .builtin .len, args := #[x], argTypes := #[t] }, ty, pos, after, guard⟩).run P c.w = ((do pure (Next.value (← Builtin.len_ #[t] ty #[a.eval x]))) : Sem Next).run P c.w := by
            simp [execOp, resolve, invoke, Go.builtin]
          rw [he]
          exact ok_len hs (ev_rel hT x) h
        · cases h
      | append =>
        simp only [fstep] at h
        split at h
        · rename_i x y t t' d h1 h2
          have e1 : args = #[x, y] := by apply Array.ext'; simpa using h1
          have e2 : argTypes = #[t, t'] := by apply Array.ext'; simpa using h2
          subst e1; subst e2
          have he : (execOp a.eval ⟨some d, .call { callee := .builtin .append, args := #[x, y], argTypes := #[t, t'] }, ty, pos, after, guard⟩).run P c.w = ((do pure (Next.value (← Builtin.append_ #[t, t'] ty #[a.eval x, a.eval y]))) : Sem Next).run P c.w := by
            simp [execOp, resolve, invoke, Go.builtin]
          rw [he]
          exact ok_append hs (ev_rel hT x) (ev_rel hT y) h
        · cases h
      | clear =>
        simp only [fstep] at h
        split at h
        · rename_i x t h1 h2
          have e1 : args = #[x] := by apply Array.ext'; simpa using h1
          have e2 : argTypes = #[t] := by apply Array.ext'; simpa using h2
          subst e1; subst e2
          have he : (execOp a.eval ⟨dst, .call { callee := .builtin .clear, args := #[x], argTypes := #[t] }, ty, pos, after, guard⟩).run P c.w = ((do pure (Next.value (← Builtin.clear_ #[t] ty #[a.eval x]))) : Sem Next).run P c.w := by
            simp [execOp, resolve, invoke, Go.builtin]
          rw [he]
          exact ok_clear hs (ev_rel hT x) h
        · cases h
      | _ => simp [fstep] at h
    | _ => simp [fstep] at h
  | _ => simp [fstep] at h

end
end Pv
