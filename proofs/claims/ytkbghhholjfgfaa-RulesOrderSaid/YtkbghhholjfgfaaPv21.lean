import Derived.Test.YtkbghhholjfgfaaPv20
set_option linter.unusedSimpArgs false
set_option linter.unusedVariables false
namespace Pv
open Go

section
variable {P : Program} {c0 : Cx} {H0 : FH} {Q : Exit → PS → Prop} {st : PS}

/-- One result: out of a slot, or out of a box that a slot names. -/
def resV (P : Program) (H : FH) (T : List PV) : ResultVar → Option PV
  | .tmp t => some (ev T (.tmp t))
  | .cell a t => (sLoad P H t (ev T (.tmp a))).map fun r => r.v

/-- What a body owes at its end: one result, or several. -/
def resOf (P : Program) (H : FH) (rs : Array ResultVar) (T : List PV) : Option PV :=
  match rs.toList with
  | [] => some (.tup [])
  | [x] => resV P H T x
  | [x, y] => (resV P H T x).bind fun a => (resV P H T y).bind fun b => some (.tup [a, b])
  | [x, y, z] => (resV P H T x).bind fun a => (resV P H T y).bind fun b => (resV P H T z).bind fun d => some (.tup [a, b, d])
  | _ => none

def bodyQ (P : Program) (fn : Func) (R : PV → FH → Prop) : Exit → PS → Prop
  | .normal, st | .ret, st => ∃ r, resOf P (find st.H) fn.results st.T = some r ∧ R r (find st.H)
  | _, _ => False

theorem load_run {c : Cx} {H : FH} (hs : Sim c H) {t : Nat} {x : PV} {v : Value} (hx : Rel c false x v) {r : Res} (h : sLoad P H t x = some r) :
    ∃ a u, v = .pointer (some a) ∧ (loadVar t a).run P c.w = .ok u c.w ∧ Rel c false r.v u := by
  unfold sLoad at h
  split at h
  · rename_i ti b g s i p ht
    split at h
    · rename_i y xs hb
      obtain ⟨g1, g2, g3⟩ := boxArr_inv hb
      split at h
      · rename_i e he
        cases hl : loadE ti.agg ti.size e p with
        | none => simp [hl] at h
        | some q =>
          simp only [hl, Option.map_some, Option.some.injEq] at h
          subst h
          obtain ⟨k, hk, rfl⟩ := hx.ptr_inv hs (cur_of g1 g2)
          obtain ⟨cells, et, fr, f1, f2, f3, f4, f5⟩ := (row_of hs g1 g3 hk).ex
          have hlen := f4 i e he
          have hroom := elem_room f3 (List.getElem?_eq_some_iff.1 he).1
          obtain ⟨u, hu, hrel⟩ := run_loadE (P := P) ht f1 (x := e) (B := i * s) (cl := false) (by omega) (fun j z w a b => (f5 i e j z w he a b).2) hl
          exact ⟨_, u, rfl, hu, hrel⟩
      · cases h
    · cases h
  · rename_i ti s xs i p ht
    split at h
    · rename_i e he
      cases hl : loadE ti.agg ti.size e p with
      | none => simp [hl] at h
      | some q =>
        simp only [hl, Option.map_some, Option.some.injEq] at h
        subst h
        cases hx with
        | ept _ _ k o cells et fr hA hh hsz hss h1' h2' =>
          have hlen := hss i e he
          have hroom := elem_room (s := s) (n := xs.length) (sz := xs.length * s) (Nat.le_refl _) (List.getElem?_eq_some_iff.1 he).1
          obtain ⟨u, hu, hrel⟩ := run_loadE (P := P) ht hh (x := e) (B := o + i * s) (cl := true) (by omega) (fun j z w a b => h2' i e j z w he a b) hl
          exact ⟨_, u, rfl, hu, hrel.open⟩
    · cases h
  · cases h

theorem resV_run {c : Cx} {H : FH} {T : List PV} {a : Act} (hs : Sim c H) (hT : RelL c T a.tmps.toList) {x : ResultVar} {r : PV} (h : resV P H T x = some r) :
    ∃ v, ((match x with | .tmp t => pure (a.tmps.getD t undef) | .cell b t => do loadVar t (← asAddr (a.tmps.getD b undef))) : Sem Value).run P c.w = .ok v c.w ∧ Rel c false r v := by
  cases x with
  | tmp t =>
    simp only [resV, Option.some.injEq] at h
    subst h
    exact ⟨_, rfl, ev_rel hT (.tmp t)⟩
  | cell b t =>
    simp only [resV, Option.map_eq_some_iff] at h
    obtain ⟨r', h, rfl⟩ := h
    obtain ⟨ad, u, h1, h2, h3⟩ := load_run (P := P) hs (ev_rel hT (.tmp b)) h
    simp only [Act.eval] at h1
    exact ⟨u, by simp only [h1, asAddr, Sem.run_bind, Sem.run_pure, Result.andThen_ok, h2], h3⟩

theorem resOf_run {c : Cx} {H : FH} {T : List PV} {a : Act} (hs : Sim c H) (hT : RelL c T a.tmps.toList) {fn : Func} {r : PV} (h : resOf P H fn.results T = some r) :
    ∃ v, (results fn a.tmps).run P c.w = .ok v c.w ∧ Rel c false r v := by
  unfold resOf at h
  cases hr : fn.results with
  | mk l =>
    rw [hr] at h
    simp only at h
    split at h
    · simp only [Option.some.injEq] at h
      subst h
      refine ⟨.tuple #[], ?_, .tup (by simp) fun i x v h1 => by simp at h1⟩
      simp [results, hr, go_sem]
    · rename_i x
      obtain ⟨v, h1, h2⟩ := resV_run hs hT h
      refine ⟨v, ?_, h2⟩
      simp only [results, hr, List.mapM_toArray, List.mapM_cons, List.mapM_nil, Sem.run_bind, Sem.run_map, Sem.run_pure, Result.andThen_ok]
      erw [h1]
      simp
    · rename_i x y
      simp only [Option.bind_eq_some_iff, Option.some.injEq] at h
      obtain ⟨p, g1, q, g2, rfl⟩ := h
      obtain ⟨v, h1, h2⟩ := resV_run hs hT g1
      obtain ⟨v', h3, h4⟩ := resV_run hs hT g2
      refine ⟨.tuple #[v, v'], ?_, .tup (by simp) fun i x v h1 h2 => ?_⟩
      · simp only [results, hr, List.mapM_toArray, List.mapM_cons, List.mapM_nil, Sem.run_bind, Sem.run_map, Sem.run_pure, Result.andThen_ok]
        erw [h1]
        simp only [Result.andThen_ok]
        erw [h3]
        simp
      · match i with
        | 0 => simp at h1 h2; subst h1; subst h2; assumption
        | 1 => simp at h1 h2; subst h1; subst h2; assumption
        | i + 2 => simp at h1
    · rename_i x y z
      simp only [Option.bind_eq_some_iff, Option.some.injEq] at h
      obtain ⟨p, g1, q, g2, s, g3, rfl⟩ := h
      obtain ⟨v, h1, h2⟩ := resV_run hs hT g1
      obtain ⟨v', h3, h4⟩ := resV_run hs hT g2
      obtain ⟨v'', h5, h6⟩ := resV_run hs hT g3
      refine ⟨.tuple #[v, v', v''], ?_, .tup (by simp) fun i x v h1 h2 => ?_⟩
      · simp only [results, hr, List.mapM_toArray, List.mapM_cons, List.mapM_nil, Sem.run_bind, Sem.run_map, Sem.run_pure, Result.andThen_ok]
        erw [h1]
        simp only [Result.andThen_ok]
        erw [h3]
        simp only [Result.andThen_ok]
        erw [h5]
        simp
      · match i with
        | 0 => simp at h1 h2; subst h1; subst h2; assumption
        | 1 => simp at h1 h2; subst h1; subst h2; assumption
        | 2 => simp at h1 h2; subst h1; subst h2; assumption
        | i + 3 => simp at h1
    · cases h

/-- A function's walk: from its body's. -/
theorem PCall.of_body {f : FuncId} {fn : Func} {cd : Code} {args : List PV} {H : Heap} {R : PV → FH → Prop} (hf : P.funcs[f]? = some fn) (hb : fn.body = some cd)
    (h : ∀ c0, pw P c0 (find H) cd (bodyQ P fn R) ⟨args ++ List.replicate (fn.ntmps - args.length) (.tup []), H⟩) : PCall P f args (find H) R := by
  intro c vs hs ha
  refine calls_of_wp hf hb (wp_mono (h c _ _ ⟨c, rfl, hs, .refl _ _, ?_, rfl⟩) ?_)
  · simp only [Array.toList_append, Array.toList_replicate, List.size_toArray]
    refine ⟨by simp [ha.1], fun i p v h1 h2 => ?_⟩
    rw [List.getElem?_append] at h1 h2
    rw [← ha.1] at h2
    split at h1
    · rename_i hi
      rw [if_pos hi] at h2
      exact ha.2 i p v h1 h2
    · rename_i hi
      rw [if_neg hi] at h2
      rw [List.getElem?_replicate] at h1 h2
      split at h1
      · split at h2
        · simp at h1 h2; subst h1; subst h2
          exact .tup (by simp) fun i x v h1 => by simp at h1
        · rename_i hj1 hj2
          exact absurd (ha.1 ▸ hj1) hj2
      · cases h1
  · rintro e a w' ⟨st', hq, c', rfl, h1, h2, h3, h4⟩
    cases e with
    | normal =>
      obtain ⟨r, hr, hR⟩ := hq
      obtain ⟨v, hv, hrel⟩ := resOf_run h1 h3 hr
      exact ⟨h4, v, hv, r, v, c', _, rfl, rfl, hR, h1, hrel, h2⟩
    | ret =>
      obtain ⟨r, hr, hR⟩ := hq
      obtain ⟨v, hv, hrel⟩ := resOf_run h1 h3 hr
      exact ⟨h4, v, hv, r, v, c', _, rfl, rfl, hR, h1, hrel, h2⟩
    | _ => exact hq.elim

end

theorem PCall.of_body' {P : Program} {f : FuncId} {fn : Func} {cd : Code} {args : List PV} {H : Heap} {R : PV → FH → Prop} (hf : P.funcs[f]? = some fn) (hb : fn.body = some cd) (T0 : List PV) (hT : args ++ List.replicate (fn.ntmps - args.length) (.tup []) = T0)
    (h : ∀ c0, pw P c0 (find H) cd (bodyQ P fn R) ⟨T0, H⟩) : PCall P f args (find H) R := PCall.of_body hf hb (hT ▸ h)

theorem PFun.of_body {P : Program} {f : FuncId} {fn : Func} {cd : Code} {args : List PV} {r : PV} (hc : r.closed = true) (hf : P.funcs[f]? = some fn) (hb : fn.body = some cd) (T0 : List PV) (hT : args ++ List.replicate (fn.ntmps - args.length) (.tup []) = T0)
    (h : ∀ c0, pw P c0 (find []) cd (bodyQ P fn fun q _ => q = r) ⟨T0, []⟩) : PFun P f args r := ⟨hc, PCall.of_body' hf hb T0 hT h⟩

/-- Slots of which nothing is known any more. -/
def forget (M : List Nat) (T : List PV) : List PV := M.foldl (fun T i => T.set i .any) T
def sets (T : List PV) (l : List (Nat × PV)) : List PV := l.foldl (fun T p => T.set p.1 p.2) T

/-- A loop: slots forgotten, slots that are carried on, boxes. -/
theorem pw_loopS {P : Program} {c0 : Cx} {H0 : FH} {Q : Exit → PS → Prop} {cd : Code} {T0 : List PV} {Hp : Heap} {α : Type} (M : List Nat) (S : α → List (Nat × PV)) (Hs : α → Heap) (inv : Nat → α → Prop) (n : Nat) (a : α)
    (h0 : inv n a) (hT : Wk ⟨T0, Hp⟩ ⟨sets (forget M T0) (S a), Hs a⟩)
    (round : ∀ n a, inv n a → ∀ K : PS → Prop, (∀ st' m a', m < n → inv m a' → Wk st' ⟨sets (forget M T0) (S a'), Hs a'⟩ → K st') → pw P c0 H0 cd (thenP K Q) ⟨sets (forget M T0) (S a), Hs a⟩) :
    pw P c0 H0 (.loop cd) Q ⟨T0, Hp⟩ := by
  refine pw_loop (fun m st => ∃ a, inv m a ∧ st = ⟨sets (forget M T0) (S a), Hs a⟩) n ⟨_, hT, a, h0, rfl⟩ ?_
  rintro m st ⟨a, hi, rfl⟩
  refine pw_post (round m a hi (fun st' => ∃ m' a', m' < m ∧ inv m' a' ∧ Wk st' ⟨sets (forget M T0) (S a'), Hs a'⟩) fun st' m' a' h1 h2 h3 => ⟨m', a', h1, h2, h3⟩) ?_
  intro e st' hq
  cases e with
  | normal =>
    obtain ⟨m', a', h1, h2, h3⟩ := hq
    exact ⟨st', Wk.refl _, m', _, h1, h3, a', h2, rfl⟩
  | _ => exact ⟨st', Wk.refl _, hq⟩

theorem wrap_i64 {n : Int} (h1 : -9223372036854775808 ≤ n) (h2 : n < 9223372036854775808) : IntKind.i64.wrap n = n := by
  unfold IntKind.wrap
  simp only [IntKind.bits, IntKind.signed, Nat.reduceSub, Int.reducePow, Bool.true_and, decide_eq_true_eq, ge_iff_le]
  split <;> omega

section steps
variable {P : Program} {all : Array Oper} {n0 : Nat}

theorem pEv0_split {os : List Oper} {K : PS → Prop} {st : PS} (n : Nat) (h : ∀ Kr : PS → Prop, (∀ st, pEv0 P all n0 (os.drop n) K st → Kr st) → pEv0 P all n0 (os.take n) Kr st) : pEv0 P all n0 os K st := by
  have key : ∀ (n : Nat) (os : List Oper) (st : PS), pEv0 P all n0 (os.take n) (pEv0 P all n0 (os.drop n) K) st → pEv0 P all n0 os K st := by
    intro n
    induction n with
    | zero => intro os st h; simpa [pEv0] using h
    | succ n ih =>
      intro os st h
      cases os with
      | nil => simpa [pEv0] using h
      | cons o os =>
        simp only [List.take_succ_cons, List.drop_succ_cons, pEv0] at h ⊢
        split at h
        · refine ⟨fun hw => ?_, fun hw => ih os _ (h.2 hw)⟩
          have h := h.1 hw
          split at h
          · exact ih os _ h
          · split at h
            · obtain ⟨r, h1, h2⟩ := h
              exact ⟨r, h1, ih os _ h2⟩
            · exact h
        · exact h
  exact key n os st (h _ fun _ h => h)

theorem pEv0_call {o : Oper} {os : List Oper} {K : PS → Prop} {st : PS} {f : FuncId} {args : List PV} {r : Res} (hs : CallSem P f args (find st.H) r) (hg : guardDec all st.T o = some true) (hn : fstep P n0 (find st.H) st.T o = none) (hc : callOf st.T o = some (f, args))
    (k : pEv0 P all n0 os K ⟨setD st.T o.dst r.v, puts st.H r.wr⟩) : pEv0 P all n0 (o :: os) K st := by
  simp only [pEv0, hg, hn, hc]
  exact ⟨fun _ => ⟨r, hs, k⟩, fun h => by cases h⟩

theorem pEv0_guard {o : Oper} {os : List Oper} {K : PS → Prop} {st : PS} (w : Bool) (hg : guardDec all st.T o = some w) (h1 : w = true → pEv0 P all n0 (o :: os) K st) (h2 : w = false → pEv0 P all n0 (o :: os) K st) : pEv0 P all n0 (o :: os) K st := by
  cases w
  · exact h2 rfl
  · exact h1 rfl

theorem pEv_split {os : List Oper} {acc : List (List Nat × List Nat)} {K : List (List Nat × List Nat) → PS → Prop} {st : PS} (n : Nat)
    (h : ∀ Kr : List (List Nat × List Nat) → PS → Prop, (∀ acc st, pEv P all n0 (os.drop n) acc.reverse K st → Kr acc st) → pEv P all n0 (os.take n) acc Kr st) : pEv P all n0 os acc K st := by
  have key : ∀ (n : Nat) (os : List Oper) (acc : List (List Nat × List Nat)) (st : PS), pEv P all n0 (os.take n) acc (fun acc st => pEv P all n0 (os.drop n) acc.reverse K st) st → pEv P all n0 os acc K st := by
    intro n
    induction n with
    | zero => intro os acc st h; simpa [pEv] using h
    | succ n ih =>
      intro os acc st h
      cases os with
      | nil => simpa [pEv] using h
      | cons o os =>
        simp only [List.take_succ_cons, List.drop_succ_cons, pEv] at h ⊢
        split at h
        · refine ⟨fun hw => ?_, fun hw => ih os _ _ (h.2 hw)⟩
          have h := h.1 hw
          split at h
          · exact ih os _ _ h
          · split at h
            · obtain ⟨r, h1, h2⟩ := h
              exact ⟨r, h1, ih os _ _ h2⟩
            · exact h
        · exact h
  exact key n os acc st (h _ fun _ _ h => h)

theorem pEv_call {o : Oper} {os : List Oper} {acc : List (List Nat × List Nat)} {K : List (List Nat × List Nat) → PS → Prop} {st : PS} {f : FuncId} {args : List PV} {r : Res} (hs : CallSem P f args (find st.H) r) (hg : guardDec all st.T o = some true) (hn : fstep P n0 (find st.H) st.T o = none) (hc : callOf st.T o = some (f, args))
    (k : pEv P all n0 os ((r.rd, r.wr.map (·.1)) :: acc) K ⟨setD st.T o.dst r.v, puts st.H r.wr⟩) : pEv P all n0 (o :: os) acc K st := by
  simp only [pEv, hg, hn, hc]
  exact ⟨fun _ => ⟨r, hs, k⟩, fun h => by cases h⟩

theorem pEv_guard {o : Oper} {os : List Oper} {acc : List (List Nat × List Nat)} {K : List (List Nat × List Nat) → PS → Prop} {st : PS} (w : Bool) (hg : guardDec all st.T o = some w) (h1 : w = true → pEv P all n0 (o :: os) acc K st) (h2 : w = false → pEv P all n0 (o :: os) acc K st) : pEv P all n0 (o :: os) acc K st := by
  cases w
  · exact h2 rfl
  · exact h1 rfl
end steps

end Pv
