import Derived.Test.YtkbghhholjfgfaaPv14
set_option linter.unusedSimpArgs false
set_option linter.unusedVariables false
namespace Pv
open Go

section
variable {P : Program} {n0 : Nat} {H H' : FH} {T : List PV}

theorem cur_congr {b g : Nat} (h : H' b = H b) : cur H' b g = cur H b g := by simp [cur, h]
theorem boxArr_congr {b g s : Nat} (h : H' b = H b) : boxArr H' b g s = boxArr H b g s := by simp [boxArr, h]
theorem genOf_congr {b : Nat} (h : H' b = H b) : genOf H' b = genOf H b := by simp [genOf, h]

theorem srcOf_congr {k : Nat} {y : PV} {ys : List PV} {ids : List Nat} (h : sAppend.srcOf H k y = some (ys, ids)) (hr : ∀ b ∈ ids, H' b = H b) : sAppend.srcOf H' k y = some (ys, ids) := by
  unfold sAppend.srcOf at h ⊢
  split at h
  · exact h
  · exact h
  · rename_i b g s st n
    split at h
    · rename_i z xs hb
      split at h
      · rename_i hc
        simp only [Option.some.injEq, Prod.mk.injEq] at h
        have hbb : H' b = H b := hr b (by rw [← h.2]; simp)
        simp only [boxArr_congr hbb, hb]
        rw [if_pos hc, h.1, h.2]
      · cases h
    · cases h
  · cases h

/-- The executor looks at no box but those that it names; and those that it lays are among them. -/
theorem fstep_congrH {o : Oper} {r : Res} (h : fstep P n0 H T o = some r) : (∀ b ∈ r.wr.map (·.1), b ∈ r.rd) ∧ ((∀ b ∈ r.rd, H' b = H b) → fstep P n0 H' T o = some r) := by
  obtain ⟨dst, op, ty, pos, after, guard⟩ := o
  have triv : r.wr = [] → ∀ b ∈ r.wr.map (·.1), b ∈ r.rd := fun e b hb => by simp [e] at hb
  cases op with
  | move x => simp only [fstep, Option.some.injEq] at h; subst h; exact ⟨by simp, fun _ => rfl⟩
  | assign x => simp only [fstep, Option.some.injEq] at h; subst h; exact ⟨by simp, fun _ => rfl⟩
  | pick x y z =>
    have h' := h
    simp only [fstep] at h
    split at h
    · simp only [Option.some.injEq] at h; subst h; exact ⟨by simp, fun _ => h'⟩
    · cases h
  | fieldAddr t x f =>
    simp only [fstep] at h ⊢
    unfold sFieldAddr at h ⊢
    split at h
    · rename_i off ft b g s i p hf hx
      (try simp only [hf, hx])
      split at h
      · rename_i hc
        simp only [Option.some.injEq] at h; subst h
        exact ⟨by simp, fun hr => by rw [cur_congr (hr b (by simp)), if_pos hc]⟩
      · cases h
    · rename_i hf hx
      (try simp only [hf, hx])
      simp only [Option.some.injEq] at h; subst h; exact ⟨by simp, fun _ => rfl⟩
    · cases h
  | field t x f =>
    have h' := h
    simp only [fstep] at h
    unfold sField at h
    split at h
    · split at h
      · simp only [Option.map_eq_some_iff] at h
        obtain ⟨_, _, rfl⟩ := h
        exact ⟨by simp, fun _ => h'⟩
      · cases h
    · cases h
  | load t x =>
    simp only [fstep] at h ⊢
    unfold sLoad at h ⊢
    split at h
    · rename_i ti b g s i p ht hx
      (try simp only [ht, hx])
      split at h
      · rename_i y xs hb
        split at h
        · rename_i e he
          have h9 := h
          simp only [Option.map_eq_some_iff] at h
          obtain ⟨q, hq, rfl⟩ := h
          exact ⟨by simp, fun hr => by rw [boxArr_congr (hr b (by simp)), hb]; simp only [he]; exact h9⟩
        · cases h
      · cases h
    · rename_i ti s xs i p ht hx
      (try simp only [ht, hx])
      split at h
      · have h9 := h
        simp only [Option.map_eq_some_iff] at h
        obtain ⟨q, hq, rfl⟩ := h
        exact ⟨by simp, fun _ => h9⟩
      · cases h
    · cases h
  | store t x v =>
    simp only [fstep] at h ⊢
    unfold sStore at h ⊢
    split at h
    · rename_i ti b g s i p ht hx
      (try simp only [ht, hx])
      split at h
      · rename_i y xs hb
        split at h
        · rename_i e he
          split at h
          · rename_i hc
            simp only [Option.some.injEq] at h; subst h
            exact ⟨by simp, fun hr => by rw [boxArr_congr (hr b (by simp)), hb]; simp only [he]; rw [if_pos hc]⟩
          · cases h
        · cases h
      · cases h
    · cases h
  | box t x =>
    simp only [fstep] at h ⊢
    split at h
    · rename_i d
      unfold sBox at h ⊢
      split at h
      · split at h
        · rename_i hc
          simp only [Option.some.injEq] at h; subst h
          exact ⟨by simp [newBox], fun hr => by simp only [hc, if_true, newBox, genOf_congr (hr (n0 + d) (by simp))]⟩
        · cases h
      · cases h
    · cases h
  | alloc t =>
    simp only [fstep] at h ⊢
    split at h
    · rename_i d
      unfold sAlloc at h ⊢
      split at h
      · split at h
        · rename_i hc
          simp only [Option.some.injEq] at h; subst h
          exact ⟨by simp [newBox], fun hr => by simp only [hc, if_true, newBox, genOf_congr (hr (n0 + d) (by simp))]⟩
        · cases h
      · cases h
    · cases h
  | indexAddr t x ix =>
    simp only [fstep] at h ⊢
    unfold sIndexAddr at h ⊢
    split at h
    · rename_i he hx hi
      (try simp only [he, hx, hi])
      have h9 := h
      split at h
      · simp only [Option.some.injEq] at h; subst h; exact ⟨by simp, fun _ => h9⟩
      · cases h
    · rename_i e b g s st n k i he hx hi
      (try simp only [he, hx, hi])
      split at h
      · rename_i hc
        simp only [Option.some.injEq] at h; subst h
        exact ⟨by simp, fun hr => by rw [cur_congr (hr b (by simp)), if_pos hc]⟩
      · cases h
    · rename_i m e b g s j p k i he hx hi
      (try simp only [he, hx, hi])
      split at h
      · rename_i hc
        simp only [Option.some.injEq] at h; subst h
        exact ⟨by simp, fun hr => by rw [cur_congr (hr b (by simp)), if_pos hc]⟩
      · cases h
    · cases h
  | index t x ix =>
    have h' := h
    simp only [fstep] at h
    unfold sIndex at h
    split at h
    · split at h
      · split at h
        · simp only [Option.some.injEq] at h; subst h; exact ⟨by simp, fun _ => h'⟩
        · cases h
      · cases h
    · cases h
  | binOp op t x y ty' =>
    have key : ∀ neg r, sNil H P t (ev T x) (ev T y) neg = some r → r.wr = [] ∧ ((∀ b ∈ r.rd, H' b = H b) → sNil H' P t (ev T x) (ev T y) neg = some r) := by
      intro neg r h
      unfold sNil at h ⊢
      split at h
      · rename_i e hu hy
        (try simp only [hu, hy])
        split at h
        · rename_i hx; (try simp only [hx]); simp only [Option.some.injEq] at h; subst h; exact ⟨rfl, fun _ => rfl⟩
        · rename_i hx; (try simp only [hx]); simp only [Option.some.injEq] at h; subst h; exact ⟨rfl, fun _ => rfl⟩
        · rename_i hx; (try simp only [hx]); simp only [Option.some.injEq] at h; subst h; exact ⟨rfl, fun _ => rfl⟩
        · rename_i b g s i n hx
          (try simp only [hx])
          split at h
          · rename_i hc
            simp only [Option.some.injEq] at h; subst h
            refine ⟨rfl, fun hr => ?_⟩
            have hb : H' b = H b := hr b (by simp)
            have hc' : sNil.curB H' b g = true := by simpa [sNil.curB, hb] using hc
            rw [if_pos hc']
          · cases h
        · cases h
      · cases h
    simp only [fstep] at h ⊢
    unfold sBinH at h ⊢
    split at h
    · rename_i hy
      rw [hy] at key h
      simp only [hy]
      exact ⟨by simp [(key _ _ h).1], (key _ _ h).2⟩
    · rename_i hy
      rw [hy] at key h
      simp only [hy]
      exact ⟨by simp [(key _ _ h).1], (key _ _ h).2⟩
    · have h' := h
      simp only [Option.map_eq_some_iff] at h
      obtain ⟨_, _, rfl⟩ := h
      exact ⟨by simp, fun _ => h'⟩
  | unOp op t x =>
    have h' := h
    cases op with
    | not =>
      simp only [fstep] at h
      split at h
      · simp only [Option.some.injEq] at h; subst h; exact ⟨by simp, fun _ => h'⟩
      · cases h
    | _ => simp [fstep] at h
  | convert src dst' x =>
    have h' := h
    simp only [fstep] at h
    unfold sConvert at h
    split at h
    · simp only [Option.some.injEq] at h; subst h; exact ⟨by simp, fun _ => h'⟩
    · simp only [Option.some.injEq] at h; subst h; exact ⟨by simp, fun _ => h'⟩
    · cases h
  | makeFunc fn first cap =>
    have h' := h
    cases fn with
    | func f => simp only [fstep, Option.some.injEq] at h; subst h; exact ⟨by simp, fun _ => h'⟩
    | _ => simp [fstep] at h
  | makeInterface t x =>
    have h' := h
    simp only [fstep] at h
    split at h
    · simp only [Option.some.injEq] at h; subst h; exact ⟨by simp, fun _ => h'⟩
    · cases h
  | extract x i =>
    have h' := h
    simp only [fstep] at h
    split at h
    · simp only [Option.map_eq_some_iff] at h
      obtain ⟨_, _, rfl⟩ := h
      exact ⟨by simp, fun _ => h'⟩
    · cases h
  | build t parts =>
    have h' := h
    simp only [fstep] at h
    unfold sBuild at h
    split at h
    · split at h
      · split at h
        · simp only [Option.map_eq_some_iff] at h
          obtain ⟨_, _, rfl⟩ := h
          exact ⟨by simp, fun _ => h'⟩
        · cases h
      · cases h
    · cases h
  | buildSlice t len parts =>
    simp only [fstep] at h ⊢
    split at h
    · rename_i d
      unfold sBuildSlice at h ⊢
      split at h
      · rename_i e he
        (try simp only [he])
        split at h
        · rename_i ti ht
          (try simp only [ht])
          split at h
          · rename_i hc
            split at h
            · rename_i xs hxs
              simp only [Option.some.injEq] at h; subst h
              exact ⟨by simp [newBox], fun hr => by simp only [hc, and_self, if_true, hxs, newBox, genOf_congr (hr (n0 + d) (by simp))]⟩
            · cases h
          · cases h
        · cases h
      · cases h
    · cases h
  | slice t x lo hi mx =>
    simp only [fstep] at h ⊢
    unfold sSlice at h ⊢
    split at h
    · rename_i e s xs he hx hm
      (try simp only [he, hx, hm])
      split at h
      · have h9 := h
        split at h
        · simp only [Option.some.injEq] at h; subst h; exact ⟨by simp, fun _ => h9⟩
        · cases h
      · cases h
    · rename_i e b g s st n he hx hm
      (try simp only [he, hx, hm])
      split at h
      · rename_i l hh h1 h2
        (try simp only [h1, h2])
        split at h
        · rename_i hc
          simp only [Option.some.injEq] at h; subst h
          exact ⟨by simp, fun hr => by rw [cur_congr (hr b (by simp)), if_pos hc]⟩
        · cases h
      · cases h
    · rename_i m e b g s i p he hx hm
      (try simp only [he, hx, hm])
      split at h
      · rename_i y xs hb
        split at h
        · rename_i x' hx'
          split at h
          · rename_i l hh h1 h2
            split at h
            · rename_i hc
              simp only [Option.some.injEq] at h; subst h
              refine ⟨by simp, fun hr => ?_⟩
              rw [boxArr_congr (hr b (by simp)), hb]
              simp only [hx', h1, h2]
              rw [if_pos hc]
            · cases h
          · cases h
        · cases h
      · cases h
    · cases h
  | call cl =>
    obtain ⟨callee, args, argTypes⟩ := cl
    cases callee with
    | builtin b =>
      cases b with
      | len =>
        simp only [fstep] at h ⊢
        split at h
        · rename_i x t h1 h2
          (try simp only [h1, h2])
          unfold sLen at h ⊢
          split at h
          · rename_i he hx
            (try simp only [he, hx])
            simp only [Option.some.injEq] at h; subst h; exact ⟨by simp, fun _ => rfl⟩
          · rename_i e b g s st n he hx
            (try simp only [he, hx])
            split at h
            · rename_i hc
              simp only [Option.some.injEq] at h; subst h
              exact ⟨by simp, fun hr => by rw [cur_congr (hr b (by simp)), if_pos hc]⟩
            · cases h
          · rename_i he hx
            (try simp only [he, hx])
            simp only [Option.some.injEq] at h; subst h; exact ⟨by simp, fun _ => rfl⟩
          · rename_i he hx
            (try simp only [he, hx])
            have h9 := h
            split at h
            · simp only [Option.some.injEq] at h; subst h; exact ⟨by simp, fun _ => h9⟩
            · cases h
          · cases h
        · cases h
      | append =>
        simp only [fstep] at h ⊢
        split at h
        · rename_i x y t t' d h1 h2
          (try simp only [h1, h2])
          unfold sAppend at h ⊢
          split at h
          · rename_i e e' he he'
            (try simp only [he, he'])
            split at h
            · rename_i ti ys ids ht hsrc
              (try simp only [ht])
              split at hsrc
              · rename_i hee
                simp only [hee, if_true]
                split at h
                · rename_i hok
                  have fin : (∀ b ∈ ids, H' b = H b) → sAppend.srcOf H' (P.cellsOf e) (ev T y) = some (ys, ids) := fun hr => srcOf_congr hsrc hr
                  split at h
                  · rename_i hx
                    split at h
                    · rename_i hb
                      simp only [Option.some.injEq] at h; subst h
                      refine ⟨by simp [newBox], fun hr => ?_⟩
                      rw [fin fun b hb => hr b (by simp [hb])]
                      simp only [hx, hok, and_self, if_true, hb, newBox, genOf_congr (hr (n0 + d) (by simp))]
                    · cases h
                  · rename_i b g s st n hx
                    split at h
                    · rename_i z xs hbx
                      split at h
                      · rename_i hb
                        simp only [Option.some.injEq] at h; subst h
                        refine ⟨by simp, fun hr => ?_⟩
                        rw [fin fun b hb => hr b (by simp [hb])]
                        simp only [hx, hok, and_self, if_true, boxArr_congr (hr b (by simp)), hbx]
                        rw [if_pos hb]
                      · cases h
                    · cases h
                  · cases h
                · cases h
              · cases hsrc
            · cases h
          · cases h
        · cases h
      | clear =>
        simp only [fstep] at h ⊢
        split at h
        · rename_i x t h1 h2
          (try simp only [h1, h2])
          unfold sClear at h ⊢
          split at h
          · rename_i e he
            (try simp only [he])
            split at h
            · rename_i ti b g s st n ht hx
              (try simp only [ht, hx])
              split at h
              · rename_i y xs hb
                split at h
                · rename_i hc
                  simp only [Option.some.injEq] at h; subst h
                  exact ⟨by simp, fun hr => by simp only [boxArr_congr (hr b (by simp)), hb]; rw [if_pos hc]⟩
                · cases h
              · cases h
            · rename_i ht hx
              (try simp only [ht, hx])
              simp only [Option.some.injEq] at h; subst h; exact ⟨by simp, fun _ => rfl⟩
            · cases h
          · cases h
        · cases h
      | _ => simp [fstep] at h
    | _ => simp [fstep] at h
  | _ => simp [fstep] at h

theorem opSem_step {all : Array Oper} {o : Oper} {r : Res} (hg : guardDec all T o = some true) (h : fstep P n0 H T o = some r) : OpSem P all o T H r := by
  intro T' H' hT' hH' c a hs hT K Q hK
  have hg' : guardDec all T' o = some true := (guardDec_congr hT').trans hg
  rw [guard_sound hT hg']
  simp only [if_true]
  left
  have h' : fstep P n0 H' T' o = some r := by
    rw [fstep_congrT o (ev_congr hT')]
    exact (fstep_congrH h).2 hH'
  obtain ⟨nx, v, c', h1, h2, h3, h4, h5⟩ := ok_step hs hT h'
  unfold Oper.wp
  rw [h1]
  rcases h2 with rfl | ⟨rfl, rfl⟩
  · exact hK v c' h3 h4 h5
  · exact hK undef c' h3 h4 h5

theorem opSem_skip {all : Array Oper} {o : Oper} (hg : guardDec all T o = some false) : OpSem P all o T H { v := .tup [] } := by
  intro T' H' hT' hH' c a hs hT K Q hK
  have hg' : guardDec all T' o = some false := (guardDec_congr hT').trans hg
  rw [guard_sound hT hg']
  simp only [Bool.false_eq_true, if_false]
  exact hK undef c (.tup (by simp) fun i x v h => by simp at h) hs (.refl c H')

theorem rell_append {c : Cx} {ps qs : List PV} {us vs : List Value} (h : RelL c ps us) (h' : RelL c qs vs) : RelL c (ps ++ qs) (us ++ vs) := by
  refine ⟨by simp [h.1, h'.1], fun i p v a b => ?_⟩
  rw [List.getElem?_append] at a b
  rw [← h.1] at b
  split at a
  · rename_i hi; rw [if_pos hi] at b; exact h.2 i p v a b
  · rename_i hi; rw [if_neg hi] at b; exact h'.2 _ p v a b

theorem opSem_call {all : Array Oper} {o : Oper} {f : FuncId} {args : List PV} {r : Res} (hg : guardDec all T o = some true) (hc : callOf T o = some (f, args)) (h : CallSem P f args H r) : OpSem P all o T H r := by
  intro T' H' hT' hH' c a hs hT K Q hK
  have hg' : guardDec all T' o = some true := (guardDec_congr hT').trans hg
  rw [guard_sound hT hg']
  simp only [if_true]
  left
  have hc' : callOf T' o = some (f, args) := (callOf_congr o (ev_congr hT')).trans hc
  have hinv := h H' hH'
  obtain ⟨dst, op, ty, pos, after, guard⟩ := o
  unfold callOf at hc'
  split at hc'
  · rename_i fo as ats hop
    simp only at hop
    subst hop
    split at hc'
    · rename_i g first cap hf
      simp only [Option.some.injEq, Prod.mk.injEq] at hc'
      obtain ⟨rfl, rfl⟩ := hc'
      have hfr := ev_rel hT fo
      rw [hf] at hfr
      generalize hfv : a.eval fo = fv at hfr
      cases hfr with
      | clo r1 r2 r3 r4 =>
        rename_i us vs
        have hrel : RelL c (first ++ as.toList.map (ev T') ++ cap) (us.toList ++ (as.map a.eval).toList ++ vs.toList) := by
          refine rell_append (rell_append ⟨by simpa using r1, fun i p v x y => r2 i p v x (by simpa using y)⟩ ?_) ⟨by simpa using r3, fun i p v x y => r4 i p v x (by simpa using y)⟩
          obtain ⟨m1, m2⟩ := rels_map hT as
          exact ⟨by simp, fun i p v x y => m2 i p v x (by rw [← Array.getElem?_toList]; exact y)⟩
        have := hinv c _ hs hrel
        have harr : (us.toList ++ (as.map a.eval).toList ++ vs.toList).toArray = us ++ as.map a.eval ++ vs := by apply Array.ext'; simp
        rw [harr] at this
        have hrun : (execOp a.eval ⟨dst, .call { callee := .value fo, args := as, argTypes := ats }, ty, pos, after, guard⟩).run P c.w = (callFunc g (us ++ as.map a.eval ++ vs)).run P c.w := by
          simp [execOp, resolve, hfv, Deferred.ofValue, invoke]
        unfold Oper.wp
        rw [hrun]
        split at this
        · rename_i g as' w heq
          rw [heq]
          obtain ⟨rfl, hcall⟩ := this
          refine hcall.mono ?_
          rintro e w' ⟨q, v, c', H'', rfl, rfl, ⟨rfl, rfl⟩, s1, s2, s3⟩
          exact hK v c' s2 s1 s3
        · rename_i v w heq
          rw [heq]
          obtain ⟨q, c', H'', rfl, ⟨rfl, rfl⟩, s1, s2, s3⟩ := this
          exact hK v c' s2 s1 s3
        · exact this.elim
    · cases hc'
  · cases hc'

end
end Pv
