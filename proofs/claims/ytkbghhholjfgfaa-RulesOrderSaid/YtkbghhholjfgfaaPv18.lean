import Derived.Test.YtkbghhholjfgfaaPv17
set_option linter.unusedSimpArgs false
set_option linter.unusedVariables false
namespace Pv
open Go

section
variable {P : Program} {all : Array Oper}

/-- The run in the text's order, as a list. -/
theorem pRun_list : ∀ (os : List Oper) (acc : List Res) (K : List Res → PS → Prop) (st : PS), pRun P all os acc K st →
    ∃ rs : List Res, rs.length = os.length ∧ (∃ st', K (acc.reverse ++ rs) st' ∧ st'.T = tF (fun _ => true) 0 ((os.map (·.dst)).zip rs) st.T ∧ find st'.H = hF (fun _ => true) 0 ((os.map (·.dst)).zip rs) (find st.H)) ∧
      ∀ (k : Nat) o r, os[k]? = some o → rs[k]? = some r → OpSem P all o (tF (fun j => decide (j < k)) 0 ((os.map (·.dst)).zip rs) st.T) (hF (fun j => decide (j < k)) 0 ((os.map (·.dst)).zip rs) (find st.H)) r
  | [], acc, K, st, h => ⟨[], rfl, ⟨st, by simp only [List.append_nil]; exact h, rfl, rfl⟩, fun k o r ho => by simp at ho⟩
  | o :: os, acc, K, st, h => by
    obtain ⟨r, h1, h2⟩ := h
    obtain ⟨rs, g1, ⟨st', g2, g3, g4⟩, g5⟩ := pRun_list os (r :: acc) K _ h2
    have shift : ∀ (S : Nat → Bool) (l : List (Option Tmp × Res)) (k : Nat) (T : List PV), tF S (k + 1) l T = tF (fun j => S (j + 1)) k l T := by
      intro S l
      induction l with
      | nil => intro k T; rfl
      | cons p l ih => intro k T; obtain ⟨d, r⟩ := p; simp only [tF]; rw [ih]
    have shiftH : ∀ (S : Nat → Bool) (l : List (Option Tmp × Res)) (k : Nat) (T : FH), hF S (k + 1) l T = hF (fun j => S (j + 1)) k l T := by
      intro S l
      induction l with
      | nil => intro k T; rfl
      | cons p l ih => intro k T; obtain ⟨d, r⟩ := p; simp only [hF]; rw [ih]
    refine ⟨r :: rs, by simp [g1], ⟨st', by simpa using g2, ?_, ?_⟩, fun k o' r' ho hr => ?_⟩
    · simp only [List.map_cons, List.zip_cons_cons, tF, cond_true]
      rw [g3, shift]
    · simp only [List.map_cons, List.zip_cons_cons, hF, cond_true]
      rw [g4, shiftH, find_puts]
    · cases k with
      | zero =>
        simp only [List.getElem?_cons_zero, Option.some.injEq] at ho hr
        subst ho; subst hr
        have e1 : ∀ (l : List (Option Tmp × Res)) k (T : List PV), tF (fun j => decide (j < 0)) k l T = T := by
          intro l
          induction l with
          | nil => intro k T; rfl
          | cons p l ih => intro k T; obtain ⟨d, r⟩ := p; simp only [tF, Nat.not_lt_zero, decide_false, cond_false]; exact ih _ _
        have e2 : ∀ (l : List (Option Tmp × Res)) k (T : FH), hF (fun j => decide (j < 0)) k l T = T := by
          intro l
          induction l with
          | nil => intro k T; rfl
          | cons p l ih => intro k T; obtain ⟨d, r⟩ := p; simp only [hF, Nat.not_lt_zero, decide_false, cond_false]; exact ih _ _
        rw [e1, e2]
        exact h1
      | succ k =>
        have := g5 k o' r' (by simpa using ho) (by simpa using hr)
        simp only [List.map_cons, List.zip_cons_cons, tF, hF]
        rw [shift, shiftH]
        simp only [Nat.zero_lt_succ, decide_true, cond_true, Nat.add_lt_add_iff_right]
        rw [find_puts] at this
        exact this

theorem chk_edges {fp : List (List Nat × List Nat)} (h : chk all fp = true) {j : Nat} {o : Oper} (ho : all[j]? = some o) : ∀ e ∈ o.after.toList, Region.binds .any e = true → e.on < j := by
  intro e he hb
  simp only [chk, Bool.and_eq_true, List.all_eq_true, List.mem_range] at h
  have := h.1 j (Array.getElem?_eq_some_iff.1 ho).1
  rw [ho] at this
  simp only [List.all_eq_true, Bool.or_eq_true, Bool.not_eq_true', decide_eq_true_eq] at this
  rcases this e he with h1 | h1
  · rw [hb] at h1; cases h1
  · exact h1

theorem chk_conf {fp : List (List Nat × List Nat)} (h : chk all fp = true) {i j : Nat} (hij : i < j) (hj : j < all.size) (hc : conf all fp i j = true ∨ conf all fp j i = true) : ((Region.before all).getD j 0).testBit i = true := by
  simp only [chk, Bool.and_eq_true, List.all_eq_true, List.mem_range] at h
  have := h.2 j hj i hij
  rcases hc with hc | hc <;> simpa [hc] using this

/-- THE ORDER DOES NOT MATTER. -/
theorem pw_region_draw {c0 : Cx} {H0 : FH} {id : Nat} {Q : Exit → PS → Prop} {st : PS} (hm : P.follows .mixedOrders = true) (n0 : Nat) (h : pEv P all n0 all.toList [] (fun fp st => chk all fp = true ∧ Q .normal st) st) : pw P c0 H0 (.region id all true) Q st := by
  intro a w hs
  have h := pEv_run (P := P) (all := all) all.toList [] _ st h
  obtain ⟨rs, hlen, ⟨st', ⟨hchk, hQ⟩, hT', hH'⟩, hop⟩ := pRun_list all.toList [] _ st h
  simp only [List.reverse_nil, List.nil_append] at hchk
  have hlen' : rs.length = all.size := by simpa using hlen
  generalize hL : (all.toList.map (·.dst)).zip rs = L at hT' hH' hop
  have hLlen : L.length = all.size := by rw [← hL]; simp [hlen']
  have hLget : ∀ (j : Nat) d r, L[j]? = some (d, r) → (∃ o, all[j]? = some o ∧ o.dst = d) ∧ rs[j]? = some r := by
    intro j d r hj
    rw [← hL, List.getElem?_zip_eq_some] at hj
    simp only [List.getElem?_map, Array.getElem?_toList, Option.map_eq_some_iff] at hj
    exact ⟨hj.1, hj.2⟩
  have hLmk : ∀ (j : Nat) o r, all[j]? = some o → rs[j]? = some r → L[j]? = some (o.dst, r) := by
    intro j o r h1 h2
    rw [← hL, List.getElem?_zip_eq_some]
    simp only [List.getElem?_map, Array.getElem?_toList, Option.map_eq_some_iff]
    exact ⟨⟨o, h1, rfl⟩, h2⟩
  have hfp : ∀ (j : Nat) r, rs[j]? = some r → (rs.map foot).getD j ([], []) = (r.rd, r.wr.map (·.1)) := by
    intro j r hj
    simp [List.getD_eq_getElem?_getD, hj, foot]
  -- the walk over the listed operations
  have main : ∀ (fuel : Nat) (listed : Array Bool), listed.size = all.size → DownClosed all (fun j => listed.getD j false) → ((List.range all.size).filter fun i => !listed.getD i false).length ≤ fuel →
      ∀ a w, St c0 H0 (tF (fun j => listed.getD j false) 0 L st.T) (hF (fun j => listed.getD j false) 0 L (find st.H)) a w →
        wpAny P .any all (fun e a' w' => ∃ st', Q e st' ∧ St c0 H0 st'.T (find st'.H) a' w') fuel listed a w := by
    intro fuel
    induction fuel with
    | zero =>
      intro listed hsz hdc hcount a w hs
      have hall : ∀ i, i < all.size → listed.getD i false = true := by
        intro i hi
        cases hq : listed.getD i false with
        | true => rfl
        | false =>
          have : i ∈ (List.range all.size).filter fun i => !listed.getD i false := List.mem_filter.2 ⟨List.mem_range.2 hi, by simp only [hq, Bool.not_false]⟩
          have := List.length_pos_of_mem this
          omega
      refine ⟨?_, st', hQ, ?_⟩
      · unfold Region.ready
        rw [List.filter_eq_nil_iff]
        intro i hi
        simp only [List.mem_range] at hi
        have : listed.getD i true = true := by
          have := hall i hi
          simp only [Array.getD_eq_getD_getElem?] at this ⊢
          rw [Array.getElem?_eq_getElem (by omega)] at this ⊢
          exact this
        simp [this]
      · rw [hT', hH']
        have e1 : tF (fun j => listed.getD j false) 0 L st.T = tF (fun _ => true) 0 L st.T := by
          apply List.ext_getElem?
          intro t
          refine tF_congr L 0 _ _ rfl rfl fun j d r hj _ => ?_
          simp only [Nat.zero_add]
          exact hall j (by rw [← hLlen]; exact (List.getElem?_eq_some_iff.1 hj).1)
        have e2 : hF (fun j => listed.getD j false) 0 L (find st.H) = hF (fun _ => true) 0 L (find st.H) := by
          funext b
          refine hF_congr L 0 _ _ rfl fun j d r hj _ => ?_
          simp only [Nat.zero_add]
          exact hall j (by rw [← hLlen]; exact (List.getElem?_eq_some_iff.1 hj).1)
        rw [← e1, ← e2]
        exact hs
    | succ fuel ih =>
      intro listed hsz hdc hcount a w hs
      refine ⟨fun hready => ?_, fun i hi => ?_⟩
      · -- nothing is ready: all is listed
        have hall : ∀ i, i < all.size → listed.getD i false = true := by
          intro i
          induction i using Nat.strongRecOn with
          | _ i ihi =>
            intro hi
            cases hq : listed.getD i false with
            | true => rfl
            | false =>
              exfalso
              have hmem : i ∈ Region.ready .any all listed := by
                unfold Region.ready
                rw [List.mem_filter]
                refine ⟨by simpa using hi, ?_⟩
                have hq' : listed.getD i true = false := by
                  simp only [Array.getD_eq_getD_getElem?] at hq ⊢
                  rw [Array.getElem?_eq_getElem (by omega)] at hq ⊢
                  exact hq
                have ho : all[i]? = some all[i] := Array.getElem?_eq_getElem hi
                simp only [hq', ho, Option.map_some, Option.getD_some, Bool.not_false, Bool.true_and]
                rw [← Array.all_toList, List.all_eq_true]
                intro e he
                cases hb : Region.binds .any e with
                | false => rfl
                | true =>
                  have hlt := chk_edges hchk ho e he hb
                  simp [ihi e.on hlt (by omega)]
              rw [hready] at hmem
              cases hmem
        refine ⟨st', hQ, ?_⟩
        rw [hT', hH']
        have e1 : tF (fun j => listed.getD j false) 0 L st.T = tF (fun _ => true) 0 L st.T := by
          apply List.ext_getElem?
          intro t
          refine tF_congr L 0 _ _ rfl rfl fun j d r hj _ => ?_
          simp only [Nat.zero_add]
          exact hall j (by rw [← hLlen]; exact (List.getElem?_eq_some_iff.1 hj).1)
        have e2 : hF (fun j => listed.getD j false) 0 L (find st.H) = hF (fun _ => true) 0 L (find st.H) := by
          funext b
          refine hF_congr L 0 _ _ rfl fun j d r hj _ => ?_
          simp only [Nat.zero_add]
          exact hall j (by rw [← hLlen]; exact (List.getElem?_eq_some_iff.1 hj).1)
        rw [← e1, ← e2]
        exact hs
      · -- one that is ready
        unfold Region.ready at hi
        rw [List.mem_filter] at hi
        obtain ⟨hi1, hi2⟩ := hi
        simp only [List.mem_range] at hi1
        simp only [Bool.and_eq_true, Bool.not_eq_true'] at hi2
        have ho : all[i]? = some all[i] := Array.getElem?_eq_getElem hi1
        generalize all[i] = o at ho
        have hni : listed.getD i false = false := by
          have := hi2.1
          simp only [Array.getD_eq_getD_getElem?] at this ⊢
          rw [Array.getElem?_eq_getElem (by omega)] at this ⊢
          exact this
        have hedge : ∀ e ∈ o.after.toList, Region.binds .any e = true → listed.getD e.on false = true := by
          have := hi2.2
          rw [ho] at this
          simp only [Option.map_some, Option.getD_some] at this
          rw [← Array.all_toList, List.all_eq_true] at this
          intro e he hb
          simpa [hb] using this e he
        have hr : rs[i]? = some rs[i] := List.getElem?_eq_getElem (by omega)
        generalize rs[i] = r at hr
        have hsem := hop i o r (by simpa using ho) hr
        have hLi := hLmk i o r ho hr
        -- ahead of it stand just those that are listed, wherever it matters
        have hdc' : DownClosed all (fun j => listed.getD j false || decide (j = i)) := by
          intro j o' ho' hj e he hb
          simp only [Bool.or_eq_true, decide_eq_true_eq] at hj ⊢
          rcases hj with hj | rfl
          · exact .inl (hdc j o' ho' hj e he hb)
          · rw [ho] at ho'; cases ho'
            exact .inl (hedge e he hb)
        have hmatter : ∀ j, j < all.size → j ≠ i → conf all (rs.map foot) i j = true → listed.getD j false = decide (j < i) := by
          intro j hj hne hc
          rcases Nat.lt_or_gt_of_ne hne with hlt | hgt
          · have := before_closed hdc' hi1 (chk_conf hchk hlt hi1 (.inr hc)) (by simp)
            simp only [Bool.or_eq_true, decide_eq_true_eq] at this
            rcases this with h1 | h1
            · rw [h1]; simp [hlt]
            · exact absurd h1 hne
          · have hb := chk_conf hchk hgt hj (.inl hc)
            cases hq : listed.getD j false with
            | false => simp [Nat.not_lt.2 (Nat.le_of_lt hgt)]
            | true =>
              have := before_closed hdc hj hb hq
              rw [hni] at this; cases this
        have hdsti : dstOf all i = o.dst := by simp [dstOf, ho]
        have hlooki : looksOf all i = o.looksAt all := by simp [looksOf, ho]
        have hslot : ∀ j d r', L[j]? = some (some d, r') → j ≠ i → (d ∈ o.looksAt all ∨ o.dst = some d) → listed.getD j false = decide (j < i) := by
          intro j d r' hj hne hd
          obtain ⟨⟨o', ho', hd'⟩, _⟩ := hLget j _ r' hj
          refine hmatter j (Array.getElem?_eq_some_iff.1 ho').1 hne ?_
          have hdj : dstOf all j = some d := by simp [dstOf, ho', hd']
          simp only [conf, hdj, hlooki, hdsti, Bool.or_eq_true, List.contains_iff_mem, beq_iff_eq]
          right
          rcases hd with hd | hd
          · exact .inl hd
          · exact .inr hd
        have hbox : ∀ j d r' b, L[j]? = some (d, r') → j ≠ i → b ∈ r'.wr.map (·.1) → (b ∈ r.rd ∨ b ∈ r.wr.map (·.1)) → listed.getD j false = decide (j < i) := by
          intro j d r' b hj hne hb hd
          obtain ⟨⟨o', ho', hd'⟩, hrj⟩ := hLget j _ r' hj
          refine hmatter j (Array.getElem?_eq_some_iff.1 ho').1 hne ?_
          simp only [conf, hfp j r' hrj, hfp i r hr, Bool.or_eq_true, List.any_eq_true, List.contains_iff_mem]
          left
          exact ⟨b, hb, hd⟩
        have hS' : ∀ j, (listed.setIfInBounds i true).getD j false = if j = i then true else listed.getD j false := by
          intro j
          simp only [Array.getD_eq_getD_getElem?, Array.getElem?_setIfInBounds]
          by_cases hji : i = j
          · subst hji; simp [hsz, hi1]
          · have : ¬ j = i := fun e => hji e.symm
            simp [hji, this]
        have hagreeT : ∀ t ∈ o.looksAt all, (tF (fun j => listed.getD j false) 0 L st.T)[t]? = (tF (fun j => decide (j < i)) 0 L st.T)[t]? := by
          intro t ht
          refine tF_congr L 0 _ _ rfl rfl fun j d r' hj hd => ?_
          simp only [Nat.zero_add]
          subst hd
          by_cases hji : j = i
          · subst hji; rw [hni]; simp
          · exact hslot j t r' hj hji (.inl ht)
        have hagreeH : ∀ b ∈ r.rd, hF (fun j => listed.getD j false) 0 L (find st.H) b = hF (fun j => decide (j < i)) 0 L (find st.H) b := by
          intro b hb
          refine hF_congr L 0 _ _ rfl fun j d r' hj hd => ?_
          simp only [Nat.zero_add]
          by_cases hji : j = i
          · subst hji; rw [hni]; simp
          · exact hbox j d r' b hj hji hd (.inl hb)
        have hsem' : OpSem P all o (tF (fun j => listed.getD j false) 0 L st.T) (hF (fun j => listed.getD j false) 0 L (find st.H)) r := by
          intro T' H' h1 h2
          exact hsem T' H' (fun t ht => (h1 t ht).trans (hagreeT t ht)) (fun b hb => (h2 b hb).trans (hagreeH b hb))
        refine St.step hsem' hs ho fun a' w' hs' => ?_
        have eT : setD (tF (fun j => listed.getD j false) 0 L st.T) o.dst r.v = tF (fun j => (listed.setIfInBounds i true).getD j false) 0 L st.T := by
          apply List.ext_getElem?
          intro t
          by_cases hd : o.dst = some t
          · rw [hd, setD_eq, tF_length]
            symm
            refine tF_last L 0 st.T i r (by rw [← hd]; exact hLi) (by simp [hS']) fun j d r' hj hij hdt => ?_
            simp only [Nat.zero_add]
            subst hdt
            have hji : j ≠ i := by omega
            rw [hS', if_neg hji, hslot j t r' hj hji (.inr hd)]
            simp; omega
          · rw [setD_ne hd]
            refine tF_congr L 0 _ _ rfl rfl fun j d r' hj hdt => ?_
            simp only [Nat.zero_add]
            subst hdt
            have hji : j ≠ i := by
              rintro rfl
              rw [hLi] at hj
              simp only [Option.some.injEq, Prod.mk.injEq] at hj
              exact hd hj.1
            rw [hS', if_neg hji]
        have eH : upd (hF (fun j => listed.getD j false) 0 L (find st.H)) r.wr = hF (fun j => (listed.setIfInBounds i true).getD j false) 0 L (find st.H) := by
          funext b
          by_cases hb : b ∈ r.wr.map (·.1)
          · symm
            refine hF_last L 0 (find st.H) i o.dst r hLi hb (by simp [hS']) (fun j d r' hj hij hbt => ?_) _
            simp only [Nat.zero_add]
            have hji : j ≠ i := by omega
            rw [hS', if_neg hji, hbox j d r' b hj hji hbt (.inr hb)]
            simp; omega
          · rw [upd_ne hb]
            refine hF_congr L 0 _ _ rfl fun j d r' hj hbt => ?_
            simp only [Nat.zero_add]
            have hji : j ≠ i := by
              rintro rfl
              rw [hLi] at hj
              simp only [Option.some.injEq, Prod.mk.injEq] at hj
              rw [← hj.2] at hbt
              exact hb hbt
            rw [hS', if_neg hji]
        rw [eT, eH] at hs'
        refine ih _ (by simp [hsz]) ?_ ?_ a' w' hs'
        · intro j o' ho' hj e he hb
          simp only [hS'] at hj ⊢
          split
          · rfl
          · split at hj
            · rename_i hji
              subst hji
              rw [ho] at ho'; cases ho'
              exact hedge e he hb
            · exact hdc j o' ho' hj e he hb
        · have hfilter : ((List.range all.size).filter fun j => !(listed.setIfInBounds i true).getD j false) = ((List.range all.size).filter fun j => !listed.getD j false).filter fun j => decide (j ≠ i) := by
            rw [List.filter_filter]
            apply List.filter_congr
            intro j _
            rw [hS']
            by_cases hji : j = i <;> simp [hji]
          rw [hfilter]
          have hlt : (((List.range all.size).filter fun j => !listed.getD j false).filter fun j => decide (j ≠ i)).length < ((List.range all.size).filter fun j => !listed.getD j false).length := by
            rw [List.length_filter_lt_length_iff_exists]
            exact ⟨i, List.mem_filter.2 ⟨List.mem_range.2 hi1, by simp only [hni, Bool.not_false]⟩, by simp⟩
          omega
  refine wp_region_any hm ?_
  refine main all.size (Array.replicate all.size false) (by simp) ?_ ?_ a _ ?_
  · intro j o ho hj
    simp only [Array.getD_eq_getD_getElem?, Array.getElem?_replicate] at hj
    split at hj <;> simp at hj
  · exact Nat.le_trans (List.length_filter_le _ _) (by simp)
  · have e0 : ∀ j, (Array.replicate all.size false).getD j false = false := by
      intro j
      simp only [Array.getD_eq_getD_getElem?, Array.getElem?_replicate]
      split <;> rfl
    have e1 : ∀ (S : Nat → Bool), (∀ j, S j = false) → ∀ (l : List (Option Tmp × Res)) k (T : List PV), tF S k l T = T := by
      intro S hS l
      induction l with
      | nil => intro k T; rfl
      | cons p l ih => intro k T; obtain ⟨d, r⟩ := p; simp only [tF, hS, cond_false]; exact ih _ _
    have e2 : ∀ (S : Nat → Bool), (∀ j, S j = false) → ∀ (l : List (Option Tmp × Res)) k (T : FH), hF S k l T = T := by
      intro S hS l
      induction l with
      | nil => intro k T; rfl
      | cons p l ih => intro k T; obtain ⟨d, r⟩ := p; simp only [hF, hS, cond_false]; exact ih _ _
    rw [e1 _ e0, e2 _ e0]
    obtain ⟨c, rfl, h1, h2, h3, h4⟩ := hs
    obtain ⟨g1, g2⟩ := h1.world { c.w with drawn := c.w.drawn + 1 } (fun _ _ => rfl) (Nat.le_refl _) rfl rfl rfl
    exact ⟨_, rfl, g1, h2.trans g2, h3.mono g2.le, h4⟩

end
end Pv
