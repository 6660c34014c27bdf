import Derived.Test.YtkbghhholjfgfaaB0
import Derived.Lib.Bytealg
import Derived.Laws.Externs
import Derived.Carry
import Derived.OpenShut
import Derived.JoinedCond
import Derived.ProofKit
set_option linter.unusedSimpArgs false
set_option linter.unusedVariables false
set_option linter.unusedSimpArgs false
set_option linter.unusedVariables false
namespace Pv
open Go


def tF (S : Nat → Bool) : Nat → List (Option Tmp × Res) → List PV → List PV
  | _, [], T => T
  | k, (d, r) :: l, T => tF S (k + 1) l (bif S k then setD T d r.v else T)

def hF (S : Nat → Bool) : Nat → List (Option Tmp × Res) → FH → FH
  | _, [], H => H
  | k, (_, r) :: l, H => hF S (k + 1) l (bif S k then upd H r.wr else H)

theorem setD_length (T : List PV) (d : Option Tmp) (v : PV) : (setD T d v).length = T.length := by cases d <;> simp [setD]
theorem setD_ne {T : List PV} {d : Option Tmp} {v : PV} {t : Nat} (h : d ≠ some t) : (setD T d v)[t]? = T[t]? := by
  cases d with
  | none => rfl
  | some d => simp only [setD]; rw [List.getElem?_set_ne (fun e => h (congrArg some e))]
theorem setD_eq {T : List PV} {v : PV} {t : Nat} : (setD T (some t) v)[t]? = if t < T.length then some v else none := by
  simp [setD, List.getElem?_set]

theorem upd_ne {H : FH} {wr : List (Nat × Box)} {b : Nat} (h : b ∉ wr.map (·.1)) : upd H wr b = H b := by
  induction wr generalizing H with
  | nil => rfl
  | cons p t ih =>
    obtain ⟨k, x⟩ := p
    simp only [List.map_cons, List.mem_cons, not_or] at h
    simp only [upd]
    rw [ih h.2, if_neg h.1]

theorem upd_eq {H H' : FH} {wr : List (Nat × Box)} {b : Nat} (h : b ∈ wr.map (·.1) ∨ H b = H' b) : upd H wr b = upd H' wr b := by
  induction wr generalizing H H' with
  | nil => simpa [upd] using h
  | cons p t ih =>
    obtain ⟨k, x⟩ := p
    simp only [upd]
    apply ih
    simp only [List.map_cons, List.mem_cons] at h
    by_cases hb : b = k
    · right; simp [hb]
    · rcases h with (h | h) | h
      · exact absurd h hb
      · exact .inl h
      · right; simp [hb, h]

theorem tF_length (S : Nat → Bool) : ∀ (l : List (Option Tmp × Res)) (k : Nat) (T : List PV), (tF S k l T).length = T.length
  | [], _, _ => rfl
  | (d, r) :: l, k, T => by
    simp only [tF]
    rw [tF_length S l]
    cases S k <;> simp [setD_length]

theorem tF_congr {S S' : Nat → Bool} {t : Nat} : ∀ (l : List (Option Tmp × Res)) (k : Nat) (T T' : List PV), T.length = T'.length → T[t]? = T'[t]? → (∀ j d r, l[j]? = some (d, r) → d = some t → S (k + j) = S' (k + j)) →
    (tF S k l T)[t]? = (tF S' k l T')[t]?
  | [], _, _, _, _, h, _ => h
  | (d, r) :: l, k, T, T', hl, h, hS => by
    simp only [tF]
    have hrest : ∀ j d' r', l[j]? = some (d', r') → d' = some t → S (k + 1 + j) = S' (k + 1 + j) := fun j d' r' hj hd => by
      have := hS (j + 1) d' r' (by simpa using hj) hd
      rwa [show k + (j + 1) = k + 1 + j by omega] at this
    refine tF_congr l (k + 1) _ _ ?_ ?_ hrest
    · cases S k <;> cases S' k <;> simp [setD_length, hl]
    · by_cases hd : d = some t
      · have := hS 0 d r rfl hd
        simp only [Nat.add_zero] at this
        rw [this]
        subst hd
        cases S' k with
        | true => simp only [cond_true, setD_eq, hl]
        | false => simpa using h
      · cases S k <;> cases S' k <;> simp only [cond_true, cond_false] <;> (try rw [setD_ne hd]) <;> (try rw [setD_ne hd]) <;> exact h

theorem tF_last {S : Nat → Bool} {t : Nat} : ∀ (l : List (Option Tmp × Res)) (k : Nat) (T : List PV) (i : Nat) (r : Res), l[i]? = some (some t, r) → S (k + i) = true → (∀ j d r', l[j]? = some (d, r') → i < j → d = some t → S (k + j) = false) →
    (tF S k l T)[t]? = if t < T.length then some r.v else none
  | [], _, _, i, r, h, _, _ => by simp at h
  | (d, r0) :: l, k, T, i, r, h, hi, hS => by
    simp only [tF]
    cases i with
    | zero =>
      simp only [List.getElem?_cons_zero, Option.some.injEq, Prod.mk.injEq] at h
      obtain ⟨rfl, rfl⟩ := h
      simp only [Nat.add_zero] at hi
      simp only [hi, cond_true]
      have h1 := tF_congr (S := S) (S' := fun _ => false) (t := t) l (k + 1) (setD T (some t) r0.v) (setD T (some t) r0.v) rfl rfl (fun j d r' hj hd => by
        have := hS (j + 1) d r' (by simpa using hj) (by omega) hd
        rwa [show k + (j + 1) = k + 1 + j by omega] at this)
      rw [h1]
      have h2 : ∀ (l : List (Option Tmp × Res)) k T, tF (fun _ => false) k l T = T := by
        intro l
        induction l with
        | nil => intro k T; rfl
        | cons p l ih => intro k T; obtain ⟨d, r⟩ := p; simp [tF, ih]
      rw [h2, setD_eq]
    | succ i =>
      have := tF_last (S := S) (t := t) l (k + 1) (bif S k then setD T d r0.v else T) i r (by simpa using h) (by rwa [show k + 1 + i = k + (i + 1) by omega]) (fun j d' r' hj hij hd => by
        have := hS (j + 1) d' r' (by simpa using hj) (by omega) hd
        rwa [show k + (j + 1) = k + 1 + j by omega] at this)
      rw [this]
      cases S k <;> simp [setD_length]

theorem hF_congr {S S' : Nat → Bool} {b : Nat} : ∀ (l : List (Option Tmp × Res)) (k : Nat) (H H' : FH), H b = H' b → (∀ j d r, l[j]? = some (d, r) → b ∈ r.wr.map (·.1) → S (k + j) = S' (k + j)) → hF S k l H b = hF S' k l H' b
  | [], _, _, _, h, _ => h
  | (d, r) :: l, k, H, H', h, hS => by
    simp only [hF]
    have hrest : ∀ j d' r', l[j]? = some (d', r') → b ∈ r'.wr.map (·.1) → S (k + 1 + j) = S' (k + 1 + j) := fun j d' r' hj hd => by
      have := hS (j + 1) d' r' (by simpa using hj) hd
      rwa [show k + (j + 1) = k + 1 + j by omega] at this
    refine hF_congr l (k + 1) _ _ ?_ hrest
    by_cases hd : b ∈ r.wr.map (·.1)
    · have := hS 0 d r rfl hd
      simp only [Nat.add_zero] at this
      rw [this]
      cases S' k with
      | true => exact upd_eq (.inl hd)
      | false => exact h
    · cases S k <;> cases S' k <;> simp only [cond_true, cond_false] <;> (try rw [upd_ne hd]) <;> (try rw [upd_ne hd]) <;> exact h

theorem hF_last {S : Nat → Bool} {b : Nat} : ∀ (l : List (Option Tmp × Res)) (k : Nat) (H : FH) (i : Nat) (d : Option Tmp) (r : Res), l[i]? = some (d, r) → b ∈ r.wr.map (·.1) → S (k + i) = true →
    (∀ j d r', l[j]? = some (d, r') → i < j → b ∈ r'.wr.map (·.1) → S (k + j) = false) → ∀ H'', hF S k l H b = upd H'' r.wr b
  | [], _, _, i, d, r, h, _, _, _, _ => by simp at h
  | (d0, r0) :: l, k, H, i, d, r, h, hb, hi, hS, H'' => by
    simp only [hF]
    cases i with
    | zero =>
      simp only [List.getElem?_cons_zero, Option.some.injEq, Prod.mk.injEq] at h
      obtain ⟨rfl, rfl⟩ := h
      simp only [Nat.add_zero] at hi
      simp only [hi, cond_true]
      have h1 := hF_congr (S := S) (S' := fun _ => false) (b := b) l (k + 1) (upd H r0.wr) (upd H r0.wr) rfl (fun j d r' hj hd => by
        have := hS (j + 1) d r' (by simpa using hj) (by omega) hd
        rwa [show k + (j + 1) = k + 1 + j by omega] at this)
      rw [h1]
      have h2 : ∀ (l : List (Option Tmp × Res)) k T, hF (fun _ => false) k l T = T := by
        intro l
        induction l with
        | nil => intro k T; rfl
        | cons p l ih => intro k T; obtain ⟨d, r⟩ := p; simp [hF, ih]
      rw [h2]
      exact upd_eq (.inl hb)
    | succ i =>
      exact hF_last (S := S) (b := b) l (k + 1) _ i d r (by simpa using h) hb (by rwa [show k + 1 + i = k + (i + 1) by omega]) (fun j d' r' hj hij hd => by
        have := hS (j + 1) d' r' (by simpa using hj) (by omega) hd
        rwa [show k + (j + 1) = k + 1 + j by omega] at this) H''


def DownClosed (all : Array Oper) (S : Nat → Bool) : Prop := ∀ j o, all[j]? = some o → S j = true → ∀ e ∈ o.after.toList, Region.binds .any e = true → S e.on = true

theorem before_foldl (all : Array Oper) (S : Nat → Bool) (hS : DownClosed all S) : ∀ (os : List Oper) (acc : Array Nat), (∀ j, j < os.length → all[acc.size + j]? = os[j]?) →
    (∀ j i, j < acc.size → (acc.getD j 0).testBit i = true → S j = true → S i = true) →
    (∀ j i, j < acc.size + os.length → ((os.foldl (fun acc o => acc.push (o.after.foldl (fun s e => if Region.binds .any e then s ||| 2 ^ e.on ||| acc.getD e.on 0 else s) 0)) acc).getD j 0).testBit i = true → S j = true → S i = true)
  | [], acc, _, h => by simpa using h
  | o :: os, acc, ha, h => by
    intro j i hj
    simp only [List.foldl_cons]
    have ho : all[acc.size]? = some o := by simpa using ha 0 (by simp)
    refine before_foldl all S hS os _ ?_ ?_ j i ?_
    · intro j hj
      have := ha (j + 1) (by simp; omega)
      simp only [Array.size_push, List.getElem?_cons_succ] at this ⊢
      rw [← this]; congr 1; omega
    · intro j i hj hbit hSj
      simp only [Array.size_push] at hj
      by_cases hje : j < acc.size
      · refine h j i hje ?_ hSj
        simpa [Array.getD_eq_getD_getElem?, Array.getElem?_push, Nat.ne_of_lt hje] using hbit
      · have hj' : j = acc.size := by omega
        subst hj'
        have hbit' : (o.after.foldl (fun s e => if Region.binds .any e then s ||| 2 ^ e.on ||| acc.getD e.on 0 else s) 0).testBit i = true := by
          simpa [Array.getD_eq_getD_getElem?] using hbit
        rw [← Array.foldl_toList] at hbit'
        have hall := hS acc.size o ho hSj
        have key : ∀ (es : List Edge) (s0 : Nat), (∀ e ∈ es, e ∈ o.after.toList) → (s0.testBit i = true → S i = true) → (es.foldl (fun s e => if Region.binds .any e then s ||| 2 ^ e.on ||| acc.getD e.on 0 else s) s0).testBit i = true → S i = true := by
          intro es
          induction es with
          | nil => intro s0 _ h0 hb; exact h0 hb
          | cons e es ih =>
            intro s0 hin h0 hb
            simp only [List.foldl_cons] at hb
            refine ih _ (fun e' he' => hin e' (by simp [he'])) ?_ hb
            intro hs
            split at hs
            · rename_i hbind
              simp only [Nat.testBit_or, Bool.or_eq_true] at hs
              have hSe := hall e (hin e (by simp)) hbind
              rcases hs with (hs | hs) | hs
              · exact h0 hs
              · rw [Nat.testBit_two_pow] at hs
                have : e.on = i := by simpa using hs
                rw [← this]; exact hSe
              · by_cases heo : e.on < acc.size
                · exact h e.on i heo hs hSe
                · simp [Array.getD_eq_getD_getElem?, Array.getElem?_eq_none (Nat.le_of_not_lt heo)] at hs
            · exact h0 hs
        exact key o.after.toList 0 (fun e he => he) (by simp) hbit'
    · simp at hj ⊢; omega

theorem before_closed {all : Array Oper} {S : Nat → Bool} (hS : DownClosed all S) {i j : Nat} (hj : j < all.size) (hb : ((Region.before all).getD j 0).testBit i = true) (hSj : S j = true) : S i = true := by
  have := before_foldl all S hS all.toList #[] (fun j hj => by simp) (fun j i hj => by simp at hj) j i (by simpa using hj)
  rw [Region.before, ← Array.foldl_toList] at hb
  exact this hb hSj

def dstOf (all : Array Oper) (i : Nat) : Option Tmp := (all[i]?).bind (·.dst)
def looksOf (all : Array Oper) (i : Nat) : List Tmp := match all[i]? with | some o => o.looksAt all | none => []

def conf (all : Array Oper) (fp : List (List Nat × List Nat)) (i j : Nat) : Bool :=
  ((fp.getD j ([], [])).2.any fun b => (fp.getD i ([], [])).1.contains b || (fp.getD i ([], [])).2.contains b) ||
  (match dstOf all j with | some d => (looksOf all i).contains d || dstOf all i == some d | none => false)

def chk (all : Array Oper) (fp : List (List Nat × List Nat)) : Bool :=
  ((List.range all.size).all fun j => match all[j]? with | some o => o.after.toList.all fun e => !Region.binds .any e || decide (e.on < j) | none => true) &&
  ((List.range all.size).all fun j => (List.range j).all fun i => !(conf all fp i j || conf all fp j i) || ((Region.before all).getD j 0).testBit i)

end Pv
set_option linter.unusedSimpArgs false
set_option linter.unusedVariables false
namespace Pv
open Go

section
variable {P : Program} {all : Array Oper}

theorem pRun_list : ∀ (os : List Oper) (acc : List Res) (K : List Res → PS → Prop) (st : PS), pRun P all os acc K st →
    ∃ rs : List Res, rs.length = os.length ∧ (∃ st', K (acc.reverse ++ rs) st' ∧ st'.T = tF (fun _ => true) 0 ((os.map (·.dst)).zip rs) st.T ∧ find st'.H = hF (fun _ => true) 0 ((os.map (·.dst)).zip rs) (find st.H)) ∧
      ∀ (k : Nat) o r, os[k]? = some o → rs[k]? = some r → OpSem P all o (tF (fun j => decide (j < k)) 0 ((os.map (·.dst)).zip rs) st.T) (hF (fun j => decide (j < k)) 0 ((os.map (·.dst)).zip rs) (find st.H)) r
  | [], acc, K, st, h => ⟨[], rfl, ⟨st, by simp only [List.append_nil]; exact h, rfl, rfl⟩, fun k o r ho => by simp at ho⟩
  | o :: os, acc, K, st, h => by
    obtain ⟨r, h1, h2⟩ := h
    obtain ⟨rs, g1, ⟨st', g2, g3, g4⟩, g5⟩ := pRun_list os (r :: acc) K _ h2
    have shift : ∀ (S : Nat → Bool) (l : List (Option Tmp × Res)) (k : Nat) (T : List PV), tF S (k + 1) l T = tF (fun j => S (j + 1)) k l T := by
      intro S l
      induction l with
      | nil => intro k T; rfl
      | cons p l ih => intro k T; obtain ⟨d, r⟩ := p; simp only [tF]; rw [ih]
    have shiftH : ∀ (S : Nat → Bool) (l : List (Option Tmp × Res)) (k : Nat) (T : FH), hF S (k + 1) l T = hF (fun j => S (j + 1)) k l T := by
      intro S l
      induction l with
      | nil => intro k T; rfl
      | cons p l ih => intro k T; obtain ⟨d, r⟩ := p; simp only [hF]; rw [ih]
    refine ⟨r :: rs, by simp [g1], ⟨st', by simpa using g2, ?_, ?_⟩, fun k o' r' ho hr => ?_⟩
    · simp only [List.map_cons, List.zip_cons_cons, tF, cond_true]
      rw [g3, shift]
    · simp only [List.map_cons, List.zip_cons_cons, hF, cond_true]
      rw [g4, shiftH, find_puts]
    · cases k with
      | zero =>
        simp only [List.getElem?_cons_zero, Option.some.injEq] at ho hr
        subst ho; subst hr
        have e1 : ∀ (l : List (Option Tmp × Res)) k (T : List PV), tF (fun j => decide (j < 0)) k l T = T := by
          intro l
          induction l with
          | nil => intro k T; rfl
          | cons p l ih => intro k T; obtain ⟨d, r⟩ := p; simp only [tF, Nat.not_lt_zero, decide_false, cond_false]; exact ih _ _
        have e2 : ∀ (l : List (Option Tmp × Res)) k (T : FH), hF (fun j => decide (j < 0)) k l T = T := by
          intro l
          induction l with
          | nil => intro k T; rfl
          | cons p l ih => intro k T; obtain ⟨d, r⟩ := p; simp only [hF, Nat.not_lt_zero, decide_false, cond_false]; exact ih _ _
        rw [e1, e2]
        exact h1
      | succ k =>
        have := g5 k o' r' (by simpa using ho) (by simpa using hr)
        simp only [List.map_cons, List.zip_cons_cons, tF, hF]
        rw [shift, shiftH]
        simp only [Nat.zero_lt_succ, decide_true, cond_true, Nat.add_lt_add_iff_right]
        rw [find_puts] at this
        exact this

theorem chk_edges {fp : List (List Nat × List Nat)} (h : chk all fp = true) {j : Nat} {o : Oper} (ho : all[j]? = some o) : ∀ e ∈ o.after.toList, Region.binds .any e = true → e.on < j := by
  intro e he hb
  simp only [chk, Bool.and_eq_true, List.all_eq_true, List.mem_range] at h
  have := h.1 j (Array.getElem?_eq_some_iff.1 ho).1
  rw [ho] at this
  simp only [List.all_eq_true, Bool.or_eq_true, Bool.not_eq_true', decide_eq_true_eq] at this
  rcases this e he with h1 | h1
  · rw [hb] at h1; cases h1
  · exact h1

theorem chk_conf {fp : List (List Nat × List Nat)} (h : chk all fp = true) {i j : Nat} (hij : i < j) (hj : j < all.size) (hc : conf all fp i j = true ∨ conf all fp j i = true) : ((Region.before all).getD j 0).testBit i = true := by
  simp only [chk, Bool.and_eq_true, List.all_eq_true, List.mem_range] at h
  have := h.2 j hj i hij
  rcases hc with hc | hc <;> simpa [hc] using this

theorem pw_region_draw {c0 : Cx} {H0 : FH} {id : Nat} {Q : Exit → PS → Prop} {st : PS} (hm : P.follows .mixedOrders = true) (n0 : Nat) (h : pEv P all n0 all.toList [] (fun fp st => chk all fp = true ∧ Q .normal st) st) : pw P c0 H0 (.region id all true) Q st := by
  intro a w hs
  have h := pEv_run (P := P) (all := all) all.toList [] _ st h
  obtain ⟨rs, hlen, ⟨st', ⟨hchk, hQ⟩, hT', hH'⟩, hop⟩ := pRun_list all.toList [] _ st h
  simp only [List.reverse_nil, List.nil_append] at hchk
  have hlen' : rs.length = all.size := by simpa using hlen
  generalize hL : (all.toList.map (·.dst)).zip rs = L at hT' hH' hop
  have hLlen : L.length = all.size := by rw [← hL]; simp [hlen']
  have hLget : ∀ (j : Nat) d r, L[j]? = some (d, r) → (∃ o, all[j]? = some o ∧ o.dst = d) ∧ rs[j]? = some r := by
    intro j d r hj
    rw [← hL, List.getElem?_zip_eq_some] at hj
    simp only [List.getElem?_map, Array.getElem?_toList, Option.map_eq_some_iff] at hj
    exact ⟨hj.1, hj.2⟩
  have hLmk : ∀ (j : Nat) o r, all[j]? = some o → rs[j]? = some r → L[j]? = some (o.dst, r) := by
    intro j o r h1 h2
    rw [← hL, List.getElem?_zip_eq_some]
    simp only [List.getElem?_map, Array.getElem?_toList, Option.map_eq_some_iff]
    exact ⟨⟨o, h1, rfl⟩, h2⟩
  have hfp : ∀ (j : Nat) r, rs[j]? = some r → (rs.map foot).getD j ([], []) = (r.rd, r.wr.map (·.1)) := by
    intro j r hj
    simp [List.getD_eq_getElem?_getD, hj, foot]
  have main : ∀ (fuel : Nat) (listed : Array Bool), listed.size = all.size → DownClosed all (fun j => listed.getD j false) → ((List.range all.size).filter fun i => !listed.getD i false).length ≤ fuel →
      ∀ a w, St c0 H0 (tF (fun j => listed.getD j false) 0 L st.T) (hF (fun j => listed.getD j false) 0 L (find st.H)) a w →
        wpAny P .any all (fun e a' w' => ∃ st', Q e st' ∧ St c0 H0 st'.T (find st'.H) a' w') fuel listed a w := by
    intro fuel
    induction fuel with
    | zero =>
      intro listed hsz hdc hcount a w hs
      have hall : ∀ i, i < all.size → listed.getD i false = true := by
        intro i hi
        cases hq : listed.getD i false with
        | true => rfl
        | false =>
          have : i ∈ (List.range all.size).filter fun i => !listed.getD i false := List.mem_filter.2 ⟨List.mem_range.2 hi, by simp only [hq, Bool.not_false]⟩
          have := List.length_pos_of_mem this
          omega
      refine ⟨?_, st', hQ, ?_⟩
      · unfold Region.ready
        rw [List.filter_eq_nil_iff]
        intro i hi
        simp only [List.mem_range] at hi
        have : listed.getD i true = true := by
          have := hall i hi
          simp only [Array.getD_eq_getD_getElem?] at this ⊢
          rw [Array.getElem?_eq_getElem (by omega)] at this ⊢
          exact this
        simp [this]
      · rw [hT', hH']
        have e1 : tF (fun j => listed.getD j false) 0 L st.T = tF (fun _ => true) 0 L st.T := by
          apply List.ext_getElem?
          intro t
          refine tF_congr L 0 _ _ rfl rfl fun j d r hj _ => ?_
          simp only [Nat.zero_add]
          exact hall j (by rw [← hLlen]; exact (List.getElem?_eq_some_iff.1 hj).1)
        have e2 : hF (fun j => listed.getD j false) 0 L (find st.H) = hF (fun _ => true) 0 L (find st.H) := by
          funext b
          refine hF_congr L 0 _ _ rfl fun j d r hj _ => ?_
          simp only [Nat.zero_add]
          exact hall j (by rw [← hLlen]; exact (List.getElem?_eq_some_iff.1 hj).1)
        rw [← e1, ← e2]
        exact hs
    | succ fuel ih =>
      intro listed hsz hdc hcount a w hs
      refine ⟨fun hready => ?_, fun i hi => ?_⟩
      · -- nothing is ready: all is listed
        have hall : ∀ i, i < all.size → listed.getD i false = true := by
          intro i
          induction i using Nat.strongRecOn with
          | _ i ihi =>
            intro hi
            cases hq : listed.getD i false with
            | true => rfl
            | false =>
              exfalso
              have hmem : i ∈ Region.ready .any all listed := by
                unfold Region.ready
                rw [List.mem_filter]
                refine ⟨by simpa using hi, ?_⟩
                have hq' : listed.getD i true = false := by
                  simp only [Array.getD_eq_getD_getElem?] at hq ⊢
                  rw [Array.getElem?_eq_getElem (by omega)] at hq ⊢
                  exact hq
                have ho : all[i]? = some all[i] := Array.getElem?_eq_getElem hi
                simp only [hq', ho, Option.map_some, Option.getD_some, Bool.not_false, Bool.true_and]
                rw [← Array.all_toList, List.all_eq_true]
                intro e he
                cases hb : Region.binds .any e with
                | false => rfl
                | true =>
                  have hlt := chk_edges hchk ho e he hb
                  simp [ihi e.on hlt (by omega)]
              rw [hready] at hmem
              cases hmem
        refine ⟨st', hQ, ?_⟩
        rw [hT', hH']
        have e1 : tF (fun j => listed.getD j false) 0 L st.T = tF (fun _ => true) 0 L st.T := by
          apply List.ext_getElem?
          intro t
          refine tF_congr L 0 _ _ rfl rfl fun j d r hj _ => ?_
          simp only [Nat.zero_add]
          exact hall j (by rw [← hLlen]; exact (List.getElem?_eq_some_iff.1 hj).1)
        have e2 : hF (fun j => listed.getD j false) 0 L (find st.H) = hF (fun _ => true) 0 L (find st.H) := by
          funext b
          refine hF_congr L 0 _ _ rfl fun j d r hj _ => ?_
          simp only [Nat.zero_add]
          exact hall j (by rw [← hLlen]; exact (List.getElem?_eq_some_iff.1 hj).1)
        rw [← e1, ← e2]
        exact hs
      · -- one that is ready
        unfold Region.ready at hi
        rw [List.mem_filter] at hi
        obtain ⟨hi1, hi2⟩ := hi
        simp only [List.mem_range] at hi1
        simp only [Bool.and_eq_true, Bool.not_eq_true'] at hi2
        have ho : all[i]? = some all[i] := Array.getElem?_eq_getElem hi1
        generalize all[i] = o at ho
        have hni : listed.getD i false = false := by
          have := hi2.1
          simp only [Array.getD_eq_getD_getElem?] at this ⊢
          rw [Array.getElem?_eq_getElem (by omega)] at this ⊢
          exact this
        have hedge : ∀ e ∈ o.after.toList, Region.binds .any e = true → listed.getD e.on false = true := by
          have := hi2.2
          rw [ho] at this
          simp only [Option.map_some, Option.getD_some] at this
          rw [← Array.all_toList, List.all_eq_true] at this
          intro e he hb
          simpa [hb] using this e he
        have hr : rs[i]? = some rs[i] := List.getElem?_eq_getElem (by omega)
        generalize rs[i] = r at hr
        have hsem := hop i o r (by simpa using ho) hr
        have hLi := hLmk i o r ho hr
        have hdc' : DownClosed all (fun j => listed.getD j false || decide (j = i)) := by
          intro j o' ho' hj e he hb
          simp only [Bool.or_eq_true, decide_eq_true_eq] at hj ⊢
          rcases hj with hj | rfl
          · exact .inl (hdc j o' ho' hj e he hb)
          · rw [ho] at ho'; cases ho'
            exact .inl (hedge e he hb)
        have hmatter : ∀ j, j < all.size → j ≠ i → conf all (rs.map foot) i j = true → listed.getD j false = decide (j < i) := by
          intro j hj hne hc
          rcases Nat.lt_or_gt_of_ne hne with hlt | hgt
          · have := before_closed hdc' hi1 (chk_conf hchk hlt hi1 (.inr hc)) (by simp)
            simp only [Bool.or_eq_true, decide_eq_true_eq] at this
            rcases this with h1 | h1
            · rw [h1]; simp [hlt]
            · exact absurd h1 hne
          · have hb := chk_conf hchk hgt hj (.inl hc)
            cases hq : listed.getD j false with
            | false => simp [Nat.not_lt.2 (Nat.le_of_lt hgt)]
            | true =>
              have := before_closed hdc hj hb hq
              rw [hni] at this; cases this
        have hdsti : dstOf all i = o.dst := by simp [dstOf, ho]
        have hlooki : looksOf all i = o.looksAt all := by simp [looksOf, ho]
        have hslot : ∀ j d r', L[j]? = some (some d, r') → j ≠ i → (d ∈ o.looksAt all ∨ o.dst = some d) → listed.getD j false = decide (j < i) := by
          intro j d r' hj hne hd
          obtain ⟨⟨o', ho', hd'⟩, _⟩ := hLget j _ r' hj
          refine hmatter j (Array.getElem?_eq_some_iff.1 ho').1 hne ?_
          have hdj : dstOf all j = some d := by simp [dstOf, ho', hd']
          simp only [conf, hdj, hlooki, hdsti, Bool.or_eq_true, List.contains_iff_mem, beq_iff_eq]
          right
          rcases hd with hd | hd
          · exact .inl hd
          · exact .inr hd
        have hbox : ∀ j d r' b, L[j]? = some (d, r') → j ≠ i → b ∈ r'.wr.map (·.1) → (b ∈ r.rd ∨ b ∈ r.wr.map (·.1)) → listed.getD j false = decide (j < i) := by
          intro j d r' b hj hne hb hd
          obtain ⟨⟨o', ho', hd'⟩, hrj⟩ := hLget j _ r' hj
          refine hmatter j (Array.getElem?_eq_some_iff.1 ho').1 hne ?_
          simp only [conf, hfp j r' hrj, hfp i r hr, Bool.or_eq_true, List.any_eq_true, List.contains_iff_mem]
          left
          exact ⟨b, hb, hd⟩
        have hS' : ∀ j, (listed.setIfInBounds i true).getD j false = if j = i then true else listed.getD j false := by
          intro j
          simp only [Array.getD_eq_getD_getElem?, Array.getElem?_setIfInBounds]
          by_cases hji : i = j
          · subst hji; simp [hsz, hi1]
          · have : ¬ j = i := fun e => hji e.symm
            simp [hji, this]
        have hagreeT : ∀ t ∈ o.looksAt all, (tF (fun j => listed.getD j false) 0 L st.T)[t]? = (tF (fun j => decide (j < i)) 0 L st.T)[t]? := by
          intro t ht
          refine tF_congr L 0 _ _ rfl rfl fun j d r' hj hd => ?_
          simp only [Nat.zero_add]
          subst hd
          by_cases hji : j = i
          · subst hji; rw [hni]; simp
          · exact hslot j t r' hj hji (.inl ht)
        have hagreeH : ∀ b ∈ r.rd, hF (fun j => listed.getD j false) 0 L (find st.H) b = hF (fun j => decide (j < i)) 0 L (find st.H) b := by
          intro b hb
          refine hF_congr L 0 _ _ rfl fun j d r' hj hd => ?_
          simp only [Nat.zero_add]
          by_cases hji : j = i
          · subst hji; rw [hni]; simp
          · exact hbox j d r' b hj hji hd (.inl hb)
        have hsem' : OpSem P all o (tF (fun j => listed.getD j false) 0 L st.T) (hF (fun j => listed.getD j false) 0 L (find st.H)) r := by
          intro T' H' h1 h2
          exact hsem T' H' (fun t ht => (h1 t ht).trans (hagreeT t ht)) (fun b hb => (h2 b hb).trans (hagreeH b hb))
        refine St.step hsem' hs ho fun a' w' hs' => ?_
        have eT : setD (tF (fun j => listed.getD j false) 0 L st.T) o.dst r.v = tF (fun j => (listed.setIfInBounds i true).getD j false) 0 L st.T := by
          apply List.ext_getElem?
          intro t
          by_cases hd : o.dst = some t
          · rw [hd, setD_eq, tF_length]
            symm
            refine tF_last L 0 st.T i r (by rw [← hd]; exact hLi) (by simp [hS']) fun j d r' hj hij hdt => ?_
            simp only [Nat.zero_add]
            subst hdt
            have hji : j ≠ i := by omega
            rw [hS', if_neg hji, hslot j t r' hj hji (.inr hd)]
            simp; omega
          · rw [setD_ne hd]
            refine tF_congr L 0 _ _ rfl rfl fun j d r' hj hdt => ?_
            simp only [Nat.zero_add]
            subst hdt
            have hji : j ≠ i := by
              rintro rfl
              rw [hLi] at hj
              simp only [Option.some.injEq, Prod.mk.injEq] at hj
              exact hd hj.1
            rw [hS', if_neg hji]
        have eH : upd (hF (fun j => listed.getD j false) 0 L (find st.H)) r.wr = hF (fun j => (listed.setIfInBounds i true).getD j false) 0 L (find st.H) := by
          funext b
          by_cases hb : b ∈ r.wr.map (·.1)
          · symm
            refine hF_last L 0 (find st.H) i o.dst r hLi hb (by simp [hS']) (fun j d r' hj hij hbt => ?_) _
            simp only [Nat.zero_add]
            have hji : j ≠ i := by omega
            rw [hS', if_neg hji, hbox j d r' b hj hji hbt (.inr hb)]
            simp; omega
          · rw [upd_ne hb]
            refine hF_congr L 0 _ _ rfl fun j d r' hj hbt => ?_
            simp only [Nat.zero_add]
            have hji : j ≠ i := by
              rintro rfl
              rw [hLi] at hj
              simp only [Option.some.injEq, Prod.mk.injEq] at hj
              rw [← hj.2] at hbt
              exact hb hbt
            rw [hS', if_neg hji]
        rw [eT, eH] at hs'
        refine ih _ (by simp [hsz]) ?_ ?_ a' w' hs'
        · intro j o' ho' hj e he hb
          simp only [hS'] at hj ⊢
          split
          · rfl
          · split at hj
            · rename_i hji
              subst hji
              rw [ho] at ho'; cases ho'
              exact hedge e he hb
            · exact hdc j o' ho' hj e he hb
        · have hfilter : ((List.range all.size).filter fun j => !(listed.setIfInBounds i true).getD j false) = ((List.range all.size).filter fun j => !listed.getD j false).filter fun j => decide (j ≠ i) := by
            rw [List.filter_filter]
            apply List.filter_congr
            intro j _
            rw [hS']
            by_cases hji : j = i <;> simp [hji]
          rw [hfilter]
          have hlt : (((List.range all.size).filter fun j => !listed.getD j false).filter fun j => decide (j ≠ i)).length < ((List.range all.size).filter fun j => !listed.getD j false).length := by
            rw [List.length_filter_lt_length_iff_exists]
            exact ⟨i, List.mem_filter.2 ⟨List.mem_range.2 hi1, by simp only [hni, Bool.not_false]⟩, by simp⟩
          omega
  refine wp_region_any hm ?_
  refine main all.size (Array.replicate all.size false) (by simp) ?_ ?_ a _ ?_
  · intro j o ho hj
    simp only [Array.getD_eq_getD_getElem?, Array.getElem?_replicate] at hj
    split at hj <;> simp at hj
  · exact Nat.le_trans (List.length_filter_le _ _) (by simp)
  · have e0 : ∀ j, (Array.replicate all.size false).getD j false = false := by
      intro j
      simp only [Array.getD_eq_getD_getElem?, Array.getElem?_replicate]
      split <;> rfl
    have e1 : ∀ (S : Nat → Bool), (∀ j, S j = false) → ∀ (l : List (Option Tmp × Res)) k (T : List PV), tF S k l T = T := by
      intro S hS l
      induction l with
      | nil => intro k T; rfl
      | cons p l ih => intro k T; obtain ⟨d, r⟩ := p; simp only [tF, hS, cond_false]; exact ih _ _
    have e2 : ∀ (S : Nat → Bool), (∀ j, S j = false) → ∀ (l : List (Option Tmp × Res)) k (T : FH), hF S k l T = T := by
      intro S hS l
      induction l with
      | nil => intro k T; rfl
      | cons p l ih => intro k T; obtain ⟨d, r⟩ := p; simp only [hF, hS, cond_false]; exact ih _ _
    rw [e1 _ e0, e2 _ e0]
    obtain ⟨c, rfl, h1, h2, h3, h4⟩ := hs
    obtain ⟨g1, g2⟩ := h1.world { c.w with drawn := c.w.drawn + 1 } (fun _ _ => rfl) (Nat.le_refl _) rfl rfl rfl
    exact ⟨_, rfl, g1, h2.trans g2, h3.mono g2.le, h4⟩

end
end Pv
set_option linter.unusedSimpArgs false
set_option linter.unusedVariables false
namespace Pv
open Go

def PV.ground : PV → Bool
  | .bool _ | .int _ _ | .str _ | .nilp | .nilf | .nili | .nilm | .addr _ => true
  | .agg cs => go cs
  | .tup cs => go cs
  | .ifc _ x => x.ground
  | _ => false
  where
  go : List PV → Bool
    | [] => true
    | x :: t => x.ground && go t

theorem ground_go {l : List PV} (h : PV.ground.go l = true) : ∀ (i : Nat) x, l[i]? = some x → x.ground = true := by
  induction l with
  | nil => intro i x hx; simp at hx
  | cons y t ih =>
    simp only [PV.ground.go, Bool.and_eq_true] at h
    intro i x hx
    cases i with
    | zero => simp at hx; subst hx; exact h.1
    | succ i => exact ih h.2 i x (by simpa using hx)

theorem Rel.of_ground {c c' : Cx} {cl : Bool} {p : PV} {v : Value} (h : Rel c cl p v) : p.ground = true → ∀ cl', Rel c' cl' p v := by
  induction h with
  | bool b => exact fun _ _ => .bool b
  | ub b => exact fun _ _ => .ub b
  | int k n => exact fun _ _ => .int k n
  | str s => exact fun _ _ => .str s
  | agg hl _ ih => exact fun hg cl' => .agg hl fun i x v h1 h2 => ih i x v h1 h2 (ground_go hg i x h1) cl'
  | tup hl _ ih => exact fun hg cl' => .tup hl fun i x v h1 h2 => ih i x v h1 h2 (ground_go hg i x h1) cl'
  | addr a => exact fun _ _ => .addr a
  | nilp => exact fun _ _ => .nilp
  | nilf => exact fun _ _ => .nilf
  | ifc _ ih => exact fun hg cl' => .ifc (ih hg cl')
  | nili => exact fun _ _ => .nili
  | nilm => exact fun _ _ => .nilm
  | _ => intro hg; simp [PV.ground] at hg

def PFun (P : Program) (f : FuncId) (args : List PV) (r : PV) : Prop := r.closed = true ∧ PCall P f args (find []) fun q _ => q = r

theorem upd_nil (H : FH) : upd H [] = H := rfl

theorem Sim.world' {c : Cx} {H : FH} (hs : Sim c H) (w' : World) (A' : Nat → Prop) (hA : ∀ k, c.A k → A' k) (hA' : ∀ k, A' k → c.A k ∨ (c.w.heap.size ≤ k ∧ k < w'.heap.size)) (hh : ∀ k, k < c.w.heap.size → w'.heap[k]? = c.w.heap[k]?) (hz : c.w.heap.size ≤ w'.heap.size)
    (ho : w'.os = c.w.os) (ht : w'.tape = c.w.tape) (hu : w'.output = c.w.output) : Sim { c with w := w', A := A' } H ∧ Ext c H { c with w := w', A := A' } H := by
  have hle : c.Le { c with w := w', A := A' } := by
    refine ⟨fun k hk => ⟨hA k hk, hh k (hs.bnd k hk)⟩, fun b cur hb => ⟨cur, hb, Nat.le_refl _, fun _ => ⟨rfl, fun k cells e fr hk hc => ⟨cells, fr, ?_, rfl⟩⟩⟩⟩
    exact (hh k (Array.getElem?_eq_some_iff.1 hc).1).trans hc
  refine ⟨⟨hs.gam, fun b x hb => ?_, hs.inj, fun b x k hb ho hl hk hAk => ?_, fun b x k hb ho hl hk => hA k (hs.frz b x k hb ho hl hk), fun k hk => ?_, hs.ded⟩, ⟨hle, ho, ht, hu, hz, fun k hk _ => hh k hk, fun k hk => ?_, fun k hk => .inr hk⟩⟩
  · cases hl : x.live with
    | false =>
      have : x.body = .dead := by unfold Box.live at hl; cases hx : x.body <;> simp_all
      simp [BoxRel, this]
    | true => exact (hs.box b x hb).mono hle rfl fun k hk => hh k ((hs.box b x hb).lt hl hk)
  · rcases hA' k hAk with h1 | h1
    · exact hs.sep b x k hb ho hl hk h1
    · exact absurd ((hs.box b x hb).lt hl hk) (Nat.not_lt.2 h1.1)
  · rcases hA' k hk with h1 | h1
    · exact Nat.lt_of_lt_of_le (hs.bnd k h1) hz
    · exact h1.2
  · rcases hA' k hk with h1 | h1
    · exact .inl h1
    · exact .inr (.inl h1.1)

theorem emptyFH : (find [] : FH) = fun _ => none := rfl

theorem Sim.empty {c : Cx} (A : Nat → Prop) (hA : ∀ k, A k → k < c.w.heap.size) : Sim ⟨c.w, A, fun _ => none, fun _ => none⟩ (find []) :=
  ⟨fun b => rfl, fun b x h => (by cases h), fun b b' x x' k h => (by cases h), fun b x k h => (by cases h), fun b x k h => (by cases h), hA, fun b x h => (by cases h)⟩

theorem call_pure {P : Program} {f : FuncId} {args : List PV} {r : PV} (h : PFun P f args r) (he : Enters P f) (hc : args.all PV.closed = true) (H : FH) : CallSem P f args H { v := r } := by
  intro H' _
  refine PInv.of_call he ?_
  intro c vs hs ha
  have hsm := Sim.empty (c := c) c.A hs.bnd
  have has : RelL ⟨c.w, c.A, fun _ => none, fun _ => none⟩ args vs :=
    ⟨ha.1, fun i p v a b => ((ha.2 i p v a b).toClosed (List.all_eq_true.1 hc p (List.mem_of_getElem? a))).closed (c := c) (c' := ⟨c.w, c.A, fun _ => none, fun _ => none⟩) (fun _ h => ⟨h, rfl⟩) rfl false⟩
  refine (h.2 _ vs hsm has).mono ?_
  rintro e w' ⟨q, v, c1, H1, rfl, rfl, rfl, h1, hr, hx⟩
  have hno : ∀ k, ¬ Owned (⟨c.w, c.A, fun _ => none, fun _ => none⟩ : Cx) (find []) k := fun k ⟨b, x, hb, _⟩ => by cases hb
  obtain ⟨g1, g2⟩ := hs.world' c1.w c1.A (fun k hk => (hx.le.imm k hk).1) (fun k hk => by
    rcases hx.imm k hk with h2 | h2 | h2
    · exact .inl h2
    · exact .inr ⟨h2, h1.bnd k hk⟩
    · exact absurd h2 (hno k)) (fun k hk => hx.old k hk (hno k)) hx.size hx.os hx.tape hx.output
  refine ⟨q, v, ⟨c1.w, c1.A, c.β, c.γ⟩, H', rfl, rfl, ⟨rfl, rfl⟩, g1, ?_, g2⟩
  exact (hr.toClosed h.1).closed (c := c1) (c' := { c with w := c1.w, A := c1.A }) (fun k hk => ⟨hk, rfl⟩) rfl false


mutual
def view (H : FH) : PV → Option (PV × List Nat)
  | .bsl b g s st n => match boxArr H b g s with
    | some (_, xs) => if st + n ≤ xs.length ∧ xs.all PV.closed = true then some (.sl s ((xs.drop st).take n), [b]) else none
    | none => none
  | .agg cs => (viewL H cs).map fun p => (.agg p.1, p.2)
  | p => if p.closed = true then some (p, []) else none
def viewL (H : FH) : List PV → Option (List PV × List Nat)
  | [] => some ([], [])
  | x :: t => match view H x, viewL H t with
    | some (y, is), some (ys, js) => some (y :: ys, is ++ js)
    | _, _ => none
end

theorem view_closed (H : FH) (p : PV) (hp : p.closed = true) (hna : ∀ cs, p ≠ .agg cs) : view H p = some (p, []) := by
  cases p <;> first | (simp [view, hp]; done) | (simp [PV.closed, PV.within] at hp; done) | exact absurd rfl (hna _)

theorem bsl_view {c : Cx} {H : FH} (hs : Sim c H) {cl : Bool} {b g s st n : Nat} {v : Value} (h : Rel c cl (.bsl b g s st n) v) {x : Box} {xs : List PV} (hb : boxArr H b g s = some (x, xs)) (hfit : st + n ≤ xs.length) (hcl : xs.all PV.closed = true)
    {c' : Cx} (hw : c'.w = c.w) (hA : ∀ k, c.A k → c'.A k) (hk : ∀ k, c.β b = some k → c'.A k) (cl' : Bool) : Rel c' cl' (.sl s ((xs.drop st).take n)) v := by
  obtain ⟨g1, g2, g3⟩ := boxArr_inv hb
  have hlen : ((xs.drop st).take n).length = n := by simp; omega
  rcases h.bsl_inv hs (cur_of g1 g2) with ⟨kb, cells, et, fr, cap, hkb, hh, rfl, h5, h6⟩ | ⟨rfl, a, rfl⟩
  · obtain ⟨cells', e', fr', f1, f2, f3, f4, f5⟩ := (row_of hs g1 g3 hkb).ex
    rw [hh] at f1; cases f1
    have hge : ∀ (i : Nat) x, ((xs.drop st).take n)[i]? = some x → xs[st + i]? = some x := fun i x hx => by
      rw [List.getElem?_take] at hx
      split at hx
      · rwa [List.getElem?_drop] at hx
      · cases hx
    have := Rel.sl (c := c') (cl := cl') (s := s) (xs := (xs.drop st).take n) kb (st * s) cap cells et fr (hk kb hkb) (by rw [hw]; exact hh)
      (by rw [hlen, ← Nat.add_mul]; exact Nat.le_trans (Nat.mul_le_mul_right _ hfit) f3) (by omega) (fun i x hx => f4 _ x (hge i x hx))
      (fun i x j y v a b d => (f5 (st + i) x j y v (hge i x a) b (by rw [Nat.add_mul]; exact d)).1)
      (fun i x j y v a b d => by
        have h1 := (f5 (st + i) x j y v (hge i x a) b (by rw [Nat.add_mul]; exact d)).2
        have hxc := List.all_eq_true.1 hcl x (List.mem_of_getElem? (hge i x a))
        exact (h1.toClosed (PV.within_cells hxc j y b)).closed (c := c) (c' := c') (fun k hk => ⟨hA k hk, by rw [hw]⟩) rfl true)
    rw [hlen] at this
    exact this
  · simp only [List.take_zero]; exact .slnil s a

theorem view_rel {c : Cx} {H : FH} (hs : Sim c H) {c' : Cx} (hw : c'.w = c.w) (hA : ∀ k, c.A k → c'.A k) {S : List Nat} (hk : ∀ b ∈ S, ∀ k, c.β b = some k → c'.A k) :
    ∀ (p q : PV) (ids : List Nat) (cl : Bool) (v : Value), view H p = some (q, ids) → (∀ b ∈ ids, b ∈ S) → Rel c cl p v → Rel c' true q v := by
  intro p q ids cl v hv hin hr
  induction hr generalizing q ids with
  | agg hl hrel ih =>
    simp only [view] at hv
    rename_i cs vs
    cases hvl : viewL H cs with
    | none => simp [hvl] at hv
    | some pr =>
      simp only [hvl, Option.map_some, Option.some.injEq, Prod.mk.injEq] at hv
      obtain ⟨rfl, rfl⟩ := hv
      have key : ∀ (l : List PV) (pr : List PV × List Nat), viewL H l = some pr → pr.1.length = l.length ∧ ∀ (i : Nat) y, pr.1[i]? = some y → ∃ x js, l[i]? = some x ∧ view H x = some (y, js) ∧ ∀ b ∈ js, b ∈ pr.2 := by
        intro l
        induction l with
        | nil => intro pr h; simp only [viewL, Option.some.injEq] at h; subst h; exact ⟨rfl, fun i y hy => by simp at hy⟩
        | cons x t iht =>
          intro pr h
          simp only [viewL] at h
          split at h
          · rename_i y is ys js h1 h2
            simp only [Option.some.injEq] at h
            subst h
            obtain ⟨k1, k2⟩ := iht _ h2
            refine ⟨by simp [k1], fun i z hz => ?_⟩
            cases i with
            | zero => simp at hz; subst hz; exact ⟨x, is, rfl, h1, fun b hb => by simp [hb]⟩
            | succ i =>
              obtain ⟨x', js', a1, a2, a3⟩ := k2 i z (by simpa using hz)
              exact ⟨x', js', by simpa using a1, a2, fun b hb => by simp [a3 b hb]⟩
          · cases h
      obtain ⟨k1, k2⟩ := key cs pr hvl
      refine .agg (by omega) fun i y u hy hu => ?_
      obtain ⟨x, js, a1, a2, a3⟩ := k2 i y hy
      exact ih i x u a1 hu y js a2 fun b hb => hin b (a3 b hb)
  | bsl cur h1c hc hg hvv =>
    rename_i b g s st n v
    simp only [view] at hv
    split at hv
    · rename_i x xs hb
      split at hv
      · rename_i hcond
        simp only [Option.some.injEq, Prod.mk.injEq] at hv
        obtain ⟨rfl, rfl⟩ := hv
        exact bsl_view hs (.bsl cur h1c hc hg hvv) hb hcond.1 hcond.2 hw hA (fun k hkk => hk b (hin b (by simp)) k hkk) true
      · cases hv
    · cases hv
  | any v => simp only [view] at hv; split at hv <;> simp at hv; obtain ⟨rfl, rfl⟩ := hv; exact .any v
  | bool b => simp only [view] at hv; split at hv <;> simp at hv; obtain ⟨rfl, rfl⟩ := hv; exact .bool b
  | ub b => simp only [view] at hv; split at hv <;> simp at hv; obtain ⟨rfl, rfl⟩ := hv; exact .ub b
  | int k n => simp only [view] at hv; split at hv <;> simp at hv; obtain ⟨rfl, rfl⟩ := hv; exact .int k n
  | str s => simp only [view] at hv; split at hv <;> simp at hv; obtain ⟨rfl, rfl⟩ := hv; exact .str s
  | addr a => simp only [view] at hv; split at hv <;> simp at hv; obtain ⟨rfl, rfl⟩ := hv; exact .addr a
  | nilp => simp only [view] at hv; split at hv <;> simp at hv; obtain ⟨rfl, rfl⟩ := hv; exact .nilp
  | nilf => simp only [view] at hv; split at hv <;> simp at hv; obtain ⟨rfl, rfl⟩ := hv; exact .nilf
  | nili => simp only [view] at hv; split at hv <;> simp at hv; obtain ⟨rfl, rfl⟩ := hv; exact .nili
  | nilm => simp only [view] at hv; split at hv <;> simp at hv; obtain ⟨rfl, rfl⟩ := hv; exact .nilm
  | nils => simp only [view] at hv; split at hv <;> simp at hv; obtain ⟨rfl, rfl⟩ := hv; exact .nils
  | ptr cur h1c hc hg hvv => simp [view, PV.closed, PV.within] at hv
  | map cur h1c hc hg hvv => simp [view, PV.closed, PV.within] at hv
  | slnil s a => simp only [view] at hv; split at hv <;> simp at hv; obtain ⟨rfl, rfl⟩ := hv; exact .slnil s a
  | sl k off cap cells e fr h1 h2 h3 h4 h5 h6 h7 =>
    simp only [view] at hv; split at hv <;> simp at hv; obtain ⟨rfl, rfl⟩ := hv
    exact (Rel.sl (c := c) (cl := true) k off cap cells e fr h1 h2 h3 h4 h5 h6 h7).closed (c := c) (c' := c') (fun k hk => ⟨hA k hk, by rw [hw]⟩) rfl true
  | ept i o k off cells e fr h1 h2 h3 h5 h6 h7 =>
    simp only [view] at hv; split at hv <;> simp at hv; obtain ⟨rfl, rfl⟩ := hv
    exact (Rel.ept (c := c) (cl := true) i o k off cells e fr h1 h2 h3 h5 h6 h7).closed (c := c) (c' := c') (fun k hk => ⟨hA k hk, by rw [hw]⟩) rfl true
  | tup hl hrel ih =>
    simp only [view] at hv; split at hv
    · rename_i hcl
      simp at hv; obtain ⟨rfl, rfl⟩ := hv
      exact ((Rel.tup hl hrel).toClosed hcl).closed (c := c) (c' := c') (fun k hk => ⟨hA k hk, by rw [hw]⟩) rfl true
    · cases hv
  | clo h1 h2 h3 h4 _ _ =>
    simp only [view] at hv; split at hv
    · rename_i hcl
      simp at hv; obtain ⟨rfl, rfl⟩ := hv
      exact ((Rel.clo h1 h2 h3 h4).toClosed hcl).closed (c := c) (c' := c') (fun k hk => ⟨hA k hk, by rw [hw]⟩) rfl true
    · cases hv
  | ifc h1 _ =>
    simp only [view] at hv; split at hv
    · rename_i hcl
      simp at hv; obtain ⟨rfl, rfl⟩ := hv
      exact ((Rel.ifc h1).toClosed hcl).closed (c := c) (c' := c') (fun k hk => ⟨hA k hk, by rw [hw]⟩) rfl true
    · cases hv

end Pv
set_option linter.unusedSimpArgs false
set_option linter.unusedVariables false
namespace Pv
open Go

mutual
theorem view_ids {H : FH} : ∀ {p q : PV} {ids : List Nat}, view H p = some (q, ids) → ∀ b ∈ ids, (H b).isSome = true
  | .bsl b g s st n, q, ids, h => by
    simp only [view] at h
    split at h
    · rename_i x xs hb
      split at h
      · simp only [Option.some.injEq, Prod.mk.injEq] at h
        obtain ⟨_, rfl⟩ := h
        intro b' hb'
        simp at hb'; subst hb'
        rw [(boxArr_inv hb).1]; rfl
      · cases h
    · cases h
  | .agg cs, q, ids, h => by
    simp only [view] at h
    cases hv : viewL H cs with
    | none => simp [hv] at h
    | some pr =>
      obtain ⟨ys, js⟩ := pr
      simp only [hv, Option.map_some, Option.some.injEq, Prod.mk.injEq] at h
      obtain ⟨_, rfl⟩ := h
      exact viewL_ids hv
  | .any, q, ids, h => by simp only [view] at h; split at h <;> simp at h; obtain ⟨_, rfl⟩ := h; simp
  | .bool _, q, ids, h => by simp only [view] at h; split at h <;> simp at h; obtain ⟨_, rfl⟩ := h; simp
  | .int _ _, q, ids, h => by simp only [view] at h; split at h <;> simp at h; obtain ⟨_, rfl⟩ := h; simp
  | .str _, q, ids, h => by simp only [view] at h; split at h <;> simp at h; obtain ⟨_, rfl⟩ := h; simp
  | .tup _, q, ids, h => by simp only [view] at h; split at h <;> simp at h; obtain ⟨_, rfl⟩ := h; simp
  | .ptr _ _ _ _ _, q, ids, h => by simp only [view] at h; split at h <;> simp at h; obtain ⟨_, rfl⟩ := h; simp
  | .addr _, q, ids, h => by simp only [view] at h; split at h <;> simp at h; obtain ⟨_, rfl⟩ := h; simp
  | .nilp, q, ids, h => by simp only [view] at h; split at h <;> simp at h; obtain ⟨_, rfl⟩ := h; simp
  | .ept _ _ _ _, q, ids, h => by simp only [view] at h; split at h <;> simp at h; obtain ⟨_, rfl⟩ := h; simp
  | .sl _ _, q, ids, h => by simp only [view] at h; split at h <;> simp at h; obtain ⟨_, rfl⟩ := h; simp
  | .ub, q, ids, h => by simp only [view] at h; split at h <;> simp at h; obtain ⟨_, rfl⟩ := h; simp
  | .nils, q, ids, h => by simp only [view] at h; split at h <;> simp at h; obtain ⟨_, rfl⟩ := h; simp
  | .clo _ _ _, q, ids, h => by simp only [view] at h; split at h <;> simp at h; obtain ⟨_, rfl⟩ := h; simp
  | .nilf, q, ids, h => by simp only [view] at h; split at h <;> simp at h; obtain ⟨_, rfl⟩ := h; simp
  | .ifc _ _, q, ids, h => by simp only [view] at h; split at h <;> simp at h; obtain ⟨_, rfl⟩ := h; simp
  | .nili, q, ids, h => by simp only [view] at h; split at h <;> simp at h; obtain ⟨_, rfl⟩ := h; simp
  | .map _ _, q, ids, h => by simp only [view] at h; split at h <;> simp at h; obtain ⟨_, rfl⟩ := h; simp
  | .nilm, q, ids, h => by simp only [view] at h; split at h <;> simp at h; obtain ⟨_, rfl⟩ := h; simp
theorem viewL_ids {H : FH} : ∀ {ps qs : List PV} {ids : List Nat}, viewL H ps = some (qs, ids) → ∀ b ∈ ids, (H b).isSome = true
  | [], qs, ids, h => by simp only [viewL, Option.some.injEq, Prod.mk.injEq] at h; obtain ⟨_, rfl⟩ := h; simp
  | x :: t, qs, ids, h => by
    simp only [viewL] at h
    split at h
    · rename_i y is ys js h1 h2
      simp only [Option.some.injEq, Prod.mk.injEq] at h
      obtain ⟨_, rfl⟩ := h
      intro b hb
      rw [List.mem_append] at hb
      rcases hb with hb | hb
      · exact view_ids h1 b hb
      · exact viewL_ids h2 b hb
    · cases h
end

mutual
theorem view_congr {H H' : FH} : ∀ {p q : PV} {ids : List Nat}, view H p = some (q, ids) → (∀ b ∈ ids, H' b = H b) → view H' p = some (q, ids)
  | .bsl b g s st n, q, ids, h, hr => by
    simp only [view] at h ⊢
    split at h
    · rename_i x xs hb
      split at h
      · rename_i hc
        simp only [Option.some.injEq, Prod.mk.injEq] at h
        obtain ⟨rfl, rfl⟩ := h
        rw [boxArr_congr (hr b (by simp)), hb]
        simp only [hc.1, hc.2, and_self, if_true]
      · cases h
    · cases h
  | .agg cs, q, ids, h, hr => by
    simp only [view] at h ⊢
    cases hv : viewL H cs with
    | none => simp [hv] at h
    | some pr =>
      obtain ⟨ys, js⟩ := pr
      simp only [hv, Option.map_some, Option.some.injEq, Prod.mk.injEq] at h
      obtain ⟨rfl, rfl⟩ := h
      rw [viewL_congr hv hr]; rfl
  | .any, q, ids, h, _ => by simpa only [view] using h
  | .bool _, q, ids, h, _ => by simpa only [view] using h
  | .int _ _, q, ids, h, _ => by simpa only [view] using h
  | .str _, q, ids, h, _ => by simpa only [view] using h
  | .tup _, q, ids, h, _ => by simpa only [view] using h
  | .ptr _ _ _ _ _, q, ids, h, _ => by simpa only [view] using h
  | .addr _, q, ids, h, _ => by simpa only [view] using h
  | .nilp, q, ids, h, _ => by simpa only [view] using h
  | .ept _ _ _ _, q, ids, h, _ => by simpa only [view] using h
  | .sl _ _, q, ids, h, _ => by simpa only [view] using h
  | .ub, q, ids, h, _ => by simpa only [view] using h
  | .nils, q, ids, h, _ => by simpa only [view] using h
  | .clo _ _ _, q, ids, h, _ => by simpa only [view] using h
  | .nilf, q, ids, h, _ => by simpa only [view] using h
  | .ifc _ _, q, ids, h, _ => by simpa only [view] using h
  | .nili, q, ids, h, _ => by simpa only [view] using h
  | .map _ _, q, ids, h, _ => by simpa only [view] using h
  | .nilm, q, ids, h, _ => by simpa only [view] using h
theorem viewL_congr {H H' : FH} : ∀ {ps qs : List PV} {ids : List Nat}, viewL H ps = some (qs, ids) → (∀ b ∈ ids, H' b = H b) → viewL H' ps = some (qs, ids)
  | [], qs, ids, h, _ => h
  | x :: t, qs, ids, h, hr => by
    simp only [viewL] at h ⊢
    split at h
    · rename_i y is ys js h1 h2
      simp only [Option.some.injEq, Prod.mk.injEq] at h
      obtain ⟨rfl, rfl⟩ := h
      rw [view_congr h1 fun b hb => hr b (by simp [hb]), viewL_congr h2 fun b hb => hr b (by simp [hb])]
    · cases h
end

theorem viewL_get {H : FH} : ∀ {ps qs : List PV} {ids : List Nat}, viewL H ps = some (qs, ids) → qs.length = ps.length ∧ ∀ (i : Nat) y, qs[i]? = some y → ∃ x js, ps[i]? = some x ∧ view H x = some (y, js) ∧ ∀ b ∈ js, b ∈ ids
  | [], qs, ids, h => by simp only [viewL, Option.some.injEq, Prod.mk.injEq] at h; obtain ⟨rfl, rfl⟩ := h; exact ⟨rfl, fun i y hy => by simp at hy⟩
  | x :: t, qs, ids, h => by
    simp only [viewL] at h
    split at h
    · rename_i y is ys js h1 h2
      simp only [Option.some.injEq, Prod.mk.injEq] at h
      obtain ⟨rfl, rfl⟩ := h
      obtain ⟨k1, k2⟩ := viewL_get h2
      refine ⟨by simp [k1], fun i z hz => ?_⟩
      cases i with
      | zero => simp at hz; subst hz; exact ⟨x, is, rfl, h1, fun b hb => by simp [hb]⟩
      | succ i =>
        obtain ⟨x', js', a1, a2, a3⟩ := k2 i z (by simpa using hz)
        exact ⟨x', js', by simpa using a1, a2, fun b hb => by simp [a3 b hb]⟩
    · cases h

theorem call_view {P : Program} {f : FuncId} {args args' : List PV} {ids : List Nat} {r : PV} (h : PFun P f args' r) (he : Enters P f) {H : FH} (hv : viewL H args = some (args', ids)) (hg : r.ground = true) : CallSem P f args H { v := r, rd := ids } := by
  intro H' hH'
  refine PInv.of_call he ?_
  intro c vs hs ha
  have hv' := viewL_congr hv hH'
  have hsm := Sim.empty (c := c) (fun k => k < c.w.heap.size) (fun _ h => h)
  obtain ⟨k1, k2⟩ := viewL_get hv'
  have has : RelL ⟨c.w, fun k => k < c.w.heap.size, fun _ => none, fun _ => none⟩ args' vs := by
    refine ⟨k1.trans ha.1, fun i p v a b => ?_⟩
    obtain ⟨x, js, a1, a2, a3⟩ := k2 i p a
    refine (view_rel hs (c' := ⟨c.w, fun k => k < c.w.heap.size, fun _ => none, fun _ => none⟩) rfl (fun k hk => hs.bnd k hk) (S := ids) (fun b hb k hk => ?_) x p js false v a2 a3 (ha.2 i x v a1 b)).open
    obtain ⟨y, hy⟩ := Option.isSome_iff_exists.1 (viewL_ids hv' b hb)
    cases hl : y.live with
    | true => exact (hs.box b y hy).lt hl hk
    | false => rw [hs.ded b y hy hl] at hk; cases hk
  refine (h.2 _ vs hsm has).mono ?_
  rintro e w' ⟨q, v, c1, H1, rfl, rfl, rfl, h1, hr, hx⟩
  have hno : ∀ k, ¬ Owned (⟨c.w, fun k => k < c.w.heap.size, fun _ => none, fun _ => none⟩ : Cx) (find []) k := fun k ⟨b, x, hb, _⟩ => by cases hb
  obtain ⟨g1, g2⟩ := hs.world c1.w (fun k hk => hx.old k hk (hno k)) hx.size hx.os hx.tape hx.output
  exact ⟨q, v, ⟨c1.w, c.A, c.β, c.γ⟩, H', rfl, rfl, ⟨rfl, rfl⟩, g1, hr.of_ground hg false, g2⟩

end Pv
set_option linter.unusedSimpArgs false
set_option linter.unusedVariables false
namespace Pv
open Go

section
variable {P : Program} {c0 : Cx} {H0 : FH} {Q : Exit → PS → Prop} {st : PS}

def resV (P : Program) (H : FH) (T : List PV) : ResultVar → Option PV
  | .tmp t => some (ev T (.tmp t))
  | .cell a t => (sLoad P H t (ev T (.tmp a))).map fun r => r.v

def resOf (P : Program) (H : FH) (rs : Array ResultVar) (T : List PV) : Option PV :=
  match rs.toList with
  | [] => some (.tup [])
  | [x] => resV P H T x
  | [x, y] => (resV P H T x).bind fun a => (resV P H T y).bind fun b => some (.tup [a, b])
  | [x, y, z] => (resV P H T x).bind fun a => (resV P H T y).bind fun b => (resV P H T z).bind fun d => some (.tup [a, b, d])
  | _ => none

def bodyQ (P : Program) (fn : Func) (R : PV → FH → Prop) : Exit → PS → Prop
  | .normal, st | .ret, st => ∃ r, resOf P (find st.H) fn.results st.T = some r ∧ R r (find st.H)
  | _, _ => False

theorem load_run {c : Cx} {H : FH} (hs : Sim c H) {t : Nat} {x : PV} {v : Value} (hx : Rel c false x v) {r : Res} (h : sLoad P H t x = some r) :
    ∃ a u, v = .pointer (some a) ∧ (loadVar t a).run P c.w = .ok u c.w ∧ Rel c false r.v u := by
  unfold sLoad at h
  split at h
  · rename_i ti b g s i p ht
    split at h
    · rename_i y xs hb
      obtain ⟨g1, g2, g3⟩ := boxArr_inv hb
      split at h
      · rename_i e he
        cases hl : loadE ti.agg ti.size e p with
        | none => simp [hl] at h
        | some q =>
          simp only [hl, Option.map_some, Option.some.injEq] at h
          subst h
          obtain ⟨k, hk, rfl⟩ := hx.ptr_inv hs (cur_of g1 g2)
          obtain ⟨cells, et, fr, f1, f2, f3, f4, f5⟩ := (row_of hs g1 g3 hk).ex
          have hlen := f4 i e he
          have hroom := elem_room f3 (List.getElem?_eq_some_iff.1 he).1
          obtain ⟨u, hu, hrel⟩ := run_loadE (P := P) ht f1 (x := e) (B := i * s) (cl := false) (by omega) (fun j z w a b => (f5 i e j z w he a b).2) hl
          exact ⟨_, u, rfl, hu, hrel⟩
      · cases h
    · cases h
  · rename_i ti s xs i p ht
    split at h
    · rename_i e he
      cases hl : loadE ti.agg ti.size e p with
      | none => simp [hl] at h
      | some q =>
        simp only [hl, Option.map_some, Option.some.injEq] at h
        subst h
        cases hx with
        | ept _ _ k o cells et fr hA hh hsz hss h1' h2' =>
          have hlen := hss i e he
          have hroom := elem_room (s := s) (n := xs.length) (sz := xs.length * s) (Nat.le_refl _) (List.getElem?_eq_some_iff.1 he).1
          obtain ⟨u, hu, hrel⟩ := run_loadE (P := P) ht hh (x := e) (B := o + i * s) (cl := true) (by omega) (fun j z w a b => h2' i e j z w he a b) hl
          exact ⟨_, u, rfl, hu, hrel.open⟩
    · cases h
  · cases h

theorem resV_run {c : Cx} {H : FH} {T : List PV} {a : Act} (hs : Sim c H) (hT : RelL c T a.tmps.toList) {x : ResultVar} {r : PV} (h : resV P H T x = some r) :
    ∃ v, ((match x with | .tmp t => pure (a.tmps.getD t undef) | .cell b t => do loadVar t (← asAddr (a.tmps.getD b undef))) : Sem Value).run P c.w = .ok v c.w ∧ Rel c false r v := by
  cases x with
  | tmp t =>
    simp only [resV, Option.some.injEq] at h
    subst h
    exact ⟨_, rfl, ev_rel hT (.tmp t)⟩
  | cell b t =>
    simp only [resV, Option.map_eq_some_iff] at h
    obtain ⟨r', h, rfl⟩ := h
    obtain ⟨ad, u, h1, h2, h3⟩ := load_run (P := P) hs (ev_rel hT (.tmp b)) h
    simp only [Act.eval] at h1
    exact ⟨u, by simp only [h1, asAddr, Sem.run_bind, Sem.run_pure, Result.andThen_ok, h2], h3⟩

theorem resOf_run {c : Cx} {H : FH} {T : List PV} {a : Act} (hs : Sim c H) (hT : RelL c T a.tmps.toList) {fn : Func} {r : PV} (h : resOf P H fn.results T = some r) :
    ∃ v, (results fn a.tmps).run P c.w = .ok v c.w ∧ Rel c false r v := by
  unfold resOf at h
  cases hr : fn.results with
  | mk l =>
    rw [hr] at h
    simp only at h
    split at h
    · simp only [Option.some.injEq] at h
      subst h
      refine ⟨.tuple #[], ?_, .tup (by simp) fun i x v h1 => by simp at h1⟩
      simp [results, hr, go_sem]
    · rename_i x
      obtain ⟨v, h1, h2⟩ := resV_run hs hT h
      refine ⟨v, ?_, h2⟩
      simp only [results, hr, List.mapM_toArray, List.mapM_cons, List.mapM_nil, Sem.run_bind, Sem.run_map, Sem.run_pure, Result.andThen_ok]
      erw [h1]
      simp
    · rename_i x y
      simp only [Option.bind_eq_some_iff, Option.some.injEq] at h
      obtain ⟨p, g1, q, g2, rfl⟩ := h
      obtain ⟨v, h1, h2⟩ := resV_run hs hT g1
      obtain ⟨v', h3, h4⟩ := resV_run hs hT g2
      refine ⟨.tuple #[v, v'], ?_, .tup (by simp) fun i x v h1 h2 => ?_⟩
      · simp only [results, hr, List.mapM_toArray, List.mapM_cons, List.mapM_nil, Sem.run_bind, Sem.run_map, Sem.run_pure, Result.andThen_ok]
        erw [h1]
        simp only [Result.andThen_ok]
        erw [h3]
        simp
      · match i with
        | 0 => simp at h1 h2; subst h1; subst h2; assumption
        | 1 => simp at h1 h2; subst h1; subst h2; assumption
        | i + 2 => simp at h1
    · rename_i x y z
      simp only [Option.bind_eq_some_iff, Option.some.injEq] at h
      obtain ⟨p, g1, q, g2, s, g3, rfl⟩ := h
      obtain ⟨v, h1, h2⟩ := resV_run hs hT g1
      obtain ⟨v', h3, h4⟩ := resV_run hs hT g2
      obtain ⟨v'', h5, h6⟩ := resV_run hs hT g3
      refine ⟨.tuple #[v, v', v''], ?_, .tup (by simp) fun i x v h1 h2 => ?_⟩
      · simp only [results, hr, List.mapM_toArray, List.mapM_cons, List.mapM_nil, Sem.run_bind, Sem.run_map, Sem.run_pure, Result.andThen_ok]
        erw [h1]
        simp only [Result.andThen_ok]
        erw [h3]
        simp only [Result.andThen_ok]
        erw [h5]
        simp
      · match i with
        | 0 => simp at h1 h2; subst h1; subst h2; assumption
        | 1 => simp at h1 h2; subst h1; subst h2; assumption
        | 2 => simp at h1 h2; subst h1; subst h2; assumption
        | i + 3 => simp at h1
    · cases h

theorem PCall.of_body {f : FuncId} {fn : Func} {cd : Code} {args : List PV} {H : Heap} {R : PV → FH → Prop} (hf : P.funcs[f]? = some fn) (hb : fn.body = some cd)
    (h : ∀ c0, pw P c0 (find H) cd (bodyQ P fn R) ⟨args ++ List.replicate (fn.ntmps - args.length) (.tup []), H⟩) : PCall P f args (find H) R := by
  intro c vs hs ha
  refine calls_of_wp hf hb (wp_mono (h c _ _ ⟨c, rfl, hs, .refl _ _, ?_, rfl, hs.gam⟩) ?_)
  · simp only [Array.toList_append, Array.toList_replicate, List.size_toArray]
    refine ⟨by simp [ha.1], fun i p v h1 h2 => ?_⟩
    rw [List.getElem?_append] at h1 h2
    rw [← ha.1] at h2
    split at h1
    · rename_i hi
      rw [if_pos hi] at h2
      exact ha.2 i p v h1 h2
    · rename_i hi
      rw [if_neg hi] at h2
      rw [List.getElem?_replicate] at h1 h2
      split at h1
      · split at h2
        · simp at h1 h2; subst h1; subst h2
          exact .tup (by simp) fun i x v h1 => by simp at h1
        · rename_i hj1 hj2
          exact absurd (ha.1 ▸ hj1) hj2
      · cases h1
  · rintro e a w' ⟨st', hq, c', rfl, h1, h2, h3, h4⟩
    cases e with
    | normal =>
      obtain ⟨r, hr, hR⟩ := hq
      obtain ⟨v, hv, hrel⟩ := resOf_run h1 h3 hr
      exact ⟨h4.1, v, hv, r, v, c', _, rfl, rfl, hR, h1, hrel, h2⟩
    | ret =>
      obtain ⟨r, hr, hR⟩ := hq
      obtain ⟨v, hv, hrel⟩ := resOf_run h1 h3 hr
      exact ⟨h4.1, v, hv, r, v, c', _, rfl, rfl, hR, h1, hrel, h2⟩
    | _ => exact hq.elim

end

theorem PCall.of_body' {P : Program} {f : FuncId} {fn : Func} {cd : Code} {args : List PV} {H : Heap} {R : PV → FH → Prop} (hf : P.funcs[f]? = some fn) (hb : fn.body = some cd) (T0 : List PV) (hT : args ++ List.replicate (fn.ntmps - args.length) (.tup []) = T0)
    (h : ∀ c0, pw P c0 (find H) cd (bodyQ P fn R) ⟨T0, H⟩) : PCall P f args (find H) R := PCall.of_body hf hb (hT ▸ h)

theorem PFun.of_body {P : Program} {f : FuncId} {fn : Func} {cd : Code} {args : List PV} {r : PV} (hc : r.closed = true) (hf : P.funcs[f]? = some fn) (hb : fn.body = some cd) (T0 : List PV) (hT : args ++ List.replicate (fn.ntmps - args.length) (.tup []) = T0)
    (h : ∀ c0, pw P c0 (find []) cd (bodyQ P fn fun q _ => q = r) ⟨T0, []⟩) : PFun P f args r := ⟨hc, PCall.of_body' hf hb T0 hT h⟩

def forget (M : List Nat) (T : List PV) : List PV := M.foldl (fun T i => T.set i .any) T
def sets (T : List PV) (l : List (Nat × PV)) : List PV := l.foldl (fun T p => T.set p.1 p.2) T

theorem pw_loopS {P : Program} {c0 : Cx} {H0 : FH} {Q : Exit → PS → Prop} {cd : Code} {T0 : List PV} {Hp : Heap} {α : Type} (M : List Nat) (S : α → List (Nat × PV)) (Hs : α → Heap) (inv : Nat → α → Prop) (n : Nat) (a : α)
    (h0 : inv n a) (hT : Wk H0 ⟨T0, Hp⟩ ⟨sets (forget M T0) (S a), Hs a⟩)
    (round : ∀ n a, inv n a → ∀ K : PS → Prop, (∀ st' m a', m < n → inv m a' → Wk H0 st' ⟨sets (forget M T0) (S a'), Hs a'⟩ → K st') → pw P c0 H0 cd (thenP K Q) ⟨sets (forget M T0) (S a), Hs a⟩) :
    pw P c0 H0 (.loop cd) Q ⟨T0, Hp⟩ := by
  refine pw_loop (fun m st => ∃ a, inv m a ∧ st = ⟨sets (forget M T0) (S a), Hs a⟩) n ⟨_, hT, a, h0, rfl⟩ ?_
  rintro m st ⟨a, hi, rfl⟩
  refine pw_post (round m a hi (fun st' => ∃ m' a', m' < m ∧ inv m' a' ∧ Wk H0 st' ⟨sets (forget M T0) (S a'), Hs a'⟩) fun st' m' a' h1 h2 h3 => ⟨m', a', h1, h2, h3⟩) ?_
  intro e st' hq
  cases e with
  | normal =>
    obtain ⟨m', a', h1, h2, h3⟩ := hq
    exact ⟨st', Wk.refl _, m', _, h1, h3, a', h2, rfl⟩
  | _ => exact ⟨st', Wk.refl _, hq⟩

theorem wrap_i64 {n : Int} (h1 : -9223372036854775808 ≤ n) (h2 : n < 9223372036854775808) : IntKind.i64.wrap n = n := by
  unfold IntKind.wrap
  simp only [IntKind.bits, IntKind.signed, Nat.reduceSub, Int.reducePow, Bool.true_and, decide_eq_true_eq, ge_iff_le]
  split <;> omega

section steps
variable {P : Program} {all : Array Oper} {n0 : Nat}

theorem pEv0_split {os : List Oper} {K : PS → Prop} {st : PS} (n : Nat) (h : ∀ Kr : PS → Prop, (∀ st, pEv0 P all n0 (os.drop n) K st → Kr st) → pEv0 P all n0 (os.take n) Kr st) : pEv0 P all n0 os K st := by
  have key : ∀ (n : Nat) (os : List Oper) (st : PS), pEv0 P all n0 (os.take n) (pEv0 P all n0 (os.drop n) K) st → pEv0 P all n0 os K st := by
    intro n
    induction n with
    | zero => intro os st h; simpa [pEv0] using h
    | succ n ih =>
      intro os st h
      cases os with
      | nil => simpa [pEv0] using h
      | cons o os =>
        simp only [List.take_succ_cons, List.drop_succ_cons, pEv0] at h ⊢
        split at h
        · refine ⟨fun hw => ?_, fun hw => ih os _ (h.2 hw)⟩
          have h := h.1 hw
          split at h
          · exact ih os _ h
          · split at h
            · obtain ⟨r, h1, h2⟩ := h
              exact ⟨r, h1, ih os _ h2⟩
            · exact h
        · exact h
  exact key n os st (h _ fun _ h => h)

theorem pEv0_call {o : Oper} {os : List Oper} {K : PS → Prop} {st : PS} {f : FuncId} {args : List PV} {r : Res} (hs : CallSem P f args (find st.H) r) (hg : guardDec all st.T o = some true) (hn : fstep P n0 (find st.H) st.T o = none) (hc : callOf st.T o = some (f, args))
    (k : pEv0 P all n0 os K ⟨setD st.T o.dst r.v, puts st.H r.wr⟩) : pEv0 P all n0 (o :: os) K st := by
  simp only [pEv0, hg, hn, hc]
  exact ⟨fun _ => ⟨r, hs, k⟩, fun h => by cases h⟩

theorem pEv0_guard {o : Oper} {os : List Oper} {K : PS → Prop} {st : PS} (w : Bool) (hg : guardDec all st.T o = some w) (h1 : w = true → pEv0 P all n0 (o :: os) K st) (h2 : w = false → pEv0 P all n0 (o :: os) K st) : pEv0 P all n0 (o :: os) K st := by
  cases w
  · exact h2 rfl
  · exact h1 rfl

theorem pEv_split {os : List Oper} {acc : List (List Nat × List Nat)} {K : List (List Nat × List Nat) → PS → Prop} {st : PS} (n : Nat)
    (h : ∀ Kr : List (List Nat × List Nat) → PS → Prop, (∀ acc st, pEv P all n0 (os.drop n) acc.reverse K st → Kr acc st) → pEv P all n0 (os.take n) acc Kr st) : pEv P all n0 os acc K st := by
  have key : ∀ (n : Nat) (os : List Oper) (acc : List (List Nat × List Nat)) (st : PS), pEv P all n0 (os.take n) acc (fun acc st => pEv P all n0 (os.drop n) acc.reverse K st) st → pEv P all n0 os acc K st := by
    intro n
    induction n with
    | zero => intro os acc st h; simpa [pEv] using h
    | succ n ih =>
      intro os acc st h
      cases os with
      | nil => simpa [pEv] using h
      | cons o os =>
        simp only [List.take_succ_cons, List.drop_succ_cons, pEv] at h ⊢
        split at h
        · refine ⟨fun hw => ?_, fun hw => ih os _ _ (h.2 hw)⟩
          have h := h.1 hw
          split at h
          · exact ih os _ _ h
          · split at h
            · obtain ⟨r, h1, h2⟩ := h
              exact ⟨r, h1, ih os _ _ h2⟩
            · exact h
        · exact h
  exact key n os acc st (h _ fun _ _ h => h)

theorem pEv_call {o : Oper} {os : List Oper} {acc : List (List Nat × List Nat)} {K : List (List Nat × List Nat) → PS → Prop} {st : PS} {f : FuncId} {args : List PV} {r : Res} (hs : CallSem P f args (find st.H) r) (hg : guardDec all st.T o = some true) (hn : fstep P n0 (find st.H) st.T o = none) (hc : callOf st.T o = some (f, args))
    (k : pEv P all n0 os ((r.rd, r.wr.map (·.1)) :: acc) K ⟨setD st.T o.dst r.v, puts st.H r.wr⟩) : pEv P all n0 (o :: os) acc K st := by
  simp only [pEv, hg, hn, hc]
  exact ⟨fun _ => ⟨r, hs, k⟩, fun h => by cases h⟩

theorem pEv_guard {o : Oper} {os : List Oper} {acc : List (List Nat × List Nat)} {K : List (List Nat × List Nat) → PS → Prop} {st : PS} (w : Bool) (hg : guardDec all st.T o = some w) (h1 : w = true → pEv P all n0 (o :: os) acc K st) (h2 : w = false → pEv P all n0 (o :: os) acc K st) : pEv P all n0 (o :: os) acc K st := by
  cases w
  · exact h2 rfl
  · exact h1 rfl
end steps

end Pv
set_option linter.unusedSimpArgs false
set_option linter.unusedVariables false
namespace Pv
open Go

structure NAddr where
  six : Bool
  b : Vector UInt8 16
  deriving DecidableEq

structure NCidr where
  addr : NAddr
  bits : Int
  deriving DecidableEq

structure NPoint where
  addr : NAddr
  port : Int
  deriving DecidableEq

structure NKey where
  space : ByteArray
  name : ByteArray
  deriving DecidableEq

structure NFront where
  proto : Int
  point : NPoint
  service : NKey
  name : ByteArray
  how : Int
  loc : Bool
  asked : Bool
  ticks : Int
  deriving DecidableEq

structure NId where
  service : NKey
  name : ByteArray
  six : Bool
  loc : Bool
  deriving DecidableEq

structure NFilter where
  service : NKey
  ranges : List NCidr
  deriving DecidableEq

structure NTable where
  size : Int
  backends : List NPoint
  slots : List Int
  deriving DecidableEq

structure NGroup where
  id : NId
  table : NTable
  deriving DecidableEq

structure NRows where
  fronts : List NFront
  groups : List NGroup
  filters : List NFilter
  deriving DecidableEq

def pvBy (l : List UInt8) : List PV := l.map fun b => .int .u8 b.toNat
def pvB (l : Vector UInt8 16) : List PV := pvBy l.toList
def NAddr.cs (a : NAddr) : List PV := .bool a.six :: pvB a.b
def NAddr.pv (a : NAddr) : PV := .agg a.cs
def NCidr.cs (a : NCidr) : List PV := a.addr.cs ++ [.int .i64 a.bits]
def NCidr.pv (a : NCidr) : PV := .agg a.cs
def NPoint.cs (a : NPoint) : List PV := a.addr.cs ++ [.int .i64 a.port]
def NPoint.pv (a : NPoint) : PV := .agg a.cs
def NKey.cs (a : NKey) : List PV := [.str a.space, .str a.name]
def NKey.pv (a : NKey) : PV := .agg a.cs
def NFront.cs (a : NFront) : List PV := [.int .i64 a.proto] ++ a.point.cs ++ a.service.cs ++ [.str a.name, .int .i64 a.how, .bool a.loc, .bool a.asked, .int .i64 a.ticks]
def NFront.pv (a : NFront) : PV := .agg a.cs
def NId.cs (a : NId) : List PV := a.service.cs ++ [.str a.name, .bool a.six, .bool a.loc]
def NId.pv (a : NId) : PV := .agg a.cs
def NFilter.cs (a : NFilter) : List PV := a.service.cs ++ [.sl 18 (a.ranges.map NCidr.pv)]
def NFilter.pv (a : NFilter) : PV := .agg a.cs
def NTable.cs (a : NTable) : List PV := [.int .i64 a.size, .sl 18 (a.backends.map NPoint.pv), .sl 1 (a.slots.map (.int .i64))]
def NTable.pv (a : NTable) : PV := .agg a.cs
def NGroup.cs (a : NGroup) : List PV := a.id.cs ++ a.table.cs
def NGroup.pv (a : NGroup) : PV := .agg a.cs
def NRows.cs (a : NRows) : List PV := [.sl 26 (a.fronts.map NFront.pv), .sl 8 (a.groups.map NGroup.pv), .sl 3 (a.filters.map NFilter.pv)]
def NRows.pv (a : NRows) : PV := .agg a.cs

@[simp] theorem pvB_length (l : Vector UInt8 16) : (pvB l).length = 16 := by simp [pvB, pvBy]
@[simp] theorem NAddr.cs_length (a : NAddr) : a.cs.length = 17 := by simp [NAddr.cs]
@[simp] theorem NCidr.cs_length (a : NCidr) : a.cs.length = 18 := by simp [NCidr.cs]
@[simp] theorem NPoint.cs_length (a : NPoint) : a.cs.length = 18 := by simp [NPoint.cs]
@[simp] theorem NKey.cs_length (a : NKey) : a.cs.length = 2 := by simp [NKey.cs]
@[simp] theorem NFront.cs_length (a : NFront) : a.cs.length = 26 := by simp [NFront.cs]
@[simp] theorem NId.cs_length (a : NId) : a.cs.length = 5 := by simp [NId.cs]
@[simp] theorem NFilter.cs_length (a : NFilter) : a.cs.length = 3 := by simp [NFilter.cs]
@[simp] theorem NTable.cs_length (a : NTable) : a.cs.length = 3 := by simp [NTable.cs]
@[simp] theorem NGroup.cs_length (a : NGroup) : a.cs.length = 8 := by simp [NGroup.cs]
@[simp] theorem NRows.cs_length (a : NRows) : a.cs.length = 3 := by simp [NRows.cs]

def goodC (l : List PV) : Bool := l.all fun p => p.cellB && p.closed
theorem goodC_append {a b : List PV} : goodC (a ++ b) = (goodC a && goodC b) := by simp [goodC]
theorem goodC_ints (k : IntKind) (l : List Int) : goodC (l.map (.int k)) = true := by
  simp [goodC, PV.cellB, PV.closed, PV.within]
@[simp] theorem NAddr.good (a : NAddr) : goodC a.cs = true := by
  have : goodC (pvB a.b) = true := by simp [pvB, pvBy, goodC, PV.cellB, PV.closed, PV.within]
  show goodC ([_] ++ pvB a.b) = true
  rw [goodC_append, this]; rfl
@[simp] theorem NCidr.good (a : NCidr) : goodC a.cs = true := by simp only [NCidr.cs, goodC_append, NAddr.good]; rfl
@[simp] theorem NPoint.good (a : NPoint) : goodC a.cs = true := by simp only [NPoint.cs, goodC_append, NAddr.good]; rfl
@[simp] theorem NKey.good (a : NKey) : goodC a.cs = true := rfl
@[simp] theorem NFront.good (a : NFront) : goodC a.cs = true := by simp only [NFront.cs, goodC_append, NPoint.good, NKey.good]; rfl
@[simp] theorem NId.good (a : NId) : goodC a.cs = true := by simp only [NId.cs, goodC_append, NKey.good]; rfl
@[simp] theorem NFilter.good (a : NFilter) : goodC a.cs = true := by simp only [NFilter.cs, goodC_append, NKey.good]; rfl
@[simp] theorem NTable.good (a : NTable) : goodC a.cs = true := rfl
@[simp] theorem NGroup.good (a : NGroup) : goodC a.cs = true := by simp only [NGroup.cs, goodC_append, NId.good, NTable.good]; rfl
@[simp] theorem NRows.good (a : NRows) : goodC a.cs = true := rfl

theorem closed_of_good {l : List PV} (h : goodC l = true) : (PV.agg l).closed = true := by
  simp only [PV.closed, PV.within]
  induction l with
  | nil => rfl
  | cons x t ih =>
    simp only [goodC, List.all_cons, Bool.and_eq_true] at h
    simp only [PV.within.go, Bool.and_eq_true]
    exact ⟨h.1.2, ih h.2⟩
theorem okElem_of_good {l : List PV} (h : goodC l = true) {n : Nat} (hn : l.length = n) : okElem (.agg l) n = true := by
  simp only [okElem, PV.cells, hn, beq_self_eq_true, Bool.true_and]
  simp only [goodC, List.all_eq_true, Bool.and_eq_true] at h ⊢
  exact fun x hx => (h x hx).1

@[simp] theorem NAddr.closed (a : NAddr) : a.pv.closed = true := closed_of_good a.good
@[simp] theorem NCidr.closed (a : NCidr) : a.pv.closed = true := closed_of_good a.good
@[simp] theorem NPoint.closed (a : NPoint) : a.pv.closed = true := closed_of_good a.good
@[simp] theorem NKey.closed (a : NKey) : a.pv.closed = true := closed_of_good a.good
@[simp] theorem NFront.closed (a : NFront) : a.pv.closed = true := closed_of_good a.good
@[simp] theorem NId.closed (a : NId) : a.pv.closed = true := closed_of_good a.good
@[simp] theorem NFilter.closed (a : NFilter) : a.pv.closed = true := closed_of_good a.good
@[simp] theorem NTable.closed (a : NTable) : a.pv.closed = true := closed_of_good a.good
@[simp] theorem NGroup.closed (a : NGroup) : a.pv.closed = true := closed_of_good a.good
@[simp] theorem NRows.closed (a : NRows) : a.pv.closed = true := closed_of_good a.good
@[simp] theorem NAddr.ok (a : NAddr) : okElem a.pv 17 = true := okElem_of_good a.good a.cs_length
@[simp] theorem NCidr.ok (a : NCidr) : okElem a.pv 18 = true := okElem_of_good a.good a.cs_length
@[simp] theorem NPoint.ok (a : NPoint) : okElem a.pv 18 = true := okElem_of_good a.good a.cs_length
@[simp] theorem NKey.ok (a : NKey) : okElem a.pv 2 = true := okElem_of_good a.good a.cs_length
@[simp] theorem NFront.ok (a : NFront) : okElem a.pv 26 = true := okElem_of_good a.good a.cs_length
@[simp] theorem NId.ok (a : NId) : okElem a.pv 5 = true := okElem_of_good a.good a.cs_length
@[simp] theorem NFilter.ok (a : NFilter) : okElem a.pv 3 = true := okElem_of_good a.good a.cs_length
@[simp] theorem NTable.ok (a : NTable) : okElem a.pv 3 = true := okElem_of_good a.good a.cs_length
@[simp] theorem NGroup.ok (a : NGroup) : okElem a.pv 8 = true := okElem_of_good a.good a.cs_length
@[simp] theorem NRows.ok (a : NRows) : okElem a.pv 3 = true := okElem_of_good a.good a.cs_length

theorem loadE_mid {cs : List PV} {n o : Nat} (a b c : List PV) (h : cs = a ++ (b ++ c)) (ha : a.length = o) (hb : b.length = n) : loadE true n (.agg cs) o = some (.agg b) := by
  subst h
  have hle : o + n ≤ (PV.agg (a ++ (b ++ c))).cells.length := by simp [PV.cells]; omega
  simp only [loadE, if_true]
  rw [if_pos hle]
  simp only [PV.cells]
  congr 2
  rw [List.drop_append_of_le_length (by omega), List.drop_eq_nil_of_le (by omega : a.length ≤ o), List.nil_append, List.take_append_of_le_length (by omega), List.take_of_length_le (by omega)]
theorem loadE_whole {cs : List PV} {n : Nat} (h : cs.length = n) : loadE true n (.agg cs) 0 = some (.agg cs) := loadE_mid [] cs [] (by simp) rfl h
theorem loadE_one {cs : List PV} {o n : Nat} (a c : List PV) (x : PV) (h : cs = a ++ (x :: c)) (ha : a.length = o) : loadE false n (.agg cs) o = some x := by
  subst h; subst ha
  simp [loadE, PV.cells]

@[simp] theorem NAddr.ld (a : NAddr) : loadE true 17 a.pv 0 = some a.pv := loadE_whole a.cs_length
@[simp] theorem NAddr.ld_six (a : NAddr) (n : Nat) : loadE false n a.pv 0 = some (.bool a.six) := rfl
@[simp] theorem NAddr.ld_b (a : NAddr) : loadE true 16 a.pv 1 = some (.agg (pvB a.b)) := loadE_mid [.bool a.six] _ [] (by simp [NAddr.cs]) rfl (by simp)
@[simp] theorem NCidr.ld (a : NCidr) : loadE true 18 a.pv 0 = some a.pv := loadE_whole a.cs_length
@[simp] theorem NCidr.ld_addr (a : NCidr) : loadE true 17 a.pv 0 = some a.addr.pv := loadE_mid [] a.addr.cs _ rfl rfl a.addr.cs_length
@[simp] theorem NCidr.ld_six (a : NCidr) (n : Nat) : loadE false n a.pv 0 = some (.bool a.addr.six) := rfl
@[simp] theorem NCidr.ld_b (a : NCidr) : loadE true 16 a.pv 1 = some (.agg (pvB a.addr.b)) := loadE_mid [.bool a.addr.six] _ [.int .i64 a.bits] (by simp [NCidr.cs, NAddr.cs]) rfl (by simp)
@[simp] theorem NCidr.ld_bits (a : NCidr) (n : Nat) : loadE false n a.pv 17 = some (.int .i64 a.bits) := loadE_one a.addr.cs [] _ rfl a.addr.cs_length
@[simp] theorem NPoint.ld (a : NPoint) : loadE true 18 a.pv 0 = some a.pv := loadE_whole a.cs_length
@[simp] theorem NPoint.ld_addr (a : NPoint) : loadE true 17 a.pv 0 = some a.addr.pv := loadE_mid [] a.addr.cs _ rfl rfl a.addr.cs_length
@[simp] theorem NPoint.ld_six (a : NPoint) (n : Nat) : loadE false n a.pv 0 = some (.bool a.addr.six) := rfl
@[simp] theorem NPoint.ld_b (a : NPoint) : loadE true 16 a.pv 1 = some (.agg (pvB a.addr.b)) := loadE_mid [.bool a.addr.six] _ [.int .i64 a.port] (by simp [NPoint.cs, NAddr.cs]) rfl (by simp)
@[simp] theorem NPoint.ld_port (a : NPoint) (n : Nat) : loadE false n a.pv 17 = some (.int .i64 a.port) := loadE_one a.addr.cs [] _ rfl a.addr.cs_length
@[simp] theorem NKey.ld (a : NKey) : loadE true 2 a.pv 0 = some a.pv := loadE_whole a.cs_length
@[simp] theorem NKey.ld_space (a : NKey) (n : Nat) : loadE false n a.pv 0 = some (.str a.space) := rfl
@[simp] theorem NKey.ld_name (a : NKey) (n : Nat) : loadE false n a.pv 1 = some (.str a.name) := rfl
@[simp] theorem NFront.ld (a : NFront) : loadE true 26 a.pv 0 = some a.pv := loadE_whole a.cs_length
@[simp] theorem NFront.ld_proto (a : NFront) (n : Nat) : loadE false n a.pv 0 = some (.int .i64 a.proto) := rfl
@[simp] theorem NFront.ld_point (a : NFront) : loadE true 18 a.pv 1 = some a.point.pv := loadE_mid [.int .i64 a.proto] a.point.cs _ (by simp only [NFront.cs, List.append_assoc]; rfl) rfl a.point.cs_length
@[simp] theorem NFront.ld_addr (a : NFront) : loadE true 17 a.pv 1 = some a.point.addr.pv := loadE_mid [.int .i64 a.proto] a.point.addr.cs _ (by simp only [NFront.cs, NPoint.cs, List.append_assoc]; rfl) rfl a.point.addr.cs_length
@[simp] theorem NFront.ld_six (a : NFront) (n : Nat) : loadE false n a.pv 1 = some (.bool a.point.addr.six) := rfl
@[simp] theorem NFront.ld_port (a : NFront) (n : Nat) : loadE false n a.pv 18 = some (.int .i64 a.point.port) := loadE_one ([.int .i64 a.proto] ++ a.point.addr.cs) _ _ (by simp only [NFront.cs, NPoint.cs, List.append_assoc]; rfl) (by simp)
@[simp] theorem NFront.ld_service (a : NFront) : loadE true 2 a.pv 19 = some a.service.pv := loadE_mid ([.int .i64 a.proto] ++ a.point.cs) a.service.cs _ (by simp only [NFront.cs, List.append_assoc]; rfl) (by simp) rfl
@[simp] theorem NFront.ld_space (a : NFront) (n : Nat) : loadE false n a.pv 19 = some (.str a.service.space) := loadE_one ([.int .i64 a.proto] ++ a.point.cs) _ _ (by simp only [NFront.cs, NKey.cs, List.append_assoc]; rfl) (by simp)
@[simp] theorem NFront.ld_sname (a : NFront) (n : Nat) : loadE false n a.pv 20 = some (.str a.service.name) := loadE_one ([.int .i64 a.proto] ++ a.point.cs ++ [.str a.service.space]) _ _ (by simp only [NFront.cs, NKey.cs, List.append_assoc]; rfl) (by simp)
@[simp] theorem NFront.ld_name (a : NFront) (n : Nat) : loadE false n a.pv 21 = some (.str a.name) := loadE_one ([.int .i64 a.proto] ++ a.point.cs ++ a.service.cs) _ _ rfl (by simp)
@[simp] theorem NFront.ld_how (a : NFront) (n : Nat) : loadE false n a.pv 22 = some (.int .i64 a.how) := loadE_one ([.int .i64 a.proto] ++ a.point.cs ++ a.service.cs ++ [.str a.name]) _ _ (by simp only [NFront.cs, List.append_assoc]; rfl) (by simp)
@[simp] theorem NFront.ld_loc (a : NFront) (n : Nat) : loadE false n a.pv 23 = some (.bool a.loc) := loadE_one ([.int .i64 a.proto] ++ a.point.cs ++ a.service.cs ++ [.str a.name, .int .i64 a.how]) _ _ (by simp only [NFront.cs, List.append_assoc]; rfl) (by simp)
@[simp] theorem NFront.ld_asked (a : NFront) (n : Nat) : loadE false n a.pv 24 = some (.bool a.asked) := loadE_one ([.int .i64 a.proto] ++ a.point.cs ++ a.service.cs ++ [.str a.name, .int .i64 a.how, .bool a.loc]) _ _ (by simp only [NFront.cs, List.append_assoc]; rfl) (by simp)
@[simp] theorem NFront.ld_ticks (a : NFront) (n : Nat) : loadE false n a.pv 25 = some (.int .i64 a.ticks) := loadE_one ([.int .i64 a.proto] ++ a.point.cs ++ a.service.cs ++ [.str a.name, .int .i64 a.how, .bool a.loc, .bool a.asked]) _ _ (by simp only [NFront.cs, List.append_assoc]; rfl) (by simp)
@[simp] theorem NId.ld (a : NId) : loadE true 5 a.pv 0 = some a.pv := loadE_whole a.cs_length
@[simp] theorem NId.ld_service (a : NId) : loadE true 2 a.pv 0 = some a.service.pv := rfl
@[simp] theorem NId.ld_space (a : NId) (n : Nat) : loadE false n a.pv 0 = some (.str a.service.space) := rfl
@[simp] theorem NId.ld_sname (a : NId) (n : Nat) : loadE false n a.pv 1 = some (.str a.service.name) := rfl
@[simp] theorem NId.ld_name (a : NId) (n : Nat) : loadE false n a.pv 2 = some (.str a.name) := rfl
@[simp] theorem NId.ld_six (a : NId) (n : Nat) : loadE false n a.pv 3 = some (.bool a.six) := rfl
@[simp] theorem NId.ld_loc (a : NId) (n : Nat) : loadE false n a.pv 4 = some (.bool a.loc) := rfl
@[simp] theorem NFilter.ld (a : NFilter) : loadE true 3 a.pv 0 = some a.pv := rfl
@[simp] theorem NFilter.ld_service (a : NFilter) : loadE true 2 a.pv 0 = some a.service.pv := rfl
@[simp] theorem NFilter.ld_space (a : NFilter) (n : Nat) : loadE false n a.pv 0 = some (.str a.service.space) := rfl
@[simp] theorem NFilter.ld_sname (a : NFilter) (n : Nat) : loadE false n a.pv 1 = some (.str a.service.name) := rfl
@[simp] theorem NFilter.ld_ranges (a : NFilter) (n : Nat) : loadE false n a.pv 2 = some (.sl 18 (a.ranges.map NCidr.pv)) := rfl
@[simp] theorem NTable.ld (a : NTable) : loadE true 3 a.pv 0 = some a.pv := rfl
@[simp] theorem NTable.ld_size (a : NTable) (n : Nat) : loadE false n a.pv 0 = some (.int .i64 a.size) := rfl
@[simp] theorem NTable.ld_backends (a : NTable) (n : Nat) : loadE false n a.pv 1 = some (.sl 18 (a.backends.map NPoint.pv)) := rfl
@[simp] theorem NTable.ld_slots (a : NTable) (n : Nat) : loadE false n a.pv 2 = some (.sl 1 (a.slots.map (.int .i64))) := rfl
@[simp] theorem NGroup.ld (a : NGroup) : loadE true 8 a.pv 0 = some a.pv := rfl
@[simp] theorem NGroup.ld_id (a : NGroup) : loadE true 5 a.pv 0 = some a.id.pv := rfl
@[simp] theorem NGroup.ld_service (a : NGroup) : loadE true 2 a.pv 0 = some a.id.service.pv := rfl
@[simp] theorem NGroup.ld_space (a : NGroup) (n : Nat) : loadE false n a.pv 0 = some (.str a.id.service.space) := rfl
@[simp] theorem NGroup.ld_sname (a : NGroup) (n : Nat) : loadE false n a.pv 1 = some (.str a.id.service.name) := rfl
@[simp] theorem NGroup.ld_name (a : NGroup) (n : Nat) : loadE false n a.pv 2 = some (.str a.id.name) := rfl
@[simp] theorem NGroup.ld_six (a : NGroup) (n : Nat) : loadE false n a.pv 3 = some (.bool a.id.six) := rfl
@[simp] theorem NGroup.ld_loc (a : NGroup) (n : Nat) : loadE false n a.pv 4 = some (.bool a.id.loc) := rfl
@[simp] theorem NGroup.ld_table (a : NGroup) : loadE true 3 a.pv 5 = some a.table.pv := rfl
@[simp] theorem NGroup.ld_size (a : NGroup) (n : Nat) : loadE false n a.pv 5 = some (.int .i64 a.table.size) := rfl
@[simp] theorem NGroup.ld_backends (a : NGroup) (n : Nat) : loadE false n a.pv 6 = some (.sl 18 (a.table.backends.map NPoint.pv)) := rfl
@[simp] theorem NGroup.ld_slots (a : NGroup) (n : Nat) : loadE false n a.pv 7 = some (.sl 1 (a.table.slots.map (.int .i64))) := rfl
@[simp] theorem NRows.ld (a : NRows) : loadE true 3 a.pv 0 = some a.pv := rfl
@[simp] theorem NRows.ld_fronts (a : NRows) (n : Nat) : loadE false n a.pv 0 = some (.sl 26 (a.fronts.map NFront.pv)) := rfl
@[simp] theorem NRows.ld_groups (a : NRows) (n : Nat) : loadE false n a.pv 1 = some (.sl 8 (a.groups.map NGroup.pv)) := rfl
@[simp] theorem NRows.ld_filters (a : NRows) (n : Nat) : loadE false n a.pv 2 = some (.sl 3 (a.filters.map NFilter.pv)) := rfl

end Pv
set_option linter.unusedSimpArgs false
set_option linter.unusedVariables false
namespace Pv
open Go

section
variable (n : Nat)
@[simp] theorem ld_int (k i) : loadE false n (.int k i) 0 = some (.int k i) := rfl
@[simp] theorem ld_bool (b) : loadE false n (.bool b) 0 = some (.bool b) := rfl
@[simp] theorem ld_str (s) : loadE false n (.str s) 0 = some (.str s) := rfl
@[simp] theorem ld_sl (s xs) : loadE false n (.sl s xs) 0 = some (.sl s xs) := rfl
@[simp] theorem ld_bsl (b g s i k) : loadE false n (.bsl b g s i k) 0 = some (.bsl b g s i k) := rfl
@[simp] theorem ld_nils : loadE false n .nils 0 = some .nils := rfl
@[simp] theorem ld_ptr (b g s i k) : loadE false n (.ptr b g s i k) 0 = some (.ptr b g s i k) := rfl
@[simp] theorem ld_any : loadE false n .any 0 = some .any := rfl
@[simp] theorem ld_agg_f (cs o) : loadE false n (.agg cs) o = cs[o]? := rfl
@[simp] theorem ld_agg_t (cs o) : loadE true n (.agg cs) o = if o + n ≤ cs.length then some (.agg ((cs.drop o).take n)) else none := rfl
end
@[simp] theorem ok_int (k i) : okElem (.int k i) 1 = true := rfl
@[simp] theorem ok_bool (b) : okElem (.bool b) 1 = true := rfl
@[simp] theorem ok_str (s) : okElem (.str s) 1 = true := rfl
@[simp] theorem ok_sl (s xs) : okElem (.sl s xs) 1 = true := rfl
@[simp] theorem ok_bsl (b g s i k) : okElem (.bsl b g s i k) 1 = true := rfl
@[simp] theorem ok_nils : okElem .nils 1 = true := rfl
@[simp] theorem ok_ptr (b g s i k) : okElem (.ptr b g s i k) 1 = true := rfl
@[simp] theorem ok_nili : okElem .nili 1 = true := rfl
@[simp] theorem ok_agg (cs n) : okElem (.agg cs) n = (cs.length == n && cs.all PV.cellB) := rfl
@[simp] theorem cb_int (k i) : (PV.int k i).cellB = true := rfl
@[simp] theorem cb_bool (b) : (PV.bool b).cellB = true := rfl
@[simp] theorem cb_str (s) : (PV.str s).cellB = true := rfl
@[simp] theorem cb_sl (s xs) : (PV.sl s xs).cellB = true := rfl
@[simp] theorem cb_bsl (b g s i k) : (PV.bsl b g s i k).cellB = true := rfl
@[simp] theorem cb_nils : (PV.nils).cellB = true := rfl
@[simp] theorem cb_ptr (b g s i k) : (PV.ptr b g s i k).cellB = true := rfl
@[simp] theorem cb_nili : (PV.nili).cellB = true := rfl
@[simp] theorem cl_int (k i) : (PV.int k i).closed = true := rfl
@[simp] theorem cl_bool (b) : (PV.bool b).closed = true := rfl
@[simp] theorem cl_str (s) : (PV.str s).closed = true := rfl
@[simp] theorem cl_sl (s xs) : (PV.sl s xs).closed = true := rfl
@[simp] theorem cl_nils : (PV.nils).closed = true := rfl
@[simp] theorem cl_clo (f) : (PV.clo f [] []).closed = true := rfl
@[simp] theorem cells_int (k i) : (PV.int k i).cells = [.int k i] := rfl
@[simp] theorem cells_bool (b) : (PV.bool b).cells = [.bool b] := rfl
@[simp] theorem cells_str (s) : (PV.str s).cells = [.str s] := rfl
@[simp] theorem cells_sl (s xs) : (PV.sl s xs).cells = [.sl s xs] := rfl
@[simp] theorem cells_bsl (b g s i k) : (PV.bsl b g s i k).cells = [.bsl b g s i k] := rfl
@[simp] theorem cells_nils : (PV.nils).cells = [.nils] := rfl
@[simp] theorem cells_ptr (b g s i k) : (PV.ptr b g s i k).cells = [.ptr b g s i k] := rfl
@[simp] theorem cells_agg (cs) : (PV.agg cs).cells = cs := rfl
@[simp] theorem NAddr.cells (a : NAddr) : a.pv.cells = a.cs := rfl
@[simp] theorem NCidr.cells (a : NCidr) : a.pv.cells = a.cs := rfl
@[simp] theorem NPoint.cells (a : NPoint) : a.pv.cells = a.cs := rfl
@[simp] theorem NKey.cells (a : NKey) : a.pv.cells = a.cs := rfl
@[simp] theorem NFront.cells (a : NFront) : a.pv.cells = a.cs := rfl
@[simp] theorem NId.cells (a : NId) : a.pv.cells = a.cs := rfl
@[simp] theorem NFilter.cells (a : NFilter) : a.pv.cells = a.cs := rfl
@[simp] theorem NTable.cells (a : NTable) : a.pv.cells = a.cs := rfl
@[simp] theorem NGroup.cells (a : NGroup) : a.pv.cells = a.cs := rfl
@[simp] theorem NRows.cells (a : NRows) : a.pv.cells = a.cs := rfl

theorem eqL_app {l1 l2 : List LK} {x1 x2 y1 y2 : List PV} {b1 b2 : Bool} (h1 : eqL l1 x1 y1 = some b1) (h2 : eqL l2 x2 y2 = some b2) : eqL (l1 ++ l2) (x1 ++ x2) (y1 ++ y2) = some (b1 && b2) := by
  induction l1 generalizing x1 y1 b1 with
  | nil => obtain ⟨rfl, rfl, rfl⟩ := eqL_nil h1; simpa using h2
  | cons l l1 ih =>
    obtain ⟨x, xs', y, ys', b3, b4, rfl, rfl, g1, g2, rfl⟩ := eqL_cons h1
    simp only [List.cons_append]
    rw [Bool.and_assoc]
    exact eqL_cons_mk g1 (ih g2)

theorem eqL_ints (k : IntKind) : ∀ (l m : List Int), l.length = m.length → eqL (List.replicate l.length .int) (l.map (.int k)) (m.map (.int k)) = some (decide (l = m))
  | [], [], _ => rfl
  | x :: l, y :: m, h => by
    have ih := eqL_ints k l m (by simpa using h)
    simp only [List.length_cons, List.replicate_succ, List.map_cons, eqL, if_true, ih, Option.map_some]
    by_cases hxy : x = y <;> by_cases hlm : l = m <;> simp [hxy, hlm]

theorem bytes_eq (a b : ByteArray) : (a.toList == b.toList) = decide (a = b) := by
  rw [ByteArray.toList_eq, ByteArray.toList_eq]
  obtain ⟨⟨x⟩⟩ := a
  obtain ⟨⟨y⟩⟩ := b
  by_cases h : x = y <;> simp [h]

def NAddr.ls : List LK := .bool :: List.replicate 16 .int
def NCidr.ls : List LK := NAddr.ls ++ [.int]
def NPoint.ls : List LK := NAddr.ls ++ [.int]
def NKey.ls : List LK := [.str, .str]
def NFront.ls : List LK := [.int] ++ NPoint.ls ++ NKey.ls ++ [.str, .int, .bool, .bool, .int]
def NId.ls : List LK := NKey.ls ++ [.str, .bool, .bool]

theorem eqL_bytes : ∀ (l m : List UInt8), l.length = m.length → eqL (List.replicate l.length .int) (pvBy l) (pvBy m) = some (decide (l = m))
  | [], [], _ => rfl
  | x :: l, y :: m, h => by
    have ih := eqL_bytes l m (by simpa using h)
    simp only [pvBy] at ih
    simp only [pvBy, List.length_cons, List.replicate_succ, List.map_cons, eqL, if_true, ih, Option.map_some]
    have hxy : ((x.toNat : Int) == (y.toNat : Int)) = decide (x = y) := by
      apply Bool.eq_iff_iff.2
      simp only [beq_iff_eq, decide_eq_true_eq, Int.ofNat_inj]
      exact ⟨fun h => UInt8.toNat_inj.1 h, fun h => by rw [h]⟩
    rw [hxy]
    by_cases hxy : x = y <;> by_cases hlm : l = m <;> simp [hxy, hlm]

theorem eqL_b (a b : Vector UInt8 16) : eqL (List.replicate 16 .int) (pvB a) (pvB b) = some (decide (a = b)) := by
  have h := eqL_bytes a.toList b.toList (by simp)
  simp only [Vector.length_toList] at h
  rw [pvB, pvB, h]
  congr 1
  simp [Vector.toList_inj]

theorem NAddr.eq (a b : NAddr) : eqL NAddr.ls a.cs b.cs = some (decide (a = b)) := by
  have := eqL_cons_mk (l := .bool) (x := .bool a.six) (y := .bool b.six) (b1 := a.six == b.six) (by simp [eqL]) (eqL_b a.b b.b)
  rw [show NAddr.ls = _ :: _ from rfl, NAddr.cs, NAddr.cs, this]
  congr 1
  cases a; cases b
  simp only [NAddr.mk.injEq]
  rename_i s1 b1 s2 b2
  by_cases h1 : s1 = s2 <;> by_cases h2 : b1 = b2 <;> simp [h1, h2]
theorem NCidr.eq (a b : NCidr) : eqL NCidr.ls a.cs b.cs = some (decide (a = b)) := by
  have := eqL_app (NAddr.eq a.addr b.addr) (l2 := [.int]) (x2 := [.int .i64 a.bits]) (y2 := [.int .i64 b.bits]) (b2 := a.bits == b.bits) (by simp [eqL])
  rw [NCidr.ls, NCidr.cs, NCidr.cs, this]
  congr 1
  cases a; cases b
  simp only [NCidr.mk.injEq]
  rename_i s1 b1 s2 b2
  by_cases h1 : s1 = s2 <;> by_cases h2 : b1 = b2 <;> simp [h1, h2]
theorem NPoint.eq (a b : NPoint) : eqL NPoint.ls a.cs b.cs = some (decide (a = b)) := by
  have := eqL_app (NAddr.eq a.addr b.addr) (l2 := [.int]) (x2 := [.int .i64 a.port]) (y2 := [.int .i64 b.port]) (b2 := a.port == b.port) (by simp [eqL])
  rw [NPoint.ls, NPoint.cs, NPoint.cs, this]
  congr 1
  cases a; cases b
  simp only [NPoint.mk.injEq]
  rename_i s1 b1 s2 b2
  by_cases h1 : s1 = s2 <;> by_cases h2 : b1 = b2 <;> simp [h1, h2]
theorem NKey.eq (a b : NKey) : eqL NKey.ls a.cs b.cs = some (decide (a = b)) := by
  cases a; cases b
  rename_i s1 b1 s2 b2
  simp only [NKey.ls, NKey.cs, eqL, Option.map_some, NKey.mk.injEq, bytes_eq]
  by_cases h1 : s1 = s2 <;> by_cases h2 : b1 = b2 <;> simp [h1, h2]
theorem NFront.eq (a b : NFront) : eqL NFront.ls a.cs b.cs = some (decide (a = b)) := by
  have h1 := eqL_app (eqL_app (eqL_app (l1 := [.int]) (x1 := [.int .i64 a.proto]) (y1 := [.int .i64 b.proto]) (b1 := a.proto == b.proto) (by simp [eqL]) (NPoint.eq a.point b.point)) (NKey.eq a.service b.service))
    (l2 := [.str, .int, .bool, .bool, .int]) (x2 := [.str a.name, .int .i64 a.how, .bool a.loc, .bool a.asked, .int .i64 a.ticks]) (y2 := [.str b.name, .int .i64 b.how, .bool b.loc, .bool b.asked, .int .i64 b.ticks]) rfl
  rw [NFront.ls, NFront.cs, NFront.cs, h1]
  congr 1
  cases a; cases b
  simp only [NFront.mk.injEq, bytes_eq]
  apply Bool.eq_iff_iff.2
  simp only [Bool.and_eq_true, decide_eq_true_eq, beq_iff_eq, and_assoc, and_true]
theorem NId.eq (a b : NId) : eqL NId.ls a.cs b.cs = some (decide (a = b)) := by
  have h1 := eqL_app (NKey.eq a.service b.service) (l2 := [.str, .bool, .bool]) (x2 := [.str a.name, .bool a.six, .bool a.loc]) (y2 := [.str b.name, .bool b.six, .bool b.loc]) rfl
  rw [NId.ls, NId.cs, NId.cs, h1]
  congr 1
  cases a; cases b
  simp only [NId.mk.injEq, bytes_eq]
  apply Bool.eq_iff_iff.2
  simp only [Bool.and_eq_true, decide_eq_true_eq, beq_iff_eq, and_true]

section
variable {P : Program} {t : TypeId} {ti : TI} (hti : tyI P t = some ti) (ha : ti.agg = true)
include hti ha
theorem sEq_of {ls : List LK} (hp : plainT P 100 t = some ls) {xs ys : List PV} {b : Bool} (h : eqL ls xs ys = some b) : sEq P t (.agg xs) (.agg ys) = some b := by
  simp only [sEq, hti, hp, ha, if_true, h]
end

end Pv
set_option linter.unusedSimpArgs false
set_option linter.unusedVariables false
namespace Pv
open Go

theorem run_loadBytes {P : Program} {w : World} {k : Nat} {cells : Array Value} {e : TypeId} {fr : Nat × Nat} (hh : w.heap[k]? = some (.cells cells e fr)) : ∀ (l : List UInt8) (off : Nat) (acc : ByteArray),
    (∀ (j : Nat) b, l[j]? = some b → cells[off + j]? = some (.int .u8 b.toNat)) → (Extern.Bytes.loadBytes ⟨k, off, none⟩ l.length acc).run P w = .ok ⟨acc.data ++ l.toArray⟩ w
  | [], off, acc, _ => by simp [Extern.Bytes.loadBytes]
  | b :: l, off, acc, h => by
    have h0 : w.cell? ⟨k, off, none⟩ = some (.int .u8 b.toNat) := by rw [cell_of_row w k off cells e fr hh]; simpa using h 0 b rfl
    have ih := run_loadBytes (P := P) hh l (off + 1) (acc.push b) (fun j b' hj => by have := h (j + 1) b' (by simpa using hj); rwa [show off + (j + 1) = off + 1 + j by omega] at this)
    have hb : ((b.toNat : Int).toNat.toUInt8) = b := by simp
    simp only [List.length_cons, Extern.Bytes.loadBytes, Sem.run_bind, run_load, h0, Result.andThen_ok, Addr.add_lit, hb, ih]
    congr 1
    obtain ⟨⟨acc⟩⟩ := acc
    simp [ByteArray.push]

theorem run_bytesOf {P : Program} {c : Cx} {cl : Bool} {l : List UInt8} {v : Value} (h : Rel c cl (.sl 1 (pvBy l)) v) : (Extern.Bytes.bytesOf v).run P c.w = .ok ⟨l.toArray⟩ c.w := by
  generalize hp : PV.sl 1 (pvBy l) = p at h
  cases h with
  | slnil s a =>
    simp only [PV.sl.injEq] at hp
    have : l = [] := by cases l with | nil => rfl | cons x t => simp [pvBy] at hp
    subst this
    cases a <;> rfl
  | sl k off cap cells e fr hA hh hz hcap hs h1 h2 =>
    simp only [PV.sl.injEq] at hp
    obtain ⟨rfl, rfl⟩ := hp
    have hl : (pvBy l).length = l.length := by simp [pvBy]
    have hr := run_loadBytes (P := P) hh l off .empty (fun j b hj => by
      have hx : (pvBy l)[j]? = some (.int .u8 b.toNat) := by simp [pvBy, hj]
      have hlt : off + j < cells.size := by
        have := (List.getElem?_eq_some_iff.1 hj).1; omega
      have := h2 j _ 0 (.int .u8 b.toNat) _ hx (by rfl) (by rw [Nat.mul_one, Nat.add_zero]; exact Array.getElem?_eq_getElem hlt)
      rw [Array.getElem?_eq_getElem hlt, this.int_inv])
    simp only [Extern.Bytes.bytesOf, hl]
    rw [hr]
    simp [ByteArray.empty, ByteArray.emptyWithCapacity]
    first | done | rfl
  | _ => simp at hp

theorem sem_cmpBytes {P : Program} {f : FuncId} (hf : ∀ args w, (callFunc f args).run P w = ((Extern.BytealgCompare.compare args).run P w).andThen fun v w' => .ok (.value v) w') (l m : List UInt8) (H : FH) :
    CallSem P f [.sl 1 (pvBy l), .sl 1 (pvBy m)] H { v := .int .i64 (Lib.compareBytes l m) } := by
  intro H' _ c vs hs ha
  match vs, ha with
  | [a, b], ha =>
    have r1 := run_bytesOf (P := P) (ha.2 0 _ a rfl rfl)
    have r2 := run_bytesOf (P := P) (ha.2 1 _ b rfl rfl)
    have : (callFunc f [a, b].toArray).run P c.w = .ok (.value (.int .i64 (Lib.compareBytes l m))) c.w := by
      rw [hf]
      change ((Sem.run P (do pure (goInt (Extern.BytealgCompare.cmp (← Extern.Bytes.bytesOf a) (← Extern.Bytes.bytesOf b)))) c.w).andThen _) = _
      simp only [Sem.run_bind, r1, r2, Result.andThen_ok, Sem.run_pure, Lib.cmp_eq]
      rfl
    rw [this]
    exact ⟨_, c, H', rfl, ⟨rfl, rfl⟩, hs, .int _ _, .refl c H'⟩
  | [], ha => exact absurd ha.1 (by simp)
  | [_], ha => exact absurd ha.1 (by simp)
  | _ :: _ :: _ :: _, ha => exact absurd ha.1 (by simp)

def cmpI (a b : Int) : Int := if a < b then -1 else if a > b then 1 else 0
def cmpS (a b : ByteArray) : Int := if Go.Op.bytesLess a.toList b.toList then -1 else if a.toList = b.toList then 0 else 1
def firstNZ : List Int → Int
  | [] => 0
  | x :: t => if x = 0 then firstNZ t else x

theorem sBinH_eql {P : Program} {H : FH} {t : TypeId} {xs ys : List PV} {b : Bool} (h : sEq P t (.agg xs) (.agg ys) = some b) : sBinH P H .eql t (.agg xs) (.agg ys) = some { v := .bool b } := by
  simp [sBinH, sBin, h]
theorem sBinH_neq {P : Program} {H : FH} {t : TypeId} {xs ys : List PV} {b : Bool} (h : sEq P t (.agg xs) (.agg ys) = some b) : sBinH P H .neq t (.agg xs) (.agg ys) = some { v := .bool (!b) } := by
  simp [sBinH, sBin, h]

def isI : PV → Bool
  | .int .i64 _ => true
  | _ => false
def firstP : List PV → Int
  | .int _ n :: t => if n = 0 then firstP t else n
  | _ => 0
theorem isI_ex {xs : List PV} (h : xs.all isI = true) : ∃ l : List Int, xs = l.map (.int .i64) := by
  induction xs with
  | nil => exact ⟨[], rfl⟩
  | cons x t ih =>
    simp only [List.all_cons, Bool.and_eq_true] at h
    obtain ⟨l, rfl⟩ := ih h.2
    cases x with
    | int k n => cases k <;> first | exact ⟨n :: l, rfl⟩ | exact absurd h.1 (by simp [isI])
    | _ => exact absurd h.1 (by simp [isI])
theorem firstP_map (l : List Int) : firstP (l.map (.int .i64)) = firstNZ l := by
  induction l with
  | nil => rfl
  | cons x t ih => simp [firstP, firstNZ, ih]

theorem getN {α : Type} {l : List α} {k : Nat} (h : k < l.length) : ∃ x, l[k]? = some x := ⟨l[k], List.getElem?_eq_getElem h⟩
theorem drop_get {α : Type} {l : List α} {k : Nat} {x : α} (h : l[k]? = some x) : l.drop k = x :: l.drop (k + 1) := by
  obtain ⟨h1, h2⟩ := List.getElem?_eq_some_iff.1 h
  rw [List.drop_eq_getElem_cons h1, h2]
theorem take_get {α : Type} {l : List α} {k : Nat} {x : α} (h : l[k]? = some x) : l.take (k + 1) = l.take k ++ [x] := by
  rw [List.take_add_one, h]; rfl
theorem drop_end {α : Type} {l : List α} {k : Nat} (h : ¬ k < l.length) : l.drop k = [] := List.drop_eq_nil_of_le (by omega)

theorem PFun.ints {P : Program} {f : FuncId} {g : List PV → PV} (h : ∀ l : List Int, PFun P f [.sl 1 (l.map (.int .i64))] (g (l.map (.int .i64)))) (xs : List PV) (hx : xs.all isI = true) : PFun P f [.sl 1 xs] (g xs) := by
  obtain ⟨l, rfl⟩ := isI_ex hx
  exact h l

theorem pEv0_call' {P : Program} {all : Array Oper} {n0 : Nat} {o : Oper} {os : List Oper} {K : PS → Prop} {st : PS} {f : FuncId} {args : List PV} {r : Res} (hg : guardDec all st.T o = some true) (hn : fstep P n0 (find st.H) st.T o = none) (hc : callOf st.T o = some (f, args))
    (hs : CallSem P f args (find st.H) r) (h : pEv0 P all n0 os K ⟨setD st.T o.dst r.v, puts st.H r.wr⟩) : pEv0 P all n0 (o :: os) K st := pEv0_call hs hg hn hc h
theorem pEv_call' {P : Program} {all : Array Oper} {n0 : Nat} {o : Oper} {os : List Oper} {acc : List (List Nat × List Nat)} {K : List (List Nat × List Nat) → PS → Prop} {st : PS} {f : FuncId} {args : List PV} {r : Res} (hg : guardDec all st.T o = some true) (hn : fstep P n0 (find st.H) st.T o = none) (hc : callOf st.T o = some (f, args))
    (hs : CallSem P f args (find st.H) r) (h : pEv P all n0 os ((r.rd, r.wr.map (·.1)) :: acc) K ⟨setD st.T o.dst r.v, puts st.H r.wr⟩) : pEv P all n0 (o :: os) acc K st := pEv_call hs hg hn hc h

def bn (a : Bool) : Int := if a = true then 1 else 0
def keyCmp (a b : NKey) : Int := firstNZ [cmpS a.space b.space, cmpS a.name b.name]
def idCmp (a b : NId) : Int := firstNZ [keyCmp a.service b.service, cmpS a.name b.name, cmpI (bn a.six) (bn b.six), cmpI (bn a.loc) (bn b.loc)]
def addrCmp (a b : NAddr) : Int := if a.six = b.six then Lib.compareBytes a.b.toList b.b.toList else if a.six = true then 1 else -1
def pointCmp (a b : NPoint) : Int := firstNZ [addrCmp a.addr b.addr, cmpI a.port b.port]
def placeCmp (a b : NFront) : Int := firstNZ [cmpI a.proto b.proto, pointCmp a.point b.point, keyCmp a.service b.service, cmpS a.name b.name]
def frontCmp (a b : NFront) : Int := firstNZ [placeCmp a b, cmpI a.how b.how, cmpI (bn a.loc) (bn b.loc), cmpI (bn a.asked) (bn b.asked), cmpI a.ticks b.ticks]
def idOf (a : NFront) : NId := ⟨a.service, a.name, a.point.addr.six, a.loc⟩

@[simp] theorem NAddr.drop1 (a : NAddr) : a.cs.drop 1 = pvB a.b := rfl
@[simp] theorem pvB_take (l : Vector UInt8 16) : (pvB l).take 16 = pvB l := List.take_of_length_le (by simp)
theorem pvB_ok (l : Vector UInt8 16) : ∀ x ∈ pvB l, x.cellB = true ∧ x.closed = true := by
  intro x hx
  simp only [pvB, pvBy, List.mem_map] at hx
  obtain ⟨b, _, rfl⟩ := hx
  exact ⟨rfl, rfl⟩
@[simp] theorem pvB_all (l : Vector UInt8 16) : ((pvB l).all fun q => q.cellB && q.closed) = true := by
  rw [List.all_eq_true]
  intro x hx
  simp [pvB_ok l x hx]
@[simp] theorem NAddr.tail1 (a : NAddr) : a.cs.tail = pvB a.b := rfl
@[simp] theorem pvB_ok' (l : Vector UInt8 16) : (∀ x, x ∈ pvB l → x.cellB = true ∧ x.closed = true) ↔ True := iff_true_intro (pvB_ok l)
section
variable {l m : List UInt8} {k : Nat} {x y : UInt8} {r : Int} (hf : Lib.compareBytes (l.drop k) (m.drop k) = r) (hx : l[k]? = some x) (hy : m[k]? = some y)
include hf hx hy
theorem cmpB_lt (h : x.toNat < y.toNat) : r = -1 := by
  rw [← hf, drop_get hx, drop_get hy, Lib.compareBytes, if_pos (UInt8.lt_iff_toNat_lt.2 h)]
theorem cmpB_gt (h : y.toNat < x.toNat) : r = 1 := by
  rw [← hf, drop_get hx, drop_get hy, Lib.compareBytes, if_neg (by rw [UInt8.lt_iff_toNat_lt]; omega), if_pos (UInt8.lt_iff_toNat_lt.2 h)]
theorem cmpB_next (h : y.toNat ≤ x.toNat) (h' : x.toNat ≤ y.toNat) : Lib.compareBytes (l.drop (k + 1)) (m.drop (k + 1)) = r := by
  rw [← hf, drop_get hx, drop_get hy, Lib.compareBytes, if_neg (by rw [UInt8.lt_iff_toNat_lt]; omega), if_neg (by rw [UInt8.lt_iff_toNat_lt]; omega)]
end
theorem cmpB_end {l m : List UInt8} {r : Int} {k : Nat} (hf : Lib.compareBytes (l.drop k) (m.drop k) = r) (h1 : ¬ k < l.length) (h2 : ¬ k < m.length) : r = 0 := by
  rw [← hf, drop_end h1, drop_end h2]; rfl
theorem NAddr.ld_at (n : Nat) {a : NAddr} {k : Nat} {b : UInt8} (h : a.b.toList[k]? = some b) : loadE false n a.pv (1 + k) = some (.int .u8 b.toNat) := by
  change (PV.bool a.six :: pvB a.b)[1 + k]? = _
  rw [Nat.add_comm 1 k, List.getElem?_cons_succ]
  simp [pvB, pvBy, h]

theorem sBinH_beq {P : Program} {H : FH} {t : TypeId} (h : P.underlying t = some .bool) (a b : Bool) : sBinH P H .eql t (.bool a) (.bool b) = some { v := .bool (a == b) } := by
  simp [sBinH, sBin, sEq, h]
theorem sBinH_bne {P : Program} {H : FH} {t : TypeId} (h : P.underlying t = some .bool) (a b : Bool) : sBinH P H .neq t (.bool a) (.bool b) = some { v := .bool (!(a == b)) } := by
  simp [sBinH, sBin, sEq, h]

def keyCmp' (a b : NKey) : Int := if Op.bytesLess a.space.toList b.space.toList = true ∨ (a.space.toList = b.space.toList ∧ Op.bytesLess a.name.toList b.name.toList = true) then -1 else if a = b then 0 else 1

theorem toList_inj {a b : ByteArray} : a.toList = b.toList ↔ a = b := by
  have h := bytes_eq a b
  by_cases hab : a = b
  · simp [hab]
  · simp only [hab, decide_false, beq_eq_false_iff_ne] at h
    simp [hab, h]

theorem keyCmp_eq (a b : NKey) : keyCmp a b = keyCmp' a b := by
  obtain ⟨s1, n1⟩ := a
  obtain ⟨s2, n2⟩ := b
  simp only [keyCmp, keyCmp', firstNZ, cmpS, NKey.mk.injEq, toList_inj]
  generalize Op.bytesLess s1.toList s2.toList = x
  generalize Op.bytesLess n1.toList n2.toList = y
  by_cases h2 : s1 = s2 <;> by_cases h4 : n1 = n2 <;> cases x <;> cases y <;> simp [h2, h4]

theorem beq_off {a w : Bool} (h : (a == w) = false) : a = !w := by cases a <;> cases w <;> simp_all

@[simp] theorem NAddr.fold (a : NAddr) : PV.agg a.cs = a.pv := rfl
@[simp] theorem NCidr.fold (a : NCidr) : PV.agg a.cs = a.pv := rfl
@[simp] theorem NPoint.fold (a : NPoint) : PV.agg a.cs = a.pv := rfl
@[simp] theorem NKey.fold (a : NKey) : PV.agg a.cs = a.pv := rfl
@[simp] theorem NFront.fold (a : NFront) : PV.agg a.cs = a.pv := rfl
@[simp] theorem NId.fold (a : NId) : PV.agg a.cs = a.pv := rfl
@[simp] theorem NFilter.fold (a : NFilter) : PV.agg a.cs = a.pv := rfl
@[simp] theorem NTable.fold (a : NTable) : PV.agg a.cs = a.pv := rfl
@[simp] theorem NGroup.fold (a : NGroup) : PV.agg a.cs = a.pv := rfl
@[simp] theorem NRows.fold (a : NRows) : PV.agg a.cs = a.pv := rfl

def twoCs (a b : NId) : List PV := a.cs ++ b.cs
def twoPv (a b : NId) : PV := .agg (twoCs a b)
section
variable (a b : NId) (n : Nat)
@[simp] theorem two_len : (twoCs a b).length = 10 := rfl
@[simp] theorem two_closed : (twoPv a b).closed = true := closed_of_good (by simp [twoCs, goodC_append])
@[simp] theorem two_ok : okElem (twoPv a b) 10 = true := okElem_of_good (by simp [twoCs, goodC_append]) rfl
@[simp] theorem two_cells : (twoPv a b).cells = twoCs a b := rfl
@[simp] theorem two_0 : loadE true 5 (twoPv a b) 0 = some a.pv := rfl
@[simp] theorem two_1 : loadE true 5 (twoPv a b) 5 = some b.pv := rfl
@[simp] theorem two_s0 : loadE false n (twoPv a b) 0 = some (.str a.service.space) := rfl
@[simp] theorem two_s1 : loadE false n (twoPv a b) 1 = some (.str a.service.name) := rfl
@[simp] theorem two_s2 : loadE false n (twoPv a b) 2 = some (.str a.name) := rfl
@[simp] theorem two_s5 : loadE false n (twoPv a b) 5 = some (.str b.service.space) := rfl
@[simp] theorem two_s6 : loadE false n (twoPv a b) 6 = some (.str b.service.name) := rfl
@[simp] theorem two_s7 : loadE false n (twoPv a b) 7 = some (.str b.name) := rfl
end
def ordTexts (a b : NFront) (i j : NId) : List ByteArray := [a.name, b.name, a.service.space, a.service.name, b.service.space, b.service.name, i.name, j.name, i.service.space, i.service.name, j.service.space, j.service.name]

end Pv
set_option linter.unusedSimpArgs false
set_option linter.unusedVariables false
namespace Pv
open Go


structure ES where
  T : List PV
  H : Heap
  n : Nat
  ws : List Nat

structure CR where
  v : PV
  H : Heap
  n : Nat
  ws : List Nat

def PV.names : Nat → PV → List Nat
  | 0, _ => []
  | _ + 1, .ptr b _ _ _ _ => [b]
  | _ + 1, .bsl b _ _ _ _ => [b]
  | _ + 1, .map b _ => [b]
  | d + 1, .agg cs => cs.flatMap (PV.names d)
  | d + 1, .tup cs => cs.flatMap (PV.names d)
  | d + 1, .clo _ xs ys => xs.flatMap (PV.names d) ++ ys.flatMap (PV.names d)
  | d + 1, .ifc _ x => PV.names d x
  | _ + 1, _ => []

def Body.names : Body → List Nat
  | .dead => []
  | .arr _ xs => xs.flatMap (PV.names 5)
  | .map es => es.flatMap fun e => PV.names 5 e.2

def Body.withinB (S : Nat → Bool) : Body → Bool
  | .dead => true
  | .arr _ xs => xs.all fun x => x.within S
  | .map es => es.all fun e => e.2.within S

theorem Body.withinB_iff {S : Nat → Bool} {b : Body} (h : b.withinB S = true) : b.within S := by
  cases b with
  | dead => trivial
  | arr s xs => exact fun x hx => List.all_eq_true.1 h x hx
  | map es => exact fun x hx => List.all_eq_true.1 h x hx

def reach (H : Heap) : Nat → List Nat → List Nat → List Nat
  | 0, _, acc => acc
  | _ + 1, [], acc => acc
  | d + 1, b :: todo, acc => if acc.contains b then reach H d todo acc else
    match find H b with
    | some x => reach H d (x.body.names ++ todo) (b :: acc)
    | none => reach H d todo acc

def part (H : Heap) (ks : List Nat) : Heap := ks.filterMap fun k => (find H k).map (k, ·)

theorem find_part (H : Heap) : ∀ (ks : List Nat) (b : Nat), find (part H ks) b = if b ∈ ks then find H b else none
  | [], b => rfl
  | k :: ks, b => by
    have ih := find_part H ks b
    simp only [part] at ih ⊢
    rw [List.filterMap_cons]
    cases hk : find H k with
    | none =>
      simp only [Option.map_none, ih, List.mem_cons]
      by_cases hb : b = k
      · subst hb; simp [hk]
      · simp [hb]
    | some x =>
      simp only [Option.map_some, find, ih, List.mem_cons]
      by_cases hb : k = b
      · subst hb; simp [hk]
      · have : ¬ b = k := fun e => hb e.symm
        simp [hb, this]

theorem upd_part (H : Heap) : ∀ (ks : List Nat) (H2 : FH) (b : Nat), upd H2 (part H ks) b = if b ∈ ks then (find H b).or (H2 b) else H2 b
  | [], H2, b => rfl
  | k :: ks, H2, b => by
    have ih := upd_part H ks
    simp only [part] at ih ⊢
    rw [List.filterMap_cons]
    cases hk : find H k with
    | none =>
      simp only [Option.map_none, ih, List.mem_cons]
      by_cases hb : b = k
      · subst hb; simp [hk]
      · simp [hb]
    | some x =>
      simp only [Option.map_some, upd, ih, List.mem_cons]
      by_cases hb : b = k
      · subst hb; simp [hk]
      · simp [hb]

def keys (H : Heap) : List Nat := H.map (·.1)

theorem keys_find {H : Heap} {b : Nat} {x : Box} (h : find H b = some x) : b ∈ keys H := by
  induction H with
  | nil => simp [find] at h
  | cons p t ih =>
    obtain ⟨k, y⟩ := p
    simp only [find] at h
    simp only [keys, List.map_cons, List.mem_cons]
    by_cases hk : k = b
    · exact .inl hk.symm
    · rw [if_neg hk] at h; exact .inr (ih h)

abbrev XT := List (FuncId × (List PV → Option PV))

def XOK (P : Program) (X : XT) : Prop := ∀ f args v, ((X.lookup f).bind fun g => g args) = some v → ∀ H, CallSem P f args H { v }

theorem XOK.nil (P : Program) : XOK P [] := fun f args v h => by simp at h

theorem XOK.cons {P : Program} {X : XT} {f : FuncId} {g : List PV → Option PV} (h : ∀ args v, g args = some v → ∀ H, CallSem P f args H { v }) (hX : XOK P X) : XOK P ((f, g) :: X) := by
  intro f' args v hv H
  simp only [List.lookup_cons] at hv
  split at hv
  · rename_i he
    simp only [beq_iff_eq] at he
    subst he
    exact h args v (by simpa using hv) H
  · exact hX f' args v hv H

def unBy : List PV → Option (List UInt8)
  | [] => some []
  | .int .u8 n :: t => if 0 ≤ n ∧ n < 256 then (unBy t).map (UInt8.ofNat n.toNat :: ·) else none
  | _ => none

theorem unBy_eq : ∀ {xs : List PV} {l : List UInt8}, unBy xs = some l → xs = pvBy l
  | [], l, h => by simp [unBy] at h; subst h; rfl
  | x :: t, l, h => by
    cases x with
    | int k n =>
      cases k <;> simp only [unBy] at h <;> try (cases h; done)
      split at h
      · rename_i hn
        simp only [Option.map_eq_some_iff] at h
        obtain ⟨l', h1, rfl⟩ := h
        rw [unBy_eq h1]
        have h3 : (UInt8.ofNat n.toNat).toNat = n.toNat := by simp [UInt8.toNat_ofNat']; omega
        simp only [pvBy, List.map_cons, h3, Int.toNat_of_nonneg hn.1]
      · cases h
    | _ => simp [unBy] at h

def cmpX : List PV → Option PV
  | [.sl 1 xs, .sl 1 ys] => match unBy xs, unBy ys with
    | some l, some m => some (.int .i64 (Lib.compareBytes l m))
    | _, _ => none
  | _ => none

theorem cmpX_ok {P : Program} {f : FuncId} (hf : ∀ args w, (callFunc f args).run P w = ((Extern.BytealgCompare.compare args).run P w).andThen fun v w' => .ok (.value v) w') :
    ∀ args v, cmpX args = some v → ∀ H, CallSem P f args H { v } := by
  intro args v h H
  unfold cmpX at h
  split at h
  · split at h
    · rename_i h1 h2
      simp only [Option.some.injEq] at h
      subst h
      rw [unBy_eq h1, unBy_eq h2]
      exact sem_cmpBytes hf _ _ H
    · cases h
  · cases h

section
variable (P : Program) (X : XT) (call : FuncId → List PV → Heap → Nat → Option CR)

def evCall (f : FuncId) (args : List PV) (H : Heap) (n : Nat) : Option (Res × Nat) :=
  let ks := reach H (H.length * 4 + 64) (args.flatMap (PV.names 5)) []
  let R := part H ks
  let S := fun b => (find R b).isSome
  if (args.all fun a => a.within S) && (R.all fun e => e.2.body.withinB S) then
    match call f args R n with
    | some r => if (keys r.H).all fun k => S k || (find H k).isNone then some ({ v := r.v, rd := ks ++ keys r.H ++ r.ws, wr := part r.H r.ws.eraseDups }, r.n) else none
    | none => none
  else none

def evOps (all : Array Oper) (n0 : Nat) : List Oper → List (List Nat × List Nat) → ES → Option (List (List Nat × List Nat) × ES)
  | [], acc, st => some (acc.reverse, st)
  | o :: os, acc, st => match guardDec all st.T o with
    | some false => evOps all n0 os (([], []) :: acc) ⟨setD st.T o.dst (.tup []), st.H, st.n, st.ws⟩
    | some true => match fstep P n0 (find st.H) st.T o with
      | some r => evOps all n0 os ((r.rd, r.wr.map (·.1)) :: acc) ⟨setD st.T o.dst r.v, puts st.H r.wr, st.n, r.wr.map (·.1) ++ st.ws⟩
      | none => match callOf st.T o with
        | some (f, args) => match (match (X.lookup f).bind (fun g => g args) with | some v => some (({ v := v } : Res), st.n) | none => evCall call f args st.H st.n) with
          | some (r, n) => evOps all n0 os ((r.rd, r.wr.map (·.1)) :: acc) ⟨setD st.T o.dst r.v, puts st.H r.wr, n, r.wr.map (·.1) ++ st.ws⟩
          | none => none
        | none => none
    | none => none

def evC : Nat → Code → ES → Option (Exit × ES)
  | 0, _, _ => none
  | k + 1, .seq x y, st => match evC k x st with
    | some (.normal, st') => evC k y st'
    | r => r
  | _ + 1, .skip, st => some (.normal, st)
  | _ + 1, .label _, st => some (.normal, st)
  | _ + 1, .exit id, st => some (.exit id, st)
  | _ + 1, .goto l, st => some (.goto l, st)
  | _ + 1, .ret, st => some (.ret, st)
  | k + 1, .cond c x y, st => match ev st.T c with
    | .bool t => evC k (bif t then x else y) st
    | _ => none
  | k + 1, .block id c, st => match evC k c st with
    | some (.exit id', st') => if id' = id then some (.normal, st') else some (.exit id', st')
    | r => r
  | k + 1, .loop c, st => match evC k c st with
    | some (.normal, st') => evC k (.loop c) st'
    | r => r
  | _ + 1, .region _ all draw, st => match evOps P X call all st.n all.toList [] ⟨st.T, st.H, st.n + st.T.length, st.ws⟩ with
    | some (fp, st') => if draw && !(chk all fp && P.follows .mixedOrders) then none else some (.normal, st')
    | none => none
  | _ + 1, _, _ => none
end

def evF (P : Program) (X : XT) : Nat → FuncId → List PV → Heap → Nat → Option CR
  | 0, _, _, _, _ => none
  | d + 1, f, args, H, n => match P.funcs[f]? with
    | some fn => match fn.body with
      | some cd => if fn.name == "runtime.NumGoroutine" then none else
        match evC P X (evF P X d) 100000 cd ⟨args ++ List.replicate (fn.ntmps - args.length) (.tup []), H, n, []⟩ with
        | some (.normal, st) | some (.ret, st) => match resOf P (find st.H) fn.results st.T with
          | some r => some ⟨r, st.H, st.n, st.ws⟩
          | none => none
        | _ => none
      | none => none
    | none => none

def CallOK (P : Program) (call : FuncId → List PV → Heap → Nat → Option CR) : Prop :=
  ∀ f args H n r, call f args H n = some r → Enters P f ∧ PCall P f args (find H) (fun q H' => q = r.v ∧ H' = find r.H) ∧ ∀ b, b ∉ r.ws → find r.H b = find H b

section
variable {P : Program} {X : XT} (hX : XOK P X) {call : FuncId → List PV → Heap → Nat → Option CR} (hc : CallOK P call)
include hX hc

omit hX in
theorem evCall_sound {f : FuncId} {args : List PV} {H : Heap} {n n' : Nat} {r : Res} (h : evCall call f args H n = some (r, n')) : CallSem P f args (find H) r := by
  unfold evCall at h
  generalize hks : reach H (H.length * 4 + 64) (args.flatMap (PV.names 5)) [] = ks at h
  simp only at h
  split at h
  · rename_i hin
    simp only [Bool.and_eq_true] at hin
    split at h
    · rename_i cr hcr
      split at h
      · rename_i hfr
        simp only [Option.some.injEq, Prod.mk.injEq] at h
        obtain ⟨rfl, rfl⟩ := h
        obtain ⟨he, hp, hws⟩ := hc _ _ _ _ _ hcr
        intro H2 hag
        simp only [List.mem_append] at hag
        refine PInv.of_call he ?_
        have hsub : ∀ b x, find (part H ks) b = some x → H2 b = some x := by
          intro b x hb
          rw [find_part] at hb
          split at hb
          · rename_i hmem
            rw [hag b (.inl (.inl hmem)), hb]
          · cases hb
        refine (hp.frame H2 hsub (fun a ha => List.all_eq_true.1 hin.1 a ha) ?_ ?_).mono ?_
        · intro b x hb
          have hmem : (b, x) ∈ part H ks := by
            rw [find_part] at hb
            split at hb
            · rename_i hm
              exact List.mem_filterMap.2 ⟨b, hm, by simp [hb]⟩
            · cases hb
          exact Body.withinB_iff (List.all_eq_true.1 hin.2 _ hmem)
        · rintro q H1 ⟨rfl, rfl⟩ b hb
          obtain ⟨x, hx⟩ := Option.isSome_iff_exists.1 hb
          have hk := keys_find hx
          have := List.all_eq_true.1 hfr b hk
          simp only [Bool.or_eq_true] at this
          rcases this with h1 | h1
          · exact .inl h1
          · right; rw [hag b (.inl (.inr hk))]; simpa using h1
        · rintro q H' ⟨H1, ⟨rfl, rfl⟩, rfl⟩
          refine ⟨rfl, ?_⟩
          funext b
          rw [upd_part]
          simp only [List.mem_eraseDups]
          split
          · rfl
          · rename_i hb
            rw [hws b hb]
            cases hf : find (part H ks) b with
            | none => rfl
            | some x => rw [hsub b x hf]; rfl
      · cases h
    · cases h
  · cases h

theorem evOps_sound {all : Array Oper} {n0 : Nat} {HH : FH} {KK : List (List Nat × List Nat) → PS → Prop} : ∀ (os : List Oper) (acc : List (List Nat × List Nat)) (st : ES) (fp : List (List Nat × List Nat)) (st' : ES), evOps P X call all n0 os acc st = some (fp, st') →
    (∀ b, b ∉ st.ws → find st.H b = HH b) → (KK fp ⟨st'.T, st'.H⟩) → pEv P all n0 os acc KK ⟨st.T, st.H⟩ ∧ ∀ b, b ∉ st'.ws → find st'.H b = HH b
  | [], acc, st, fp, st', h, hi, hk => by
    simp only [evOps, Option.some.injEq, Prod.mk.injEq] at h
    obtain ⟨rfl, rfl⟩ := h
    exact ⟨hk, hi⟩
  | o :: os, acc, st, fp, st', h, hi, hk => by
    have hinv : ∀ (wr : List (Nat × Box)) b, b ∉ wr.map (·.1) ++ st.ws → find (puts st.H wr) b = HH b := by
      intro wr b hb
      simp only [List.mem_append, not_or] at hb
      rw [find_puts, upd_ne hb.1]
      exact hi b hb.2
    simp only [evOps] at h
    simp only [pEv]
    cases hg : guardDec all st.T o with
    | none => rw [hg] at h; cases h
    | some w =>
      rw [hg] at h
      cases w with
      | false =>
        simp only at h
        obtain ⟨h1, h2⟩ := evOps_sound os _ _ fp st' h hi hk
        exact ⟨⟨fun hh => absurd hh (by simp), fun _ => h1⟩, h2⟩
      | true =>
        simp only at h
        cases hf : fstep P n0 (find st.H) st.T o with
        | some r =>
          rw [hf] at h
          simp only at h
          obtain ⟨h1, h2⟩ := evOps_sound os _ _ fp st' h (hinv r.wr) hk
          exact ⟨⟨fun _ => h1, fun hh => absurd hh (by simp)⟩, h2⟩
        | none =>
          rw [hf] at h
          simp only at h
          cases hco : callOf st.T o with
          | none => rw [hco] at h; cases h
          | some fa =>
            obtain ⟨f, args⟩ := fa
            rw [hco] at h
            simp only at h
            cases hl : (X.lookup f).bind (fun g => g args) with
            | some v =>
              rw [hl] at h
              simp only at h
              obtain ⟨h1, h2⟩ := evOps_sound os _ _ fp st' h (hinv []) hk
              exact ⟨⟨fun _ => ⟨{ v }, hX f args v hl _, h1⟩, fun hh => absurd hh (by simp)⟩, h2⟩
            | none =>
              rw [hl] at h
              simp only at h
              cases hev : evCall call f args st.H st.n with
              | none => rw [hev] at h; cases h
              | some rn =>
                obtain ⟨r, n⟩ := rn
                rw [hev] at h
                simp only at h
                obtain ⟨h1, h2⟩ := evOps_sound os _ _ fp st' h (hinv r.wr) hk
                exact ⟨⟨fun _ => ⟨r, evCall_sound hc hev, h1⟩, fun hh => absurd hh (by simp)⟩, h2⟩
end

theorem pEv_pEv0 {P : Program} {all : Array Oper} {n0 : Nat} {K : PS → Prop} : ∀ (os : List Oper) (acc : List (List Nat × List Nat)) (st : PS), pEv P all n0 os acc (fun _ => K) st → pEv0 P all n0 os K st
  | [], acc, st, h => h
  | o :: os, acc, st, h => by
    simp only [pEv] at h
    simp only [pEv0]
    split at h
    · refine ⟨fun hw => ?_, fun hw => pEv_pEv0 os _ _ (h.2 hw)⟩
      have h := h.1 hw
      split at h
      · exact pEv_pEv0 os _ _ h
      · split at h
        · obtain ⟨r, h1, h2⟩ := h
          exact ⟨r, h1, pEv_pEv0 os _ _ h2⟩
        · exact h
    · exact h

section
variable {P : Program} {c0 : Cx} {H0 : FH} {Q : Exit → PS → Prop} {st : PS}

def pwI (P : Program) (c0 : Cx) (H0 : FH) (cd : Code) (Q : Exit → PS → Prop) (st : PS) : Prop :=
  ∀ a w, St c0 H0 st.T (find st.H) a w → ∀ (b : Frame) (k : List Item) (cs : List Frame), ∃ e a' w', (∃ st', Q e st' ∧ St c0 H0 st'.T (find st'.H) a' w') ∧ Arrives P (lone (b.at a (.code cd :: .inLoop cd :: k)) cs w) b k cs e a' w'

theorem pw_of_pwI {cd : Code} (h : pwI P c0 H0 cd Q st) : pw P c0 H0 (.loop cd) Q st := by
  intro a w hs b k cs
  obtain ⟨e, a', w', hq, harr⟩ := h a w hs b k cs
  exact ⟨e, a', w', hq, .of_steps (.one step_loop) harr⟩

theorem pwI_unfold {cd : Code} (h : pw P c0 H0 cd (thenP (pwI P c0 H0 cd Q) Q) st) : pwI P c0 H0 cd Q st := by
  intro a w hs b k cs
  obtain ⟨e, a₁, w₁, ⟨st1, hq, hs1⟩, harr⟩ := h a w hs b (.inLoop cd :: k) cs
  cases e with
  | normal =>
    obtain ⟨e₂, a₂, w₂, hq₂, harr₂⟩ := hq a₁ w₁ hs1 b k cs
    exact ⟨e₂, a₂, w₂, hq₂, .of_steps (Steps.trans harr (.one step_inLoop)) harr₂⟩
  | exit id => exact ⟨_, a₁, w₁, ⟨st1, hq, hs1⟩, .pass (x := .inLoop cd) rfl (fun _ _ => .inl (by simp)) harr⟩
  | goto l => exact ⟨_, a₁, w₁, ⟨st1, hq, hs1⟩, .pass (x := .inLoop cd) rfl (fun _ _ => .inl (by simp)) harr⟩
  | ret => exact ⟨_, a₁, w₁, ⟨st1, hq, hs1⟩, .pass (x := .inLoop cd) rfl (fun _ _ => .inl (by simp)) harr⟩
  | panic ch => exact ⟨_, a₁, w₁, ⟨st1, hq, hs1⟩, .pass (x := .inLoop cd) rfl (fun _ _ => .inl (by simp)) harr⟩
  | outgrown => exact ⟨_, a₁, w₁, ⟨st1, hq, hs1⟩, .pass (x := .inLoop cd) rfl (fun _ _ => .inl (by simp)) harr⟩

theorem pwI_post {cd : Code} {Q' : Exit → PS → Prop} (h : pwI P c0 H0 cd Q' st) (hq : ∀ e st, Q' e st → Q e st) : pwI P c0 H0 cd Q st := by
  intro a w hs b k cs
  obtain ⟨e, a', w', ⟨st', h1, h2⟩, harr⟩ := h a w hs b k cs
  exact ⟨e, a', w', ⟨st', hq _ _ h1, h2⟩, harr⟩

theorem pw_post' {cd : Code} {Q' : Exit → PS → Prop} (h : pw P c0 H0 cd Q' st) (hq : ∀ e st, Q' e st → Q e st) : pw P c0 H0 cd Q st :=
  pw_post h fun e st h => ⟨st, Wk.refl _, hq e st h⟩
end

def ends (e : Exit) (st : ES) : Exit → PS → Prop := fun e' s => e' = e ∧ s = ⟨st.T, st.H⟩

theorem evC_sound {P : Program} {X : XT} (hX : XOK P X) {call : FuncId → List PV → Heap → Nat → Option CR} (hc : CallOK P call) {c0 : Cx} {H0 HH : FH} : ∀ (k : Nat) (cd : Code) (st : ES) (e : Exit) (st' : ES), evC P X call k cd st = some (e, st') → (∀ b, b ∉ st.ws → find st.H b = HH b) →
    pw P c0 H0 cd (ends e st') ⟨st.T, st.H⟩ ∧ (∀ b, b ∉ st'.ws → find st'.H b = HH b) ∧ ∀ c, cd = .loop c → pwI P c0 H0 c (ends e st') ⟨st.T, st.H⟩
  | 0, _, _, _, _, h, _ => by simp [evC] at h
  | k + 1, cd, st, e, st', h, hi => by
    have nol : ∀ {c : Code} {X : Prop}, (∀ c', cd ≠ .loop c') → cd = .loop c → X := fun h1 h2 => absurd h2 (h1 _)
    cases cd with
    | seq x y =>
      simp only [evC] at h
      cases hx : evC P X call k x st with
      | none => rw [hx] at h; cases h
      | some r =>
        obtain ⟨e1, st1⟩ := r
        rw [hx] at h
        obtain ⟨h1, h2, _⟩ := evC_sound hX hc (c0 := c0) (H0 := H0) k x st e1 st1 hx hi
        cases e1 with
        | normal =>
          simp only at h
          obtain ⟨g1, g2, _⟩ := evC_sound hX hc (c0 := c0) (H0 := H0) k y st1 e st' h h2
          refine ⟨pw_seq (pw_post' h1 ?_), g2, fun c => nol (by simp)⟩
          rintro e' s ⟨rfl, rfl⟩
          exact g1
        | _ =>
          simp only [Option.some.injEq, Prod.mk.injEq] at h
          obtain ⟨rfl, rfl⟩ := h
          refine ⟨pw_seq (pw_post' h1 ?_), h2, fun c => nol (by simp)⟩
          rintro e' s ⟨rfl, rfl⟩
          exact ⟨rfl, rfl⟩
    | skip =>
      simp only [evC, Option.some.injEq, Prod.mk.injEq] at h
      obtain ⟨rfl, rfl⟩ := h
      exact ⟨pw_skip ⟨rfl, rfl⟩, hi, fun c => nol (by simp)⟩
    | label l =>
      simp only [evC, Option.some.injEq, Prod.mk.injEq] at h
      obtain ⟨rfl, rfl⟩ := h
      exact ⟨pw_label ⟨rfl, rfl⟩, hi, fun c => nol (by simp)⟩
    | exit l =>
      simp only [evC, Option.some.injEq, Prod.mk.injEq] at h
      obtain ⟨rfl, rfl⟩ := h
      exact ⟨pw_exit ⟨rfl, rfl⟩, hi, fun c => nol (by simp)⟩
    | goto l =>
      simp only [evC, Option.some.injEq, Prod.mk.injEq] at h
      obtain ⟨rfl, rfl⟩ := h
      exact ⟨pw_goto ⟨rfl, rfl⟩, hi, fun c => nol (by simp)⟩
    | ret =>
      simp only [evC, Option.some.injEq, Prod.mk.injEq] at h
      obtain ⟨rfl, rfl⟩ := h
      exact ⟨pw_ret ⟨rfl, rfl⟩, hi, fun c => nol (by simp)⟩
    | cond c x y =>
      simp only [evC] at h
      cases hv : ev st.T c with
      | bool t =>
        rw [hv] at h
        simp only at h
        obtain ⟨h1, h2, _⟩ := evC_sound hX hc (c0 := c0) (H0 := H0) k _ st e st' h hi
        refine ⟨pw_cond t hv (fun ht => ?_) (fun ht => ?_), h2, fun c => nol (by simp)⟩
        · subst ht; exact h1
        · subst ht; exact h1
      | _ => rw [hv] at h; cases h
    | block id c =>
      simp only [evC] at h
      cases hx : evC P X call k c st with
      | none => rw [hx] at h; cases h
      | some r =>
        obtain ⟨e1, st1⟩ := r
        rw [hx] at h
        obtain ⟨h1, h2, _⟩ := evC_sound hX hc (c0 := c0) (H0 := H0) k c st e1 st1 hx hi
        cases e1 with
        | exit id' =>
          simp only at h
          split at h
          · rename_i hid
            simp only [Option.some.injEq, Prod.mk.injEq] at h
            obtain ⟨rfl, rfl⟩ := h
            refine ⟨pw_block (pw_post' h1 ?_), h2, fun c => nol (by simp)⟩
            rintro e' s ⟨rfl, rfl⟩
            simp only [inBlockP, if_pos hid]
            exact ⟨rfl, rfl⟩
          · rename_i hid
            simp only [Option.some.injEq, Prod.mk.injEq] at h
            obtain ⟨rfl, rfl⟩ := h
            refine ⟨pw_block (pw_post' h1 ?_), h2, fun c => nol (by simp)⟩
            rintro e' s ⟨rfl, rfl⟩
            simp only [inBlockP, if_neg hid]
            exact ⟨rfl, rfl⟩
        | _ =>
          simp only [Option.some.injEq, Prod.mk.injEq] at h
          obtain ⟨rfl, rfl⟩ := h
          refine ⟨pw_block (pw_post' h1 ?_), h2, fun c => nol (by simp)⟩
          rintro e' s ⟨rfl, rfl⟩
          exact ⟨rfl, rfl⟩
    | loop c =>
      simp only [evC] at h
      have key : pwI P c0 H0 c (ends e st') ⟨st.T, st.H⟩ ∧ (∀ b, b ∉ st'.ws → find st'.H b = HH b) := by
        cases hx : evC P X call k c st with
        | none => rw [hx] at h; cases h
        | some r =>
          obtain ⟨e1, st1⟩ := r
          rw [hx] at h
          obtain ⟨h1, h2, _⟩ := evC_sound hX hc (c0 := c0) (H0 := H0) k c st e1 st1 hx hi
          cases e1 with
          | normal =>
            simp only at h
            obtain ⟨_, g2, g3⟩ := evC_sound hX hc (c0 := c0) (H0 := H0) k (.loop c) st1 e st' h h2
            refine ⟨pwI_unfold (pw_post' h1 ?_), g2⟩
            rintro e' s ⟨rfl, rfl⟩
            exact g3 c rfl
          | _ =>
            simp only [Option.some.injEq, Prod.mk.injEq] at h
            obtain ⟨rfl, rfl⟩ := h
            refine ⟨pwI_unfold (pw_post' h1 ?_), h2⟩
            rintro e' s ⟨rfl, rfl⟩
            exact ⟨rfl, rfl⟩
      exact ⟨pw_of_pwI key.1, key.2, fun c' hc' => by cases hc'; exact key.1⟩
    | region id all draw =>
      simp only [evC] at h
      split at h
      · rename_i fp st1 hev
        split at h
        · cases h
        · rename_i hck
          simp only [Option.some.injEq, Prod.mk.injEq] at h
          obtain ⟨rfl, rfl⟩ := h
          cases draw with
          | true =>
            simp only [Bool.true_and, Bool.not_eq_true', Bool.not_eq_false, Bool.and_eq_true] at hck
            obtain ⟨h1, h2⟩ := evOps_sound hX hc (KK := fun fp s => chk all fp = true ∧ ends .normal st1 .normal s) all.toList [] ⟨st.T, st.H, _, st.ws⟩ fp st1 hev hi ⟨hck.1, rfl, rfl⟩
            exact ⟨pw_region_draw hck.2 st.n h1, h2, fun c => nol (by simp)⟩
          | false =>
            obtain ⟨h1, h2⟩ := evOps_sound hX hc (KK := fun _ s => ends .normal st1 .normal s) all.toList [] ⟨st.T, st.H, _, st.ws⟩ fp st1 hev hi ⟨rfl, rfl⟩
            exact ⟨pw_region st.n (pEv_pEv0 _ _ _ h1), h2, fun c => nol (by simp)⟩
      · cases h
    | _ => simp [evC] at h

theorem enters_of {P : Program} {f : FuncId} {fn : Func} {cd : Code} (hf : P.funcs[f]? = some fn) (hb : fn.body = some cd) (hn : (fn.name == "runtime.NumGoroutine") = false) : Enters P f := by
  intro args w
  have hn' : ¬ fn.name = "runtime.NumGoroutine" := by simpa using hn
  simp [callFunc, hf, hb, hn', go_sem]

theorem evF_ok {P : Program} {X : XT} (hX : XOK P X) : ∀ d, CallOK P (evF P X d)
  | 0 => fun f args H n r h => by simp [evF] at h
  | d + 1 => fun f args H n r h => by
    simp only [evF] at h
    cases hf : P.funcs[f]? with
    | none => rw [hf] at h; cases h
    | some fn =>
      rw [hf] at h
      simp only at h
      cases hb : fn.body with
      | none => rw [hb] at h; cases h
      | some cd =>
        rw [hb] at h
        simp only at h
        split at h
        · cases h
        · rename_i hn
          simp only [Bool.not_eq_true] at hn
          refine ⟨enters_of hf hb hn, ?_⟩
          cases hx : evC P X (evF P X d) 100000 cd ⟨args ++ List.replicate (fn.ntmps - args.length) (.tup []), H, n, []⟩ with
          | none => rw [hx] at h; cases h
          | some est =>
            obtain ⟨e, st⟩ := est
            rw [hx] at h
            have key := fun c0 => evC_sound hX (evF_ok hX d) (c0 := c0) (H0 := find H) (HH := find H) 100000 cd _ e st hx (fun _ _ => rfl)
            cases hr : resOf P (find st.H) fn.results st.T with
            | none => cases e <;> simp [hr] at h
            | some q =>
              have hQ : (e = .normal ∨ e = .ret) ∧ r = ⟨q, st.H, st.n, st.ws⟩ := by
                cases e <;> simp [hr] at h <;> simp [h]
              obtain ⟨he, rfl⟩ := hQ
              refine ⟨PCall.of_body hf hb fun c0 => pw_post' (key c0).1 ?_, (key ⟨default, fun _ => False, fun _ => none, fun _ => none⟩).2.1⟩
              rintro e' s ⟨rfl, rfl⟩
              rcases he with rfl | rfl <;> exact ⟨q, hr, rfl, rfl⟩

theorem PFun.of_ev {P : Program} {X : XT} (hX : XOK P X) {f : FuncId} {args : List PV} {r : PV} (h : ((evF P X 100 f args [] 0).map fun c => c.v) = some r) (hc : r.closed = true) : PFun P f args r ∧ Enters P f := by
  rw [Option.map_eq_some_iff] at h
  obtain ⟨c, hc', rfl⟩ := h
  obtain ⟨h1, h2, _⟩ := evF_ok hX 100 f args [] 0 c hc'
  exact ⟨⟨hc, h2.mono fun q H' hq => hq.1⟩, h1⟩

end Pv
set_option linter.unusedSimpArgs false
set_option linter.unusedVariables false
namespace Pv
open Go


def rc (w : World) : Cx := ⟨w, fun k => k < w.heap.size, fun _ => none, fun _ => none⟩

def CRel (w : World) (ps : List PV) (vs : List Value) : Prop :=
  ps.length = vs.length ∧ ∀ (i : Nat) p v, ps[i]? = some p → vs[i]? = some v → v.oneCell' = true ∧ Rel (rc w) true p v

theorem CRel.nil (w : World) : CRel w [] [] := ⟨rfl, fun i p v h => by simp at h⟩
theorem CRel.one {w : World} {p : PV} {v : Value} (h1 : v.oneCell' = true) (h : Rel (rc w) true p v) : CRel w [p] [v] :=
  ⟨rfl, fun i q u a b => by cases i with | zero => simp at a b; subst a; subst b; exact ⟨h1, h⟩ | succ i => simp at a⟩
theorem CRel.append {w : World} {ps qs : List PV} {us vs : List Value} (h : CRel w ps us) (h' : CRel w qs vs) : CRel w (ps ++ qs) (us ++ vs) := by
  refine ⟨by simp [h.1, h'.1], fun i p v a b => ?_⟩
  rw [List.getElem?_append] at a b
  rw [← h.1] at b
  split at a
  · rename_i hi; rw [if_pos hi] at b; exact h.2 i p v a b
  · rename_i hi; rw [if_neg hi] at b; exact h'.2 _ p v a b

def Rd (P : Program) (t : TypeId) (X : Type) (cs : X → List PV) : Prop :=
  ∀ (H : Type) (enc : TypeId × Value → H) (w : World) (fuel : Nat) (vs : List Value) (x : DataW H × List MemPlace), DataW.trod enc P w 0 (fun _ => true) true fuel t vs = some x → ∃ a : X, CRel w (cs a) vs

section
variable {P : Program} {t : TypeId}

theorem Rd.map {X Y : Type} {cs : X → List PV} {ds : Y → List PV} (h : Rd P t X cs) (g : X → Y) (hg : ∀ x, ds (g x) = cs x) : Rd P t Y ds := by
  intro H enc w fuel vs x hx
  obtain ⟨a, ha⟩ := h H enc w fuel vs x hx
  exact ⟨g a, by rw [hg]; exact ha⟩

theorem Rd.bool (ht : P.underlying t = some .bool) : Rd P t Bool fun b => [.bool b] := by
  intro H enc w fuel vs x hx
  obtain ⟨b, rfl, _⟩ := DataW.trod_bool ht hx
  exact ⟨b, .one rfl (.bool b)⟩

theorem Rd.int {k : IntKind} (ht : P.underlying t = some (.int k)) : Rd P t { n : Int // (Lit.int k n).wf = true } fun n => [.int k n.1] := by
  intro H enc w fuel vs x hx
  obtain ⟨n, rfl, _, hn⟩ := DataW.trod_int ht hx
  exact ⟨⟨n, hn⟩, .one rfl (.int k n)⟩

theorem Rd.str (ht : P.underlying t = some .string) : Rd P t { s : ByteArray // s.size ≤ maxLen } fun s => [.str s.1] := by
  intro H enc w fuel vs x hx
  obtain ⟨s, rfl, _, hs⟩ := DataW.trod_string ht hx
  exact ⟨⟨s, hs⟩, .one rfl (.str s)⟩

def RdF (P : Program) (fs : List Field) (off m : Nat) (X : Type) (cs : X → List PV) : Prop :=
  ∀ (H : Type) (enc : TypeId × Value → H) (w : World) (fuel : Nat) (vs : List Value), vs.length = off + m →
    (∀ f ∈ fs, ∃ x, DataW.trod enc P w 0 (fun _ => true) true fuel f.type ((vs.drop f.offset).take (P.cellsOf f.type)) = some x) → ∃ a : X, CRel w (cs a) (vs.drop off)

theorem RdF.nil (off : Nat) : RdF P [] off 0 Unit fun _ => [] := by
  intro H enc w fuel vs hl _
  exact ⟨(), by rw [List.drop_eq_nil_of_le (by omega)]; exact .nil w⟩

theorem RdF.cons {f : Field} {fs : List Field} {off n m : Nat} {X Y : Type} {cs : X → List PV} {ds : Y → List PV} (hf : Rd P f.type X cs) (hoff : f.offset = off) (hn : P.cellsOf f.type = n) (hr : RdF P fs (off + n) m Y ds) :
    RdF P (f :: fs) off (n + m) (X × Y) fun p => cs p.1 ++ ds p.2 := by
  intro H enc w fuel vs hl h
  obtain ⟨x, hx⟩ := h f (by simp)
  obtain ⟨a, ha⟩ := hf H enc w fuel _ x hx
  obtain ⟨b, hb⟩ := hr H enc w fuel vs (by omega) fun g hg => h g (by simp [hg])
  refine ⟨(a, b), ?_⟩
  rw [hoff, hn] at ha
  have : vs.drop off = (vs.drop off).take n ++ vs.drop (off + n) := by rw [← List.drop_drop, List.take_append_drop]
  rw [this]
  exact ha.append hb

theorem Rd.struct {fs : Array Field} {m : Nat} {X : Type} {cs : X → List PV} (ht : P.underlying t = some (.struct fs)) (hm : P.cellsOf t = m) (h : RdF P fs.toList 0 m X cs) : Rd P t X cs := by
  intro H enc w fuel vs x hx
  obtain ⟨xs, n, rfl, rfl, hl, hlen, hf⟩ := DataW.trod_struct ht hx
  obtain ⟨a, ha⟩ := h H enc w n vs (by omega) fun f hf' => by
    obtain ⟨i, hi⟩ := List.mem_iff_getElem?.1 hf'
    have hi' : fs[i]? = some f := by simpa using hi
    have hlt : i < xs.length := by rw [hlen]; exact (Array.getElem?_eq_some_iff.1 hi').1
    exact ⟨xs[i], by rw [hf i f hi']; exact List.getElem?_eq_getElem hlt⟩
  exact ⟨a, by simpa using ha⟩

theorem Rd.array {e : TypeId} {k n : Nat} {X : Type} {cs : X → List PV} (ht : P.underlying t = some (.array k e)) (hn : P.cellsOf e = n) (hm : P.cellsOf t = k * n) (h : Rd P e X cs) : Rd P t (Vector X k) fun v => v.toList.flatMap cs := by
  intro H enc w fuel vs x hx
  obtain ⟨xs, m, rfl, rfl, hl, hlen, hf⟩ := DataW.trod_array ht hx
  have key : ∀ j, j ≤ k → ∃ l : List X, l.length = j ∧ CRel w (l.flatMap cs) (vs.take (j * n)) := by
    intro j
    induction j with
    | zero => intro _; exact ⟨[], rfl, by simpa using CRel.nil w⟩
    | succ j ih =>
      intro hj
      obtain ⟨l, h1, h2⟩ := ih (by omega)
      have hx := hf j (by omega)
      rw [List.getElem?_eq_getElem (by omega), hn] at hx
      obtain ⟨a, ha⟩ := h H enc w m _ _ hx
      refine ⟨l ++ [a], by simp [h1], ?_⟩
      have : vs.take ((j + 1) * n) = vs.take (j * n) ++ (vs.drop (j * n)).take n := by rw [Nat.add_mul, Nat.one_mul, List.take_add]
      rw [this, List.flatMap_append]
      simp only [List.flatMap_cons, List.flatMap_nil, List.append_nil]
      exact h2.append ha
  obtain ⟨l, h1, h2⟩ := key k (Nat.le_refl _)
  refine ⟨⟨l.toArray, by simpa using h1⟩, ?_⟩
  rw [List.take_of_length_le (by omega)] at h2
  simpa using h2

theorem cells_get {w : World} {a : Addr} {n : Nat} {cs : List Value} (h : w.cells? 0 a n = some cs) (hn : 0 < n) :
    ∃ c e fr, w.heap[a.block]? = some (.cells c e fr) ∧ a.spot = none ∧ cs.length = n ∧ a.off + n ≤ c.size ∧ ∀ j, j < n → c[a.off + j]? = cs[j]? := by
  simp only [World.cells?, Nat.zero_le, if_true] at h
  have hlen := mapM_some_length h
  simp only [List.length_range] at hlen
  have hg : ∀ j, j < n → w.cell? (a.add j) = cs[j]? := fun j hj => mapM_some_get h j j (by simp [hj])
  have h0 := hg 0 hn
  rw [List.getElem?_eq_getElem (by omega)] at h0
  simp only [Addr.add, if_true, World.cell?] at h0
  cases hh : w.heap[a.block]? with
  | none => simp [hh] at h0
  | some o =>
    cases o with
    | cells c e fr =>
      simp only [hh] at h0
      cases hs : a.spot with
      | some s => simp [hs] at h0
      | none =>
        have hall : ∀ j, j < n → c[a.off + j]? = cs[j]? := by
          intro j hj
          have := hg j hj
          unfold World.cell? at this
          by_cases hj0 : j = 0
          · subst hj0; simpa [Addr.add, hh, hs] using this
          · simpa [Addr.add, hj0, hh] using this
        refine ⟨c, e, fr, rfl, rfl, hlen, ?_, hall⟩
        have := hall (n - 1) (by omega)
        rw [List.getElem?_eq_getElem (by omega)] at this
        have := (Array.getElem?_eq_some_iff.1 this).1
        omega
    | _ => simp [hh] at h0

theorem Rd.slice {e : TypeId} {n : Nat} {X : Type} {cs : X → List PV} (ht : P.underlying t = some (.slice e)) (hn : P.cellsOf e = n) (hpos : 0 < n) (h : Rd P e X cs) (pv : X → PV) (hpv : ∀ x, (pv x).cells = cs x) :
    Rd P t { l : List X // l.length ≤ maxLen } fun l => [.sl n (l.1.map pv)] := by
  intro H enc w fuel vs x hx
  rcases DataW.trod_slice ht hx with ⟨rfl, _⟩ | ⟨a, len, cap, elems, rest, m, rfl, rfl, _, _, h1, h2, h3, h4, h5, _⟩
  · exact ⟨⟨[], by simp⟩, .one rfl (.slnil _ _)⟩
  obtain ⟨h5, h6⟩ := h5 rfl
  rw [hn] at h4 h6
  by_cases hcap : cap = 0
  · have : len = 0 := by omega
    subst hcap; subst this
    exact ⟨⟨[], by simp⟩, .one rfl (.slnil _ _)⟩
  have hblk : ∃ c e' fr, w.heap[a.block]? = some (.cells c e' fr) ∧ a.spot = none := by
    by_cases hl : len = 0
    · obtain ⟨y, hy⟩ : ∃ y, rest[0]? = some y := ⟨_, List.getElem?_eq_getElem (by omega)⟩
      have := h6 0 (by omega)
      rw [hy, hl] at this
      obtain ⟨cs', g1, _⟩ := Option.bind_eq_some_iff.1 this
      simp only [Nat.add_zero, Nat.zero_mul, Addr.add, if_true] at g1
      obtain ⟨c, e', fr, g2, g3, _⟩ := cells_get g1 hpos
      exact ⟨c, e', fr, g2, g3⟩
    · have := h4 0 (by omega)
      rw [List.getElem?_eq_getElem (by omega)] at this
      obtain ⟨cs', g1, _⟩ := Option.bind_eq_some_iff.1 this
      simp only [Nat.zero_mul, Addr.add, if_true] at g1
      obtain ⟨c, e', fr, g2, g3, _⟩ := cells_get g1 hpos
      exact ⟨c, e', fr, g2, g3⟩
  obtain ⟨c, e', fr, hh, hsp⟩ := hblk
  obtain ⟨k, off, spot⟩ := a
  simp only at hsp hh
  subst hsp
  have hel : ∀ i, i < len → ∃ x : X, (cs x).length = n ∧ off + i * n + n ≤ c.size ∧ ∀ (j : Nat) p v, (cs x)[j]? = some p → c[off + i * n + j]? = some v → v.oneCell' = true ∧ Rel (rc w) true p v := by
    intro i hi
    have := h4 i hi
    rw [List.getElem?_eq_getElem (by omega)] at this
    obtain ⟨cs', g1, g2⟩ := Option.bind_eq_some_iff.1 this
    obtain ⟨x, hx⟩ := h H enc w m _ _ g2
    obtain ⟨c', e'', fr', f1, f2, f3, f4, f5⟩ := cells_get g1 hpos
    have hblock : ((⟨k, off, none⟩ : Addr).add (i * n)).block = k := by simp only [Addr.add]; split <;> rfl
    have hoff : ((⟨k, off, none⟩ : Addr).add (i * n)).off = off + i * n := by
      simp only [Addr.add]
      split
      · rename_i h0; simp [h0]
      · rfl
    rw [hblock, hh] at f1
    simp only [Option.some.injEq, Obj.cells.injEq] at f1
    obtain ⟨rfl, rfl, rfl⟩ := f1
    rw [hoff] at f4 f5
    refine ⟨x, by rw [hx.1]; exact f3, f4, fun j p v hp hv => ?_⟩
    have hj : j < n := by rw [← f3, ← hx.1]; exact (List.getElem?_eq_some_iff.1 hp).1
    rw [f5 j hj] at hv
    exact hx.2 j p v hp hv
  have hlist : ∀ j, j ≤ len → ∃ l : List X, l.length = j ∧ ∀ (i : Nat) x, l[i]? = some x → (cs x).length = n ∧ ∀ (j : Nat) p v, (cs x)[j]? = some p → c[off + i * n + j]? = some v → v.oneCell' = true ∧ Rel (rc w) true p v := by
    intro j
    induction j with
    | zero => intro _; exact ⟨[], rfl, fun i x hx => by simp at hx⟩
    | succ j ih =>
      intro hj
      obtain ⟨l, g1, g2⟩ := ih (by omega)
      obtain ⟨x, g3, g4, g5⟩ := hel j (by omega)
      refine ⟨l ++ [x], by simp [g1], fun i y hy => ?_⟩
      rw [List.getElem?_append] at hy
      split at hy
      · exact g2 i y hy
      · rename_i hi
        have : i = j := by
          have := (List.getElem?_eq_some_iff.1 hy).1
          simp at this; omega
        subst this
        rw [g1] at hy
        simp at hy
        subst hy
        exact ⟨g3, g5⟩
  obtain ⟨l, g1, g2⟩ := hlist len (Nat.le_refl _)
  refine ⟨⟨l, by omega⟩, .one rfl ?_⟩
  subst g1
  have hsz : off + l.length * n ≤ c.size := by
    by_cases hl : l.length = 0
    · rw [hl, Nat.zero_mul]
      obtain ⟨y, hy⟩ : ∃ y, rest[0]? = some y := ⟨_, List.getElem?_eq_getElem (by omega)⟩
      have := h6 0 (by omega)
      rw [hy, hl] at this
      obtain ⟨cs', f1, _⟩ := Option.bind_eq_some_iff.1 this
      simp only [Nat.add_zero, Nat.zero_mul, Addr.add, if_true] at f1
      obtain ⟨c', e'', fr', f2, f3, f4, f5, _⟩ := cells_get f1 hpos
      simp only [hh, Option.some.injEq, Obj.cells.injEq] at f2
      obtain ⟨rfl, _⟩ := f2
      have f5' : off + n ≤ c.size := f5
      omega
    · obtain ⟨x, _, f, _⟩ := hel (l.length - 1) (by omega)
      have : (l.length - 1) * n + n = l.length * n := by
        rw [← Nat.succ_mul]; congr 1; omega
      omega
  have hlen : l.length = (l.map pv).length := by simp
  have hk : k < w.heap.size := (Array.getElem?_eq_some_iff.1 hh).1
  have hgoal : Rel (rc w) true (.sl n (l.map pv)) (.slice (some ⟨k, off, none⟩) (l.map pv).length cap) → Rel (rc w) true (.sl n (l.map pv)) (.slice (some ⟨k, off, none⟩) l.length cap) := by rw [← hlen]; exact id
  refine hgoal ?_
  refine Rel.sl (c := rc w) k off cap c e' fr hk hh (by simpa using hsz) (by simpa using h1) ?_ ?_ ?_
  · intro i y hy
    simp only [List.getElem?_map, Option.map_eq_some_iff] at hy
    obtain ⟨x, hx, rfl⟩ := hy
    rw [hpv]; exact (g2 i x hx).1
  · intro i y j z v hy hz hv
    simp only [List.getElem?_map, Option.map_eq_some_iff] at hy
    obtain ⟨x, hx, rfl⟩ := hy
    rw [hpv] at hz
    exact ((g2 i x hx).2 j z v hz hv).1
  · intro i y j z v hy hz hv
    simp only [List.getElem?_map, Option.map_eq_some_iff] at hy
    obtain ⟨x, hx, rfl⟩ := hy
    rw [hpv] at hz
    exact ((g2 i x hx).2 j z v hz hv).2
end
end Pv
set_option linter.unusedSimpArgs false
set_option linter.unusedVariables false
namespace Pv
open Go Go.ChangeShapes Go.RowKit


def RdAll (P : Program) (ts : List TypeId) (X : Type) (pvs : X → List PV) : Prop :=
  ∀ (H : Type) (enc : TypeId × Value → H) (w : World) (base : Nat) (vs : List Value) (ds : List (DataW H)) (ps : List MemPlace), (∀ (j : Nat) t v, ts[j]? = some t → vs[j]? = some v → Value.okWide P w .any base t v) →
    DataW.TrodAll enc P w 0 (fun _ => true) true ts vs ds ps → ∃ a : X, RelL (rc w) (pvs a) vs

section
variable {P : Program} {t : TypeId} {ts : List TypeId} {X Y : Type} {qs : Y → List PV}

theorem RdAll.nil : RdAll P [] Unit fun _ => [] := by
  intro H enc w base vs ds ps _ h
  obtain ⟨rfl, _, _⟩ := trodAll_nil h
  exact ⟨(), .nil _⟩

theorem RdAll.agg {cs : X → List PV} (hr : Rd P t X cs) (ht : (∃ fs, P.underlying t = some (.struct fs)) ∨ ∃ n e, P.underlying t = some (.array n e)) (h : RdAll P ts Y qs) : RdAll P (t :: ts) (X × Y) fun p => .agg (cs p.1) :: qs p.2 := by
  intro H enc w base vs ds ps hval hA
  obtain ⟨v, vs', d, ds', p, q, rfl, rfl, _, hT, hR⟩ := trodAll_cons hA
  obtain ⟨b, hb⟩ := h H enc w base vs' ds' q (fun j t v h1 h2 => hval (j + 1) t v (by simpa using h1) (by simpa using h2)) hR
  have hv : ∃ cs, v = .agg cs := by
    have := hval 0 t v rfl rfl
    unfold Value.okWide at this
    rcases ht with ⟨fs, ht⟩ | ⟨n, e, ht⟩
    · rw [ht] at this; obtain ⟨cs, h, _⟩ := this; exact ⟨cs, h⟩
    · rw [ht] at this; obtain ⟨cs, h, _⟩ := this; exact ⟨cs, h⟩
  obtain ⟨arr, rfl⟩ := hv
  obtain ⟨fuel, hf⟩ := hT
  obtain ⟨a, ha⟩ := hr H enc w fuel _ _ hf
  refine ⟨(a, b), .cons (.agg (by simpa [Value.cells] using ha.1) fun i x v h1 h2 => (ha.2 i x v h1 (by simpa [Value.cells] using h2)).2.open) hb⟩

theorem RdAll.one {p : X → PV} (hr : Rd P t X fun a => [p a]) (ht : P.underlying t = some .bool ∨ P.underlying t = some .string ∨ (∃ k, P.underlying t = some (.int k)) ∨ ∃ e, P.underlying t = some (.slice e)) (h : RdAll P ts Y qs) :
    RdAll P (t :: ts) (X × Y) fun x => p x.1 :: qs x.2 := by
  intro H enc w base vs ds ps hval hA
  obtain ⟨v, vs', d, ds', p', q, rfl, rfl, _, hT, hR⟩ := trodAll_cons hA
  obtain ⟨b, hb⟩ := h H enc w base vs' ds' q (fun j t v h1 h2 => hval (j + 1) t v (by simpa using h1) (by simpa using h2)) hR
  have hv : v.cells = #[v] := by
    have := hval 0 t v rfl rfl
    cases v with
    | agg cs =>
      exfalso
      unfold Value.okWide at this
      rcases ht with ht | ht | ⟨k, ht⟩ | ⟨e, ht⟩ <;> simp [ht, Cell.okWide, Cell.ok] at this
    | _ => rfl
  obtain ⟨fuel, hf⟩ := hT
  rw [hv] at hf
  obtain ⟨a, ha⟩ := hr H enc w fuel _ _ hf
  exact ⟨(a, b), .cons (ha.2 0 _ v rfl rfl).2.open hb⟩

theorem RdAll.map {pvs : X → List PV} {rvs : Y → List PV} (h : RdAll P ts X pvs) (g : X → Y) (hg : ∀ x, rvs (g x) = pvs x) : RdAll P ts Y rvs := by
  intro H enc w base vs ds ps hval hA
  obtain ⟨a, ha⟩ := h H enc w base vs ds ps hval hA
  exact ⟨g a, by rw [hg]; exact ha⟩
end

theorem trodAll_stays {H : Type} {enc : TypeId × Value → H} {P : Program} (hl : laidOutB P = true) {W W' : World} {sp : Nat → Bool} : ∀ {ts : List TypeId} {vs : List Value} {ds : List (DataW H)} {ps : List MemPlace},
    ts.all (fun t => P.readableRec t && decide (t < P.types.size)) = true → DataW.TrodAll enc P W 0 (fun _ => true) true ts vs ds ps → (∀ p ∈ ps, W.sameAt W' p) → (∀ p ∈ ps, sp p.block = true) → DataW.TrodAll enc P W' 0 sp true ts vs ds ps
  | [], vs, ds, ps, _, h, _, _ => by obtain ⟨rfl, rfl, rfl⟩ := trodAll_nil h; exact trodAll_mk0
  | t :: ts, vs, ds, ps, ht, h, hs, hp => by
    obtain ⟨v, vs', d, ds', p, q, rfl, rfl, rfl, hT, hR⟩ := trodAll_cons h
    simp only [List.all_cons, Bool.and_eq_true, decide_eq_true_eq] at ht
    exact trodAll_cons_mk (WideElems.Trod_stays hl ht.1.1 ht.1.2 hT (fun x hx => hs x (by simp [hx])) (fun x hx => hp x (by simp [hx])))
      (trodAll_stays hl (by simpa using ht.2) hR (fun x hx => hs x (by simp [hx])) (fun x hx => hp x (by simp [hx])))

theorem trodAll_len {H : Type} {enc : TypeId × Value → H} {P : Program} {w : World} {base : Nat} {sp : Nat → Bool} {held : Bool} : ∀ {ts : List TypeId} {vs : List Value} {ds : List (DataW H)} {ps : List MemPlace}, DataW.TrodAll enc P w base sp held ts vs ds ps → ds.length = ts.length
  | [], vs, ds, ps, h => by obtain ⟨rfl, rfl, rfl⟩ := trodAll_nil h; rfl
  | t :: ts, vs, ds, ps, h => by
    obtain ⟨v, vs', d, ds', p, q, rfl, rfl, rfl, hT, hR⟩ := trodAll_cons h
    simp [trodAll_len hR]

theorem law_true {P : Program} {H : Type} {enc : TypeId × Value → H} {f : FuncId} {fn : Func} {s : ChangeSpec} {apart fresh handsOn again : Bool} {tb : TypeId} {X : Type} {pvs : X → List PV}
    (hl : laidOutB P = true) (hts : fn.params.toList.all (fun t => P.readableRec t && decide (t < P.types.size)) = true)
    (hrt : fn.resultTypes = #[tb]) (htb : P.underlying tb = some .bool) (hv : s.vars = [])
    (hs : ∀ ds : List (DataW H), ds.length = fn.params.size → s.fn H ds = { results := [.lit (.bool true)], args := ds })
    (hrd : RdAll P fn.params.toList X pvs) (hpf : ∀ x, PFun P f (pvs x) (.bool true))
    (W : World) (base : Nat) (args : Array Value) (ds gs : List (DataW H)) (before : List MemPlace)
    (hval : ∀ (j : Nat) t v, fn.params[j]? = some t → args[j]? = some v → Value.okWide P W .any base t v)
    (hW : DataW.Whole enc P fn.params.toList s.vars apart W args.toList ds gs before) :
    Calls P f args W fun e W' => ∃ v, e = .returned v ∧ s.post enc P fn apart fresh handsOn again W args v W' := by
  have hlt := hW.lt
  have hW' := hW
  obtain ⟨p, q, hA, hV, rfl, hfz, hnd⟩ := hW
  rw [hv] at hV
  obtain ⟨rfl, rfl⟩ := trodVars_none hV
  obtain ⟨x, hx⟩ := hrd H enc W base args.toList ds p (fun j t v h1 h2 => hval j t v (by simpa using h1) (by simpa using h2)) hA
  have hdl : ds.length = fn.params.size := by
    have := trodAll_len hA; simpa using this
  have hsp := hs ds hdl
  have hsim : Sim (rc W) (find []) := Sim.empty (c := rc W) (fun k => k < W.heap.size) (fun k hk => hk)
  have hcall := (hpf x).2 (rc W) args.toList hsim hx
  refine hcall.mono ?_
  rintro e W' ⟨r, v, c', H', rfl, rfl, rfl, _, hr, hext⟩
  obtain rfl := hr.bool_inv
  have hno : ∀ k, ¬ Owned (rc W) (find []) k := fun k ⟨b, x, hb, _⟩ => by cases hb
  have hbelow : Below W.heap.size W c'.w := ⟨hext.os, hext.tape, hext.output, hext.size, fun k hk => hext.old k hk (hno k)⟩
  refine ⟨_, rfl, ?_⟩
  have hsame : ∀ z ∈ p ++ [], W.sameAt c'.w z := fun z hz => hbelow.same (hlt z hz)
  have hargs : ∀ sp : Nat → Bool, (∀ z ∈ p ++ [], sp z.block = true) → DataW.TrodAll enc P c'.w 0 sp true fn.params.toList args.toList ds p :=
    fun sp hsp => trodAll_stays hl hts hA (fun z hz => hsame z (by simp [hz])) (fun z hz => hsp z (by simp [hz]))
  have hres : ∀ (b : Nat) (sp : Nat → Bool) (hd : Bool), DataW.TrodAll enc P c'.w b sp hd fn.resultTypes.toList ((Value.bool true).resultList fn.resultTypes.size) [.lit (.bool true)] [] := by
    intro b sp hd
    rw [hrt]
    exact trodAll_cons_mk (shut_bool htb true) trodAll_mk0
  have hold : ∀ z ∈ p ++ [], (fun b => decide (b < W.heap.size)) z.block = true := fun z hz => by simpa using hlt z hz
  have hok := ok_one (P := P) (W' := c'.w) (f := fn) (v := .bool true) hrt rfl (okWide_bool_mk htb true)
  refine ⟨ds, [], p ++ [], [], p, [], hW', ?_, ?_, ?_, ?_, fun _ => ?_⟩
  · simp only [List.append_nil, hsp]; exact hres _ _ _
  · simp only [List.append_nil, hsp]; exact hargs _ hold
  · simp only [List.append_nil, hsp, hv]; rfl
  · refine hbelow.frame _
  · refine ⟨hok, [.lit (.bool true)] ++ ds, [], ([] ++ p) ++ [], ⟨[] ++ p, [], trodAll_append (hargs _ (fun _ _ => rfl)) (hres _ _ _), by rw [hv]; rfl, rfl, ?_, ?_⟩, ?_⟩
    · intro b off hp
      rw [hbelow.frozen (p := ⟨b, off, none⟩) (hlt (.cell b off) (by simpa using hp))]
      exact hfz b off (by simpa using hp)
    · intro ha
      simpa using hnd ha
    · intro z hz _
      simpa using hz
theorem u8_cs (n : { n : Int // (Lit.int .u8 n).wf = true }) : [PV.int .u8 (UInt8.ofNat n.1.toNat).toNat] = [.int .u8 n.1] := by
  obtain ⟨n, hn⟩ := n
  have h : 0 ≤ n ∧ n ≤ 255 := by simpa [Lit.wf, IntKind.min, IntKind.max, IntKind.signed, IntKind.bits] using hn
  have h3 : (UInt8.ofNat n.toNat).toNat = n.toNat := by simp [UInt8.toNat_ofNat']; omega
  simp only [h3, Int.toNat_of_nonneg h.1]
theorem pvB_of (x : Vector UInt8 16) : pvB x = x.toList.flatMap fun b => [PV.int .u8 b.toNat] := by
  simp only [pvB, pvBy]
  induction x.toList with
  | nil => rfl
  | cons a t ih => simp [ih]
theorem two_of (x : Vector NId 2) : twoCs x[0] x[1] = x.toList.flatMap NId.cs := by
  obtain ⟨⟨l⟩, h⟩ := x
  match l, h with
  | [a, b], _ => simp [twoCs]

end Pv
set_option linter.unusedSimpArgs false
set_option linter.unusedVariables false
namespace Pv
open Go


structure Rn where
  ρ : Nat → Nat
  δ : Nat → Nat
  σ : Nat → Option Nat
  l : ∀ k, σ (ρ k) = some k
  r : ∀ b k, σ b = some k → ρ k = b

mutual
def PV.ren (R : Rn) : PV → PV
  | .ptr b g s i o => .ptr (R.ρ b) (g + R.δ b) s i o
  | .bsl b g s i n => .bsl (R.ρ b) (g + R.δ b) s i n
  | .map b g => .map (R.ρ b) (g + R.δ b)
  | .agg cs => .agg (renL R cs)
  | .tup cs => .tup (renL R cs)
  | .clo f xs ys => .clo f (renL R xs) (renL R ys)
  | .ifc t x => .ifc t (PV.ren R x)
  | .any => .any
  | .bool b => .bool b
  | .ub => .ub
  | .int k n => .int k n
  | .str s => .str s
  | .addr a => .addr a
  | .nilp => .nilp
  | .ept s xs i o => .ept s xs i o
  | .sl s xs => .sl s xs
  | .nils => .nils
  | .nilf => .nilf
  | .nili => .nili
  | .nilm => .nilm
def renL (R : Rn) : List PV → List PV
  | [] => []
  | x :: t => PV.ren R x :: renL R t
end

theorem renL_eq (R : Rn) : ∀ l : List PV, renL R l = l.map (PV.ren R)
  | [] => rfl
  | x :: t => by simp [renL, renL_eq R t]

section
variable {R : Rn} {c c' : Cx}

structure Rn.Push (R : Rn) (c c' : Cx) : Prop where
  w : c'.w = c.w
  A : c'.A = c.A
  b : ∀ b cur, c.γ b = some cur → c'.γ (R.ρ b) = some (cur + R.δ b) ∧ c'.β (R.ρ b) = c.β b
  back : ∀ b cur', c'.γ (R.ρ b) = some cur' → ∃ cur, cur' = cur + R.δ b ∧ c.γ b = some cur

theorem Rel.push (h : R.Push c c') {cl : Bool} {p : PV} {v : Value} (hr : Rel c cl p v) : Rel c' cl (p.ren R) v := by
  have himm : ∀ k, c.A k → c'.A k ∧ c'.w.heap[k]? = c.w.heap[k]? := fun k hk => ⟨by rw [h.A]; exact hk, by rw [h.w]⟩
  induction hr with
  | any v => exact .any v
  | bool b => exact .bool b
  | ub b => exact .ub b
  | int k n => exact .int k n
  | str s => exact .str s
  | agg hl _ ih =>
    simp only [PV.ren, renL_eq]
    refine .agg (by simpa using hl) fun i x v h1 h2 => ?_
    simp only [List.getElem?_map, Option.map_eq_some_iff] at h1
    obtain ⟨y, h1, rfl⟩ := h1
    exact ih i y v h1 h2
  | tup hl _ ih =>
    simp only [PV.ren, renL_eq]
    refine .tup (by simpa using hl) fun i x v h1 h2 => ?_
    simp only [List.getElem?_map, Option.map_eq_some_iff] at h1
    obtain ⟨y, h1, rfl⟩ := h1
    exact ih i y v h1 h2
  | ptr cur h1c hc hg hv =>
    obtain ⟨e1, e2⟩ := h.b _ cur hc
    refine .ptr (cur + R.δ _) h1c e1 (by omega) fun he => ?_
    obtain ⟨k, h4, h5⟩ := hv (by omega)
    exact ⟨k, e2.trans h4, h5⟩
  | addr a => exact .addr a
  | nilp => exact .nilp
  | slnil s a => exact .slnil s a
  | sl k off cap cells e fr hA hh hsz hcap hs h1 h2 _ =>
    exact .sl k off cap cells e fr (himm k hA).1 ((himm k hA).2.trans hh) hsz hcap hs h1 fun i x j y v a b d => (h2 i x j y v a b d).closed himm rfl true
  | ept i o k off cells e fr hA hh hsz hs h1 h2 _ =>
    exact .ept i o k off cells e fr (himm k hA).1 ((himm k hA).2.trans hh) hsz hs h1 fun i x j y v a b d => (h2 i x j y v a b d).closed himm rfl true
  | bsl cur h1c hc hg hv =>
    obtain ⟨e1, e2⟩ := h.b _ cur hc
    refine .bsl (cur + R.δ _) h1c e1 (by omega) fun he => ?_
    rcases hv (by omega) with ⟨k, cells, e, fr, cap, h4, h5, h6, h7, h8⟩ | hn
    · exact .inl ⟨k, cells, e, fr, cap, e2.trans h4, by rw [h.w]; exact h5, h6, h7, h8⟩
    · exact .inr hn
  | nils => exact .nils
  | clo h1 _ h2 _ ih1 ih2 =>
    simp only [PV.ren, renL_eq]
    refine .clo (by simpa using h1) (fun i x v a b => ?_) (by simpa using h2) (fun i x v a b => ?_)
    · simp only [List.getElem?_map, Option.map_eq_some_iff] at a
      obtain ⟨y, a, rfl⟩ := a
      exact ih1 i y v a b
    · simp only [List.getElem?_map, Option.map_eq_some_iff] at a
      obtain ⟨y, a, rfl⟩ := a
      exact ih2 i y v a b
  | nilf => exact .nilf
  | ifc _ ih => exact .ifc ih
  | nili => exact .nili
  | map cur h1c hc hg hv =>
    obtain ⟨e1, e2⟩ := h.b _ cur hc
    refine .map (cur + R.δ _) h1c e1 (by omega) fun he => ?_
    obtain ⟨k, h4, h5⟩ := hv (by omega)
    exact ⟨k, e2.trans h4, h5⟩
  | nilm => exact .nilm

theorem Rel.pull (h : R.Push c c') {cl : Bool} {q : PV} {v : Value} (hr : Rel c' cl q v) : ∀ p : PV, q = p.ren R → Rel c cl p v := by
  have himm : ∀ k, c'.A k → c.A k ∧ c.w.heap[k]? = c'.w.heap[k]? := fun k hk => ⟨by rw [← h.A]; exact hk, by rw [h.w]⟩
  induction hr with
  | any v => intro p hp; cases p <;> simp [PV.ren] at hp; exact .any v
  | bool b => intro p hp; cases p <;> simp [PV.ren] at hp; subst hp; exact .bool b
  | ub b => intro p hp; cases p <;> simp [PV.ren] at hp; exact .ub b
  | int k n => intro p hp; cases p <;> simp [PV.ren] at hp; obtain ⟨rfl, rfl⟩ := hp; exact .int k n
  | str s => intro p hp; cases p <;> simp [PV.ren] at hp; subst hp; exact .str s
  | agg hl _ ih =>
    intro p hp; cases p <;> simp [PV.ren] at hp
    rw [renL_eq] at hp
    subst hp
    refine .agg (by simpa using hl) fun i x v h1 h2 => ih i (x.ren R) v (by simp [h1]) h2 x rfl
  | tup hl _ ih =>
    intro p hp; cases p <;> simp [PV.ren] at hp
    rw [renL_eq] at hp
    subst hp
    refine .tup (by simpa using hl) fun i x v h1 h2 => ih i (x.ren R) v (by simp [h1]) h2 x rfl
  | ptr cur h1c hc hg hv =>
    intro p hp; cases p <;> simp [PV.ren] at hp
    rename_i b g s i o
    obtain ⟨rfl, rfl, rfl, rfl, rfl⟩ := hp
    obtain ⟨cur0, rfl, hc0⟩ := h.back _ _ hc
    refine .ptr cur0 h1c hc0 (by omega) fun he => ?_
    obtain ⟨k, h4, h5⟩ := hv (by omega)
    exact ⟨k, (h.b _ _ hc0).2.symm.trans h4, h5⟩
  | addr a => intro p hp; cases p <;> simp [PV.ren] at hp; subst hp; exact .addr a
  | nilp => intro p hp; cases p <;> simp [PV.ren] at hp; exact .nilp
  | slnil s a => intro p hp; cases p <;> simp [PV.ren] at hp; obtain ⟨rfl, rfl⟩ := hp; exact .slnil _ a
  | sl k off cap cells e fr hA hh hsz hcap hs h1 h2 _ =>
    intro p hp; cases p <;> simp [PV.ren] at hp
    obtain ⟨rfl, rfl⟩ := hp
    exact .sl k off cap cells e fr (himm k hA).1 ((himm k hA).2.trans hh) hsz hcap hs h1 fun i x j y v a b d => (h2 i x j y v a b d).closed himm rfl true
  | ept i o k off cells e fr hA hh hsz hs h1 h2 _ =>
    intro p hp; cases p <;> simp [PV.ren] at hp
    obtain ⟨rfl, rfl, rfl, rfl⟩ := hp
    exact .ept _ _ k off cells e fr (himm k hA).1 ((himm k hA).2.trans hh) hsz hs h1 fun i x j y v a b d => (h2 i x j y v a b d).closed himm rfl true
  | bsl cur h1c hc hg hv =>
    intro p hp; cases p <;> simp [PV.ren] at hp
    obtain ⟨rfl, rfl, rfl, rfl, rfl⟩ := hp
    obtain ⟨cur0, rfl, hc0⟩ := h.back _ _ hc
    refine .bsl cur0 h1c hc0 (by omega) fun he => ?_
    rcases hv (by omega) with ⟨k, cells, e, fr, cap, h4, h5, h6, h7, h8⟩ | hn
    · exact .inl ⟨k, cells, e, fr, cap, (h.b _ _ hc0).2.symm.trans h4, by rw [← h.w]; exact h5, h6, h7, h8⟩
    · exact .inr hn
  | nils => intro p hp; cases p <;> simp [PV.ren] at hp; exact .nils
  | clo h1 _ h2 _ ih1 ih2 =>
    intro p hp; cases p <;> simp [PV.ren] at hp
    obtain ⟨rfl, h3, h4⟩ := hp
    rw [renL_eq] at h3 h4
    subst h3; subst h4
    exact .clo (by simpa using h1) (fun i x v a b => ih1 i (x.ren R) v (by simp [a]) b x rfl) (by simpa using h2) (fun i x v a b => ih2 i (x.ren R) v (by simp [a]) b x rfl)
  | nilf => intro p hp; cases p <;> simp [PV.ren] at hp; exact .nilf
  | ifc _ ih => intro p hp; cases p <;> simp [PV.ren] at hp; obtain ⟨rfl, h3⟩ := hp; exact .ifc (ih _ h3)
  | nili => intro p hp; cases p <;> simp [PV.ren] at hp; exact .nili
  | map cur h1c hc hg hv =>
    intro p hp; cases p <;> simp [PV.ren] at hp
    obtain ⟨rfl, rfl⟩ := hp
    obtain ⟨cur0, rfl, hc0⟩ := h.back _ _ hc
    refine .map cur0 h1c hc0 (by omega) fun he => ?_
    obtain ⟨k, h4, h5⟩ := hv (by omega)
    exact ⟨k, (h.b _ _ hc0).2.symm.trans h4, h5⟩
  | nilm => intro p hp; cases p <;> simp [PV.ren] at hp; exact .nilm

theorem ren_cells (R : Rn) (x : PV) : (x.ren R).cells = x.cells.map (PV.ren R) := by
  cases x <;> simp [PV.ren, PV.cells, renL_eq]

def Body.ren (R : Rn) : Body → Body
  | .dead => .dead
  | .arr s xs => .arr s (xs.map (PV.ren R))
  | .map es => .map (es.map fun e => (e.1, e.2.ren R))

def Box.ren (R : Rn) (k : Nat) (x : Box) : Box := ⟨x.gen + R.δ k, x.own, x.body.ren R⟩

def FH.ren (R : Rn) (H : FH) : FH := fun b => (R.σ b).bind fun k => (H k).map (Box.ren R k)

theorem FH.ren_at (H : FH) (k : Nat) : FH.ren R H (R.ρ k) = (H k).map (Box.ren R k) := by simp [FH.ren, R.l]
theorem FH.ren_inv {H : FH} {b : Nat} {y : Box} (h : FH.ren R H b = some y) : ∃ k x, R.ρ k = b ∧ H k = some x ∧ y = x.ren R k := by
  simp only [FH.ren, Option.bind_eq_some_iff, Option.map_eq_some_iff] at h
  obtain ⟨k, h1, x, h2, rfl⟩ := h
  exact ⟨k, x, R.r b k h1, h2, rfl⟩

theorem Box.ren_live (k : Nat) (x : Box) : (x.ren R k).live = x.live := by
  obtain ⟨g, o, b⟩ := x
  cases b <;> rfl

theorem RowRel.push (h : R.Push c c') {own : Bool} {s : Nat} {xs : List PV} {k : Nat} (hr : RowRel c own s xs k) : RowRel c' own s (xs.map (PV.ren R)) k := by
  obtain ⟨cells, e, fr, f1, f2, f3, f4, f5⟩ := hr.ex
  refine ⟨cells, e, fr, by rw [h.w]; exact f1, f2, by simpa using f3, fun i x hx => ?_, fun i x j y v hx hy hv => ?_⟩
  · simp only [List.getElem?_map, Option.map_eq_some_iff] at hx
    obtain ⟨z, hz, rfl⟩ := hx
    rw [ren_cells, List.length_map]; exact f4 i z hz
  · simp only [List.getElem?_map, Option.map_eq_some_iff] at hx
    obtain ⟨z, hz, rfl⟩ := hx
    rw [ren_cells] at hy
    simp only [List.getElem?_map, Option.map_eq_some_iff] at hy
    obtain ⟨q, hq, rfl⟩ := hy
    obtain ⟨g1, g2⟩ := f5 i z j q v hz hq hv
    exact ⟨g1, g2.push h⟩
theorem RowRel.pull (h : R.Push c c') {own : Bool} {s : Nat} {xs : List PV} {k : Nat} (hr : RowRel c' own s (xs.map (PV.ren R)) k) : RowRel c own s xs k := by
  obtain ⟨cells, e, fr, f1, f2, f3, f4, f5⟩ := hr.ex
  refine ⟨cells, e, fr, by rw [← h.w]; exact f1, f2, by simpa using f3, fun i x hx => ?_, fun i x j y v hx hy hv => ?_⟩
  · have := f4 i (x.ren R) (by simp [hx])
    rwa [ren_cells, List.length_map] at this
  · obtain ⟨g1, g2⟩ := f5 i (x.ren R) j (y.ren R) v (by simp [hx]) (by rw [ren_cells]; simp [hy]) hv
    exact ⟨g1, g2.pull h _ rfl⟩
theorem MapRel.push (h : R.Push c c') {es : List (PV × PV)} {k : Nat} (hr : MapRel c es k) : MapRel c' (es.map fun e => (e.1, e.2.ren R)) k := by
  have himm : ∀ k, c.A k → c'.A k ∧ c'.w.heap[k]? = c.w.heap[k]? := fun k hk => ⟨by rw [h.A]; exact hk, by rw [h.w]⟩
  obtain ⟨ms, clock, f1, f2, f3, f4⟩ := hr.ex
  refine ⟨ms, clock, by rw [h.w]; exact f1, by simpa using f2, f3, fun i e m he hm => ?_⟩
  simp only [List.getElem?_map, Option.map_eq_some_iff] at he
  obtain ⟨z, hz, rfl⟩ := he
  obtain ⟨g1, g2⟩ := f4 i z m hz hm
  exact ⟨g1.closed himm rfl true, g2.push h⟩
theorem MapRel.pull (h : R.Push c c') {es : List (PV × PV)} {k : Nat} (hr : MapRel c' (es.map fun e => (e.1, e.2.ren R)) k) : MapRel c es k := by
  have himm : ∀ k, c'.A k → c.A k ∧ c.w.heap[k]? = c'.w.heap[k]? := fun k hk => ⟨by rw [← h.A]; exact hk, by rw [h.w]⟩
  obtain ⟨ms, clock, f1, f2, f3, f4⟩ := hr.ex
  refine ⟨ms, clock, by rw [← h.w]; exact f1, by simpa using f2, f3, fun i e m he hm => ?_⟩
  obtain ⟨g1, g2⟩ := f4 i (e.1, e.2.ren R) m (by simp [he]) hm
  exact ⟨g1.closed himm rfl true, g2.pull h _ rfl⟩

theorem BoxRel.push (h : R.Push c c') (hβ : ∀ b, c'.β (R.ρ b) = c.β b) {b : Nat} {x : Box} (hr : BoxRel c b x) : BoxRel c' (R.ρ b) (x.ren R b) := by
  obtain ⟨g, o, body⟩ := x
  cases body with
  | dead => trivial
  | arr s xs =>
    simp only [BoxRel, Box.ren, Body.ren] at hr ⊢
    rcases hr with ⟨k, h1, h2⟩ | ⟨rfl, h2⟩
    · exact .inl ⟨k, (hβ b).trans h1, h2.push h⟩
    · exact .inr ⟨rfl, (hβ b).trans h2⟩
  | map es =>
    simp only [BoxRel, Box.ren, Body.ren] at hr ⊢
    obtain ⟨k, h1, h2⟩ := hr
    exact ⟨k, (hβ b).trans h1, h2.push h⟩
theorem BoxRel.pull (h : R.Push c c') (hβ : ∀ b, c'.β (R.ρ b) = c.β b) {b : Nat} {x : Box} (hr : BoxRel c' (R.ρ b) (x.ren R b)) : BoxRel c b x := by
  obtain ⟨g, o, body⟩ := x
  cases body with
  | dead => trivial
  | arr s xs =>
    simp only [BoxRel, Box.ren, Body.ren] at hr ⊢
    rcases hr with ⟨k, h1, h2⟩ | ⟨h1, h2⟩
    · exact .inl ⟨k, (hβ b).symm.trans h1, h2.pull h⟩
    · exact .inr ⟨by simpa using h1, (hβ b).symm.trans h2⟩
  | map es =>
    simp only [BoxRel, Box.ren, Body.ren] at hr ⊢
    obtain ⟨k, h1, h2⟩ := hr
    exact ⟨k, (hβ b).symm.trans h1, h2.pull h⟩

theorem PCall.ren {P : Program} {f : FuncId} {args : List PV} {H : FH} {Q : PV → FH → Prop} (hp : PCall P f args H Q) (R : Rn) :
    PCall P f (args.map (PV.ren R)) (FH.ren R H) fun q H' => ∃ r H1, Q r H1 ∧ q = r.ren R ∧ H' = FH.ren R H1 := by
  intro c' vs hs ha
  let c : Cx := ⟨c'.w, c'.A, fun k => c'.β (R.ρ k), fun k => (H k).map Box.gen⟩
  have hpush : R.Push c c' := by
    refine ⟨rfl, rfl, fun b cur hb => ⟨?_, rfl⟩, fun b cur' hb => ?_⟩
    · rw [hs.gam, FH.ren_at]
      cases hh : H b with
      | none => simp [c, hh] at hb
      | some x => simp [c, hh] at hb; subst hb; rfl
    · rw [hs.gam, FH.ren_at] at hb
      cases hh : H b with
      | none => simp [hh] at hb
      | some x => simp [hh, Box.ren] at hb; exact ⟨x.gen, hb.symm, by simp [c, hh]⟩
  have hat : ∀ b x, H b = some x → FH.ren R H (R.ρ b) = some (x.ren R b) := fun b x hb => by rw [FH.ren_at, hb]; rfl
  have hρ : ∀ a b, R.ρ a = R.ρ b → a = b := fun a b h => by
    have h1 := R.l a
    rw [h, R.l b] at h1
    exact (Option.some.inj h1).symm
  have hsc : Sim c H := by
    refine ⟨fun _ => rfl, fun b x hb => (hs.box _ _ (hat b x hb)).pull hpush (fun _ => rfl), fun b b' x x' k h1 h2 h3 h4 h5 h6 h7 h8 => ?_, fun b x k h1 h2 h3 h4 => ?_, fun b x k h1 h2 h3 h4 => ?_, hs.bnd, fun b x h1 h2 => ?_⟩
    · exact hs.inj _ _ _ _ k (hat b x h1) (hat b' x' h2) h3 (by rw [Box.ren_live]; exact h4) (by rw [Box.ren_live]; exact h5) (fun e => h6 (hρ _ _ e)) h7 h8
    · exact hs.sep _ _ k (hat b x h1) h2 (by rw [Box.ren_live]; exact h3) h4
    · exact hs.frz _ _ k (hat b x h1) h2 (by rw [Box.ren_live]; exact h3) h4
    · exact hs.ded _ _ (hat b x h1) (by rw [Box.ren_live]; exact h2)
  have hac : RelL c args vs := ⟨by simpa using ha.1, fun i p v h1 h2 => (ha.2 i (p.ren R) v (by simp [h1]) h2).pull hpush _ rfl⟩
  refine (hp c vs hsc hac).mono ?_
  rintro e w' ⟨r, v, c1, H1, rfl, rfl, hQ, h1, hr, hx⟩
  let c2 : Cx := ⟨c1.w, c1.A, fun b => (R.σ b).bind c1.β, fun b => (FH.ren R H1 b).map Box.gen⟩
  have hβ2 : ∀ b, c2.β (R.ρ b) = c1.β b := fun b => by simp [c2, R.l]
  have hpush2 : R.Push c1 c2 := by
    refine ⟨rfl, rfl, fun b cur hb => ⟨?_, hβ2 b⟩, fun b cur' hb => ?_⟩
    · simp only [c2]
      rw [FH.ren_at]
      rw [h1.gam] at hb
      cases hh : H1 b with
      | none => simp [hh] at hb
      | some x => simp [hh] at hb; subst hb; rfl
    · simp only [c2] at hb
      rw [FH.ren_at] at hb
      cases hh : H1 b with
      | none => simp [hh] at hb
      | some x => simp [hh, Box.ren] at hb; exact ⟨x.gen, hb.symm, by rw [h1.gam, hh]; rfl⟩
  have hs2 : Sim c2 (FH.ren R H1) := by
    refine ⟨fun _ => rfl, fun b y hb => ?_, fun b b' y y' k e1 e2 e3 e4 e5 e6 e7 e8 => ?_, fun b y k e1 e2 e3 e4 => ?_, fun b y k e1 e2 e3 e4 => ?_, h1.bnd, fun b y e1 e2 => ?_⟩
    · obtain ⟨k, x, rfl, hx, rfl⟩ := FH.ren_inv hb
      exact (h1.box k x hx).push hpush2 hβ2
    · obtain ⟨a, x, rfl, hx, rfl⟩ := FH.ren_inv e1
      obtain ⟨a', x', rfl, hx', rfl⟩ := FH.ren_inv e2
      rw [hβ2] at e7 e8
      rw [Box.ren_live] at e4 e5
      exact h1.inj a a' x x' k hx hx' e3 e4 e5 (fun e => e6 (by rw [e])) e7 e8
    · obtain ⟨a, x, rfl, hx, rfl⟩ := FH.ren_inv e1
      rw [hβ2] at e4; rw [Box.ren_live] at e3
      exact h1.sep a x k hx e2 e3 e4
    · obtain ⟨a, x, rfl, hx, rfl⟩ := FH.ren_inv e1
      rw [hβ2] at e4; rw [Box.ren_live] at e3
      exact h1.frz a x k hx e2 e3 e4
    · obtain ⟨a, x, rfl, hx, rfl⟩ := FH.ren_inv e1
      rw [Box.ren_live] at e2
      rw [hβ2]; exact h1.ded a x hx e2
  have hown : ∀ k, Owned c H k ↔ Owned c' (FH.ren R H) k := by
    intro k
    constructor
    · rintro ⟨b, x, e1, e2, e3, e4⟩
      exact ⟨R.ρ b, _, hat b x e1, e2, by rw [Box.ren_live]; exact e3, e4⟩
    · rintro ⟨b, y, e1, e2, e3, e4⟩
      obtain ⟨a, x, rfl, hx, rfl⟩ := FH.ren_inv e1
      rw [Box.ren_live] at e3
      exact ⟨a, x, hx, e2, e3, e4⟩
  have hown2 : ∀ k, Owned c2 (FH.ren R H1) k → Owned c1 H1 k := by
    rintro k ⟨b, y, e1, e2, e3, e4⟩
    obtain ⟨a, x, rfl, hx, rfl⟩ := FH.ren_inv e1
    rw [Box.ren_live] at e3
    rw [hβ2] at e4
    exact ⟨a, x, hx, e2, e3, e4⟩
  refine ⟨r.ren R, v, c2, FH.ren R H1, rfl, rfl, ⟨r, H1, hQ, rfl, rfl⟩, hs2, hr.push hpush2, ?_⟩
  refine ⟨⟨fun k hk => hx.le.imm k hk, fun b cur hb => ?_⟩, hx.os, hx.tape, hx.output, hx.size, fun k hk ho => hx.old k hk (fun h => ho ((hown k).1 h)), fun k hk => ?_, fun k hk => ?_⟩
  · rw [hs.gam, Option.map_eq_some_iff] at hb
    obtain ⟨y, hy, rfl⟩ := hb
    obtain ⟨a, x, rfl, hxa, rfl⟩ := FH.ren_inv hy
    obtain ⟨cur1, g1, g2, g3⟩ := hx.le.box a x.gen (by simp [c, hxa])
    refine ⟨cur1 + R.δ a, (hpush2.b a cur1 g1).1, by simp [Box.ren]; exact g2, fun he => ?_⟩
    simp only [Box.ren, Nat.add_right_cancel_iff] at he
    obtain ⟨g4, g5⟩ := g3 he
    exact ⟨by rw [hβ2]; exact g4, fun k cells e fr hk hh => g5 k cells e fr hk hh⟩
  · rcases hx.imm k hk with h2 | h2 | h2
    · exact .inl h2
    · exact .inr (.inl h2)
    · exact .inr (.inr ((hown k).1 h2))
  · rcases hx.own k (hown2 k hk) with h2 | h2
    · exact .inl h2
    · exact .inr ((hown k).1 h2)
end
end Pv
set_option linter.unusedSimpArgs false
set_option linter.unusedVariables false
namespace Pv
open Go

def PBox (P : Program) (f : FuncId) (args : List PV) (H0 : Heap) (r : PV) (H1 : Heap) : Prop := PCall P f args (find H0) fun q H => q = r ∧ H = find H1

def rnOf (ts gs : List Nat) (s : Nat) (hnd : ts.Nodup) (hlt : ∀ t ∈ ts, t < s) : Rn where
  ρ k := if k < ts.length then ts.getD k 0 else s + k
  δ k := gs.getD k 0
  σ b := if s ≤ b then (if ts.length ≤ b - s then some (b - s) else none) else ts.idxOf? b
  l k := by
    by_cases hk : k < ts.length
    · have hm : ts[k] ∈ ts := List.getElem_mem hk
      have := hlt _ hm
      simp only [hk, if_true, List.getD_eq_getElem?_getD, List.getElem?_eq_getElem hk, Option.getD_some, Nat.not_le.2 this, if_false]
      rw [List.idxOf?, List.findIdx?_eq_some_iff_getElem]
      refine ⟨hk, by simp, fun j hj => ?_⟩
      simp only [beq_iff_eq]
      intro he
      have := (List.nodup_iff_pairwise_ne.1 hnd)
      have := List.pairwise_iff_getElem.1 this j k (by omega) hk hj
      exact this he
    · simp only [hk, if_false, Nat.le_add_right, if_true, Nat.add_sub_cancel_left]
      rw [if_pos (by omega)]
  r b k h := by
    split at h
    · rename_i hs
      split at h
      · rename_i hl
        simp only [Option.some.injEq] at h
        subst h
        rw [if_neg (by omega)]; omega
      · cases h
    · rw [List.idxOf?, List.findIdx?_eq_some_iff_getElem] at h
      obtain ⟨hk, h1, _⟩ := h
      simp only [beq_iff_eq] at h1
      simp only [hk, if_true, List.getD_eq_getElem?_getD, List.getElem?_eq_getElem hk, Option.getD_some, h1]

theorem find_mem {H : Heap} {b : Nat} {x : Box} (h : find H b = some x) : (b, x) ∈ H := by
  induction H with
  | nil => simp [find] at h
  | cons p t ih =>
    obtain ⟨k, y⟩ := p
    simp only [find] at h
    by_cases hk : k = b
    · rw [if_pos hk] at h; cases h; subst hk; simp
    · rw [if_neg hk] at h; simp [ih h]

mutual
theorem ren_within (R : Rn) (S S' : Nat → Bool) (hS : ∀ b, S b = true → S' (R.ρ b) = true) : ∀ p : PV, p.within S = true → (p.ren R).within S' = true
  | .ptr b _ _ _ _, h => hS b h
  | .bsl b _ _ _ _, h => hS b h
  | .map b _, h => hS b h
  | .agg cs, h => ren_withinL R S S' hS cs h
  | .tup cs, h => ren_withinL R S S' hS cs h
  | .clo f xs ys, h => by
    simp only [PV.within, Bool.and_eq_true] at h
    simp only [PV.ren, PV.within, Bool.and_eq_true]
    exact ⟨ren_withinL R S S' hS xs h.1, ren_withinL R S S' hS ys h.2⟩
  | .ifc t x, h => ren_within R S S' hS x h
  | .any, _ | .bool _, _ | .ub, _ | .int _ _, _ | .str _, _ | .addr _, _ | .nilp, _ | .ept _ _ _ _, _ | .sl _ _, _ | .nils, _ | .nilf, _ | .nili, _ | .nilm, _ => rfl
theorem ren_withinL (R : Rn) (S S' : Nat → Bool) (hS : ∀ b, S b = true → S' (R.ρ b) = true) : ∀ l : List PV, PV.within.go S l = true → PV.within.go S' (renL R l) = true
  | [], _ => rfl
  | x :: t, h => by
    simp only [PV.within.go, Bool.and_eq_true] at h
    simp only [renL, PV.within.go, Bool.and_eq_true]
    exact ⟨ren_within R S S' hS x h.1, ren_withinL R S S' hS t h.2⟩
end

def part' (R : Rn) (H : Heap) : List (Nat × Box) := H.reverse.map fun e => (R.ρ e.1, e.2.ren R e.1)

theorem upd_append (H : FH) : ∀ (l m : List (Nat × Box)), upd H (l ++ m) = upd (upd H l) m
  | [], m => rfl
  | (k, x) :: l, m => by simp only [List.cons_append, upd]; rw [upd_append]

theorem upd_part' (R : Rn) : ∀ (H1 : Heap) (H : FH) (b : Nat), upd H (part' R H1) b = (FH.ren R (find H1) b).or (H b)
  | [], H, b => by simp [part', upd, FH.ren, find]
  | (k, x) :: t, H, b => by
    have ih := upd_part' R t H b
    simp only [part', List.reverse_cons, List.map_append, List.map_cons, List.map_nil] at ih ⊢
    rw [upd_append]
    simp only [upd]
    by_cases hb : b = R.ρ k
    · subst hb
      simp [FH.ren_at, find]
    · rw [if_neg hb, ih]
      congr 1
      simp only [FH.ren]
      cases hs : R.σ b with
      | none => rfl
      | some k' =>
        have hk : ¬ k = k' := fun e => hb (by rw [e, R.r b k' hs])
        simp [find, hk]

theorem call_box {P : Program} {f : FuncId} {args args0 : List PV} {H0 H1 : Heap} {r : PV} (h : PBox P f args0 H0 r H1) (he : Enters P f) (R : Rn) {Hc : FH} (ha : args = args0.map (PV.ren R))
    (hin : (args0.all fun a => a.within fun b => (find H0 b).isSome) = true) (hbox : ((keys H0).all fun k => match find H0 k with | some x => x.body.withinB (fun b => (find H0 b).isSome) | none => true) = true)
    (hat : ∀ e ∈ H0, Hc (R.ρ e.1) = (find H0 e.1).map (Box.ren R e.1)) (hfresh : ∀ e ∈ H1, (find H0 e.1).isSome = true ∨ Hc (R.ρ e.1) = none) :
    CallSem P f args Hc { v := r.ren R, rd := (keys H0 ++ keys H1).map R.ρ, wr := part' R H1 } := by
  intro H2 hag
  subst ha
  refine PInv.of_call he ?_
  have hag0 : ∀ k, k ∈ keys H0 → H2 (R.ρ k) = Hc (R.ρ k) := fun k hk => hag _ (List.mem_map.2 ⟨k, by simp [hk], rfl⟩)
  have hag1 : ∀ k, k ∈ keys H1 → H2 (R.ρ k) = Hc (R.ρ k) := fun k hk => hag _ (List.mem_map.2 ⟨k, by simp [hk], rfl⟩)
  have hsub : ∀ b x, FH.ren R (find H0) b = some x → H2 b = some x := by
    intro b y hb
    obtain ⟨k, x, rfl, hx, rfl⟩ := FH.ren_inv hb
    rw [hag0 k (keys_find hx), hat _ (find_mem hx), hx]; rfl
  have hsome : ∀ b, (find H0 b).isSome = true → (FH.ren R (find H0) (R.ρ b)).isSome = true := fun b hb => by
    rw [FH.ren_at]; simpa using hb
  refine ((h.ren R).frame H2 hsub ?_ ?_ ?_).mono ?_
  · intro a ha
    obtain ⟨p, hp, rfl⟩ := List.mem_map.1 ha
    exact ren_within R _ _ hsome p (List.all_eq_true.1 hin p hp)
  · intro b y hb
    obtain ⟨k, x, rfl, hx, rfl⟩ := FH.ren_inv hb
    have := List.all_eq_true.1 hbox k (keys_find hx)
    simp only [hx] at this
    have hw := Body.withinB_iff this
    obtain ⟨g, o, body⟩ := x
    cases body with
    | dead => trivial
    | arr s xs =>
      intro z hz
      simp only [Box.ren, Body.ren, List.mem_map] at hz
      obtain ⟨q, hq, rfl⟩ := hz
      exact ren_within R _ _ hsome q (hw q hq)
    | map es =>
      intro z hz
      simp only [Box.ren, Body.ren, List.mem_map] at hz
      obtain ⟨q, hq, rfl⟩ := hz
      exact ren_within R _ _ hsome _ (hw q hq)
  · rintro q H' ⟨r0, H1', ⟨rfl, rfl⟩, rfl, rfl⟩ b hb
    obtain ⟨y, hy⟩ := Option.isSome_iff_exists.1 hb
    obtain ⟨k, x, rfl, hx, rfl⟩ := FH.ren_inv hy
    rcases hfresh _ (find_mem hx) with h1 | h1
    · exact .inl (hsome k h1)
    · exact .inr (by rw [hag1 k (keys_find hx)]; exact h1)
  · rintro q H' ⟨H1', ⟨r0, H1'', ⟨rfl, rfl⟩, rfl, rfl⟩, rfl⟩
    refine ⟨rfl, ?_⟩
    funext b
    rw [upd_part']
end Pv
set_option linter.unusedSimpArgs false
set_option linter.unusedVariables false
namespace Pv
open Go

def PV.le (p q : PV) : Prop := ∀ (c : Cx) (cl : Bool) (v : Value), Rel c cl p v → Rel c cl q v
theorem PV.le_refl (p : PV) : p.le p := fun _ _ _ h => h
theorem nils_le (s : Nat) : PV.nils.le (.sl s []) := fun _ _ _ h => by cases h; exact .slnil _ _
theorem nils_le' (s : Nat) {xs : List PV} (h : xs = []) : PV.nils.le (.sl s xs) := by subst h; exact nils_le s
theorem agg_le {xs ys : List PV} (hl : xs.length = ys.length) (h : ∀ (i : Nat) x y, xs[i]? = some x → ys[i]? = some y → x.le y) : (PV.agg xs).le (.agg ys) := by
  intro c cl v hr
  cases hr with
  | agg h1 h2 =>
    refine .agg (by omega) fun i y v hy hv => ?_
    obtain ⟨x, hx⟩ : ∃ x, xs[i]? = some x := ⟨_, List.getElem?_eq_getElem (by rw [hl]; exact (List.getElem?_eq_some_iff.1 hy).1)⟩
    exact h i x y hx hy c cl v (h2 i x v hx hv)

theorem PFun.of_frozen {P : Program} {f : FuncId} {args : List PV} {r : PV} (hc : r.closed = true) (h : PCall P f args (find []) fun q H => ∃ ids q', view H q = some (q', ids) ∧ q'.le r) : PFun P f args r := by
  refine ⟨hc, ?_⟩
  intro c vs hs ha
  refine (h c vs hs ha).mono ?_
  rintro e w' ⟨q, v, c1, H1, rfl, rfl, ⟨ids, q', hv, hle⟩, h1, hr, hx⟩
  have hno : ∀ k, ¬ Owned c (find []) k := fun k ⟨b, x, hb, _⟩ => by cases hb
  let c2 : Cx := ⟨c1.w, fun k => c1.A k ∨ ∃ b ∈ ids, c1.β b = some k, c.β, c.γ⟩
  have hlive : ∀ b ∈ ids, ∀ k, c1.β b = some k → ∃ y, H1 b = some y ∧ y.live = true := fun b hb k hk => by
    obtain ⟨y, hy⟩ := Option.isSome_iff_exists.1 (view_ids hv b hb)
    cases hl : y.live with
    | true => exact ⟨y, hy, hl⟩
    | false => rw [h1.ded b y hy hl] at hk; cases hk
  have hγ : ∀ b, c.γ b = none := fun b => by rw [hs.gam b]; rfl
  refine ⟨r, v, c2, find [], rfl, rfl, rfl, ⟨fun b => by simp only [c2]; rw [hγ b]; rfl, fun b x hb => (by cases hb), fun b b' x x' k hb => (by cases hb), fun b x k hb => (by cases hb), fun b x k hb => (by cases hb), fun k hk => ?_, fun b x hb => (by cases hb)⟩, ?_, ?_⟩
  · rcases hk with hk | ⟨b, hb, hk⟩
    · exact h1.bnd k hk
    · obtain ⟨y, hy, hl⟩ := hlive b hb k hk
      exact (h1.box b y hy).lt hl hk
  · exact (hle _ _ _ (view_rel h1 (c' := c2) rfl (fun k hk => .inl hk) (S := ids) (fun b hb k hk => .inr ⟨b, hb, hk⟩) q q' ids false v hv (fun b hb => hb) hr)).open
  · refine ⟨⟨fun k hk => ⟨.inl (hx.le.imm k hk).1, (hx.le.imm k hk).2⟩, fun b cur hb => by rw [hγ b] at hb; cases hb⟩, hx.os, hx.tape, hx.output, hx.size, hx.old, fun k hk => ?_, fun k ⟨b, x, hb, _⟩ => by cases hb⟩
    rcases hk with hk | ⟨b, hb, hk⟩
    · exact hx.imm k hk
    · obtain ⟨y, hy, hl⟩ := hlive b hb k hk
      cases ho : y.own with
      | true =>
        rcases hx.own k ⟨b, y, hy, ho, hl, hk⟩ with h2 | h2
        · exact .inr (.inl h2)
        · exact absurd h2 (hno k)
      | false => exact hx.imm k (h1.frz b y k hy ho hl hk)

theorem PFun.of_body_frozen {P : Program} {f : FuncId} {fn : Func} {cd : Code} {args : List PV} {r : PV} (hc : r.closed = true) (hf : P.funcs[f]? = some fn) (hb : fn.body = some cd) (T0 : List PV) (hT : args ++ List.replicate (fn.ntmps - args.length) (.tup []) = T0)
    (h : ∀ c0, pw P c0 (find []) cd (bodyQ P fn fun q H => ∃ ids q', view H q = some (q', ids) ∧ q'.le r) ⟨T0, []⟩) : PFun P f args r := .of_frozen hc (PCall.of_body' hf hb T0 hT h)

theorem pw_cond_u {P : Program} {c0 : Cx} {H0 : FH} {Q : Exit → PS → Prop} {st : PS} {cnd : Operand} {x y : Code} (hc : ev st.T cnd = .ub) (ht : pw P c0 H0 x Q st) (hf : pw P c0 H0 y Q st) : pw P c0 H0 (.cond cnd x y) Q st := by
  intro a w hs
  have hs' := hs
  obtain ⟨c, rfl, h1, h2, h3, h4⟩ := hs
  have he := ev_rel h3 cnd
  rw [hc] at he
  have hb : ∃ b, a.eval cnd = .bool b := by
    generalize a.eval cnd = v at he
    cases he
    exact ⟨_, rfl⟩
  obtain ⟨b, hb⟩ := hb
  exact wp_cond_split hb (fun _ => ht a _ hs') (fun _ => hf a _ hs')

section
variable {α : Type} [DecidableEq α] {l m : List α} {i : Nat} {x y : α}
theorem eq_len (h : ¬ l.length = m.length) : decide (l = m) = false := decide_eq_false fun e => h (by rw [e])
variable (hf : (l.drop i = m.drop i) ↔ l = m)
include hf
theorem eq_ne (hx : l[i]? = some x) (hy : m[i]? = some y) (h : ¬ x = y) : decide (l = m) = false := by
  refine decide_eq_false fun e => h ?_
  rw [← hf, drop_get hx, drop_get hy] at e
  exact (List.cons.inj e).1
omit [DecidableEq α] in
theorem eq_next (hx : l[i]? = some x) (hy : m[i]? = some y) (h : x = y) : (l.drop (i + 1) = m.drop (i + 1)) ↔ l = m := by
  rw [← hf, drop_get hx, drop_get hy, h]
  simp
theorem eq_end (h1 : ¬ i < l.length) (h2 : ¬ i < m.length) : decide (l = m) = true := decide_eq_true (hf.1 (by rw [drop_end h1, drop_end h2]))
end
theorem getN2 {α : Type} {l : List α} {k : Nat} (h : k < l.length) : ∃ x, l[k]? = some x ∧ ∀ h' : k < l.length, l[k]'h' = x := ⟨l[k], List.getElem?_eq_getElem h, fun _ => rfl⟩
theorem NFilter.eq_iff (a b : NFilter) : (a = b) = (a.service = b.service ∧ a.ranges = b.ranges) := by cases a; cases b; simp
theorem NTable.eq_iff (a b : NTable) : (a = b) = (a.size = b.size ∧ a.backends = b.backends ∧ a.slots = b.slots) := by cases a; cases b; simp
theorem NGroup.eq_iff (a b : NGroup) : (a = b) = (a.id = b.id ∧ a.table = b.table) := by cases a; cases b; simp
theorem NRows.eq_iff (a b : NRows) : (a = b) = (a.fronts = b.fronts ∧ a.groups = b.groups ∧ a.filters = b.filters) := by cases a; cases b; simp
theorem splice_all {cs vs : List PV} (h : cs.length = vs.length) : splice cs 0 vs = vs := by simp [splice, List.drop_eq_nil_of_le, h]
end Pv
set_option linter.unusedSimpArgs false
set_option linter.unusedVariables false
namespace Pv
open Go


inductive Lt (H : FH) : PV → PV → Prop
  | refl (x) : Lt H x x
  | any (x) : Lt H x .any
  | ub (b) : Lt H (.bool b) .ub
  | nilsl (s) : Lt H .nils (.sl s [])
  | nilb {b g s i} : cur H b g = true → Lt H .nils (.bsl b g s i 0)
  | froz {b g s st n z xs} : boxArr H b g s = some (z, xs) → z.own = false → st + n ≤ xs.length → xs.all PV.closed = true → Lt H (.bsl b g s st n) (.sl s ((xs.drop st).take n))
  | agg {xs ys} : xs.length = ys.length → (∀ (i : Nat) x y, xs[i]? = some x → ys[i]? = some y → Lt H x y) → Lt H (.agg xs) (.agg ys)

inductive LtL (H : FH) : List PV → List PV → Prop
  | nil : LtL H [] []
  | cons {x y xs ys} : Lt H x y → LtL H xs ys → LtL H (x :: xs) (y :: ys)

theorem LtL.len {H : FH} {xs ys : List PV} (h : LtL H xs ys) : xs.length = ys.length := by
  induction h with
  | nil => rfl
  | cons _ _ ih => simp [ih]
theorem LtL.get {H : FH} {xs ys : List PV} (h : LtL H xs ys) : ∀ (i : Nat) x y, xs[i]? = some x → ys[i]? = some y → Lt H x y := by
  induction h with
  | nil => intro i x y h; simp at h
  | cons hx _ ih =>
    intro i x y h1 h2
    cases i with
    | zero => simp at h1 h2; subst h1; subst h2; exact hx
    | succ i => exact ih i x y (by simpa using h1) (by simpa using h2)
theorem LtL.rfl' {H : FH} : ∀ (xs : List PV), LtL H xs xs
  | [] => .nil
  | x :: t => .cons (.refl x) (LtL.rfl' t)
theorem Lt.agg' {H : FH} {xs ys : List PV} (h : LtL H xs ys) : Lt H (.agg xs) (.agg ys) := .agg h.len h.get

theorem Lt.rel {c : Cx} {H : FH} (hs : Sim c H) {p q : PV} (h : Lt H p q) : ∀ {v : Value}, Rel c false p v → Rel c false q v := by
  induction h with
  | refl x => exact fun h => h
  | any x => exact fun _ => .any _
  | ub b => intro v h; cases h; exact .ub _
  | nilsl s => intro v h; cases h; exact .slnil _ _
  | nilb hc => intro v h; cases h; exact .bsl_mk hs hc (.inr ⟨rfl, none, rfl⟩)
  | froz h1 h2 h3 h4 =>
    intro v h
    obtain ⟨g1, g2, g3⟩ := boxArr_inv h1
    exact bsl_view hs h h1 h3 h4 (c' := c) rfl (fun _ h => h) (fun k hk => hs.frz _ _ k g1 h2 (by simp [Box.live, g3]) hk) false
  | agg hl _ ih =>
    rename_i xs ys _
    intro v h
    cases h with
    | agg hl' h' =>
      refine .agg (by omega) fun i y v hy hv => ?_
      obtain ⟨x, hx⟩ : ∃ x, xs[i]? = some x := ⟨_, List.getElem?_eq_getElem (by rw [hl]; exact (List.getElem?_eq_some_iff.1 hy).1)⟩
      exact ih i x y hx hy (h' i x v hx hv)

inductive BLt (H : FH) : Box → Box → Prop
  | refl (x) : BLt H x x
  | arr {g o s xs ys} : xs.length = ys.length → (∀ (i : Nat) x y, xs[i]? = some x → ys[i]? = some y → x.cells.length = y.cells.length ∧ ∀ (j : Nat) a b, x.cells[j]? = some a → y.cells[j]? = some b → Lt H a b) → BLt H ⟨g, o, .arr s xs⟩ ⟨g, o, .arr s ys⟩
  | take {g o s xs} (n) : BLt H ⟨g, o, .arr s xs⟩ ⟨g, o, .arr s (xs.take n)⟩

theorem BLt.one {H : FH} {g : Nat} {o : Bool} {s : Nat} {xs ys : List PV} (h : LtL H xs ys) : BLt H ⟨g, o, .arr s [.agg xs]⟩ ⟨g, o, .arr s [.agg ys]⟩ := by
  refine .arr rfl fun i x y hx hy => ?_
  cases i with
  | zero => simp at hx hy; subst hx; subst hy; exact ⟨h.len, h.get⟩
  | succ i => simp at hx
theorem BLt.cell {H : FH} {g : Nat} {o : Bool} {s : Nat} {x y : PV} (h : Lt H x y) (hx : x.cells = [x]) (hy : y.cells = [y]) : BLt H ⟨g, o, .arr s [x]⟩ ⟨g, o, .arr s [y]⟩ := by
  refine .arr rfl fun i x' y' h1 h2 => ?_
  cases i with
  | zero =>
    simp at h1 h2; subst h1; subst h2
    rw [hx, hy]
    refine ⟨rfl, fun j a b h1 h2 => ?_⟩
    cases j with
    | zero => simp at h1 h2; subst h1; subst h2; exact h
    | succ j => simp at h1
  | succ i => simp at h1

theorem BLt.gen {H : FH} {x y : Box} (h : BLt H x y) : y.gen = x.gen := by cases h <;> rfl
theorem BLt.own {H : FH} {x y : Box} (h : BLt H x y) : y.own = x.own := by cases h <;> rfl
theorem BLt.live {H : FH} {x y : Box} (h : BLt H x y) : y.live = x.live := by cases h <;> rfl
theorem BLt.rel {c : Cx} {H : FH} (hs : Sim c H) {b : Nat} {x y : Box} (h : BLt H x y) (hx : BoxRel c b x) : BoxRel c b y := by
  cases h with
  | refl => exact hx
  | arr hl h =>
    rename_i g o s xs ys
    simp only [BoxRel] at hx ⊢
    rcases hx with ⟨k, h1, h2⟩ | ⟨h1, h2⟩
    · obtain ⟨cells, e, fr, g1, g2, g3, g4, g5⟩ := h2.ex
      refine .inl ⟨k, h1, ⟨cells, e, fr, g1, g2, hl ▸ g3, fun i y hy => ?_, fun i y j b v hy hb hv => ?_⟩⟩
      · obtain ⟨x, hx⟩ : ∃ x, xs[i]? = some x := ⟨_, List.getElem?_eq_getElem (by rw [hl]; exact (List.getElem?_eq_some_iff.1 hy).1)⟩
        exact (h i x y hx hy).1 ▸ g4 i x hx
      · obtain ⟨x, hx⟩ : ∃ x, xs[i]? = some x := ⟨_, List.getElem?_eq_getElem (by rw [hl]; exact (List.getElem?_eq_some_iff.1 hy).1)⟩
        obtain ⟨h3, h4⟩ := h i x y hx hy
        obtain ⟨a, ha⟩ : ∃ a, x.cells[j]? = some a := ⟨_, List.getElem?_eq_getElem (by rw [h3]; exact (List.getElem?_eq_some_iff.1 hb).1)⟩
        obtain ⟨f1, f2⟩ := g5 i x j a v hx ha hv
        exact ⟨f1, (h4 j a b ha hb).rel hs f2⟩
    · subst h1
      exact .inr ⟨List.length_eq_zero_iff.1 hl.symm, h2⟩
  | take n =>
    rename_i g o s xs
    simp only [BoxRel] at hx ⊢
    have hge : ∀ (i : Nat) x, (xs.take n)[i]? = some x → xs[i]? = some x := fun i x hx => by
      rw [List.getElem?_take] at hx
      split at hx
      · exact hx
      · cases hx
    rcases hx with ⟨k, h1, h2⟩ | ⟨h1, h2⟩
    · obtain ⟨cells, e, fr, g1, g2, g3, g4, g5⟩ := h2.ex
      have hle : (xs.take n).length * s ≤ xs.length * s := Nat.mul_le_mul_right _ (by rw [List.length_take]; omega)
      exact .inl ⟨k, h1, ⟨cells, e, fr, g1, g2, Nat.le_trans hle g3, fun i x hx => g4 i x (hge i x hx), fun i x j y v hx hy hv => g5 i x j y v (hge i x hx) hy hv⟩⟩
    · subst h1
      exact .inr ⟨by simp, h2⟩

def HLt (H : FH) : List (Nat × Box) → Prop
  | [] => True
  | (b, y) :: t => (∃ x, H b = some x ∧ BLt H x y) ∧ HLt H t

theorem HLt.get {H : FH} : ∀ {H' : Heap}, HLt H H' → ∀ b y, find H' b = some y → ∃ x, H b = some x ∧ BLt H x y
  | [], _, b, y, h => by cases h
  | (k, z) :: t, h, b, y, hy => by
    simp only [find] at hy
    by_cases hk : k = b
    · rw [if_pos hk] at hy; cases hy; subst hk; exact h.1
    · rw [if_neg hk] at hy; exact HLt.get h.2 b y hy

theorem Wk.less {H0 : FH} {T T' : List PV} {H H' : Heap} (hT : LtL (find H) T T') (hH : HLt (find H) H') (h0 : ∀ b, (H0 b).isSome = true → (find H' b).isSome = true)
    (hT' : (T'.all fun p => p.within fun b => (find H' b).isSome) = true) (hH' : ∀ b y, find H' b = some y → y.body.within fun b => (find H' b).isSome) : Wk H0 ⟨T, H⟩ ⟨T', H'⟩ := by
  rintro c0 a w ⟨c, h1, h2, h3, h4, h5, h6⟩
  have hγ : ∀ b, (find H' b).isSome = true → (find H' b).map Box.gen = c.γ b := fun b hb => by
    obtain ⟨y, hy⟩ := Option.isSome_iff_exists.1 hb
    obtain ⟨x, hx, hl⟩ := hH.get b y hy
    rw [h2.gam b, hy, hx]
    simp [hl.gen]
  refine ⟨{ c with γ := fun b => (find H' b).map Box.gen }, h1, ⟨fun _ => rfl, fun b y hy => ?_, fun b b' y y' k hy hy' ho hl hl' hne hk => ?_, fun b y k hy ho hl hk => ?_, fun b y k hy ho hl hk => ?_, h2.bnd, fun b y hy hl => ?_⟩, ?_, ?_, h5, h6⟩
  · obtain ⟨x, hx, hl⟩ := hH.get b y hy
    exact (hl.rel h2 (h2.box b x hx)).narrow (S := fun b => (find H' b).isSome) hγ (hH' b y hy)
  · obtain ⟨x, hx, hx1⟩ := hH.get b y hy
    obtain ⟨x', hx', hx1'⟩ := hH.get b' y' hy'
    exact h2.inj b b' x x' k hx hx' (hx1.own ▸ ho) (hx1.live ▸ hl) (hx1'.live ▸ hl') hne hk
  · obtain ⟨x, hx, hx1⟩ := hH.get b y hy
    exact h2.sep b x k hx (hx1.own ▸ ho) (hx1.live ▸ hl) hk
  · obtain ⟨x, hx, hx1⟩ := hH.get b y hy
    exact h2.frz b x k hx (hx1.own ▸ ho) (hx1.live ▸ hl) hk
  · obtain ⟨x, hx, hx1⟩ := hH.get b y hy
    exact h2.ded b x hx (hx1.live ▸ hl)
  · refine ⟨⟨h3.le.imm, fun b cur hb => ?_⟩, h3.os, h3.tape, h3.output, h3.size, h3.old, h3.imm, fun k ⟨b, y, g1, g2, g3, g4⟩ => ?_⟩
    · obtain ⟨cur', g1, g2, g3⟩ := h3.le.box b cur hb
      refine ⟨cur', ?_, g2, g3⟩
      show (find H' b).map Box.gen = some cur'
      rw [hγ b (h0 b (by rw [h6 b] at hb; cases hh : H0 b <;> simp_all))]
      exact g1
    · obtain ⟨x, hx, hx1⟩ := hH.get b y g1
      exact h3.own k ⟨b, x, hx, hx1.own ▸ g2, hx1.live ▸ g3, g4⟩
  · refine ⟨by rw [← hT.len]; exact h4.1, fun i q v hq hv => ?_⟩
    obtain ⟨p, hp⟩ : ∃ p, T[i]? = some p := ⟨_, List.getElem?_eq_getElem (by rw [hT.len]; exact (List.getElem?_eq_some_iff.1 hq).1)⟩
    exact ((hT.get i p q hp hq).rel h2 (h4.2 i p v hp hv)).narrow (S := fun b => (find H' b).isSome) hγ (List.all_eq_true.1 hT' q (List.mem_of_getElem? hq))

theorem Wk.virt {H0 : FH} {T : List PV} {H : Heap} (b g s : Nat) (hg : ∀ x, find H b = some x → x.gen < g) : Wk H0 ⟨T, H⟩ ⟨T, put H b ⟨g, true, .arr s []⟩⟩ := by
  rintro c0 a w ⟨c, h1, h2, h3, h4, h5, h6⟩
  obtain ⟨c', g1, g2, g3, g4, g5⟩ := h2.virt b g hg ⟨g, true, .arr s []⟩ rfl (.inl ⟨s, rfl⟩)
  have e : find (put H b ⟨g, true, .arr s []⟩) = upd (find H) [(b, ⟨g, true, .arr s []⟩)] := by rw [find_put]; rfl
  rw [e]
  exact ⟨c', g1.trans h1, g4, h3.trans g5, ⟨h4.1, fun i p v x y => (h4.2 i p v x y).mono g3⟩, h5, h6⟩

theorem Wk.freeze {H0 : FH} {T : List PV} {H : Heap} {b : Nat} {x : Box} (hb : find H b = some x) : Wk H0 ⟨T, H⟩ ⟨T, put H b { x with own := false }⟩ := by
  rintro c0 a w ⟨c, h1, h2, h3, h4, h5, h6⟩
  obtain ⟨c', g1, g2, g3, g3', g4, g5, g6⟩ := h2.freeze hb
  have e : find (put H b { x with own := false }) = upd (find H) [(b, { x with own := false })] := by rw [find_put]; rfl
  rw [e]
  exact ⟨c', g1.trans h1, g5, h3.trans g6, ⟨h4.1, fun i p v x y => (h4.2 i p v x y).mono g4⟩, h5, h6⟩

def bodyW (P : Program) (fn : Func) (H0 : FH) (r : PV) (H1 : Heap) : Exit → PS → Prop
  | .normal, st | .ret, st => ∃ q, resOf P (find st.H) fn.results st.T = some q ∧ Wk H0 ⟨[q], st.H⟩ ⟨[r], H1⟩
  | _, _ => False

theorem PBox.of_body {P : Program} {f : FuncId} {fn : Func} {cd : Code} {args : List PV} {H : Heap} {r : PV} {H1 : Heap} (hf : P.funcs[f]? = some fn) (hb : fn.body = some cd) (T0 : List PV) (hT : args ++ List.replicate (fn.ntmps - args.length) (.tup []) = T0)
    (h : ∀ c0, pw P c0 (find H) cd (bodyW P fn (find H) r H1) ⟨T0, H⟩) : PBox P f args H r H1 := by
  subst hT
  intro c vs hs ha
  refine calls_of_wp hf hb (wp_mono (h c _ _ ⟨c, rfl, hs, .refl _ _, ?_, rfl, hs.gam⟩) ?_)
  · simp only [Array.toList_append, Array.toList_replicate, List.size_toArray]
    refine ⟨by simp [ha.1], fun i p v h1 h2 => ?_⟩
    rw [List.getElem?_append] at h1 h2
    rw [← ha.1] at h2
    split at h1
    · rename_i hi
      rw [if_pos hi] at h2
      exact ha.2 i p v h1 h2
    · rename_i hi
      rw [if_neg hi] at h2
      rw [List.getElem?_replicate] at h1 h2
      split at h1
      · split at h2
        · simp at h1 h2; subst h1; subst h2
          exact .tup (by simp) fun i x v h1 => by simp at h1
        · rename_i hj1 hj2
          exact absurd (ha.1 ▸ hj1) hj2
      · cases h1
  · rintro e a w' ⟨st', hq, c', rfl, h1, h2, h3, h4⟩
    cases e with
    | normal | ret =>
      obtain ⟨q, hq, hw⟩ := hq
      obtain ⟨v, hv, hrel⟩ := resOf_run h1 h3 hq
      obtain ⟨c2, g1, g2, g3, g4, _⟩ := hw c { a with tmps := #[v] } c'.w ⟨c', rfl, h1, h2, ⟨rfl, fun i p u x y => by
        cases i with
        | zero => simp at x y; subst x; subst y; exact hrel
        | succ i => simp at x⟩, h4.1, h4.2⟩
      exact ⟨h4.1, v, hv, r, v, c2, find H1, rfl, g1, ⟨rfl, rfl⟩, g2, g4.2 0 r v rfl rfl, g3⟩
    | _ => exact hq.elim

end Pv
set_option linter.unusedSimpArgs false
set_option linter.unusedVariables false
namespace Pv
open Go


inductive Vw (H : FH) (M : Nat → Bool) (ids : List Nat) : PV → PV → Prop
  | keep {x} : x.within M = true → Vw H M ids x x
  | row {b g s st n z xs} : boxArr H b g s = some (z, xs) → st + n ≤ xs.length → xs.all PV.closed = true → b ∈ ids → Vw H M ids (.bsl b g s st n) (.sl s ((xs.drop st).take n))
  | cell {b g s i o z xs} : boxArr H b g s = some (z, xs) → xs.all PV.closed = true → b ∈ ids → Vw H M ids (.ptr b g s i o) (.ept s xs i o)
  | agg {xs ys} : xs.length = ys.length → (∀ (i : Nat) x y, xs[i]? = some x → ys[i]? = some y → Vw H M ids x y) → Vw H M ids (.agg xs) (.agg ys)
  | clo {f us vs xs ys} : us.length = vs.length → (∀ (i : Nat) x y, us[i]? = some x → vs[i]? = some y → Vw H M ids x y) →
      xs.length = ys.length → (∀ (i : Nat) x y, xs[i]? = some x → ys[i]? = some y → Vw H M ids x y) → Vw H M ids (.clo f us xs) (.clo f vs ys)
  | ifc {t x y} : Vw H M ids x y → Vw H M ids (.ifc t x) (.ifc t y)

theorem Vw.mono {H : FH} {M : Nat → Bool} {is js : List Nat} (hsub : ∀ b ∈ is, b ∈ js) {p q : PV} (h : Vw H M is p q) : Vw H M js p q := by
  induction h with
  | keep h => exact .keep h
  | row h1 h2 h3 h4 => exact .row h1 h2 h3 (hsub _ h4)
  | cell h1 h3 h4 => exact .cell h1 h3 (hsub _ h4)
  | agg hl _ ih => exact .agg hl ih
  | clo hl _ hl' _ ih ih' => exact .clo hl ih hl' ih'
  | ifc _ ih => exact .ifc ih

def VwA (H : FH) (M : Nat → Bool) (p q : PV) (ids : List Nat) : Prop := Vw H M ids p q ∧ ∀ b ∈ ids, (H b).isSome = true
def VwL (H : FH) (M : Nat → Bool) (xs ys : List PV) (ids : List Nat) : Prop := xs.length = ys.length ∧ (∀ (i : Nat) x y, xs[i]? = some x → ys[i]? = some y → Vw H M ids x y) ∧ ∀ b ∈ ids, (H b).isSome = true

theorem VwA.keep {H : FH} {M : Nat → Bool} {x : PV} (h : x.within M = true) : VwA H M x x [] := ⟨.keep h, fun b hb => by simp at hb⟩
theorem VwA.row {H : FH} {M : Nat → Bool} {b g s st n z xs} (h1 : boxArr H b g s = some (z, xs)) (h2 : st + n ≤ xs.length) (h3 : xs.all PV.closed = true) : VwA H M (.bsl b g s st n) (.sl s ((xs.drop st).take n)) [b] :=
  ⟨.row h1 h2 h3 (by simp), fun b hb => by simp at hb; subst hb; rw [(boxArr_inv h1).1]; rfl⟩
theorem VwA.cell {H : FH} {M : Nat → Bool} {b g s i o z xs} (h1 : boxArr H b g s = some (z, xs)) (h3 : xs.all PV.closed = true) : VwA H M (.ptr b g s i o) (.ept s xs i o) [b] :=
  ⟨.cell h1 h3 (by simp), fun b hb => by simp at hb; subst hb; rw [(boxArr_inv h1).1]; rfl⟩
theorem VwL.nil {H : FH} {M : Nat → Bool} : VwL H M [] [] [] := ⟨rfl, fun i x y h => by simp at h, fun b hb => by simp at hb⟩
theorem VwL.cons {H : FH} {M : Nat → Bool} {x y : PV} {xs ys : List PV} {is js : List Nat} (h : VwA H M x y is) (ht : VwL H M xs ys js) : VwL H M (x :: xs) (y :: ys) (is ++ js) := by
  refine ⟨by simp [ht.1], fun i p q h1 h2 => ?_, fun b hb => ?_⟩
  · cases i with
    | zero => simp at h1 h2; subst h1; subst h2; exact h.1.mono fun b hb => by simp [hb]
    | succ i => exact (ht.2.1 i p q (by simpa using h1) (by simpa using h2)).mono fun b hb => by simp [hb]
  · rcases List.mem_append.1 hb with h1 | h1
    · exact h.2 b h1
    · exact ht.2.2 b h1
theorem VwL.keep {H : FH} {M : Nat → Bool} {x : PV} {xs ys : List PV} {js : List Nat} (h : x.within M = true) (ht : VwL H M xs ys js) : VwL H M (x :: xs) (x :: ys) js := VwL.cons (.keep h) ht
theorem VwA.agg {H : FH} {M : Nat → Bool} {xs ys : List PV} {ids : List Nat} (h : VwL H M xs ys ids) : VwA H M (.agg xs) (.agg ys) ids := ⟨.agg h.1 h.2.1, h.2.2⟩
theorem VwA.clo {H : FH} {M : Nat → Bool} {f : FuncId} {xs ys : List PV} {ids : List Nat} (h : VwL H M xs ys ids) : VwA H M (.clo f [] xs) (.clo f [] ys) ids := ⟨.clo rfl (fun i x y h => by simp at h) h.1 h.2.1, h.2.2⟩
theorem VwA.ifc {H : FH} {M : Nat → Bool} {t : TypeId} {x y : PV} {ids : List Nat} (h : VwA H M x y ids) : VwA H M (.ifc t x) (.ifc t y) ids := ⟨.ifc h.1, h.2⟩

theorem Vw.congr {H H' : FH} {M : Nat → Bool} {ids : List Nat} (hr : ∀ b ∈ ids, H' b = H b) {p q : PV} (h : Vw H M ids p q) : Vw H' M ids p q := by
  induction h with
  | keep h => exact .keep h
  | row h1 h2 h3 h4 => exact .row (by rw [boxArr_congr (hr _ h4)]; exact h1) h2 h3 h4
  | cell h1 h3 h4 => exact .cell (by rw [boxArr_congr (hr _ h4)]; exact h1) h3 h4
  | agg hl _ ih => exact .agg hl ih
  | clo hl _ hl' _ ih ih' => exact .clo hl ih hl' ih'
  | ifc _ ih => exact .ifc ih

theorem boxArr_some {H : FH} {b g s : Nat} {z : Box} {xs : List PV} (h : boxArr H b g s = some (z, xs)) : H b = some z := (boxArr_inv h).1

theorem Vw.rel {c : Cx} {H : FH} (hs : Sim c H) {M : Nat → Bool} {c' : Cx} (hw : c'.w = c.w) (hA : ∀ k, c.A k → c'.A k) (hM : ∀ (cl : Bool) p v, p.within M = true → Rel c false p v → Rel c' false p v) {ids : List Nat} (hk : ∀ b ∈ ids, ∀ k, c.β b = some k → c'.A k) {p q : PV} (h : Vw H M ids p q) :
    ∀ {v : Value}, Rel c false p v → Rel c' false q v := by
  induction h with
  | keep hx => intro v hr; exact hM false _ v hx hr
  | row h1 h2 h3 h4 => intro v hr; exact bsl_view hs hr h1 h2 h3 hw hA (hk _ h4) false
  | cell h1 h3 h4 =>
    rename_i b g s i o z xs
    intro v hr
    obtain ⟨g1, g2, g3⟩ := boxArr_inv h1
    obtain ⟨k, hkb, rfl⟩ := hr.ptr_inv hs (cur_of g1 g2)
    obtain ⟨cells, e, fr, f1, f2, f3, f4, f5⟩ := (row_of hs g1 g3 hkb).ex
    have := Rel.ept (c := c') (cl := false) (s := s) (xs := xs) i o k 0 cells e fr (hk _ h4 k hkb) (by rw [hw]; exact f1) (by omega) f4
      (fun i x j y v a b d => (f5 i x j y v a b (by simpa using d)).1)
      (fun i x j y v a b d => by
        have h1 := (f5 i x j y v a b (by simpa using d)).2
        have hxc := List.all_eq_true.1 h3 x (List.mem_of_getElem? a)
        exact (h1.toClosed (PV.within_cells hxc j y b)).closed (c := c) (c' := c') (fun k hk => ⟨hA k hk, by rw [hw]⟩) rfl true)
    simpa using this
  | agg hl _ ih =>
    rename_i xs ys _
    intro v hr
    cases hr with
    | agg hl' h' =>
      refine .agg (by omega) fun i y v hy hv => ?_
      obtain ⟨x, hx⟩ : ∃ x, xs[i]? = Option.some x := ⟨_, List.getElem?_eq_getElem (by rw [hl]; exact (List.getElem?_eq_some_iff.1 hy).1)⟩
      exact ih i x y hx hy (h' i x v hx hv)
  | clo hl _ hl' _ ih ih' =>
    rename_i f us vs xs ys _ _
    intro v hr
    cases hr with
    | clo a1 a2 a3 a4 =>
      refine .clo (by omega) (fun i y v hy hv => ?_) (by omega) (fun i y v hy hv => ?_)
      · obtain ⟨x, hx⟩ : ∃ x, us[i]? = Option.some x := ⟨_, List.getElem?_eq_getElem (by rw [hl]; exact (List.getElem?_eq_some_iff.1 hy).1)⟩
        exact ih i x y hx hy (a2 i x v hx hv)
      · obtain ⟨x, hx⟩ : ∃ x, xs[i]? = Option.some x := ⟨_, List.getElem?_eq_getElem (by rw [hl']; exact (List.getElem?_eq_some_iff.1 hy).1)⟩
        exact ih' i x y hx hy (a4 i x v hx hv)
  | ifc _ ih =>
    intro v hr
    cases hr with
    | ifc h => exact .ifc (ih h)


def frzW (H : FH) : List Nat → List (Nat × Box)
  | [] => []
  | b :: t => match H b with
    | some x => (b, { x with own := false }) :: frzW H t
    | none => frzW H t

theorem frzW_congr {H H' : FH} : ∀ {ids : List Nat}, (∀ b ∈ ids, H' b = H b) → frzW H' ids = frzW H ids
  | [], _ => rfl
  | b :: t, h => by simp only [frzW, h b (by simp), frzW_congr (ids := t) fun b hb => h b (by simp [hb])]

theorem frz_keys {H : FH} : ∀ {ids : List Nat} {b : Nat} {x : Box}, (b, x) ∈ frzW H ids → b ∈ ids ∧ ∃ y, H b = some y ∧ x = { y with own := false }
  | [], b, x, h => by simp [frzW] at h
  | c :: t, b, x, h => by
    simp only [frzW] at h
    split at h
    · rename_i y hy
      rcases List.mem_cons.1 h with h | h
      · cases h; exact ⟨by simp, y, hy, rfl⟩
      · obtain ⟨h1, h2⟩ := frz_keys h; exact ⟨by simp [h1], h2⟩
    · obtain ⟨h1, h2⟩ := frz_keys h; exact ⟨by simp [h1], h2⟩

theorem upd_frzW (H : FH) : ∀ (ids : List Nat) (G : FH) (b : Nat), upd G (frzW H ids) b = if b ∈ ids ∧ (H b).isSome = true then (H b).map (fun x => { x with own := false }) else G b
  | [], G, b => by simp [frzW, upd]
  | c :: t, G, b => by
    simp only [frzW]
    split
    · rename_i y hy
      simp only [upd]
      rw [upd_frzW H t]
      by_cases hb : b = c
      · subst hb; simp [hy]
      · simp [hb]
    · rename_i hy
      rw [upd_frzW H t]
      by_cases hb : b = c
      · subst hb; simp [hy]
      · simp [hb]

theorem Sim.freezeAll {c : Cx} {H : FH} (hs : Sim c H) : ∀ (ids : List Nat), ∃ c', c'.w = c.w ∧ c'.γ = c.γ ∧ c'.β = c.β ∧ (∀ b ∈ ids, ∀ k, c.β b = some k → (H b).isSome = true → c'.A k) ∧ c.Le c' ∧ Sim c' (upd H (frzW H ids)) ∧ Ext c H c' (upd H (frzW H ids))
  | [] => ⟨c, rfl, rfl, rfl, fun b hb => by simp at hb, .refl c, hs, .refl c H⟩
  | b :: t => by
    obtain ⟨c1, h1, h2, h3, h4, h5, h6, h7⟩ := Sim.freezeAll hs t
    cases hb : H b with
    | none =>
      have e : frzW H (b :: t) = frzW H t := by simp [frzW, hb]
      rw [e]
      exact ⟨c1, h1, h2, h3, fun b' hb' k hk hs' => by
        rcases List.mem_cons.1 hb' with rfl | hb'
        · simp [hb] at hs'
        · exact h4 b' hb' k hk hs', h5, h6, h7⟩
    | some x =>
      have hx : upd H (frzW H t) b = some (if b ∈ t then { x with own := false } else x) := by
        rw [upd_frzW]; by_cases h : b ∈ t <;> simp [h, hb]
      obtain ⟨c2, g1, g2, g3, g4, g5, g6, g7⟩ := h6.freeze hx
      have e : upd (upd H (frzW H t)) [(b, { (if b ∈ t then { x with own := false } else x : Box) with own := false })] = upd H (frzW H (b :: t)) := by
        funext i
        rw [upd_frzW]
        simp only [upd]
        by_cases hi : i = b
        · subst hi
          simp only [if_true, hb, List.mem_cons, true_or, Option.isSome_some, and_self, Option.map_some]
          split <;> rfl
        · simp only [hi, if_false, List.mem_cons, false_or]
          rw [upd_frzW]
      rw [e] at g6 g7
      refine ⟨c2, g1.trans h1, g2.trans h2, g3.trans h3, fun b' hb' k hk hs' => ?_, h5.trans g5, g6, h7.trans g7⟩
      rcases List.mem_cons.1 hb' with rfl | hb'
      · cases hl : x.live with
        | true => exact g4 k (by split <;> exact hl) (by rw [h3]; exact hk)
        | false => rw [hs.ded b' x hb hl] at hk; cases hk
      · exact (g5.imm k (h4 b' hb' k hk hs')).1

theorem call_frz {P : Program} {f : FuncId} {args args' : List PV} {ids : List Nat} {M : Nat → Bool} {H : FH} {ρ : Res} (hv : VwL H M args args' ids) (h : CallSem P f args' (upd H (frzW H ids)) ρ) :
    CallSem P f args H { v := ρ.v, rd := ids ++ ρ.rd, wr := frzW H ids ++ ρ.wr } := by
  intro H' hag c vs hs ha
  have hagi : ∀ b ∈ ids, H' b = H b := fun b hb => hag b (by simp [hb])
  obtain ⟨c1, h1, h2, h3, h4, h5, h6, h7⟩ := hs.freezeAll ids
  have e : frzW H' ids = frzW H ids := frzW_congr hagi
  rw [e] at h6 h7
  have ha' : RelL c1 args' vs := by
    refine ⟨by rw [← hv.1]; exact ha.1, fun i q v hq hv1 => ?_⟩
    obtain ⟨p, hp⟩ : ∃ p, args[i]? = some p := ⟨_, List.getElem?_eq_getElem (by rw [hv.1]; exact (List.getElem?_eq_some_iff.1 hq).1)⟩
    have g := (hv.2.1 i p q hp hq).congr hagi
    refine g.rel hs h1 (fun k hk => (h5.imm k hk).1) (fun cl p v _ hr => hr.mono h5) (fun b hb k hk => h4 b hb k hk ?_) (ha.2 i p v hp hv1)
    rw [hagi b hb]; exact hv.2.2 b hb
  have := h (upd H' (frzW H ids)) (fun b hb => by rw [upd_frzW, upd_frzW]; split <;> first | rfl | exact hag b (by simp [hb])) c1 vs h6 ha'
  rw [h1] at this
  have e2 : upd (upd H' (frzW H ids)) ρ.wr = upd H' (frzW H ids ++ ρ.wr) := by rw [upd_append]
  split at this
  · rename_i g as w heq
    refine ⟨this.1, this.2.mono ?_⟩
    rintro e w' ⟨r, v, c2, H2, g1, g2, ⟨rfl, rfl⟩, g4, g5, g6⟩
    exact ⟨_, v, c2, _, g1, g2, ⟨rfl, e2⟩, g4, g5, h7.trans g6⟩
  · obtain ⟨r, c2, H2, g2, ⟨rfl, rfl⟩, g4, g5, g6⟩ := this
    exact ⟨_, c2, _, g2, ⟨rfl, e2⟩, g4, g5, h7.trans g6⟩
  · exact this.elim

theorem call_lent {P : Program} {f : FuncId} {args args' : List PV} {ids : List Nat} {r : PV} (h : PFun P f args' r) (he : Enters P f) {H : FH} (hv : VwL H (fun _ => false) args args' ids) (hg : r.ground = true) : CallSem P f args H { v := r, rd := ids } := by
  intro H' hH'
  refine PInv.of_call he ?_
  intro c vs hs ha
  have hsm := Sim.empty (c := c) (fun k => k < c.w.heap.size) (fun _ h => h)
  have has : RelL ⟨c.w, fun k => k < c.w.heap.size, fun _ => none, fun _ => none⟩ args' vs := by
    refine ⟨by rw [← hv.1]; exact ha.1, fun i q v hq hv1 => ?_⟩
    obtain ⟨p, hp⟩ : ∃ p, args[i]? = some p := ⟨_, List.getElem?_eq_getElem (by rw [hv.1]; exact (List.getElem?_eq_some_iff.1 hq).1)⟩
    have g := (hv.2.1 i p q hp hq).congr hH'
    refine g.rel hs (c' := ⟨c.w, fun k => k < c.w.heap.size, fun _ => none, fun _ => none⟩) rfl (fun k hk => hs.bnd k hk) (fun cl p v hp hr => ?_) (fun b hb k hk => ?_) (ha.2 i p v hp hv1)
    · exact (hr.toClosed hp).closed (c := c) (c' := ⟨c.w, fun k => k < c.w.heap.size, fun _ => none, fun _ => none⟩) (fun k hk => ⟨hs.bnd k hk, rfl⟩) rfl false
    · obtain ⟨y, hy⟩ := Option.isSome_iff_exists.1 (hv.2.2 b hb)
      rw [← hH' b hb] at hy
      cases hl : y.live with
      | true => exact (hs.box b y hy).lt hl hk
      | false => rw [hs.ded b y hy hl] at hk; cases hk
  refine (h.2 _ vs hsm has).mono ?_
  rintro e w' ⟨q, v, c1, H1, rfl, rfl, rfl, h1, hr, hx⟩
  have hno : ∀ k, ¬ Owned (⟨c.w, fun k => k < c.w.heap.size, fun _ => none, fun _ => none⟩ : Cx) (find []) k := fun k ⟨b, x, hb, _⟩ => by cases hb
  obtain ⟨g1, g2⟩ := hs.world c1.w (fun k hk => hx.old k hk (hno k)) hx.size hx.os hx.tape hx.output
  exact ⟨q, v, ⟨c1.w, c.A, c.β, c.γ⟩, H', rfl, rfl, ⟨rfl, rfl⟩, g1, hr.of_ground hg false, g2⟩

end Pv
set_option linter.unusedSimpArgs false
set_option linter.unusedVariables false
namespace Pv
open Go

mutual
theorem PV.within_mono {S S' : Nat → Bool} (hS : ∀ b, S b = true → S' b = true) : ∀ p : PV, p.within S = true → p.within S' = true
  | .ptr b _ _ _ _, h => hS b h
  | .bsl b _ _ _ _, h => hS b h
  | .map b _, h => hS b h
  | .agg cs, h => PV.within_monoL hS cs h
  | .tup cs, h => PV.within_monoL hS cs h
  | .clo f xs ys, h => by
    simp only [PV.within, Bool.and_eq_true] at h ⊢
    exact ⟨PV.within_monoL hS xs h.1, PV.within_monoL hS ys h.2⟩
  | .ifc t x, h => PV.within_mono hS x h
  | .any, _ | .bool _, _ | .ub, _ | .int _ _, _ | .str _, _ | .addr _, _ | .nilp, _ | .ept _ _ _ _, _ | .sl _ _, _ | .nils, _ | .nilf, _ | .nili, _ | .nilm, _ => rfl
theorem PV.within_monoL {S S' : Nat → Bool} (hS : ∀ b, S b = true → S' b = true) : ∀ l : List PV, PV.within.go S l = true → PV.within.go S' l = true
  | [], _ => rfl
  | x :: t, h => by
    simp only [PV.within.go, Bool.and_eq_true] at h ⊢
    exact ⟨PV.within_mono hS x h.1, PV.within_monoL hS t h.2⟩
end

theorem within_closed {S : Nat → Bool} {p : PV} (h : p.closed = true) : p.within S = true := PV.within_mono (fun _ h => by cases h) p h

mutual
theorem ren_closed (R : Rn) : ∀ p : PV, p.closed = true → p.ren R = p
  | .ptr b _ _ _ _, h => by cases h
  | .bsl b _ _ _ _, h => by cases h
  | .map b _, h => by cases h
  | .agg cs, h => by simp only [PV.ren]; rw [ren_closedL R cs h]
  | .tup cs, h => by simp only [PV.ren]; rw [ren_closedL R cs h]
  | .clo f xs ys, h => by
    simp only [PV.closed, PV.within, Bool.and_eq_true] at h
    simp only [PV.ren]; rw [ren_closedL R xs h.1, ren_closedL R ys h.2]
  | .ifc t x, h => by simp only [PV.ren]; rw [ren_closed R x h]
  | .any, _ | .bool _, _ | .ub, _ | .int _ _, _ | .str _, _ | .addr _, _ | .nilp, _ | .ept _ _ _ _, _ | .sl _ _, _ | .nils, _ | .nilf, _ | .nili, _ | .nilm, _ => rfl
theorem ren_closedL (R : Rn) : ∀ l : List PV, PV.within.go (fun _ => false) l = true → renL R l = l
  | [], _ => rfl
  | x :: t, h => by
    simp only [PV.within.go, Bool.and_eq_true] at h
    simp only [renL]; rw [ren_closed R x h.1, ren_closedL R t h.2]
end

theorem map_ren_closed {R : Rn} {xs : List PV} (h : ∀ x ∈ xs, x.closed = true) : xs.map (PV.ren R) = xs := by
  induction xs with
  | nil => rfl
  | cons x t ih => simp only [List.map_cons]; rw [ren_closed R x (h x (by simp)), ih fun y hy => h y (by simp [hy])]

theorem lt_eq {H : FH} {x y : PV} (h : x = y) : Lt H x y := h ▸ .refl x
theorem BLt.of_eq {H : FH} {x y : Box} (h : x = y) : BLt H x y := h ▸ .refl x

def inH (H : Heap) : Nat → Bool := fun b => (find H b).isSome

theorem Wk.to {L : Heap} {T T' : List PV} {H H' : Heap} (hT : LtL (find H) T T') (hH : HLt (find H) H') (h0 : ((keys L).all (inH H')) = true)
    (hT' : (T'.all fun p => p.within (inH H')) = true) (hH' : (H'.all fun e => e.2.body.withinB (inH H')) = true) : Wk (find L) ⟨T, H⟩ ⟨T', H'⟩ := by
  refine Wk.less hT hH (fun b hb => ?_) hT' fun b y hy => Body.withinB_iff (List.all_eq_true.1 hH' _ (find_mem hy))
  obtain ⟨x, hx⟩ := Option.isSome_iff_exists.1 hb
  exact List.all_eq_true.1 h0 b (keys_find hx)

theorem pw_loopH {P : Program} {c0 : Cx} {H0 : FH} {Q : Exit → PS → Prop} {cd : Code} {T0 : List PV} {Hp : Heap} {α : Type} (M : List Nat) (S : α → List (Nat × PV)) (Hs : α → List (Nat × Box)) (inv : Nat → α → Prop) (n : Nat) (a : α)
    (h0 : inv n a) (hT : Wk H0 ⟨T0, Hp⟩ ⟨sets (forget M T0) (S a), puts Hp (Hs a)⟩)
    (round : ∀ n a, inv n a → ∀ K : PS → Prop, (∀ st' m a', m < n → inv m a' → Wk H0 st' ⟨sets (forget M T0) (S a'), puts Hp (Hs a')⟩ → K st') → pw P c0 H0 cd (thenP K Q) ⟨sets (forget M T0) (S a), puts Hp (Hs a)⟩) :
    pw P c0 H0 (.loop cd) Q ⟨T0, Hp⟩ := pw_loopS M S (fun a => puts Hp (Hs a)) inv n a h0 hT round

structure El (agg : Bool) (s : Nat) {X : Type} (pv : X → PV) : Prop where
  ld : ∀ x, loadE agg s (pv x) 0 = some (pv x)
  ok : ∀ x, okElem (pv x) s = true
  set : ∀ x y, (pv x).setc 0 (pv y).cells = pv y
  len : ∀ x, (pv x).cells.length = s
  cl : ∀ x, (pv x).closed = true

theorem El.agg {X : Type} {cs : X → List PV} {s : Nat} (hl : ∀ x, (cs x).length = s) (hg : ∀ x, goodC (cs x) = true) : El true s (fun x => .agg (cs x)) where
  ld x := loadE_whole (hl x)
  ok x := okElem_of_good (hg x) (hl x)
  set x y := by simp [PV.setc, splice, PV.cells, hl]
  len x := hl x
  cl x := closed_of_good (hg x)

theorem El.one {X : Type} {pv : X → PV} (hc : ∀ x, (pv x).cellB = true) (h : ∀ x, (pv x).closed = true) : El false 1 pv where
  ld x := by have := hc x; cases h : pv x <;> simp [h, PV.cellB] at this <;> rfl
  ok x := by have := hc x; cases h : pv x <;> simp [h, PV.cellB] at this <;> rfl
  set x y := by have := hc x; have := hc y; cases h : pv x <;> cases h' : pv y <;> simp_all [PV.cellB] <;> rfl
  len x := by have := hc x; cases h : pv x <;> simp [h, PV.cellB] at this <;> rfl
  cl := h

theorem El.all {agg : Bool} {s : Nat} {X : Type} {pv : X → PV} (h : El agg s pv) (l : List X) : ((l.map pv).all PV.closed) = true := by
  rw [List.all_eq_true]; intro y hy; obtain ⟨x, _, rfl⟩ := List.mem_map.1 hy; exact h.cl x
theorem El.within {agg : Bool} {s : Nat} {X : Type} {pv : X → PV} (h : El agg s pv) (S : Nat → Bool) (l : List X) : ((l.map pv).all (PV.within S)) = true := by
  rw [List.all_eq_true]; intro y hy; obtain ⟨x, _, rfl⟩ := List.mem_map.1 hy; exact within_closed (h.cl x)
theorem El.ren {agg : Bool} {s : Nat} {X : Type} {pv : X → PV} (h : El agg s pv) (R : Rn) (l : List X) : (l.map pv).map (PV.ren R) = l.map pv :=
  map_ren_closed fun y hy => by obtain ⟨x, _, rfl⟩ := List.mem_map.1 hy; exact h.cl x

theorem El_front : El true 26 NFront.pv := El.agg NFront.cs_length NFront.good
theorem El_group : El true 8 NGroup.pv := El.agg NGroup.cs_length NGroup.good
theorem El_filter : El true 3 NFilter.pv := El.agg NFilter.cs_length NFilter.good
theorem El_rows : El true 3 NRows.pv := El.agg NRows.cs_length NRows.good
theorem El_key : El true 2 NKey.pv := El.agg NKey.cs_length NKey.good
theorem El_point : El true 18 NPoint.pv := El.agg NPoint.cs_length NPoint.good
theorem El_cidr : El true 18 NCidr.pv := El.agg NCidr.cs_length NCidr.good
theorem El_int : El false 1 (PV.int .i64) := El.one (fun _ => rfl) fun _ => rfl
theorem El_str : El false 1 PV.str := El.one (fun _ => rfl) fun _ => rfl

theorem withinB_arr {S : Nat → Bool} (s : Nat) (xs : List PV) : Body.withinB S (.arr s xs) = xs.all (PV.within S) := rfl

end Pv
set_option linter.unusedSimpArgs false
set_option linter.unusedVariables false
namespace Pv


section
variable {X : Type}

def swp (c : List X) (i j : Nat) : List X := match c[i]?, c[j]? with
  | some x, some y => (c.set i y).set j x
  | _, _ => c

theorem swp_len (c : List X) (i j : Nat) : (swp c i j).length = c.length := by unfold swp; split <;> simp

theorem get_mid (L R : List X) (x : X) {k : Nat} (h : k = L.length) : (L ++ x :: R)[k]? = some x := by subst h; simp
theorem set_mid (L R : List X) (x y : X) {k : Nat} (h : k = L.length) : (L ++ x :: R).set k y = L ++ y :: R := by subst h; simp

theorem swp_mid (A M R : List X) (x y : X) {i j : Nat} (hi : i = A.length) (hj : j = A.length + 1 + M.length) : swp (A ++ x :: (M ++ y :: R)) i j = A ++ y :: (M ++ x :: R) := by
  have h1 : (A ++ x :: (M ++ y :: R))[i]? = some x := get_mid _ _ _ hi
  have h2 : (A ++ x :: (M ++ y :: R))[j]? = some y := by
    have := get_mid (A ++ x :: M) R y (k := j) (by simp; omega)
    simpa using this
  unfold swp
  simp only [h1, h2]
  rw [set_mid _ _ _ _ hi]
  have := set_mid (A ++ y :: M) R y x (k := j) (by simp; omega)
  simpa using this

def swapN : Nat → List X → Nat → Nat → List X
  | 0, c, _, _ => c
  | n + 1, c, a, b => swapN n (swp c a b) (a + 1) (b + 1)

theorem swapN_blocks : ∀ (n : Nat) (A U M V B : List X) (a b : Nat), U.length = n → V.length = n → a = A.length → b = A.length + n + M.length → swapN n (A ++ (U ++ (M ++ (V ++ B)))) a b = A ++ (V ++ (M ++ (U ++ B)))
  | 0, A, U, M, V, B, a, b, hu, hv, _, _ => by
    rw [List.length_eq_zero_iff.1 hu, List.length_eq_zero_iff.1 hv]; rfl
  | n + 1, A, [], M, V, B, a, b, hu, hv, ha, hb => by simp at hu
  | n + 1, A, u :: U, M, [], B, a, b, hu, hv, ha, hb => by simp at hv
  | n + 1, A, u :: U, M, v :: V, B, a, b, hu, hv, ha, hb => by
    simp only [List.length_cons] at hu hv
    simp only [swapN]
    have e : swp (A ++ (u :: U ++ (M ++ (v :: V ++ B)))) a b = (A ++ [v]) ++ (U ++ ((M ++ [u]) ++ (V ++ B))) := by
      have := swp_mid A (U ++ M) (V ++ B) u v (i := a) (j := b) ha (by simp; omega)
      simpa using this
    rw [e, swapN_blocks n (A ++ [v]) U (M ++ [u]) V B (a + 1) (b + 1) (by omega) (by omega) (by simp; omega) (by simp; omega)]
    simp

variable (cmp : X → X → Int)

def insRev (x : X) : List X → List X
  | [] => [x]
  | u :: t => if cmp x u < 0 then u :: insRev x t else x :: u :: t
def insR (l : List X) (x : X) : List X := (insRev cmp x l.reverse).reverse
def sortBy (l : List X) : List X := l.foldl (insR cmp) []

theorem insR_nil (x : X) : insR cmp [] x = [x] := rfl
theorem insR_snoc (l : List X) (u x : X) : insR cmp (l ++ [u]) x = if cmp x u < 0 then insR cmp l x ++ [u] else l ++ [u, x] := by
  unfold insR
  simp only [List.reverse_append, List.reverse_cons, List.reverse_nil, List.nil_append, List.singleton_append, insRev]
  split <;> simp

theorem insR_len (l : List X) (x : X) : (insR cmp l x).length = l.length + 1 := by
  have key : ∀ l : List X, (insRev cmp x l).length = l.length + 1 := by
    intro l
    induction l with
    | nil => rfl
    | cons u t ih => simp only [insRev]; split <;> simp [ih]
  simp [insR, key]

theorem sortBy_snoc (l : List X) (x : X) : sortBy cmp (l ++ [x]) = insR cmp (sortBy cmp l) x := by simp [sortBy, List.foldl_append]
theorem snoc_ind {motive : List X → Prop} (h0 : motive []) (h1 : ∀ l x, motive l → motive (l ++ [x])) : ∀ l, motive l := by
  intro l
  have key : ∀ l : List X, motive l.reverse := by
    intro l
    induction l with
    | nil => exact h0
    | cons x t ih => rw [List.reverse_cons]; exact h1 _ _ ih
  have := key l.reverse
  rwa [List.reverse_reverse] at this
theorem sortBy_len (l : List X) : (sortBy cmp l).length = l.length := by
  refine snoc_ind (motive := fun l => (sortBy cmp l).length = l.length) ?_ ?_ l
  · rfl
  · intro l x ih; rw [sortBy_snoc, insR_len, ih]; simp

def insJ (a : Nat) : Nat → List X → List X
  | 0, c => c
  | j + 1, c => if a < j + 1 then match c[j + 1]?, c[j]? with
      | some x, some y => if cmp x y < 0 then insJ a j (swp c (j + 1) j) else c
      | _, _ => c
    else c

theorem swp_comm (c : List X) (i j : Nat) (h : i ≠ j) : swp c i j = swp c j i := by
  unfold swp
  split
  · rename_i x y h1 h2
    simp only [h1, h2]
    rw [List.set_comm _ _ h]
  · rename_i h1
    split
    · rename_i y x h2 h3
      exact absurd h2 (by intro h2; exact h1 x y h3 h2)
    · rfl

theorem insJ_blocks (A R : List X) (x : X) : ∀ (U : List X) (j : Nat), j = A.length + U.length → insJ cmp A.length j (A ++ (U ++ x :: R)) = A ++ (insR cmp U x ++ R) := by
  intro U
  revert R
  refine snoc_ind (motive := fun U => ∀ (R : List X) (j : Nat), j = A.length + U.length → insJ cmp A.length j (A ++ (U ++ x :: R)) = A ++ (insR cmp U x ++ R)) ?_ ?_ U
  · intro R j hj
    cases j with
    | zero => simp [insJ, insR_nil]
    | succ j => simp at hj; simp [insJ, insR_nil, hj]
  · intro U u ih R j hj
    cases j with
    | zero => simp at hj
    | succ j =>
      simp only [List.length_append, List.length_cons, List.length_nil] at hj
      have h1 : (A ++ (U ++ [u] ++ x :: R))[j + 1]? = some x := by
        have := get_mid (A ++ (U ++ [u])) R x (k := j + 1) (by simp; omega)
        simpa using this
      have h2 : (A ++ (U ++ [u] ++ x :: R))[j]? = some u := by
        have := get_mid (A ++ U) (x :: R) u (k := j) (by simp; omega)
        simpa using this
      simp only [insJ, h1, h2]
      rw [if_pos (by omega), insR_snoc]
      split
      · rename_i hlt
        have e : swp (A ++ (U ++ [u] ++ x :: R)) (j + 1) j = A ++ (U ++ x :: (u :: R)) := by
          rw [swp_comm _ _ _ (by omega)]
          have := swp_mid (A ++ U) [] R u x (i := j) (j := j + 1) (by simp; omega) (by simp; omega)
          simpa using this
        rw [e, ih (u :: R) j (by omega)]
        simp
      · simp

def insI (a : Nat) : Nat → Nat → List X → List X
  | 0, _, c => c
  | m + 1, i, c => insI a m (i + 1) (insJ cmp a i c)

theorem insI_blocks (A B : List X) : ∀ (V U : List X) (i : Nat), i = A.length + U.length → insI cmp A.length V.length i (A ++ (U ++ (V ++ B))) = A ++ (V.foldl (insR cmp) U ++ B)
  | [], U, i, hi => by simp [insI]
  | v :: V, U, i, hi => by
    simp only [List.length_cons, insI]
    have := insJ_blocks cmp A (V ++ B) v U i hi
    simp only [List.cons_append, List.foldl_cons] at this ⊢
    rw [this, insI_blocks A B V (insR cmp U v) (i + 1) (by rw [insR_len]; omega)]

theorem insI_all (A U B : List X) : insI cmp A.length (U.length - 1) (A.length + 1) (A ++ (U ++ B)) = A ++ (sortBy cmp U ++ B) := by
  cases U with
  | nil => simp [insI, sortBy]
  | cons u U =>
    have := insI_blocks cmp A B U [u] (A.length + 1) rfl
    simpa [sortBy, insR_nil] using this


structure TP : Prop where
  anti : ∀ x y, cmp x y < 0 ↔ 0 < cmp y x
  trans : ∀ x y z, cmp x y ≤ 0 → cmp y z ≤ 0 → cmp x z ≤ 0

def Sorted (l : List X) : Prop := l.Pairwise fun x y => cmp x y ≤ 0
def eqv (c x : X) : Bool := cmp c x == 0
def StEq (l m : List X) : Prop := ∀ c, l.filter (eqv cmp c) = m.filter (eqv cmp c)

variable {cmp} (h : TP cmp)
include h

theorem TP.refl (x : X) : cmp x x = 0 := by have := h.anti x x; omega
theorem TP.flip {x y : X} : ¬ cmp x y < 0 → cmp y x ≤ 0 := fun hn => by have := h.anti x y; omega
theorem TP.zero {x y : X} : cmp x y = 0 → cmp y x = 0 := fun hn => by have := h.anti x y; have := h.anti y x; omega
theorem TP.lt_le {x y z : X} (h1 : cmp x y < 0) (h2 : cmp y z ≤ 0) : cmp x z < 0 := by
  have h3 := h.trans x y z (by omega) h2
  by_cases he : cmp x z < 0
  · exact he
  · exfalso
    have h4 : cmp z x ≤ 0 := h.flip he
    have h5 := h.trans y z x h2 h4
    have := (h.anti x y).1 h1
    omega
theorem TP.le_lt {x y z : X} (h1 : cmp x y ≤ 0) (h2 : cmp y z < 0) : cmp x z < 0 := by
  have h3 := h.trans x y z h1 (by omega)
  by_cases he : cmp x z < 0
  · exact he
  · exfalso
    have h4 : cmp z x ≤ 0 := h.flip he
    have h5 := h.trans z x y h4 h1
    have := (h.anti y z).1 h2
    omega

omit h in
theorem StEq.app {a b c d : List X} (h1 : StEq cmp a b) (h2 : StEq cmp c d) : StEq cmp (a ++ c) (b ++ d) := fun x => by rw [List.filter_append, List.filter_append, h1 x, h2 x]

omit h in
theorem StEq.refl (a : List X) : StEq cmp a a := fun _ => rfl
omit h in
theorem StEq.trans {a b c : List X} (h1 : StEq cmp a b) (h2 : StEq cmp b c) : StEq cmp a c := fun x => (h1 x).trans (h2 x)
omit h in
theorem StEq.symm {a b : List X} (h1 : StEq cmp a b) : StEq cmp b a := fun x => (h1 x).symm

theorem StEq.mem {a b : List X} (h1 : StEq cmp a b) {x : X} (hx : x ∈ a) : x ∈ b := by
  have : x ∈ a.filter (eqv cmp x) := List.mem_filter.2 ⟨hx, by simp [eqv, h.refl]⟩
  rw [h1 x] at this
  exact (List.mem_filter.1 this).1

theorem StEq.swap {a b : List X} (hs : ∀ x ∈ a, ∀ y ∈ b, cmp y x < 0) : StEq cmp (a ++ b) (b ++ a) := by
  intro c
  rw [List.filter_append, List.filter_append]
  by_cases ha : a.filter (eqv cmp c) = []
  · rw [ha]; simp
  · by_cases hb : b.filter (eqv cmp c) = []
    · rw [hb]; simp
    · exfalso
      obtain ⟨x, hx⟩ := List.exists_mem_of_ne_nil _ ha
      obtain ⟨y, hy⟩ := List.exists_mem_of_ne_nil _ hb
      rw [List.mem_filter] at hx hy
      have h1 := hs x hx.1 y hy.1
      have h2 : cmp c x = 0 := by simpa [eqv] using hx.2
      have h3 : cmp c y = 0 := by simpa [eqv] using hy.2
      have h4 := h.le_lt (x := c) (by omega) h1
      omega

theorem sorted_unique : ∀ (l m : List X), Sorted cmp l → Sorted cmp m → StEq cmp l m → l = m
  | [], [], _, _, _ => rfl
  | [], y :: m, _, _, he => by have := StEq.mem h he.symm (x := y) (by simp); simp at this
  | x :: l, [], _, _, he => by have := StEq.mem h he (x := x) (by simp); simp at this
  | x :: l, y :: m, hl, hm, he => by
    have h1 : y ∈ x :: l := StEq.mem h he.symm (by simp)
    have h2 : x ∈ y :: m := StEq.mem h he (by simp)
    have hxy : cmp x y ≤ 0 := by
      rcases List.mem_cons.1 h1 with e | e
      · subst e; have := h.refl y; omega
      · exact (List.pairwise_cons.1 hl).1 y e
    have hyx : cmp y x ≤ 0 := by
      rcases List.mem_cons.1 h2 with e | e
      · subst e; have := h.refl x; omega
      · exact (List.pairwise_cons.1 hm).1 x e
    have h0 : cmp x y = 0 := by have := h.anti x y; have := h.anti y x; omega
    have hf := he x
    rw [List.filter_cons_of_pos (by simp [eqv, h.refl]), List.filter_cons_of_pos (by simp [eqv, h0])] at hf
    have e : x = y := (List.cons.inj hf).1
    subst e
    have ht : StEq cmp l m := by
      intro c
      have := he c
      simp only [List.filter_cons] at this
      split at this
      · exact (List.cons.inj this).2
      · exact this
    rw [sorted_unique l m (List.pairwise_cons.1 hl).2 (List.pairwise_cons.1 hm).2 ht]

theorem insR_spec (x : X) (l : List X) (hl : Sorted cmp l) : Sorted cmp (insR cmp l x) ∧ StEq cmp (insR cmp l x) (l ++ [x]) ∧ ∀ y ∈ insR cmp l x, y = x ∨ y ∈ l := by
  revert hl
  refine snoc_ind (motive := fun l => Sorted cmp l → Sorted cmp (insR cmp l x) ∧ StEq cmp (insR cmp l x) (l ++ [x]) ∧ ∀ y ∈ insR cmp l x, y = x ∨ y ∈ l) ?_ ?_ l
  · intro _; rw [insR_nil]; exact ⟨by simp [Sorted], StEq.refl _, fun y hy => by simpa using hy⟩
  · intro l u ih hl
    have hl' : Sorted cmp l := (List.pairwise_append.1 hl).1
    have hlu : ∀ y ∈ l, cmp y u ≤ 0 := fun y hy => (List.pairwise_append.1 hl).2.2 y hy u (by simp)
    obtain ⟨i1, i2, i3⟩ := ih hl'
    rw [insR_snoc]
    split
    · rename_i hlt
      refine ⟨?_, ?_, ?_⟩
      · refine List.pairwise_append.2 ⟨i1, by simp, fun y hy z hz => ?_⟩
        simp at hz; subst hz
        rcases i3 y hy with e | e
        · subst e; omega
        · exact hlu y e
      · refine (StEq.app i2 (StEq.refl [u])).trans ?_
        rw [List.append_assoc, List.append_assoc]
        refine StEq.app (StEq.refl l) ?_
        exact (StEq.swap h (a := [u]) (b := [x]) fun p hp q hq => by simp at hp hq; subst hp; subst hq; exact hlt).symm
      · intro y hy
        rcases List.mem_append.1 hy with hy | hy
        · rcases i3 y hy with e | e
          · exact .inl e
          · exact .inr (by simp [e])
        · exact .inr (by simp at hy; simp [hy])
    · rename_i hlt
      refine ⟨?_, by rw [show l ++ [u, x] = l ++ [u] ++ [x] by simp]; exact StEq.refl _, fun y hy => by simp at hy ⊢; rcases hy with e | e | e <;> simp [e]⟩
      rw [show l ++ [u, x] = (l ++ [u]) ++ [x] by simp]
      refine List.pairwise_append.2 ⟨hl, by simp, fun y hy z hz => ?_⟩
      simp at hz; subst hz
      have hux : cmp u z ≤ 0 := h.flip hlt
      rcases List.mem_append.1 hy with hy | hy
      · exact h.trans _ _ _ (hlu y hy) hux
      · simp at hy; subst hy; exact hux

theorem sortBy_spec (l : List X) : Sorted cmp (sortBy cmp l) ∧ StEq cmp (sortBy cmp l) l := by
  refine snoc_ind (motive := fun l => Sorted cmp (sortBy cmp l) ∧ StEq cmp (sortBy cmp l) l) ?_ ?_ l
  · exact ⟨by simp [Sorted, sortBy], StEq.refl _⟩
  · intro l x ih
    rw [sortBy_snoc]
    obtain ⟨h1, h2, _⟩ := insR_spec h x _ ih.1
    exact ⟨h1, h2.trans (StEq.app ih.2 (StEq.refl [x]))⟩

theorem sortBy_eq {l m : List X} (hl : Sorted cmp l) (he : StEq cmp l m) : sortBy cmp m = l :=
  sorted_unique h _ _ (sortBy_spec h m).1 hl ((sortBy_spec h m).2.trans he.symm)

theorem sortBy_mem {l : List X} {x : X} : x ∈ sortBy cmp l ↔ x ∈ l := ⟨fun hx => StEq.mem h (sortBy_spec h l).2 hx, fun hx => StEq.mem h (sortBy_spec h l).2.symm hx⟩
theorem sortBy_congr {l m : List X} (he : StEq cmp l m) : sortBy cmp l = sortBy cmp m := sortBy_eq h (sortBy_spec h m).1 ((sortBy_spec h m).2.trans he.symm)


theorem merge_left1 {x : X} {V1 V2 : List X} (hv : Sorted cmp (V1 ++ V2)) (h1 : ∀ v ∈ V1, cmp v x < 0) (h2 : ∀ v ∈ V2, ¬ cmp v x < 0) : sortBy cmp (x :: (V1 ++ V2)) = V1 ++ x :: V2 := by
  have hp := List.pairwise_append.1 hv
  refine sortBy_eq h ?_ ?_
  · refine List.pairwise_append.2 ⟨hp.1, List.pairwise_cons.2 ⟨fun v hv => h.flip (h2 v hv), hp.2.1⟩, fun v hv w hw => ?_⟩
    rcases List.mem_cons.1 hw with e | e
    · subst e; have := h1 v hv; omega
    · exact hp.2.2 v hv w e
  · rw [show x :: (V1 ++ V2) = ([x] ++ V1) ++ V2 by simp, show V1 ++ x :: V2 = (V1 ++ [x]) ++ V2 by simp]
    exact StEq.app (StEq.swap h (a := [x]) (b := V1) fun p hp q hq => by simp at hp; subst hp; exact h1 q hq).symm (StEq.refl _)

theorem merge_right1 {y : X} {U1 U2 : List X} (hu : Sorted cmp (U1 ++ U2)) (h1 : ∀ u ∈ U1, ¬ cmp y u < 0) (h2 : ∀ u ∈ U2, cmp y u < 0) : sortBy cmp ((U1 ++ U2) ++ [y]) = U1 ++ y :: U2 := by
  have hp := List.pairwise_append.1 hu
  refine sortBy_eq h ?_ ?_
  · refine List.pairwise_append.2 ⟨hp.1, List.pairwise_cons.2 ⟨fun v hv => by have := h2 v hv; omega, hp.2.1⟩, fun v hv w hw => ?_⟩
    rcases List.mem_cons.1 hw with e | e
    · subst e; exact h.flip (h1 v hv)
    · exact hp.2.2 v hv w e
  · rw [show (U1 ++ U2) ++ [y] = U1 ++ (U2 ++ [y]) by simp, show U1 ++ y :: U2 = U1 ++ ([y] ++ U2) by simp]
    exact StEq.app (StEq.refl _) (StEq.swap h (a := U2) (b := [y]) fun p hp q hq => by simp at hq; subst hq; exact h2 p hp).symm

theorem merge_split {U1 U2 V1 V2 : List X} (hu : Sorted cmp (U1 ++ U2)) (hv : Sorted cmp (V1 ++ V2)) (h1 : ∀ u ∈ U1, ∀ v ∈ V2, cmp u v ≤ 0) (h2 : ∀ v ∈ V1, ∀ u ∈ U2, cmp v u < 0) :
    sortBy cmp ((U1 ++ U2) ++ (V1 ++ V2)) = sortBy cmp (U1 ++ V1) ++ sortBy cmp (U2 ++ V2) := by
  have hpu := List.pairwise_append.1 hu
  have hpv := List.pairwise_append.1 hv
  refine sortBy_eq h ?_ ?_
  · refine List.pairwise_append.2 ⟨(sortBy_spec h _).1, (sortBy_spec h _).1, fun x hx y hy => ?_⟩
    rw [sortBy_mem h] at hx hy
    rcases List.mem_append.1 hx with hx | hx <;> rcases List.mem_append.1 hy with hy | hy
    · exact hpu.2.2 x hx y hy
    · exact h1 x hx y hy
    · have := h2 x hx y hy; omega
    · exact hpv.2.2 x hx y hy
  · refine (StEq.app (sortBy_spec h _).2 (sortBy_spec h _).2).trans ?_
    rw [show U1 ++ V1 ++ (U2 ++ V2) = U1 ++ ((V1 ++ U2) ++ V2) by simp, show U1 ++ U2 ++ (V1 ++ V2) = U1 ++ ((U2 ++ V1) ++ V2) by simp]
    exact StEq.app (StEq.refl _) (StEq.app (StEq.swap h (a := U2) (b := V1) fun p hp q hq => h2 q hq p hp).symm (StEq.refl _))

theorem sortBy_app {U V : List X} : sortBy cmp (sortBy cmp U ++ sortBy cmp V) = sortBy cmp (U ++ V) := sortBy_congr h (StEq.app (sortBy_spec h U).2 (sortBy_spec h V).2)
theorem sortBy_self {U : List X} (hu : Sorted cmp U) : sortBy cmp U = U := sortBy_eq h hu (StEq.refl _)

omit h in
theorem StEq.len {a b : List X} (hab : StEq cmp a b) (h : TP cmp) : a.length = b.length := by
  rw [← sortBy_len cmp a, ← sortBy_len cmp b, sortBy_congr h hab]


def BS (cmp : X → X → Int) (w : Nat) (l : List X) : Prop := ∀ (i j : Nat) x y, i < j → i / w = j / w → l[i]? = some x → l[j]? = some y → cmp x y ≤ 0

omit h in
theorem BS.of_sorted {w : Nat} {l : List X} (hl : Sorted cmp l) : BS cmp w l := fun i j x y hij _ hx hy => by
  obtain ⟨hi, rfl⟩ := List.getElem?_eq_some_iff.1 hx
  obtain ⟨hj, rfl⟩ := List.getElem?_eq_some_iff.1 hy
  exact List.pairwise_iff_getElem.1 hl i j hi hj hij
omit h in
theorem BS.sorted {w : Nat} {l : List X} (hb : BS cmp w l) (hw : l.length ≤ w) : Sorted cmp l :=
  List.pairwise_iff_getElem.2 fun i j hi hj hij => hb i j _ _ hij (by rw [Nat.div_eq_of_lt (by omega), Nat.div_eq_of_lt (by omega)]) (List.getElem?_eq_getElem hi) (List.getElem?_eq_getElem hj)
omit h in
theorem BS.app {w k : Nat} (hw : 0 < w) {P R : List X} (hP : P.length = k * w) (h1 : BS cmp w P) (h2 : BS cmp w R) : BS cmp w (P ++ R) := fun i j x y hij he hx hy => by
  rw [List.getElem?_append] at hx hy
  by_cases hi : i < P.length
  · rw [if_pos hi] at hx
    have hj : j < P.length := by
      have a1 : i / w < k := Nat.div_lt_of_lt_mul (by rw [Nat.mul_comm]; omega)
      have a2 := Nat.lt_div_mul_add (a := j) hw
      have a3 : (j / w + 1) * w ≤ k * w := Nat.mul_le_mul_right _ (by omega)
      have a4 : (j / w + 1) * w = j / w * w + w := by rw [Nat.add_mul, Nat.one_mul]
      omega
    rw [if_pos hj] at hy
    exact h1 i j x y hij he hx hy
  · rw [if_neg hi] at hx
    rw [if_neg (by omega)] at hy
    refine h2 (i - P.length) (j - P.length) x y (by omega) ?_ hx hy
    have e1 : i = (i - P.length) + k * w := by omega
    have e2 : j = (j - P.length) + k * w := by omega
    rw [e1, e2, Nat.add_mul_div_right _ _ hw, Nat.add_mul_div_right _ _ hw] at he
    omega
omit h in
theorem BS.right {w k : Nat} (hw : 0 < w) {P R : List X} (hP : P.length = k * w) (hb : BS cmp w (P ++ R)) : BS cmp w R := fun i j x y hij he hx hy => by
  refine hb (i + k * w) (j + k * w) x y (by omega) (by rw [Nat.add_mul_div_right _ _ hw, Nat.add_mul_div_right _ _ hw, he]) ?_ ?_
  · rw [List.getElem?_append_right (by omega), show i + k * w - P.length = i by omega]; exact hx
  · rw [List.getElem?_append_right (by omega), show j + k * w - P.length = j by omega]; exact hy
omit h in
theorem BS.left {w : Nat} {P R : List X} (hb : BS cmp w (P ++ R)) : BS cmp w P := fun i j x y hij he hx hy => by
  refine hb i j x y hij he ?_ ?_
  · rw [List.getElem?_append_left (List.getElem?_eq_some_iff.1 hx).1]; exact hx
  · rw [List.getElem?_append_left (List.getElem?_eq_some_iff.1 hy).1]; exact hy
theorem Sorted.of_sortBy (l : List X) : Sorted cmp (sortBy cmp l) := (sortBy_spec h l).1

end
end Pv
