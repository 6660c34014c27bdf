import Derived.Test.YtkbghhholjfgfaaPv16
set_option linter.unusedSimpArgs false
set_option linter.unusedVariables false
namespace Pv
open Go

/-! ### Slots and boxes behind a part of a region's operations, in the text's order -/

def tF (S : Nat → Bool) : Nat → List (Option Tmp × Res) → List PV → List PV
  | _, [], T => T
  | k, (d, r) :: l, T => tF S (k + 1) l (bif S k then setD T d r.v else T)

def hF (S : Nat → Bool) : Nat → List (Option Tmp × Res) → FH → FH
  | _, [], H => H
  | k, (_, r) :: l, H => hF S (k + 1) l (bif S k then upd H r.wr else H)

theorem setD_length (T : List PV) (d : Option Tmp) (v : PV) : (setD T d v).length = T.length := by cases d <;> simp [setD]
theorem setD_ne {T : List PV} {d : Option Tmp} {v : PV} {t : Nat} (h : d ≠ some t) : (setD T d v)[t]? = T[t]? := by
  cases d with
  | none => rfl
  | some d => simp only [setD]; rw [List.getElem?_set_ne (fun e => h (congrArg some e))]
theorem setD_eq {T : List PV} {v : PV} {t : Nat} : (setD T (some t) v)[t]? = if t < T.length then some v else none := by
  simp [setD, List.getElem?_set]

theorem upd_ne {H : FH} {wr : List (Nat × Box)} {b : Nat} (h : b ∉ wr.map (·.1)) : upd H wr b = H b := by
  induction wr generalizing H with
  | nil => rfl
  | cons p t ih =>
    obtain ⟨k, x⟩ := p
    simp only [List.map_cons, List.mem_cons, not_or] at h
    simp only [upd]
    rw [ih h.2, if_neg h.1]

theorem upd_eq {H H' : FH} {wr : List (Nat × Box)} {b : Nat} (h : b ∈ wr.map (·.1) ∨ H b = H' b) : upd H wr b = upd H' wr b := by
  induction wr generalizing H H' with
  | nil => simpa [upd] using h
  | cons p t ih =>
    obtain ⟨k, x⟩ := p
    simp only [upd]
    apply ih
    simp only [List.map_cons, List.mem_cons] at h
    by_cases hb : b = k
    · right; simp [hb]
    · rcases h with (h | h) | h
      · exact absurd h hb
      · exact .inl h
      · right; simp [hb, h]

theorem tF_length (S : Nat → Bool) : ∀ (l : List (Option Tmp × Res)) (k : Nat) (T : List PV), (tF S k l T).length = T.length
  | [], _, _ => rfl
  | (d, r) :: l, k, T => by
    simp only [tF]
    rw [tF_length S l]
    cases S k <;> simp [setD_length]

theorem tF_congr {S S' : Nat → Bool} {t : Nat} : ∀ (l : List (Option Tmp × Res)) (k : Nat) (T T' : List PV), T.length = T'.length → T[t]? = T'[t]? → (∀ j d r, l[j]? = some (d, r) → d = some t → S (k + j) = S' (k + j)) →
    (tF S k l T)[t]? = (tF S' k l T')[t]?
  | [], _, _, _, _, h, _ => h
  | (d, r) :: l, k, T, T', hl, h, hS => by
    simp only [tF]
    have hrest : ∀ j d' r', l[j]? = some (d', r') → d' = some t → S (k + 1 + j) = S' (k + 1 + j) := fun j d' r' hj hd => by
      have := hS (j + 1) d' r' (by simpa using hj) hd
      rwa [show k + (j + 1) = k + 1 + j by omega] at this
    refine tF_congr l (k + 1) _ _ ?_ ?_ hrest
    · cases S k <;> cases S' k <;> simp [setD_length, hl]
    · by_cases hd : d = some t
      · have := hS 0 d r rfl hd
        simp only [Nat.add_zero] at this
        rw [this]
        subst hd
        cases S' k with
        | true => simp only [cond_true, setD_eq, hl]
        | false => simpa using h
      · cases S k <;> cases S' k <;> simp only [cond_true, cond_false] <;> (try rw [setD_ne hd]) <;> (try rw [setD_ne hd]) <;> exact h

theorem tF_last {S : Nat → Bool} {t : Nat} : ∀ (l : List (Option Tmp × Res)) (k : Nat) (T : List PV) (i : Nat) (r : Res), l[i]? = some (some t, r) → S (k + i) = true → (∀ j d r', l[j]? = some (d, r') → i < j → d = some t → S (k + j) = false) →
    (tF S k l T)[t]? = if t < T.length then some r.v else none
  | [], _, _, i, r, h, _, _ => by simp at h
  | (d, r0) :: l, k, T, i, r, h, hi, hS => by
    simp only [tF]
    cases i with
    | zero =>
      simp only [List.getElem?_cons_zero, Option.some.injEq, Prod.mk.injEq] at h
      obtain ⟨rfl, rfl⟩ := h
      simp only [Nat.add_zero] at hi
      simp only [hi, cond_true]
      have h1 := tF_congr (S := S) (S' := fun _ => false) (t := t) l (k + 1) (setD T (some t) r0.v) (setD T (some t) r0.v) rfl rfl (fun j d r' hj hd => by
        have := hS (j + 1) d r' (by simpa using hj) (by omega) hd
        rwa [show k + (j + 1) = k + 1 + j by omega] at this)
      rw [h1]
      have h2 : ∀ (l : List (Option Tmp × Res)) k T, tF (fun _ => false) k l T = T := by
        intro l
        induction l with
        | nil => intro k T; rfl
        | cons p l ih => intro k T; obtain ⟨d, r⟩ := p; simp [tF, ih]
      rw [h2, setD_eq]
    | succ i =>
      have := tF_last (S := S) (t := t) l (k + 1) (bif S k then setD T d r0.v else T) i r (by simpa using h) (by rwa [show k + 1 + i = k + (i + 1) by omega]) (fun j d' r' hj hij hd => by
        have := hS (j + 1) d' r' (by simpa using hj) (by omega) hd
        rwa [show k + (j + 1) = k + 1 + j by omega] at this)
      rw [this]
      cases S k <;> simp [setD_length]

theorem hF_congr {S S' : Nat → Bool} {b : Nat} : ∀ (l : List (Option Tmp × Res)) (k : Nat) (H H' : FH), H b = H' b → (∀ j d r, l[j]? = some (d, r) → b ∈ r.wr.map (·.1) → S (k + j) = S' (k + j)) → hF S k l H b = hF S' k l H' b
  | [], _, _, _, h, _ => h
  | (d, r) :: l, k, H, H', h, hS => by
    simp only [hF]
    have hrest : ∀ j d' r', l[j]? = some (d', r') → b ∈ r'.wr.map (·.1) → S (k + 1 + j) = S' (k + 1 + j) := fun j d' r' hj hd => by
      have := hS (j + 1) d' r' (by simpa using hj) hd
      rwa [show k + (j + 1) = k + 1 + j by omega] at this
    refine hF_congr l (k + 1) _ _ ?_ hrest
    by_cases hd : b ∈ r.wr.map (·.1)
    · have := hS 0 d r rfl hd
      simp only [Nat.add_zero] at this
      rw [this]
      cases S' k with
      | true => exact upd_eq (.inl hd)
      | false => exact h
    · cases S k <;> cases S' k <;> simp only [cond_true, cond_false] <;> (try rw [upd_ne hd]) <;> (try rw [upd_ne hd]) <;> exact h

theorem hF_last {S : Nat → Bool} {b : Nat} : ∀ (l : List (Option Tmp × Res)) (k : Nat) (H : FH) (i : Nat) (d : Option Tmp) (r : Res), l[i]? = some (d, r) → b ∈ r.wr.map (·.1) → S (k + i) = true →
    (∀ j d r', l[j]? = some (d, r') → i < j → b ∈ r'.wr.map (·.1) → S (k + j) = false) → ∀ H'', hF S k l H b = upd H'' r.wr b
  | [], _, _, i, d, r, h, _, _, _, _ => by simp at h
  | (d0, r0) :: l, k, H, i, d, r, h, hb, hi, hS, H'' => by
    simp only [hF]
    cases i with
    | zero =>
      simp only [List.getElem?_cons_zero, Option.some.injEq, Prod.mk.injEq] at h
      obtain ⟨rfl, rfl⟩ := h
      simp only [Nat.add_zero] at hi
      simp only [hi, cond_true]
      have h1 := hF_congr (S := S) (S' := fun _ => false) (b := b) l (k + 1) (upd H r0.wr) (upd H r0.wr) rfl (fun j d r' hj hd => by
        have := hS (j + 1) d r' (by simpa using hj) (by omega) hd
        rwa [show k + (j + 1) = k + 1 + j by omega] at this)
      rw [h1]
      have h2 : ∀ (l : List (Option Tmp × Res)) k T, hF (fun _ => false) k l T = T := by
        intro l
        induction l with
        | nil => intro k T; rfl
        | cons p l ih => intro k T; obtain ⟨d, r⟩ := p; simp [hF, ih]
      rw [h2]
      exact upd_eq (.inl hb)
    | succ i =>
      exact hF_last (S := S) (b := b) l (k + 1) _ i d r (by simpa using h) hb (by rwa [show k + 1 + i = k + (i + 1) by omega]) (fun j d' r' hj hij hd => by
        have := hS (j + 1) d' r' (by simpa using hj) (by omega) hd
        rwa [show k + (j + 1) = k + 1 + j by omega] at this) H''

/-! ### Which operations stand ahead of which -/

def DownClosed (all : Array Oper) (S : Nat → Bool) : Prop := ∀ j o, all[j]? = some o → S j = true → ∀ e ∈ o.after.toList, Region.binds .any e = true → S e.on = true

theorem before_foldl (all : Array Oper) (S : Nat → Bool) (hS : DownClosed all S) : ∀ (os : List Oper) (acc : Array Nat), (∀ j, j < os.length → all[acc.size + j]? = os[j]?) →
    (∀ j i, j < acc.size → (acc.getD j 0).testBit i = true → S j = true → S i = true) →
    (∀ j i, j < acc.size + os.length → ((os.foldl (fun acc o => acc.push (o.after.foldl (fun s e => if Region.binds .any e then s ||| 2 ^ e.on ||| acc.getD e.on 0 else s) 0)) acc).getD j 0).testBit i = true → S j = true → S i = true)
  | [], acc, _, h => by simpa using h
  | o :: os, acc, ha, h => by
    intro j i hj
    simp only [List.foldl_cons]
    have ho : all[acc.size]? = some o := by simpa using ha 0 (by simp)
    refine before_foldl all S hS os _ ?_ ?_ j i ?_
    · intro j hj
      have := ha (j + 1) (by simp; omega)
      simp only [Array.size_push, List.getElem?_cons_succ] at this ⊢
      rw [← this]; congr 1; omega
    · intro j i hj hbit hSj
      simp only [Array.size_push] at hj
      by_cases hje : j < acc.size
      · refine h j i hje ?_ hSj
        simpa [Array.getD_eq_getD_getElem?, Array.getElem?_push, Nat.ne_of_lt hje] using hbit
      · have hj' : j = acc.size := by omega
        subst hj'
        have hbit' : (o.after.foldl (fun s e => if Region.binds .any e then s ||| 2 ^ e.on ||| acc.getD e.on 0 else s) 0).testBit i = true := by
          simpa [Array.getD_eq_getD_getElem?] using hbit
        rw [← Array.foldl_toList] at hbit'
        have hall := hS acc.size o ho hSj
        have key : ∀ (es : List Edge) (s0 : Nat), (∀ e ∈ es, e ∈ o.after.toList) → (s0.testBit i = true → S i = true) → (es.foldl (fun s e => if Region.binds .any e then s ||| 2 ^ e.on ||| acc.getD e.on 0 else s) s0).testBit i = true → S i = true := by
          intro es
          induction es with
          | nil => intro s0 _ h0 hb; exact h0 hb
          | cons e es ih =>
            intro s0 hin h0 hb
            simp only [List.foldl_cons] at hb
            refine ih _ (fun e' he' => hin e' (by simp [he'])) ?_ hb
            intro hs
            split at hs
            · rename_i hbind
              simp only [Nat.testBit_or, Bool.or_eq_true] at hs
              have hSe := hall e (hin e (by simp)) hbind
              rcases hs with (hs | hs) | hs
              · exact h0 hs
              · rw [Nat.testBit_two_pow] at hs
                have : e.on = i := by simpa using hs
                rw [← this]; exact hSe
              · by_cases heo : e.on < acc.size
                · exact h e.on i heo hs hSe
                · simp [Array.getD_eq_getD_getElem?, Array.getElem?_eq_none (Nat.le_of_not_lt heo)] at hs
            · exact h0 hs
        exact key o.after.toList 0 (fun e he => he) (by simp) hbit'
    · simp at hj ⊢; omega

theorem before_closed {all : Array Oper} {S : Nat → Bool} (hS : DownClosed all S) {i j : Nat} (hj : j < all.size) (hb : ((Region.before all).getD j 0).testBit i = true) (hSj : S j = true) : S i = true := by
  have := before_foldl all S hS all.toList #[] (fun j hj => by simp) (fun j i hj => by simp at hj) j i (by simpa using hj)
  rw [Region.before, ← Array.foldl_toList] at hb
  exact this hb hSj

def dstOf (all : Array Oper) (i : Nat) : Option Tmp := (all[i]?).bind (·.dst)
def looksOf (all : Array Oper) (i : Nat) : List Tmp := match all[i]? with | some o => o.looksAt all | none => []

/-- Does what j leaves behind matter to i? -/
def conf (all : Array Oper) (fp : List (List Nat × List Nat)) (i j : Nat) : Bool :=
  ((fp.getD j ([], [])).2.any fun b => (fp.getD i ([], [])).1.contains b || (fp.getD i ([], [])).2.contains b) ||
  (match dstOf all j with | some d => (looksOf all i).contains d || dstOf all i == some d | none => false)

def chk (all : Array Oper) (fp : List (List Nat × List Nat)) : Bool :=
  ((List.range all.size).all fun j => match all[j]? with | some o => o.after.toList.all fun e => !Region.binds .any e || decide (e.on < j) | none => true) &&
  ((List.range all.size).all fun j => (List.range j).all fun i => !(conf all fp i j || conf all fp j i) || ((Region.before all).getD j 0).testBit i)

end Pv
