import Derived.Test.YtkbghhholjfgfaaPv15
set_option linter.unusedSimpArgs false
set_option linter.unusedVariables false
namespace Pv
open Go

/-- A region in the text's order. -/
def pEv0 (P : Program) (all : Array Oper) (n0 : Nat) : List Oper → (PS → Prop) → PS → Prop
  | [], K, st => K st
  | o :: os, K, st => match guardDec all st.T o with
    | some w =>
      (w = true → match fstep P n0 (find st.H) st.T o with
        | some r => pEv0 P all n0 os K ⟨setD st.T o.dst r.v, puts st.H r.wr⟩
        | none => match callOf st.T o with
          | some (f, args) => ∃ r, CallSem P f args (find st.H) r ∧ pEv0 P all n0 os K ⟨setD st.T o.dst r.v, puts st.H r.wr⟩
          | none => False) ∧
      (w = false → pEv0 P all n0 os K ⟨setD st.T o.dst (.tup []), st.H⟩)
    | none => False

/-- The same, and the footprints of what is done. -/
def pEv (P : Program) (all : Array Oper) (n0 : Nat) : List Oper → List (List Nat × List Nat) → (List (List Nat × List Nat) → PS → Prop) → PS → Prop
  | [], acc, K, st => K acc.reverse st
  | o :: os, acc, K, st => match guardDec all st.T o with
    | some w =>
      (w = true → match fstep P n0 (find st.H) st.T o with
        | some r => pEv P all n0 os ((r.rd, r.wr.map (·.1)) :: acc) K ⟨setD st.T o.dst r.v, puts st.H r.wr⟩
        | none => match callOf st.T o with
          | some (f, args) => ∃ r, CallSem P f args (find st.H) r ∧ pEv P all n0 os ((r.rd, r.wr.map (·.1)) :: acc) K ⟨setD st.T o.dst r.v, puts st.H r.wr⟩
          | none => False) ∧
      (w = false → pEv P all n0 os (([], []) :: acc) K ⟨setD st.T o.dst (.tup []), st.H⟩)
    | none => False

def pRun (P : Program) (all : Array Oper) : List Oper → List Res → (List Res → PS → Prop) → PS → Prop
  | [], acc, K, st => K acc.reverse st
  | o :: os, acc, K, st => ∃ r, OpSem P all o st.T (find st.H) r ∧ pRun P all os (r :: acc) K ⟨setD st.T o.dst r.v, puts st.H r.wr⟩

section
variable {P : Program} {all : Array Oper} {n0 : Nat}

theorem pEv0_run : ∀ (os : List Oper) (acc : List Res) (K : PS → Prop) (st : PS), pEv0 P all n0 os K st → pRun P all os acc (fun _ => K) st
  | [], acc, K, st, h => h
  | o :: os, acc, K, st, h => by
    simp only [pEv0] at h
    split at h
    · rename_i w hg
      cases w with
      | true =>
        have h := h.1 rfl
        split at h
        · rename_i r hr; exact ⟨r, opSem_step hg hr, pEv0_run os _ K _ h⟩
        · split at h
          · rename_i f args hc
            obtain ⟨r, hr, h⟩ := h
            exact ⟨r, opSem_call hg hc hr, pEv0_run os _ K _ h⟩
          · exact h.elim
      | false =>
        have h := h.2 rfl
        exact ⟨_, opSem_skip hg, pEv0_run os _ K _ h⟩
    · exact h.elim

def foot (r : Res) : List Nat × List Nat := (r.rd, r.wr.map (·.1))

theorem pEv_run : ∀ (os : List Oper) (acc : List Res) (K : List (List Nat × List Nat) → PS → Prop) (st : PS), pEv P all n0 os (acc.map foot) K st → pRun P all os acc (fun l => K (l.map foot)) st
  | [], acc, K, st, h => by simpa [pRun, pEv, List.map_reverse] using h
  | o :: os, acc, K, st, h => by
    simp only [pEv] at h
    split at h
    · rename_i w hg
      cases w with
      | true =>
        have h := h.1 rfl
        split at h
        · rename_i r hr; exact ⟨r, opSem_step hg hr, pEv_run os (r :: acc) K _ h⟩
        · split at h
          · rename_i f args hc
            obtain ⟨r, hr, h⟩ := h
            exact ⟨r, opSem_call hg hc hr, pEv_run os (r :: acc) K _ h⟩
          · exact h.elim
      | false =>
        have h := h.2 rfl
        exact ⟨_, opSem_skip hg, pEv_run os ({ v := .tup [] } :: acc) K _ h⟩
    · exact h.elim

theorem setD_rel {c : Cx} {T : List PV} {a : Act} (hT : RelL c T a.tmps.toList) (d : Option Tmp) {p : PV} {v : Value} (hp : Rel c false p v) : RelL c (setD T d p) (a.put d v).tmps.toList := by
  cases d with
  | none => exact hT
  | some d =>
    simp only [setD, Act.put, Array.toList_setIfInBounds]
    exact hT.set hp d

theorem put_defers (a : Act) (d : Option Tmp) (v : Value) : (a.put d v).defers = a.defers := by cases d <;> rfl

theorem St.step {c0 : Cx} {H0 : FH} {T : List PV} {H : FH} {o : Oper} {r : Res} (h : OpSem P all o T H r) {a : Act} {w : World} (hs : St c0 H0 T H a w) {i : Nat} (hi : all[i]? = some o) {K : Act → World → Prop} {Q : Exit → Act → World → Prop}
    (hK : ∀ a' w', St c0 H0 (setD T o.dst r.v) (upd H r.wr) a' w' → K a' w') : wpOp P all Q i K a w := by
  obtain ⟨c, rfl, h1, h2, h3, h4⟩ := hs
  unfold wpOp
  simp only [hi]
  have h3' : RelL c T a.tmps.toList := h3
  refine h T H (fun _ _ => rfl) (fun _ _ => rfl) c a h1 h3 K Q ?_
  intro v c' g1 g2 g3
  exact hK _ _ ⟨c', rfl, g2, h2.trans g3, setD_rel (h3'.mono g3.le) o.dst g1, by rw [put_defers]; exact h4⟩

theorem pRun_wp {c0 : Cx} {H0 : FH} {Q : Exit → PS → Prop} {K : List Res → PS → Prop} (hq : ∀ l st, K l st → Q .normal st) : ∀ (os : List Oper) (i : Nat) (acc : List Res) (st : PS), all.toList.drop i = os → pRun P all os acc K st →
    ∀ a w, St c0 H0 st.T (find st.H) a w → wpOps P all (fun e a' w' => ∃ st', Q e st' ∧ St c0 H0 st'.T (find st'.H) a' w') (List.range' i os.length) a w
  | [], i, acc, st, hd, h, a, w, hs => ⟨st, hq _ _ h, hs⟩
  | o :: os, i, acc, st, hd, h, a, w, hs => by
    obtain ⟨r, h1, h2⟩ := h
    have hi : all[i]? = some o := by
      have := congrArg (·[0]?) hd
      simpa using this
    have hd' : all.toList.drop (i + 1) = os := by
      have : (all.toList.drop i).drop 1 = os := by rw [hd]; rfl
      rwa [List.drop_drop] at this
    rw [List.length_cons, List.range'_succ, wpOps_cons]
    refine St.step h1 hs hi fun a' w' hs' => ?_
    refine pRun_wp hq os (i + 1) (r :: acc) ⟨setD st.T o.dst r.v, puts st.H r.wr⟩ hd' h2 a' w' ?_
    simp only [find_puts]
    exact hs'

theorem pw_region {c0 : Cx} {H0 : FH} {id : Nat} {Q : Exit → PS → Prop} {st : PS} (n0 : Nat) (h : pEv0 P all n0 all.toList (Q .normal) st) : pw P c0 H0 (.region id all false) Q st := by
  intro a w hs
  refine wp_region ?_
  have := pRun_wp (P := P) (all := all) (Q := Q) (K := fun _ => Q .normal) (fun _ _ h => h) all.toList 0 [] st rfl (pEv0_run _ _ _ _ h) a w hs
  rw [← List.range_eq_range', Array.length_toList] at this
  exact this

end
end Pv
