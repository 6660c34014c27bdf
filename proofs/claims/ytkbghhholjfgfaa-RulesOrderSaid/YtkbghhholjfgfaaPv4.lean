import Derived.Test.YtkbghhholjfgfaaPv3
namespace Pv
open Go

/-- A moment of a call: the frame's slots and the boxes, in plain values. -/
def St (c0 : Cx) (H0 : FH) (T : List PV) (H : FH) (a : Act) (w : World) : Prop :=
  ∃ c, c.w = w ∧ Sim c H ∧ Ext c0 H0 c H ∧ RelL c T a.tmps.toList ∧ a.defers = []

/-- A statement's walk, in plain values. -/
def pw (P : Program) (c0 : Cx) (H0 : FH) (cd : Code) (Q : Exit → PS → Prop) (st : PS) : Prop :=
  ∀ a w, St c0 H0 st.T (find st.H) a w → cd.wp P (fun e a' w' => ∃ st', Q e st' ∧ St c0 H0 st'.T (find st'.H) a' w') a w

section
variable {P : Program} {c0 : Cx} {H0 : FH} {Q : Exit → PS → Prop} {st : PS}

def thenP (K : PS → Prop) (Q : Exit → PS → Prop) : Exit → PS → Prop
  | .normal, st => K st
  | e, st => Q e st

theorem pw_seq {x y : Code} (h : pw P c0 H0 x (thenP (pw P c0 H0 y Q) Q) st) : pw P c0 H0 (.seq x y) Q st := by
  intro a w hs
  refine wp_seq (wp_mono (h a w hs) ?_)
  rintro e a' w' ⟨st', hq, hs'⟩
  cases e with
  | normal => exact hq a' w' hs'
  | _ => exact ⟨st', hq, hs'⟩

theorem pw_seq_k {x y : Code} (h : ∀ K : PS → Prop, (∀ st, pw P c0 H0 y Q st → K st) → pw P c0 H0 x (thenP K Q) st) : pw P c0 H0 (.seq x y) Q st :=
  pw_seq (h _ fun _ h => h)

theorem pw_skip (h : Q .normal st) : pw P c0 H0 .skip Q st := fun _ _ hs => wp_skip ⟨st, h, hs⟩
theorem pw_label {l : Nat} (h : Q .normal st) : pw P c0 H0 (.label l) Q st := fun _ _ hs => wp_label ⟨st, h, hs⟩
theorem pw_exit {id : Nat} (h : Q (.exit id) st) : pw P c0 H0 (.exit id) Q st := fun _ _ hs => wp_exit ⟨st, h, hs⟩
theorem pw_goto {l : Nat} (h : Q (.goto l) st) : pw P c0 H0 (.goto l) Q st := fun _ _ hs => wp_goto ⟨st, h, hs⟩
theorem pw_ret (h : Q .ret st) : pw P c0 H0 .ret Q st := fun _ _ hs => wp_ret ⟨st, h, hs⟩

/-- An operand's plain value is read at its slot. -/
theorem St.ofConst (c : Cx) (v : Value) : Rel c false (ofConst v) v := by
  have hsc : ∀ u : Value, Rel c false (ofScalar u) u := by
    intro u
    unfold ofScalar
    split <;> first | exact .bool _ | exact .int _ _ | exact .str _ | exact .nilp | exact .nils | exact .nilm | exact .nilf | exact .nili | exact .any _
  unfold Pv.ofConst
  split
  · refine .agg (by simp) fun i x v h1 h2 => ?_
    simp only [List.getElem?_map, Array.getElem?_toList, h2, Option.map_some, Option.some.injEq] at h1
    subst h1
    exact hsc v
  · exact .any _
  · exact hsc _

theorem ev_rel {c : Cx} {T : List PV} {a : Act} (hT : RelL c T a.tmps.toList) (o : Operand) : Rel c false (ev T o) (a.eval o) := by
  cases o with
  | tmp t =>
    simp only [ev, Act.eval, List.getD_eq_getElem?_getD, Array.getD_eq_getD_getElem?]
    cases h : T[t]? with
    | none =>
      have : a.tmps[t]? = none := by
        have h1 := hT.1
        simp only [Array.length_toList] at h1
        rw [Array.getElem?_eq_none_iff]; rw [List.getElem?_eq_none_iff] at h; omega
      simp only [this, Option.getD_none]
      exact .tup (by simp) fun i x v h1 => by simp at h1
    | some p =>
      have hlt : t < a.tmps.size := by
        have h1 := hT.1
        simp only [Array.length_toList] at h1
        have := (List.getElem?_eq_some_iff.1 h).1
        exact h1 ▸ this
      have h2 : a.tmps[t]? = some a.tmps[t] := Array.getElem?_eq_getElem hlt
      simp only [h2, Option.getD_some]
      exact hT.2 t p _ h (by simp)
  | const v => exact St.ofConst c v
  | global g => exact .addr _
  | func f => exact .clo (by simp) (fun i x v h1 => by simp at h1) (by simp) (fun i x v h1 => by simp at h1)

theorem Rel.bool_inv {c : Cx} {cl b : Bool} {v : Value} (h : Rel c cl (.bool b) v) : v = .bool b := by cases h; rfl
theorem Rel.int_inv {c : Cx} {cl : Bool} {k : IntKind} {n : Int} {v : Value} (h : Rel c cl (.int k n) v) : v = .int k n := by cases h; rfl
theorem Rel.str_inv {c : Cx} {cl : Bool} {s : ByteArray} {v : Value} (h : Rel c cl (.str s) v) : v = .string s := by cases h; rfl

theorem pw_cond {cnd : Operand} {x y : Code} (t : Bool) (hc : ev st.T cnd = .bool t) (ht : t = true → pw P c0 H0 x Q st) (hf : t = false → pw P c0 H0 y Q st) :
    pw P c0 H0 (.cond cnd x y) Q st := by
  intro a w hs
  have hs' := hs
  obtain ⟨c, rfl, h1, h2, h3, h4⟩ := hs
  have he := ev_rel h3 cnd
  rw [hc] at he
  exact wp_cond_split he.bool_inv (fun h => ht h a _ hs') (fun h => hf h a _ hs')

def inBlockP (id : Nat) (Q : Exit → PS → Prop) : Exit → PS → Prop
  | .exit id', st => if id' = id then Q .normal st else Q (.exit id') st
  | e, st => Q e st

theorem pw_block {id : Nat} {cd : Code} (h : pw P c0 H0 cd (inBlockP id Q) st) : pw P c0 H0 (.block id cd) Q st := by
  intro a w hs
  refine wp_block (wp_mono (h a w hs) ?_)
  rintro e a' w' ⟨st', hq, hs'⟩
  cases e with
  | exit id' =>
    simp only [inBlockP] at hq
    simp only [Exit.inBlock]
    split at hq
    · rename_i hh; subst hh; simp only [if_true]; exact ⟨st', hq, hs'⟩
    · rename_i hh; rw [if_neg hh]; exact ⟨st', hq, hs'⟩
  | _ => exact ⟨st', hq, hs'⟩

/-- To know less. -/
def Wk (st st' : PS) : Prop := ∀ (c0 : Cx) (H0 : FH) (a : Act) (w : World), St c0 H0 st.T (find st.H) a w → St c0 H0 st'.T (find st'.H) a w

theorem Wk.refl (st : PS) : Wk st st := fun _ _ _ _ h => h
theorem Wk.trans {x y z : PS} (h : Wk x y) (h' : Wk y z) : Wk x z := fun c0 H0 a w hs => h' c0 H0 a w (h c0 H0 a w hs)

theorem pw_weak {cd : Code} {st' : PS} (hw : Wk st st') (h : pw P c0 H0 cd Q st') : pw P c0 H0 cd Q st := fun a w hs => h a w (hw _ _ a w hs)

theorem pw_post {cd : Code} {Q' : Exit → PS → Prop} (h : pw P c0 H0 cd Q' st) (hq : ∀ e st, Q' e st → ∃ st', Wk st st' ∧ Q e st') : pw P c0 H0 cd Q st := by
  intro a w hs
  refine wp_mono (h a w hs) ?_
  rintro e a' w' ⟨st1, h1, h2⟩
  obtain ⟨st2, h3, h4⟩ := hq e st1 h1
  exact ⟨st2, h4, h3 _ _ _ _ h2⟩

/-- Slots forgotten. -/
inductive Fg : List PV → List PV → Prop
  | nil : Fg [] []
  | any {x t t'} : Fg t t' → Fg (x :: t) (.any :: t')
  | same {x t t'} : Fg t t' → Fg (x :: t) (x :: t')

theorem Fg.relL {c : Cx} {T T' : List PV} (h : Fg T T') : ∀ {vs : List Value}, RelL c T vs → RelL c T' vs := by
  induction h with
  | nil => exact fun h => h
  | any _ ih =>
    intro vs h
    cases vs with
    | nil => simp [RelL] at h
    | cons v vs =>
      have ht : RelL c _ vs := ⟨by simpa using h.1, fun i p u a b => h.2 (i + 1) p u (by simpa using a) (by simpa using b)⟩
      exact (ih ht).cons (.any v)
  | same _ ih =>
    intro vs h
    cases vs with
    | nil => simp [RelL] at h
    | cons v vs =>
      have ht : RelL c _ vs := ⟨by simpa using h.1, fun i p u a b => h.2 (i + 1) p u (by simpa using a) (by simpa using b)⟩
      exact (ih ht).cons (h.2 0 _ v (by simp) (by simp))

theorem Wk.forget {T T' : List PV} {H : Heap} (h : Fg T T') : Wk ⟨T, H⟩ ⟨T', H⟩ := by
  rintro c0 H0 a w ⟨c, h1, h2, h3, h4, h5⟩
  exact ⟨c, h1, h2, h3, h.relL h4, h5⟩

/-- A loop: the relation bears a number that goes down. -/
theorem pw_loop {cd : Code} (I : Nat → PS → Prop) (n : Nat) (h0 : ∃ st', Wk st st' ∧ I n st')
    (round : ∀ n st, I n st → pw P c0 H0 cd (fun e st' => match e with | .normal => ∃ m st'', m < n ∧ Wk st' st'' ∧ I m st'' | e => Q e st') st) :
    pw P c0 H0 (.loop cd) Q st := by
  intro a w hs b k cs
  have key : ∀ n st, I n st → ∀ a w, St c0 H0 st.T (find st.H) a w →
      ∃ e a' w', (∃ st', Q e st' ∧ St c0 H0 st'.T (find st'.H) a' w') ∧ Arrives P (lone (b.at a (.code cd :: .inLoop cd :: k)) cs w) b k cs e a' w' := by
    intro n
    induction n using Nat.strongRecOn with
    | _ n ih =>
      intro st hI a w hs
      obtain ⟨e, a₁, w₁, ⟨st1, hq, hs1⟩, harr⟩ := round n st hI a w hs b (.inLoop cd :: k) cs
      cases e with
      | normal =>
        obtain ⟨m, st2, hlt, hwk, hI2⟩ := hq
        obtain ⟨e₂, a₂, w₂, hq₂, harr₂⟩ := ih m hlt st2 hI2 a₁ w₁ (hwk _ _ _ _ hs1)
        exact ⟨e₂, a₂, w₂, hq₂, .of_steps (Steps.trans harr (.one step_inLoop)) harr₂⟩
      | exit id => exact ⟨_, a₁, w₁, ⟨st1, hq, hs1⟩, .pass (x := .inLoop cd) rfl (fun _ _ => .inl (by simp)) harr⟩
      | goto l => exact ⟨_, a₁, w₁, ⟨st1, hq, hs1⟩, .pass (x := .inLoop cd) rfl (fun _ _ => .inl (by simp)) harr⟩
      | ret => exact ⟨_, a₁, w₁, ⟨st1, hq, hs1⟩, .pass (x := .inLoop cd) rfl (fun _ _ => .inl (by simp)) harr⟩
      | panic ch => exact ⟨_, a₁, w₁, ⟨st1, hq, hs1⟩, .pass (x := .inLoop cd) rfl (fun _ _ => .inl (by simp)) harr⟩
      | outgrown => exact ⟨_, a₁, w₁, ⟨st1, hq, hs1⟩, .pass (x := .inLoop cd) rfl (fun _ _ => .inl (by simp)) harr⟩
  obtain ⟨st', hwk, hI⟩ := h0
  obtain ⟨e, a', w', hq, harr⟩ := key n st' hI a w (hwk _ _ _ _ hs)
  exact ⟨e, a', w', hq, .of_steps (.one step_loop) harr⟩

end
end Pv
