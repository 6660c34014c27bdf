import Derived.Test.YtkbghhholjfgfaaPv13
import Derived.Eval
set_option linter.unusedSimpArgs false
set_option linter.unusedVariables false
namespace Pv
open Go

/-- A call of a function, or of an entry of the model's own, in plain values. -/
def PInv (P : Program) (f : FuncId) (args : List PV) (H : FH) (R : PV → FH → Prop) : Prop :=
  ∀ (c : Cx) (vs : List Value), Sim c H → RelL c args vs →
    match (callFunc f vs.toArray).run P c.w with
    | .ok (.enter g as) w => w = c.w ∧ Calls P g as w fun e w' => ∃ r v c' H', e = .returned v ∧ c'.w = w' ∧ R r H' ∧ Sim c' H' ∧ Rel c' false r v ∧ Ext c H c' H'
    | .ok (.value v) w => ∃ r c' H', c'.w = w ∧ R r H' ∧ Sim c' H' ∧ Rel c' false r v ∧ Ext c H c' H'
    | _ => False

def Enters (P : Program) (f : FuncId) : Prop := ∀ args w, (callFunc f args).run P w = .ok (.enter f args) w

theorem PInv.of_call {P : Program} {f : FuncId} {args : List PV} {H : FH} {R : PV → FH → Prop} (he : Enters P f) (h : PCall P f args H R) : PInv P f args H R := by
  intro c vs hs ha
  rw [he]
  exact ⟨rfl, h c vs hs ha⟩

theorem PInv.mono {P : Program} {f : FuncId} {args : List PV} {H : FH} {R R' : PV → FH → Prop} (h : PInv P f args H R) (hr : ∀ r H', R r H' → R' r H') : PInv P f args H R' := by
  intro c vs hs ha
  have := h c vs hs ha
  split at this
  · rename_i g as w heq
    exact ⟨this.1, this.2.mono fun _ _ ⟨r, v, c', H', h1, h2, h3, h4⟩ => ⟨r, v, c', H', h1, h2, hr _ _ h3, h4⟩⟩
  · obtain ⟨r, c', H', h2, h3, h4⟩ := this
    exact ⟨r, c', H', h2, hr _ _ h3, h4⟩
  · exact this.elim

/-- A call that does the same wherever the boxes that it looks at are the same. -/
def CallSem (P : Program) (f : FuncId) (args : List PV) (H : FH) (ρ : Res) : Prop :=
  ∀ H' : FH, (∀ b ∈ ρ.rd, H' b = H b) → PInv P f args H' fun q H'' => q = ρ.v ∧ H'' = upd H' ρ.wr

/-- Is the operation wanted? -/
def guardDec (all : Array Oper) (T : List PV) (o : Oper) : Option Bool :=
  match o.guard with
  | none => some true
  | some (j, want) => match (all[j]?).bind (·.dst) with
    | none => some false
    | some d => match T[d]? with
      | some (.bool b) => some (b == want)
      | some (.tup _) => some false
      | none => some false
      | _ => none

theorem guard_sound {all : Array Oper} {c : Cx} {T : List PV} {a : Act} (hT : RelL c T a.tmps.toList) {o : Oper} {b : Bool} (h : guardDec all T o = some b) : Region.wanted o (yielded all a.tmps) = b := by
  unfold guardDec at h
  unfold Region.wanted
  split at h
  · rename_i hg
    simp only [Option.some.injEq] at h
    simp [hg, h]
  · rename_i j want hg
    simp only [hg]
    unfold yielded
    have hlen : T.length = a.tmps.size := by simpa using hT.1
    split at h
    · rename_i hd
      simp only [Option.some.injEq] at h
      subst h
      simp [hd]
    · rename_i d hd
      simp only [hd, Option.bind_some]
      split at h
      · rename_i q hq
        simp only [Option.some.injEq] at h
        subst h
        have hlt : d < a.tmps.size := by rw [← hlen]; exact (List.getElem?_eq_some_iff.1 hq).1
        have hg2 : a.tmps[d]? = some a.tmps[d] := Array.getElem?_eq_getElem hlt
        have hr := hT.2 d _ _ hq (by rw [Array.getElem?_toList]; exact hg2)
        rw [hg2, hr.bool_inv]
        cases q <;> cases want <;> rfl
      · rename_i q hq
        simp only [Option.some.injEq] at h
        subst h
        have hlt : d < a.tmps.size := by rw [← hlen]; exact (List.getElem?_eq_some_iff.1 hq).1
        have hg2 : a.tmps[d]? = some a.tmps[d] := Array.getElem?_eq_getElem hlt
        have hr := hT.2 d _ _ hq (by rw [Array.getElem?_toList]; exact hg2)
        rw [hg2]
        generalize a.tmps[d] = v at hr
        cases hr
        rfl
      · rename_i hq
        simp only [Option.some.injEq] at h
        subst h
        have hge : a.tmps[d]? = none := by
          rw [Array.getElem?_eq_none_iff, ← hlen]; exact List.getElem?_eq_none_iff.1 hq
        rw [hge]; rfl
      · cases h

/-- One operation of a region, wherever the slots and boxes that it looks at are the same. -/
def OpSem (P : Program) (all : Array Oper) (o : Oper) (T : List PV) (H : FH) (ρ : Res) : Prop :=
  ∀ (T' : List PV) (H' : FH), (∀ t ∈ o.looksAt all, T'[t]? = T[t]?) → (∀ b ∈ ρ.rd, H' b = H b) → ∀ (c : Cx) (a : Act), Sim c H' → RelL c T' a.tmps.toList →
    ∀ (K : Act → World → Prop) (Q : Exit → Act → World → Prop), (∀ v c', Rel c' false ρ.v v → Sim c' (upd H' ρ.wr) → Ext c H' c' (upd H' ρ.wr) → K (a.put o.dst v) c'.w) →
    if Region.wanted o (yielded all a.tmps) then o.wp P a c.w K Q ∨ (o.asks P a c.w ∧ LetsOut Q) else K (a.put o.dst undef) c.w

theorem ev_congr {all : Array Oper} {o : Oper} {T T' : List PV} (h : ∀ t ∈ o.looksAt all, T'[t]? = T[t]?) : ∀ x ∈ o.op.operands, ev T' x = ev T x := by
  intro x hx
  cases x with
  | tmp t =>
    have : t ∈ o.looksAt all := List.mem_append_left _ (List.mem_filterMap.2 ⟨.tmp t, by simpa using hx, rfl⟩)
    simp only [ev, List.getD_eq_getElem?_getD, h t this]
  | _ => rfl

theorem guardDec_congr {all : Array Oper} {o : Oper} {T T' : List PV} (h : ∀ t ∈ o.looksAt all, T'[t]? = T[t]?) : guardDec all T' o = guardDec all T o := by
  unfold guardDec
  cases hg : o.guard with
  | none => rfl
  | some gw =>
    obtain ⟨j, want⟩ := gw
    simp only
    cases hd : (all[j]?).bind (·.dst) with
    | none => rfl
    | some d =>
      have : d ∈ o.looksAt all := by simp [Oper.looksAt, hg, hd]
      simp only [h d this]

theorem layParts_congr {T T' : List PV} (n : Nat) : ∀ (parts : List (Nat × Operand)) (xs : List PV), (∀ x ∈ parts.map (·.2), ev T' x = ev T x) → layParts T' n parts xs = layParts T n parts xs
  | [], xs, _ => rfl
  | (i, x) :: rest, xs, h => by
    simp only [layParts, h x (by simp)]
    rw [layParts_congr n rest _ fun y hy => h y (by simp at hy ⊢; exact .inr hy)]

theorem layFields_congr {T T' : List PV} (P : Program) (t : TypeId) : ∀ (parts : List (Nat × Operand)) (cs : List PV), (∀ x ∈ parts.map (·.2), ev T' x = ev T x) → layFields T' P t parts cs = layFields T P t parts cs
  | [], cs, _ => rfl
  | (i, x) :: rest, cs, h => by
    simp only [layFields, h x (by simp)]
    split
    · rw [layFields_congr P t rest _ fun y hy => h y (by simp at hy ⊢; exact .inr hy)]
    · rfl

theorem fstep_congrT {P : Program} {n0 : Nat} {H : FH} {T T' : List PV} (o : Oper) (h : ∀ x ∈ o.op.operands, ev T' x = ev T x) : fstep P n0 H T' o = fstep P n0 H T o := by
  obtain ⟨dst, op, ty, pos, after, guard⟩ := o
  cases op <;> simp only [Op.operands] at h <;> simp only [fstep]
  case build t ps => simp only [sBuild, layFields_congr P t ps.toList _ fun x hx => h x (by simpa using hx)]
  case buildSlice t n ps =>
    cases dst with
    | none => rfl
    | some d => simp only [sBuildSlice, fun k xs => layParts_congr k ps.toList xs fun x hx => h x (by simpa using hx)]
  case unOp op t x => cases op <;> simp_all [fstep]
  case slice t x lo hi mx => cases lo <;> cases hi <;> cases mx <;> simp_all
  case makeFunc fn first cap =>
    cases fn with
    | func f =>
      simp only [fstep]
      rw [List.map_congr_left (f := ev T') (g := ev T) (l := first.toList) fun x hx => h x (by simpa using .inl (by simpa using hx)),
        List.map_congr_left (f := ev T') (g := ev T) (l := cap.toList) fun x hx => h x (by simpa using .inr (by simpa using hx))]
    | _ => rfl
  case call c =>
    obtain ⟨callee, args, argTypes⟩ := c
    cases callee with
    | builtin b =>
      have hargs : ∀ x ∈ args.toList, ev T' x = ev T x := fun x hx => h x (by simp [Call.operands]; simpa using hx)
      cases b <;> simp only [fstep]
      all_goals split
      all_goals first | rfl | skip
      all_goals
        have hq := hargs
        simp_all
    | _ => rfl
  all_goals (first | rfl | (simp_all; done) | skip)

theorem callOf_congr {T T' : List PV} (o : Oper) (h : ∀ x ∈ o.op.operands, ev T' x = ev T x) : callOf T' o = callOf T o := by
  obtain ⟨dst, op, ty, pos, after, guard⟩ := o
  cases op <;> simp only [callOf]
  case call c =>
    obtain ⟨callee, args, argTypes⟩ := c
    cases callee with
    | value f =>
      simp only [callOf]
      have hf : ev T' f = ev T f := h f (by simp [Op.operands, Call.operands])
      have hargs : args.toList.map (ev T') = args.toList.map (ev T) := List.map_congr_left fun x hx => h x (by simp [Op.operands, Call.operands]; exact .inr (by simpa using hx))
      rw [hf, hargs]
    | _ => rfl

end Pv
