import Derived.Test.YtkbghhholjfgfaaPv6
namespace Pv
open Go

theorem splice_length {cs : List PV} {o : Nat} {vs : List PV} (h : o + vs.length ≤ cs.length) : (splice cs o vs).length = cs.length := by
  simp only [splice, List.length_append, List.length_take, List.length_drop]; omega

theorem seg_get {α : Type} (cs : List α) (o : Nat) (vs : List α) (h : o + vs.length ≤ cs.length) (j : Nat) :
    (cs.take o ++ vs ++ cs.drop (o + vs.length))[j]? = if j < o then cs[j]? else if j < o + vs.length then vs[j - o]? else cs[j]? := by
  have h1 : (cs.take o).length = o := by simp; omega
  rw [List.append_assoc, List.getElem?_append, h1]
  split
  · rename_i hj; rw [List.getElem?_take, if_pos hj]
  · rename_i hj
    rw [List.getElem?_append]
    by_cases hjo : j < o + vs.length
    · rw [if_pos (by omega), if_pos hjo]
    · rw [if_neg (by omega), if_neg hjo, List.getElem?_drop]
      congr 1; omega

theorem splice_get {cs : List PV} {o : Nat} {vs : List PV} (h : o + vs.length ≤ cs.length) (j : Nat) :
    (splice cs o vs)[j]? = if j < o then cs[j]? else if j < o + vs.length then vs[j - o]? else cs[j]? := seg_get cs o vs h j

section
variable {P : Program} {c : Cx} {H : FH}

theorem setc_cells {e : PV} {p : Nat} {vs : List PV} (h : p + vs.length ≤ e.cells.length) (hv : ∀ y ∈ vs, y.cellB = true) :
    (e.setc p vs).cells.length = e.cells.length ∧ ∀ (j : Nat) y, (e.setc p vs).cells[j]? = some y → (j < p ∨ p + vs.length ≤ j) ∧ (y = .any ∨ e.cells[j]? = some y) ∨ (p ≤ j ∧ vs[j - p]? = some y) := by
  have hagg : ∀ cs : List PV, p + vs.length ≤ cs.length → (PV.agg (splice cs p vs)).cells.length = cs.length ∧ ∀ (j : Nat) y, (PV.agg (splice cs p vs)).cells[j]? = some y → (j < p ∨ p + vs.length ≤ j) ∧ (y = .any ∨ cs[j]? = some y) ∨ (p ≤ j ∧ vs[j - p]? = some y) := by
    intro cs hcs
    refine ⟨splice_length hcs, fun j y hy => ?_⟩
    simp only [PV.cells] at hy
    rw [splice_get hcs] at hy
    split at hy
    · exact .inl ⟨.inl (by assumption), .inr hy⟩
    · split at hy
      · exact .inr ⟨by omega, hy⟩
      · exact .inl ⟨.inr (by omega), .inr hy⟩
  have hone : ∀ x : PV, x.cells = [x] → p + vs.length ≤ 1 → (vs.headD .any).cells.length = 1 ∧ ∀ (j : Nat) y, (vs.headD .any).cells[j]? = some y → (j < p ∨ p + vs.length ≤ j) ∧ (y = .any ∨ x.cells[j]? = some y) ∨ (p ≤ j ∧ vs[j - p]? = some y) := by
    intro x hx hle
    cases vs with
    | nil =>
      refine ⟨rfl, fun j y hy => ?_⟩
      simp only [List.headD_nil, PV.cells] at hy
      cases j with
      | zero => simp at hy; subst hy; exact .inl ⟨by simp; omega, .inl rfl⟩
      | succ j => simp at hy
    | cons u us =>
      simp only [List.length_cons] at hle
      have hus : us = [] := List.eq_nil_of_length_eq_zero (by omega)
      subst hus
      have hp : p = 0 := by simp at hle; omega
      subst hp
      have hu := hv u (by simp)
      have hcu : u.cells = [u] := by cases u <;> simp_all [PV.cells, PV.cellB]
      simp only [List.headD_cons, hcu]
      refine ⟨rfl, fun j y hy => .inr ⟨by omega, by simpa using hy⟩⟩
  cases e with
  | agg cs => exact hagg cs h
  | _ => exact hone _ rfl h

theorem okElem_B {x : PV} {n : Nat} (hok : okElem x n = true) : ∀ y ∈ x.cells, y.cellB = true := by
  simp only [okElem, Bool.and_eq_true] at hok
  exact List.all_eq_true.1 hok.2

theorem ok_store (hs : Sim c H) {t : Nat} {x q : PV} {v u : Value} (hx : Rel c false x v) (hq : Rel c false q u) {r : Res} (h : sStore P H t x q = some r) :
    OpOk c H (((do Instr.storeAt t v u; pure Next.skip) : Sem Next).run P c.w) r := by
  unfold sStore at h
  split at h
  · rename_i ti b g s i p ht
    split at h
    · rename_i y xs hb
      obtain ⟨g1, g2, g3⟩ := boxArr_inv hb
      split at h
      · rename_i e he
        split at h
        · rename_i hc
          obtain ⟨ho, hok, hfit⟩ := hc
          simp only [Option.some.injEq] at h
          subst h
          obtain ⟨k, hk, rfl⟩ := hx.ptr_inv hs (cur_of g1 g2)
          obtain ⟨cells, et, fr, f1, f2, f3, f4, f5⟩ := (row_of hs g1 g3 hk).ex
          obtain rfl := f2 ho
          obtain ⟨inf, d, i1, i2, i3, i4, _⟩ := tyI_inv ht
          obtain ⟨e1, e2, e3, e4⟩ := okElem_cells hok hq
          have hlen := f4 i e he
          have hil := (List.getElem?_eq_some_iff.1 he).1
          have hroom := elem_room f3 hil
          have hul : u.cells.toList.length = ti.size := by simp [e1]
          have hst := run_storeCells_at P k (i * s + p) et u.cells.toList 0 cells c.w f1 (by simp only [hul]; omega) e4
          simp only [Nat.add_zero] at hst
          have hl : y.live = true := by simp [Box.live, g3]
          have hseg := seg_get cells.toList (i * s + p) u.cells.toList (by simp only [hul, Array.length_toList]; omega)
          rw [hul] at hst hseg
          obtain ⟨s1, s2⟩ := setc_cells (e := e) (p := p) (vs := q.cells) (by omega) (okElem_B hok)
          obtain ⟨c', h1, h2, h3, h4, h5, h6⟩ := hs.write g1 ho hl hk f1
            (cells' := (cells.toList.take (i * s + p) ++ u.cells.toList ++ cells.toList.drop (i * s + p + ti.size)).toArray) (by simp [e1]; omega) y.gen (Nat.le_refl _)
            (s := s) (xs' := xs.set i (e.setc p q.cells)) (by simpa using f3)
            (fun i' z hz => by
              rw [List.getElem?_set] at hz
              split at hz
              · simp only [hil, if_true, Option.some.injEq] at hz; subst hz; omega
              · exact f4 i' z hz)
            (fun i' z j y' v' hz hy hv => by
              simp only [List.getElem?_toArray] at hv
              rw [hseg] at hv
              rw [List.getElem?_set] at hz
              by_cases hii : i = i'
              · subst hii
                simp only [hil, ite_true, Option.some.injEq] at hz
                subst hz
                rcases s2 j y' hy with ⟨hj, hany⟩ | ⟨hj, hy'⟩
                · have hjs : j < s := by
                    have := (List.getElem?_eq_some_iff.1 hy).1
                    omega
                  have hv' : cells[i * s + j]? = some v' := by
                    rw [e2] at hj
                    split at hv
                    · simpa using hv
                    · split at hv
                      · omega
                      · simpa using hv
                  have hje : j < e.cells.length := by omega
                  have h7 := f5 i e j _ v' he (List.getElem?_eq_getElem hje) hv'
                  rcases hany with rfl | hany
                  · exact ⟨h7.1, .any _⟩
                  · exact f5 i e j y' v' he hany hv'
                · have hjl := (List.getElem?_eq_some_iff.1 hy').1
                  rw [if_neg (by omega), if_pos (by omega)] at hv
                  have : i * s + j - (i * s + p) = j - p := by omega
                  rw [this] at hv
                  exact e3 (j - p) y' v' hy' (by simpa using hv)
              · simp only [hii, if_false] at hz
                have hjs : j < s := by
                  have := (List.getElem?_eq_some_iff.1 hy).1
                  have := f4 i' z hz
                  omega
                have hne : ¬ (i * s + p ≤ i' * s + j ∧ i' * s + j < i * s + p + ti.size) := by
                  rintro ⟨a1, a2⟩
                  rcases Nat.lt_or_gt_of_ne hii with h7 | h7
                  · have : (i + 1) * s ≤ i' * s := Nat.mul_le_mul_right _ h7
                    rw [Nat.add_mul] at this; omega
                  · have : (i' + 1) * s ≤ i * s := Nat.mul_le_mul_right _ h7
                    rw [Nat.add_mul] at this; omega
                have hv' : cells[i' * s + j]? = some v' := by
                  split at hv
                  · simpa using hv
                  · split at hv
                    · omega
                    · simpa using hv
                exact f5 i' z j y' v' hz hy hv')
          have hbox : ({ y with body := .arr s (xs.set i (e.setc p q.cells)) } : Box) = ⟨y.gen, true, .arr s (xs.set i (e.setc p q.cells))⟩ := by cases y; simp_all
          refine ⟨.skip, undef, c', ?_, .inr ⟨rfl, rfl⟩, .tup (by simp) (fun i x v h => by simp at h), ?_, ?_⟩
          · rw [h1]
            simp [Instr.storeAt, Instr.sureAddr, storeVar, run_sizeOf' i1, ← i4, e1, hst]
          · rw [hbox]; exact h5
          · rw [hbox]; exact h6
        · cases h
      · cases h
    · cases h
  · cases h

theorem elemI_inv {t : TypeId} {k : EK} {e : TypeId} (h : elemI P t = some (k, e)) : (k = .slice ∧ P.underlying t = some (.slice e)) ∨ (∃ n, k = .array n ∧ P.underlying t = some (.array n e)) := by
  unfold elemI at h
  split at h
  · rename_i e' h1
    split at h
    · simp only [Option.some.injEq, Prod.mk.injEq] at h
      exact .inl ⟨h.1.symm, by rw [h1, h.2]⟩
    · cases h
  · rename_i n e' h1
    split at h
    · simp only [Option.some.injEq, Prod.mk.injEq] at h
      exact .inr ⟨n, h.1.symm, by rw [h1, h.2]⟩
    · cases h
  · cases h

theorem elemI_info {t : TypeId} {k : EK} {e : TypeId} (h : elemI P t = some (k, e)) : ∃ inf, P.info? e = some inf := by
  unfold elemI at h
  split at h
  · split at h
    · rename_i hi
      simp only [Option.some.injEq, Prod.mk.injEq] at h
      rw [← h.2]; exact Option.isSome_iff_exists.1 hi
    · cases h
  · split at h
    · rename_i hi
      simp only [Option.some.injEq, Prod.mk.injEq] at h
      rw [← h.2]; exact Option.isSome_iff_exists.1 hi
    · cases h
  · cases h

theorem ok_indexAddr (hs : Sim c H) {t : Nat} {x ix : PV} {v vi : Value} (hx : Rel c false x v) (hi : Rel c false ix vi) {r : Res} (h : sIndexAddr P H t x ix = some r) :
    OpOk c H (((do pure (Next.value (← Instr.indexAt t v vi))) : Sem Next).run P c.w) r := by
  unfold sIndexAddr at h
  split at h
  · rename_i e s xs k i he
    obtain ⟨inf, hinf⟩ := elemI_info he
    rcases elemI_inv he with ⟨_, hu⟩ | ⟨n, hn, _⟩
    · split at h
      · rename_i hr
        obtain ⟨hcs, hr1, hr2⟩ := hr
        simp only [Option.some.injEq] at h
        subst h
        cases hi
        have hss' : inf.size = s := by rw [← hcs, cellsOf_info hinf]
        have hlt : i.toNat < xs.length := by omega
        cases hx with
        | slnil => simp at hr2; omega
        | sl kb off cap cells et fr hA hh hz hcap hss h1 h2 =>
          refine .pure hs (v := .pointer (some ⟨kb, off + i.toNat * s + 0, none⟩)) ?_ (.ept i.toNat 0 kb off cells et fr hA hh hz hss h1 h2) rfl
          simp [Instr.indexAt, asIntOf, run_underlying hu, hr1, hr2, run_sizeOf' hinf, Addr.add_lit, hss']
      · cases h
    · cases hn
  · rename_i e b g s st n k i he
    obtain ⟨inf, hinf⟩ := elemI_info he
    rcases elemI_inv he with ⟨_, hu⟩ | ⟨n, hn, _⟩
    · split at h
      · rename_i hr
        obtain ⟨hc, hcs, hr1, hr2⟩ := hr
        simp only [Option.some.injEq] at h
        subst h
        cases hi
        have hss : inf.size = s := by rw [← hcs, cellsOf_info hinf]
        rcases hx.bsl_inv hs hc with ⟨kb, cells, et, fr, cap, hk, hh, rfl, h5, h6⟩ | ⟨rfl, _⟩
        · refine .pure hs (v := .pointer (some ⟨kb, (st + i.toNat) * s + 0, none⟩)) ?_ (Rel.ptr_mk hs hc hk) rfl
          simp [Instr.indexAt, asIntOf, run_underlying hu, hr1, hr2, run_sizeOf' hinf, Addr.add_lit, hss, Nat.add_mul]
        · simp at hr2; omega
      · cases h
    · cases hn
  · rename_i m e b g s j p k i he
    obtain ⟨inf, hinf⟩ := elemI_info he
    rcases elemI_inv he with ⟨hn, _⟩ | ⟨n, hn, hu⟩
    · cases hn
    · simp only [EK.array.injEq] at hn
      subst hn
      split at h
      · rename_i hr
        obtain ⟨hc, hr1, hr2⟩ := hr
        simp only [Option.some.injEq] at h
        subst h
        cases hi
        obtain ⟨kb, hk, rfl⟩ := hx.ptr_inv hs hc
        refine .pure hs (v := .pointer (some ⟨kb, j * s + (p + i.toNat * P.cellsOf e), none⟩)) ?_ (Rel.ptr_mk hs hc hk) rfl
        simp [Instr.indexAt, asIntOf, run_underlying hu, hr1, hr2, run_sizeOf' hinf, Addr.add_lit, Instr.sureAddr, cellsOf_info hinf, Nat.add_assoc]
      · cases h
  · cases h

theorem ok_len (hs : Sim c H) {t ty : Nat} {x : PV} {v : Value} (hx : Rel c false x v) {r : Res} (h : sLen P H t x = some r) :
    OpOk c H (((do pure (Next.value (← Builtin.len_ #[t] ty #[v]))) : Sem Next).run P c.w) r := by
  unfold sLen at h
  split at h
  · rename_i e s xs he
    rcases elemI_inv he with ⟨_, hu⟩ | ⟨n, hn, _⟩
    · simp only [Option.some.injEq] at h
      subst h
      refine .pure hs (v := .int .i64 xs.length) ?_ (.int _ _) rfl
      cases hx <;> simp [Builtin.len_, run_underlying hu, goInt]
    · cases hn
  · rename_i e b g s st n he
    rcases elemI_inv he with ⟨_, hu⟩ | ⟨n, hn, _⟩
    · split at h
      · rename_i hc
        simp only [Option.some.injEq] at h
        subst h
        refine .pure hs (v := .int .i64 n) ?_ (.int _ _) rfl
        rcases hx.bsl_inv hs hc with ⟨kb, cells, et, fr, cap, hk, hh, rfl, h5, h6⟩ | ⟨rfl, a, rfl⟩ <;> simp [Builtin.len_, run_underlying hu, goInt]
      · cases h
    · cases hn
  · rename_i e he
    rcases elemI_inv he with ⟨_, hu⟩ | ⟨n, hn, _⟩
    · simp only [Option.some.injEq] at h
      subst h
      refine .pure hs (v := .int .i64 0) ?_ (.int _ _) rfl
      cases hx; simp [Builtin.len_, run_underlying hu, goInt]
    · cases hn
  · rename_i s he
    split at h
    · rename_i hstr
      simp only [Option.some.injEq] at h
      subst h
      unfold sLen.isStr at hstr
      split at hstr
      · rename_i hu
        cases hx
        refine .pure hs (v := .int .i64 s.size) ?_ (.int _ _) rfl
        simp [Builtin.len_, run_underlying hu, goInt]
      · cases hstr
    · cases h
  · cases h

theorem ok_binop (hs : Sim c H) {op : BinOp} {t : Nat} {ox oy : Operand} {x y : PV} {vx vy : Value} (hx : Rel c false x vx) (hy : Rel c false y vy) {p : PV} (h : binop op x y = some p) :
    OpOk c H (((do pure (Next.value (← (do eqGuard op t ox oy vx vy; Go.binOp op t vx vy)))) : Sem Next).run P c.w) { v := p } := by
  unfold binop at h
  have hg : ∀ (op : BinOp) (k k' : IntKind) (a b : Int), (eqGuard op t ox oy (.int k a) (.int k' b)).run P c.w = .ok () c.w := fun op k k' a b => by cases op <;> simp [eqGuard]
  have hgs : ∀ (op : BinOp) (a b : ByteArray), (eqGuard op t ox oy (.string a) (.string b)).run P c.w = .ok () c.w := fun op a b => by cases op <;> simp [eqGuard]
  split at h
  all_goals (try split at h)
  all_goals cases h
  all_goals (try subst_vars)
  all_goals (cases hx; cases hy)
  all_goals refine .pure hs ?_ (by first | exact .int _ _ | exact .bool _ | exact .str _) rfl
  all_goals simp only [Sem.run_bind, hg, hgs, Result.andThen_ok]
  all_goals first
    | (simp [Go.binOp, Op.intArith, Op.intCmp]; done)
    | (simp [Go.binOp, Op.stringOp]; done)
    | (rename_i hb; simp [Go.binOp, Op.shift, Int.not_lt.2 hb.1, Nat.min_eq_left hb.2]; done)
    | (simp only [maxLen] at *; simp [Go.binOp, Op.stringOp, IntKind.max, IntKind.signed, IntKind.bits]; omega)

end
end Pv
