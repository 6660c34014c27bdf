import Derived.Test.YtkbghhholjfgfaaPv10
set_option linter.unusedSimpArgs false
set_option linter.unusedVariables false
namespace Pv
open Go

section
variable {P : Program} {c : Cx} {H : FH}

theorem zeroCells_eq (z : Array Value) (n : Nat) : Builtin.zeroCells z n = (Array.range (n * z.size)).map (z[· % z.size]!) := rfl

theorem ok_clear (hs : Sim c H) {t ty : Nat} {x : PV} {vx : Value} (hx : Rel c false x vx) {r : Res} (h : sClear P H t x = some r) :
    OpOk c H (((do pure (Next.value (← Builtin.clear_ #[t] ty #[vx]))) : Sem Next).run P c.w) r := by
  unfold sClear at h
  split at h
  · rename_i e he
    rcases elemI_inv he with ⟨_, hu⟩ | ⟨n, hn, _⟩
    · split at h
      · rename_i ti b g s st n ht
        split at h
        · rename_i bx xs hbx
          obtain ⟨g1, g2, g3⟩ := boxArr_inv hbx
          split at h
          · rename_i hc
            obtain ⟨hown, hok, hs0, hss, hfit⟩ := hc
            simp only [Option.some.injEq] at h
            subst h
            rw [hss] at g3 hx hbx ⊢
            obtain ⟨inf, z, i1, i2, i3, i4, i5⟩ := zero_rel ht hok
            obtain ⟨e1, e2, e3, e4⟩ := okElem_cells hok (i5 c)
            have hl : bx.live = true := by simp [Box.live, g3]
            have hbox : ∀ xs', ({ bx with body := .arr ti.size xs' } : Box) = ⟨bx.gen, true, .arr ti.size xs'⟩ := fun xs' => by cases bx; simp_all
            by_cases hn0 : n = 0
            · subst hn0
              have hxs : xs.take st ++ List.replicate 0 ti.zero ++ xs.drop (st + 0) = xs := by simp
              rw [hxs]
              have hupd : upd H [(b, { bx with body := .arr ti.size xs })] = H := by
                funext k
                simp only [upd]
                split
                · rename_i hk; subst hk; rw [g1]; congr 1; cases bx; simp_all
                · rfl
              refine ⟨.value (.tuple #[]), .tuple #[], c, ?_, .inl rfl, .tup (by simp) (fun i x v h => by simp at h), by rw [hupd]; exact hs, by rw [hupd]; exact .refl c H⟩
              rcases hx.bsl_inv hs (cur_of g1 g2) with ⟨kb, cells, et, fr, cap, hk, hh, rfl, h5, h6⟩ | ⟨_, a, rfl⟩
              · simp [Builtin.clear_, run_underlying hu]
              · cases a <;> simp [Builtin.clear_, run_underlying hu]
            · rcases hx.bsl_inv hs (cur_of g1 g2) with ⟨kb, cells, et, fr, cap, hk, hh, rfl, h5, h6⟩ | ⟨h0, _⟩
              · obtain ⟨cells', e', fr', f1, f2, f3, f4, f5⟩ := (row_of hs g1 g3 hk).ex
                rw [hh] at f1; cases f1
                obtain rfl := f2 hown
                have hz := zeros_row hok (i5 c) hs0 n
                rw [e1] at hz
                have hzs : (Builtin.zeroCells z.cells n).toList.length = n * ti.size := by simp [zeroCells_eq, e1]
                have hfc : st * ti.size + n * ti.size ≤ cells.size := by
                  rw [← Nat.add_mul]; exact Nat.le_trans (Nat.mul_le_mul_right _ hfit) f3
                have hone : ∀ u ∈ (Builtin.zeroCells z.cells n).toList, u.oneCell' = true := fun u hu' => by
                  simp only [zeroCells_eq, e1, Array.toList_map, List.mem_map] at hu'
                  obtain ⟨q, hq, rfl⟩ := hu'
                  have hql : q % ti.size < z.cells.size := by rw [e1]; exact Nat.mod_lt _ hs0
                  rw [getElem!_pos z.cells (q % ti.size) hql]
                  exact e4 _ (by simp)
                have hst := run_storeCells_at P kb (st * ti.size) et (Builtin.zeroCells z.cells n).toList 0 cells c.w hh (by rw [hzs]; omega) hone
                simp only [Nat.add_zero] at hst
                rw [hzs] at hst
                have hseg := seg_get cells.toList (st * ti.size) (Builtin.zeroCells z.cells n).toList (by rw [hzs]; simpa using hfc)
                rw [hzs] at hseg
                have hxseg := seg_get xs st (List.replicate n ti.zero) (by simpa using hfit)
                simp only [List.length_replicate] at hxseg
                obtain ⟨c', q1, q2, q3, q4, q5, q6⟩ := hs.write g1 hown hl hk hh (cells' := (cells.toList.take (st * ti.size) ++ (Builtin.zeroCells z.cells n).toList ++ cells.toList.drop (st * ti.size + n * ti.size)).toArray)
                  (by simp [zeroCells_eq, e1]; omega) bx.gen (Nat.le_refl _) (s := ti.size) (xs' := xs.take st ++ List.replicate n ti.zero ++ xs.drop (st + n))
                  (by
                    have : (xs.take st ++ List.replicate n ti.zero ++ xs.drop (st + n)).length = xs.length := by simp; omega
                    rw [this]; exact f3)
                  (fun i x hx => by
                    rw [hxseg] at hx
                    split at hx
                    · exact f4 i x hx
                    · split at hx
                      · rw [List.getElem?_replicate] at hx
                        split at hx
                        · simp at hx; subst hx; exact e2
                        · cases hx
                      · exact f4 i x hx)
                  (fun i x j y v hx hy hv => by
                    simp only [List.getElem?_toArray] at hv
                    rw [hseg] at hv
                    rw [hxseg] at hx
                    have hold : xs[i]? = some x → ¬ (st ≤ i ∧ i < st + n) → v.oneCell' = true ∧ Rel c false y v := fun hx hni => by
                      have hjs : j < ti.size := by
                        have := (List.getElem?_eq_some_iff.1 hy).1
                        have := f4 i x hx
                        omega
                      have hni' : ¬ (st * ti.size ≤ i * ti.size + j ∧ i * ti.size + j < st * ti.size + n * ti.size) := by
                        rintro ⟨a1, a2⟩
                        rw [← Nat.add_mul] at a2
                        apply hni
                        refine ⟨?_, ?_⟩
                        · rcases Nat.lt_or_ge i st with h7 | h7
                          · have : (i + 1) * ti.size ≤ st * ti.size := Nat.mul_le_mul_right _ h7
                            rw [Nat.add_mul] at this; omega
                          · exact h7
                        · rcases Nat.lt_or_ge i (st + n) with h7 | h7
                          · exact h7
                          · have : (st + n) * ti.size ≤ i * ti.size := Nat.mul_le_mul_right _ h7
                            omega
                      have hv' : cells[i * ti.size + j]? = some v := by
                        split at hv
                        · simpa using hv
                        · split at hv
                          · omega
                          · simpa using hv
                      exact f5 i x j y v hx hy hv'
                    split at hx
                    · exact hold hx (by omega)
                    · split at hx
                      · rename_i hi1 hi2
                        rw [List.getElem?_replicate] at hx
                        split at hx
                        · simp at hx; subst hx
                          have hjl := (List.getElem?_eq_some_iff.1 hy).1
                          have hroom := elem_room (s := ti.size) (n := n) (sz := n * ti.size) (Nat.le_refl _) (show i - st < n by omega)
                          have hmul : i * ti.size = st * ti.size + (i - st) * ti.size := by rw [← Nat.add_mul]; congr 1; omega
                          rw [if_neg (by omega), if_pos (by omega)] at hv
                          refine hz.rel (i - st) ti.zero j y v (by rw [List.getElem?_replicate, if_pos (by omega)]) hy ?_
                          rw [← hv, Array.getElem?_toList, zeroCells_eq, e1]
                          congr 1; omega
                        · cases hx
                      · exact hold hx (by omega))
                rw [hbox]
                refine ⟨.value (.tuple #[]), .tuple #[], c', ?_, .inl rfl, .tup (by simp) (fun i x v h => by simp at h), q5, q6⟩
                rw [q1]
                have hnz : ∀ (q : Sem Unit), (match (TypeDesc.slice e), Value.slice (some ⟨kb, st * ti.size, none⟩) n cap with
                    | _, .map none | _, .slice none _ _ | _, .slice _ 0 _ => pure ()
                    | _, .map (some r) => q
                    | .slice elem, .slice (some a) n _ => q
                    | _, _ => stuck "clear: map or slice expected") = q := fun q => by
                  cases n with
                  | zero => exact absurd rfl hn0
                  | succ n => rfl
                cases n with
                | zero => exact absurd rfl hn0
                | succ n => simp [Builtin.clear_, run_underlying hu, run_zeroValue' i1 i2, hst]
              · exact absurd h0 hn0
          · cases h
        · cases h
      · simp only [Option.some.injEq] at h
        subst h
        cases hx with
        | nils => exact .pure hs (v := .tuple #[]) (by simp [Builtin.clear_, run_underlying hu]) (.tup (by simp) (fun i x v h => by simp at h)) rfl
      · cases h
    · cases hn
  · cases h

theorem ok_index (hs : Sim c H) {t : Nat} {x ix : PV} {v vi : Value} (hx : Rel c false x v) (hi : Rel c false ix vi) {r : Res} (h : sIndex P t x ix = some r) :
    OpOk c H (((do pure (Next.value (← Instr.index t v vi))) : Sem Next).run P c.w) r := by
  unfold sIndex at h
  split at h
  · rename_i s k i hu
    split at h
    · rename_i hi0
      split at h
      · rename_i b hb
        simp only [Option.some.injEq] at h
        subst h
        cases hx; cases hi
        exact .pure hs (v := .int .u8 b.toNat) (by simp [Instr.index, asIntOf, run_underlying hu, hi0, hb]) (.int _ _) rfl
      · cases h
    · cases h
  · cases h

theorem ok_convert (hs : Sim c H) {src dst : Nat} {x : PV} {v : Value} (hx : Rel c false x v) {r : Res} (h : sConvert P src dst x = some r) :
    OpOk c H (((do pure (Next.value (← convert src dst v))) : Sem Next).run P c.w) r := by
  unfold sConvert at h
  split at h
  · rename_i k1 k k2 n h1 h2
    simp only [Option.some.injEq] at h
    subst h
    cases hx
    exact .pure hs (v := .int k (k.wrap n)) (by simp [convert, run_underlying h1, run_underlying h2, Conv.intToInt]) (.int _ _) rfl
  · rename_i s h1 h2
    simp only [Option.some.injEq] at h
    subst h
    cases hx
    exact .pure hs (v := .string s) (by simp [convert, run_underlying h1, run_underlying h2]) (.str _) rfl
  · cases h

theorem run_part {t : TypeId} {ti : TI} (ht : tyI P t = some ti) {cells : Array Value} {cs : List PV} (hl : cs.length = cells.size) (hr : ∀ (i : Nat) x v, cs[i]? = some x → cells[i]? = some v → Rel c false x v) {off : Nat} {r : PV}
    (h : loadE ti.agg ti.size (.agg cs) off = some r) : ∃ v, (part t cells off).run P c.w = .ok v c.w ∧ Rel c false r v := by
  obtain ⟨i, d, h1, h2, h3, h4, _⟩ := tyI_inv ht
  unfold loadE at h
  have hcs : (PV.agg cs).cells = cs := rfl
  rw [hcs] at h
  cases hagg : ti.agg with
  | true =>
    simp only [hagg, if_true] at h
    split at h
    · rename_i hle
      simp only [Option.some.injEq] at h
      subst h
      have ha : (isAgg t).run P c.w = .ok true c.w := by rw [run_isAgg' h2, ← h3, hagg]
      refine ⟨.agg (cells.extract off (off + ti.size)), by simp [part, ha, run_sizeOf' h1, ← h4], .agg (by simp; omega) fun j y v hy hv => ?_⟩
      rw [List.getElem?_take] at hy
      split at hy
      · rename_i hj
        rw [List.getElem?_drop] at hy
        have hvl := (Array.getElem?_eq_some_iff.1 hv).1
        simp only [Array.size_extract] at hvl
        rw [Array.getElem?_extract, if_pos (by omega)] at hv
        exact hr (off + j) y v hy hv
      · cases hy
    · cases h
  | false =>
    simp only [hagg, Bool.false_eq_true, if_false] at h
    have hlt := (List.getElem?_eq_some_iff.1 h).1
    have ha : (isAgg t).run P c.w = .ok false c.w := by rw [run_isAgg' h2, ← h3, hagg]
    have hg : cells[off]? = some (cells[off]'(by omega)) := Array.getElem?_eq_getElem (by omega)
    exact ⟨cells[off]'(by omega), by simp [part, ha, hg], hr off r _ h hg⟩

theorem ok_field (hs : Sim c H) {t f : Nat} {x : PV} {v : Value} (hx : Rel c false x v) {r : Res} (h : sField P t x f = some r) :
    OpOk c H (((do pure (Next.value (← Instr.field t v f))) : Sem Next).run P c.w) r := by
  unfold sField at h
  split at h
  · rename_i off ft cs hf
    obtain ⟨fs, fl, h1, h2, h3, h4, h5⟩ := fldI_inv hf
    split at h
    · rename_i ti ht
      cases hl : loadE ti.agg ti.size (.agg cs) off with
      | none => simp [hl] at h
      | some q =>
        simp only [hl, Option.map_some, Option.some.injEq] at h
        subst h
        cases hx with
        | agg hlen hrel =>
          obtain ⟨u, hu, hrel'⟩ := run_part (P := P) ht hlen hrel hl
          subst h4; subst h3
          exact .pure hs (v := u) (by simp [Instr.field, run_underlying h1, h2, asAgg, hu]) hrel' rfl
    · cases h
  · cases h

end
end Pv
