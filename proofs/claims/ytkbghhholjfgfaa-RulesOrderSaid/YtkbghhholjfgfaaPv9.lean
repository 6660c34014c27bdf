import Derived.Test.YtkbghhholjfgfaaPv8
set_option linter.unusedSimpArgs false
set_option linter.unusedVariables false
namespace Pv
open Go

section
variable {P : Program} {c : Cx} {H : FH}

/-- Cells of a value that lies nowhere. -/
structure AggOk (c : Cx) (cells : Array Value) (cs : List PV) : Prop where
  size : cells.size = cs.length
  rel : ∀ (j : Nat) y v, cs[j]? = some y → cells[j]? = some v → Rel c false y v

theorem layFields_fill {T : List PV} {a : Act} (hT : RelL c T a.tmps.toList) {t : Nat} {fs : Array Field} (hu : P.underlying t = some (.struct fs)) (place : Nat → Option (Nat × Nat))
    (hp : ∀ i f, fs[i]? = some f → place i = some (f.offset, P.cellsOf f.type)) : ∀ (parts : List (Nat × Operand)) (cs cs' : List PV) (cells : Array Value), layFields T P t parts cs = some cs' → AggOk c cells cs →
    ∃ cells', Instr.fill place cells (parts.map fun x => (x.1, a.eval x.2)) = some cells' ∧ AggOk c cells' cs'
  | [], cs, cs', cells, h, hok => by
    simp only [layFields, Option.some.injEq] at h
    subst h
    exact ⟨cells, rfl, hok⟩
  | (i, o) :: rest, cs, cs', cells, h, hok => by
    simp only [layFields] at h
    split at h
    · rename_i off ft hf
      obtain ⟨fs', x, f1, f2, f3, f4, f5⟩ := fldI_inv hf
      rw [hu] at f1
      simp only [Option.some.injEq, TypeDesc.struct.injEq] at f1
      subst f1; subst f4
      split at h
      · rename_i hc
        obtain ⟨e1, e2, e3, e4⟩ := okElem_cells hc.1 (ev_rel hT o)
        obtain ⟨cells1, g1, g2, g3⟩ := fill_cons place cells i (a.eval o) (rest.map fun x => (x.1, a.eval x.2)) off (P.cellsOf x.type) (by rw [hp i x f2, f3]) e1 (by rw [hok.size]; exact hc.2)
        have hsp : off + (ev T o).cells.length ≤ cs.length := by rw [e2]; exact hc.2
        obtain ⟨cells', k1, k2⟩ := layFields_fill hT hu place hp rest _ cs' cells1 h ⟨by rw [g2, hok.size, splice_length hsp], fun j y v hy hv => by
          rw [splice_get hsp, e2] at hy
          rw [g3] at hv
          by_cases hj : off ≤ j ∧ j < off + P.cellsOf x.type
          · rw [if_neg (by omega), if_pos hj.2] at hy
            rw [if_pos hj] at hv
            exact (e3 (j - off) y v hy hv).2
          · rw [if_neg hj] at hv
            have hy' : cs[j]? = some y := by
              split at hy
              · exact hy
              · rw [if_neg (by omega)] at hy; exact hy
            exact hok.rel j y v hy' hv⟩
        exact ⟨cells', by rw [List.map_cons, g1, k1], k2⟩
      · cases h
    · cases h

theorem run_mapM_places (fs : List Field) (w : World) (hall : ∀ f ∈ fs, ∃ i, P.info? f.type = some i) :
    (fs.mapM fun f => do pure (f.offset, ← Go.sizeOf f.type) : Sem (List (Nat × Nat))).run P w = .ok (fs.map fun f => (f.offset, P.cellsOf f.type)) w := by
  induction fs with
  | nil => simp
  | cons f fs ih =>
    obtain ⟨i, hi⟩ := hall f (by simp)
    have ih' := ih fun g hg => hall g (by simp [hg])
    simp only [List.mapM_cons, Sem.run_bind, run_sizeOf' hi, Result.andThen_ok, Sem.run_pure, ih', List.map_cons, cellsOf_info hi]

theorem ok_build (hs : Sim c H) {T : List PV} {a : Act} (hT : RelL c T a.tmps.toList) {t : Nat} {parts : Array (Nat × Operand)} {r : Res} (h : sBuild P T t parts.toList = some r) :
    OpOk c H (((do pure (Next.value (← Instr.build t (parts.map fun x => (x.1, a.eval x.2))))) : Sem Next).run P c.w) r := by
  unfold sBuild at h
  split at h
  · rename_i ti ht
    split at h
    · rename_i cs hz
      split at h
      · rename_i hc
        obtain ⟨hlen, hst⟩ := hc
        cases hl : layFields T P t parts.toList cs with
        | none => simp [hl] at h
        | some cs' =>
          simp only [hl, Option.map_some, Option.some.injEq] at h
          subst h
          unfold sBuild.isStruct at hst
          split at hst
          · rename_i fs hu
            have hall : ∀ f ∈ fs.toList, ∃ i, P.info? f.type = some i := fun f hf => Option.isSome_iff_exists.1 (List.all_eq_true.1 hst f hf)
            obtain ⟨inf, d, i1, i2, i3, i4, i5, i6⟩ := tyI_inv ht
            cases hzz : inf.zero with
            | none => rw [hzz] at i6; simp only [Option.map_none, Option.getD_none] at i6; rw [hz] at i6; cases i6
            | some z =>
              rw [hzz] at i6
              simp only [Option.map_some, Option.getD_some] at i6
              have hzr : Rel c false ti.zero z := by rw [i6]; exact St.ofConst c z
              rw [hz] at hzr
              cases hzr with
              | agg hl1 hl2 =>
                rename_i vs
                obtain ⟨cells', k1, k2⟩ := layFields_fill hT hu ((fs.map fun f => (f.offset, P.cellsOf f.type))[·]?) (fun i f hf => by simp [hf]) parts.toList cs cs' vs hl ⟨hl1.symm, hl2⟩
                refine .pure hs (v := .agg cells') ?_ (.agg k2.size.symm k2.rel) rfl
                have hm := run_mapM_places (P := P) fs.toList c.w hall
                simp only [Instr.build, Sem.run_bind, run_zeroValue' i1 hzz, Result.andThen_ok, run_underlying hu, Array.toList_map, Value.cells]
                rw [show (Array.mapM (fun f => do pure (f.offset, ← Go.sizeOf f.type)) fs : Sem (Array (Nat × Nat))) = List.toArray <$> (fs.toList.mapM fun f => do pure (f.offset, ← Go.sizeOf f.type)) from by
                  rw [Array.mapM_eq_mapM_toList]]
                simp only [Sem.run_map, hm, Result.andThen_ok]
                have hplace : (fun i : Nat => (fs.toList.map fun f => (f.offset, P.cellsOf f.type)).toArray[i]?) = (fun i : Nat => (fs.map fun f => (f.offset, P.cellsOf f.type))[i]?) := by
                  funext i; simp
                rw [hplace, k1]
                rfl
          · cases hst
      · cases h
    · cases h
  · cases h

theorem boundOf_run {o : Option PV} {ov : Option Value} (hrel : ∀ p, o = some p → ∃ v, ov = some v ∧ Rel c false p v) (hnone : o = none → ov = none) {dflt l : Nat} (h : boundOf o dflt = some l) {y : Nat} {code : BoundsCode} (hl : l ≤ y) :
    (∀ (v : Value), ov = some v → (Instr.sliceBound v y code).run P c.w = .ok l c.w) ∧ (ov = none → l = dflt) := by
  unfold boundOf at h
  split at h
  · simp only [Option.some.injEq] at h
    have := hnone rfl
    subst this
    exact ⟨fun v hv => (by cases hv), fun _ => h.symm⟩
  · rename_i k i
    obtain ⟨v, hv, hr⟩ := hrel _ rfl
    cases hr
    split at h
    · rename_i hi
      simp only [Option.some.injEq] at h
      subst h
      subst hv
      refine ⟨fun v hv => ?_, fun h => by cases h⟩
      cases hv
      have hle : i ≤ (y : Int) := by omega
      simp [Instr.sliceBound, asIntOf, hi, hle]
    · cases h
  · cases h

theorem run_sliceBounds {lo hi : Option PV} {vlo vhi : Option Value} (hlo : ∀ p, lo = some p → ∃ v, vlo = some v ∧ Rel c false p v) (hlo0 : lo = none → vlo = none)
    (hhi : ∀ p, hi = some p → ∃ v, vhi = some v ∧ Rel c false p v) (hhi0 : hi = none → vhi = none) {n cap l h : Nat} (hl : boundOf lo 0 = some l) (hh : boundOf hi n = some h) (h1 : l ≤ h) (h2 : h ≤ n) (h3 : n ≤ cap) (b : Bool) :
    (Instr.sliceBounds b n cap vlo vhi none).run P c.w = .ok (l, h, cap) c.w := by
  have a1 := boundOf_run (P := P) hhi hhi0 hh (y := cap) (code := if b then .sliceAcap else .sliceAlen) (by omega)
  have a2 := boundOf_run (P := P) hlo hlo0 hl (y := h) (code := .sliceB) h1
  unfold Instr.sliceBounds
  cases hvh : vhi with
  | none =>
    have := a1.2 hvh
    subst this
    cases hvl : vlo with
    | none => have := a2.2 hvl; subst this; simp
    | some v => simp [a2.1 v hvl]
  | some vh =>
    cases hvl : vlo with
    | none => have := a2.2 hvl; subst this; simp [a1.1 vh hvh]
    | some v => simp [a1.1 vh hvh, a2.1 v hvl]

theorem ok_slice (hs : Sim c H) {t : Nat} {x : PV} {v : Value} (hx : Rel c false x v) {lo hi mx : Option PV} {vlo vhi vmx : Option Value} (hlo : ∀ p, lo = some p → ∃ v, vlo = some v ∧ Rel c false p v) (hlo0 : lo = none → vlo = none)
    (hhi : ∀ p, hi = some p → ∃ v, vhi = some v ∧ Rel c false p v) (hhi0 : hi = none → vhi = none) (hmx0 : mx = none → vmx = none) {r : Res} (h : sSlice P H t x lo hi mx = some r) :
    OpOk c H (((do pure (Next.value (← Instr.sliceAt t v vlo vhi vmx))) : Sem Next).run P c.w) r := by
  unfold sSlice at h
  split at h
  · rename_i e s xs he
    obtain rfl := hmx0 rfl
    obtain ⟨inf, hinf⟩ := elemI_info he
    rcases elemI_inv he with ⟨_, hu⟩ | ⟨n, hn, _⟩
    · split at h
      · rename_i l hh hl1 hh1
        split at h
        · rename_i hc
          obtain ⟨c3, c1, c2⟩ := hc
          simp only [Option.some.injEq] at h
          subst h
          have hseq : s = inf.size := by rw [← c3, cellsOf_info hinf]
          subst hseq
          cases hx with
          | slnil _ a =>
            simp only [List.length_nil] at hh1 c2
            have hb := run_sliceBounds (P := P) hlo hlo0 hhi hhi0 hl1 hh1 c1 c2 (Nat.le_refl _) true
            have h0 : hh = 0 := by omega
            have l0 : l = 0 := by omega
            subst h0; subst l0
            refine .pure hs (v := .slice a 0 0) ?_ (.slnil _ _) rfl
            simp [Instr.sliceAt, Instr.slice, run_underlying hu, hb, run_sizeOf' hinf]
          | sl kb off cap cells et fr hA hhp hz hcap hss h1 h2 =>
            have hb := run_sliceBounds (P := P) hlo hlo0 hhi hhi0 hl1 hh1 c1 c2 hcap true
            have hlen : ((xs.drop l).take (hh - l)).length = hh - l := by simp; omega
            by_cases hcl : cap = l
            · have : hh = l := by omega
              subst this
              subst hcl
              refine .pure hs (v := .slice (some ⟨kb, off, none⟩) 0 0) ?_ ?_ rfl
              · simp [Instr.sliceAt, Instr.slice, run_underlying hu, hb, run_sizeOf' hinf]
              · simp only [Nat.sub_self, List.take_zero]; exact .slnil _ _
            · by_cases hemp : xs = []
              · subst hemp
                simp only [List.length_nil] at c2 hb
                have h0 : hh = 0 := by omega
                have l0 : l = 0 := by omega
                subst h0; subst l0
                refine .pure hs (v := .slice (some ⟨kb, off + 0 * inf.size, none⟩) 0 cap) ?_ ?_ rfl
                · simp [Instr.sliceAt, Instr.slice, run_underlying hu, hb, run_sizeOf' hinf, Addr.add_lit, hcl]
                · exact .sl (xs := []) kb (off + 0 * inf.size) cap cells et fr hA hhp (by simpa using hz) (by simp) (fun i x hx => by simp at hx) (fun i x j y v hx => by simp at hx) (fun i x j y v hx => by simp at hx)
              · have hpos : 0 < xs.length := List.length_pos_iff.2 hemp
                refine .pure hs (v := .slice (some ⟨kb, off + l * inf.size, none⟩) (hh - l) (cap - l)) ?_ ?_ rfl
                · simp [Instr.sliceAt, Instr.slice, run_underlying hu, hb, run_sizeOf' hinf, Addr.add_lit, hcl]
                · have hge : ∀ (i : Nat) x, ((xs.drop l).take (hh - l))[i]? = some x → xs[l + i]? = some x := fun i x hx => by
                    rw [List.getElem?_take] at hx
                    split at hx
                    · rwa [List.getElem?_drop] at hx
                    · cases hx
                  have hre := Rel.sl (c := c) (cl := false) (s := inf.size) (xs := (xs.drop l).take (hh - l)) kb (off + l * inf.size) (cap - l) cells et fr hA hhp
                    (by
                      rw [hlen]
                      have : (l + (hh - l)) * inf.size ≤ xs.length * inf.size := Nat.mul_le_mul_right _ (by omega)
                      rw [Nat.add_mul] at this; omega) (by rw [hlen]; omega)
                    (fun i x hx => hss (l + i) x (hge i x hx))
                    (fun i x j y v hx hy hv => h1 (l + i) x j y v (hge i x hx) hy (by rw [Nat.add_mul]; rw [← hv]; congr 1; omega))
                    (fun i x j y v hx hy hv => h2 (l + i) x j y v (hge i x hx) hy (by rw [Nat.add_mul]; rw [← hv]; congr 1; omega))
                  rw [hlen] at hre
                  exact hre
        · cases h
      · cases h
    · cases hn
  · rename_i e b g s st n he
    obtain rfl := hmx0 rfl
    obtain ⟨inf, hinf⟩ := elemI_info he
    rcases elemI_inv he with ⟨_, hu⟩ | ⟨n, hn, _⟩
    · split at h
      · rename_i l hh hl1 hh1
        split at h
        · rename_i hc
          obtain ⟨c0, c1, c2, c3⟩ := hc
          simp only [Option.some.injEq] at h
          subst h
          have hss : inf.size = s := by rw [← c1, cellsOf_info hinf]
          rcases hx.bsl_inv hs c0 with ⟨kb, cells, et, fr, cap, hk, hhp, rfl, h5, h6⟩ | ⟨rfl, a, rfl⟩
          · have hb := run_sliceBounds (P := P) hlo hlo0 hhi hhi0 hl1 hh1 c2 c3 h5 true
            by_cases hcl : cap = l
            · have : hh = l := by omega
              subst this
              subst hcl
              refine .pure hs (v := .slice (some ⟨kb, st * s, none⟩) 0 0) ?_ ?_ rfl
              · simp [Instr.sliceAt, Instr.slice, run_underlying hu, hb, run_sizeOf' hinf]
              · exact Rel.bsl_mk hs c0 (.inr ⟨by omega, _, rfl⟩)
            · refine .pure hs (v := .slice (some ⟨kb, (st + l) * s, none⟩) (hh - l) (cap - l)) ?_ ?_ rfl
              · simp [Instr.sliceAt, Instr.slice, run_underlying hu, hb, run_sizeOf' hinf, Addr.add_lit, hcl, hss, Nat.add_mul]
              · refine Rel.bsl_mk hs c0 (.inl ⟨kb, cells, et, fr, cap - l, hk, hhp, rfl, by omega, ?_⟩)
                have : st + l + (cap - l) = st + cap := by omega
                rw [this]; exact h6
          · have hb := run_sliceBounds (P := P) hlo hlo0 hhi hhi0 hl1 hh1 c2 c3 (Nat.le_refl _) true
            have h0 : hh = 0 := by omega
            have l0 : l = 0 := by omega
            subst h0; subst l0
            refine .pure hs (v := .slice a 0 0) ?_ (Rel.bsl_mk hs c0 (.inr ⟨rfl, a, rfl⟩)) rfl
            simp [Instr.sliceAt, Instr.slice, run_underlying hu, hb, run_sizeOf' hinf]
        · cases h
      · cases h
    · cases hn
  · rename_i m e b g s i p he
    obtain rfl := hmx0 rfl
    obtain ⟨inf, hinf⟩ := elemI_info he
    rcases elemI_inv he with ⟨hn, _⟩ | ⟨n, hn, hu⟩
    · cases hn
    · simp only [EK.array.injEq] at hn
      subst hn
      split at h
      · rename_i y xs hb
        obtain ⟨g1, g2, g3⟩ := boxArr_inv hb
        split at h
        · rename_i x' hx'
          split at h
          · rename_i l hh hl1 hh1
            split at h
            · rename_i hc
              obtain ⟨c0, c1, c2, c3, c4⟩ := hc
              simp only [Option.some.injEq] at h
              subst h
              have hs1 : inf.size = 1 := by rw [← c0, cellsOf_info hinf]
              obtain ⟨k, hk, rfl⟩ := hx.ptr_inv hs (cur_of g1 g2)
              obtain ⟨cells, et, fr, f1, f2, f3, f4, f5⟩ := (row_of hs g1 g3 hk).ex
              have hb' := run_sliceBounds (P := P) hlo hlo0 hhi hhi0 hl1 hh1 c1 c2 (Nat.le_refl _) false
              obtain ⟨c', q1, q2, q3, q4, q5, q6, q7⟩ := hs.freeze g1
              have hlv : y.live = true := by simp [Box.live, g3]
              have hil := (List.getElem?_eq_some_iff.1 hx').1
              have hxl := f4 i x' hx'
              have hroom := elem_room f3 hil
              have hlen : ((((x'.cells.drop p).take m).drop l).take (hh - l)).length = hh - l := by simp; omega
              have hget : ∀ (j : Nat) q, ((((x'.cells.drop p).take m).drop l).take (hh - l))[j]? = some q → x'.cells[p + l + j]? = some q ∧ q.cellB = true ∧ q.closed = true := by
                intro j q hq
                have hmem := List.mem_of_mem_drop (List.mem_of_mem_take (List.mem_of_getElem? hq))
                have hgood := List.all_eq_true.1 c4 q hmem
                simp only [Bool.and_eq_true] at hgood
                rw [List.getElem?_take] at hq
                split at hq
                · rw [List.getElem?_drop, List.getElem?_take] at hq
                  split at hq
                  · rw [List.getElem?_drop] at hq
                    exact ⟨by rw [← hq]; congr 1; omega, hgood⟩
                  · cases hq
                · cases hq
              have hone : ∀ q : PV, q.cellB = true → q.cells = [q] := fun q hq => by cases q <;> simp_all [PV.cells, PV.cellB]
              have hrel : Rel c' false (.sl 1 ((((x'.cells.drop p).take m).drop l).take (hh - l))) (.slice (some ⟨k, i * s + p + l, none⟩) (hh - l) (m - l)) := by
                have := Rel.sl (c := c') (cl := false) (s := 1) (xs := (((x'.cells.drop p).take m).drop l).take (hh - l)) k (i * s + p + l) (m - l) cells et fr (q4 k hlv hk) (by rw [q1]; exact f1) (by rw [hlen]; omega) (by rw [hlen]; omega)
                  (fun j q hq => by rw [hone q (hget j q hq).2.1]; rfl)
                  (fun j q j' z v hq hz hv => by
                    rw [hone q (hget j q hq).2.1] at hz
                    cases j' with
                    | zero =>
                      simp at hz; subst hz
                      exact (f5 i x' (p + l + j) q v hx' (hget j q hq).1 (by rw [← hv]; congr 1; omega)).1
                    | succ j' => simp at hz)
                  (fun j q j' z v hq hz hv => by
                    rw [hone q (hget j q hq).2.1] at hz
                    cases j' with
                    | zero =>
                      simp at hz; subst hz
                      exact ((f5 i x' (p + l + j) q v hx' (hget j q hq).1 (by rw [← hv]; congr 1; omega)).2.mono q5).toClosed (hget j q hq).2.2
                    | succ j' => simp at hz)
                rw [hlen] at this
                exact this
              by_cases hcl : m = l
              · have hhl : hh = l := by omega
                subst hhl
                subst hcl
                refine ⟨.value (.slice (some ⟨k, i * s + p, none⟩) 0 0), _, c', ?_, .inl rfl, ?_, q6, q7⟩
                · rw [q1]; simp [Instr.sliceAt, run_underlying hu, hb', run_sizeOf' hinf, Instr.sureAddr]
                · simp only [Nat.sub_self, List.take_zero]; exact .slnil _ _
              · refine ⟨.value (.slice (some ⟨k, i * s + p + l, none⟩) (hh - l) (m - l)), _, c', ?_, .inl rfl, hrel, q6, q7⟩
                rw [q1]; simp [Instr.sliceAt, run_underlying hu, hb', run_sizeOf' hinf, Instr.sureAddr, hcl, hs1, Addr.add_lit]
            · cases h
          · cases h
        · cases h
      · cases h
  · cases h

end
end Pv
