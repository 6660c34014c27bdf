import Derived.Test.YtkbghhholjfgfaaPv9
set_option linter.unusedSimpArgs false
set_option linter.unusedVariables false
namespace Pv
open Go

section
variable {P : Program} {c : Cx} {H : FH}

theorem news_of {cells : Array Value} {off s : Nat} {xs : List PV} (hsz : off + xs.length * s ≤ cells.size) (hlen : ∀ (i : Nat) x, xs[i]? = some x → x.cells.length = s)
    (hrel : ∀ (i : Nat) x (j : Nat) y v, xs[i]? = some x → x.cells[j]? = some y → cells[off + i * s + j]? = some v → v.oneCell' = true ∧ Rel c false y v) (hs0 : 0 < s) :
    ((cells.toList.drop off).take (xs.length * s)).length = xs.length * s ∧ (∀ (j : Nat) u, ((cells.toList.drop off).take (xs.length * s))[j]? = some u → cells[off + j]? = some u) ∧
    RowOk c ((cells.toList.drop off).take (xs.length * s)).toArray s xs ∧ ∀ u ∈ (cells.toList.drop off).take (xs.length * s), u.oneCell' = true := by
  have hl : ((cells.toList.drop off).take (xs.length * s)).length = xs.length * s := by simp; omega
  have hg : ∀ (j : Nat) u, ((cells.toList.drop off).take (xs.length * s))[j]? = some u → cells[off + j]? = some u := fun j u hu => by
    rw [List.getElem?_take] at hu
    split at hu
    · rw [List.getElem?_drop] at hu; simpa using hu
    · cases hu
  refine ⟨hl, hg, ⟨by simp only [List.size_toArray]; exact hl, hlen, fun i x j y v hx hy hv => ?_⟩, fun u hu => ?_⟩
  · have := hg (i * s + j) v (by simpa using hv)
    exact hrel i x j y v hx hy (by rw [Nat.add_assoc]; exact this)
  · obtain ⟨q, hq⟩ := List.mem_iff_getElem?.1 hu
    have hql := (List.getElem?_eq_some_iff.1 hq).1
    rw [hl] at hql
    have hi : q / s < xs.length := Nat.div_lt_of_lt_mul (by rw [Nat.mul_comm]; exact hql)
    have hj : q % s < s := Nat.mod_lt _ hs0
    have hqe : q / s * s + q % s = q := by rw [Nat.mul_comm]; exact Nat.div_add_mod q s
    have hx := List.getElem?_eq_getElem hi
    have hxl := hlen _ _ hx
    exact (hrel (q / s) _ (q % s) _ u hx (List.getElem?_eq_getElem (by omega)) (by rw [Nat.add_assoc, hqe]; exact hg q u hq)).1

/-- Where appended elements come from. -/
structure Src (c : Cx) (v : Value) (s : Nat) (ys : List PV) (news : List Value) : Prop where
  ex : ∃ a cap, v = .slice a ys.length cap ∧ (a = none → ys.length = 0) ∧ ∀ ad, a = some ad → ∀ (j : Nat) u, news[j]? = some u → c.w.cell? (ad.add j) = some u
  len : news.length = ys.length * s
  row : RowOk c news.toArray s ys
  one : ∀ u ∈ news, u.oneCell' = true

theorem row_nil (s : Nat) : RowOk c (#[] : Array Value) s [] := ⟨by simp, fun i x h => by simp at h, fun i x j y v h => by simp at h⟩

theorem okElem_len {x : PV} {n : Nat} (h : okElem x n = true) : x.cells.length = n := by
  simp only [okElem, Bool.and_eq_true, beq_iff_eq] at h; exact h.1

theorem src_of (hs : Sim c H) {y : PV} {v : Value} (hy : Rel c false y v) {ys : List PV} {ids : List Nat} {s : Nat} (h : sAppend.srcOf H s y = some (ys, ids)) (hs0 : 0 < s) :
    ∃ news, Src c v s ys news := by
  unfold sAppend.srcOf at h
  split at h
  · rename_i s' xs
    split at h
    · rename_i hss'
      subst hss'
      simp only [Option.some.injEq, Prod.mk.injEq] at h
      obtain ⟨rfl, rfl⟩ := h
      cases hy with
      | slnil _ a => exact ⟨[], ⟨⟨a, 0, rfl, fun _ => rfl, fun ad _ j u hu => by simp at hu⟩, by simp, row_nil s', fun u hu => by simp at hu⟩⟩
      | sl kb off cap cells et fr hA hh hz hcap hss h1 h2 =>
        obtain ⟨n1, n2, n3, n4⟩ := news_of (c := c) hz hss (fun i x j y v a b d => ⟨h1 i x j y v a b d, (h2 i x j y v a b d).open⟩) hs0
        exact ⟨_, ⟨⟨_, cap, rfl, fun h => by simp at h, fun ad had j u hu => by cases had; rw [Addr.add_lit, cell_of_row c.w kb _ cells et fr hh]; exact n2 j u hu⟩, n1, n3, n4⟩⟩
    · cases h
  · simp only [Option.some.injEq, Prod.mk.injEq] at h
    obtain ⟨rfl, rfl⟩ := h
    cases hy with
    | nils => exact ⟨[], ⟨⟨none, 0, rfl, fun _ => rfl, fun ad _ j u hu => by simp at hu⟩, by simp, row_nil s, fun u hu => by simp at hu⟩⟩
  · rename_i b g s' st n
    split at h
    · rename_i z xs hb
      obtain ⟨g1, g2, g3⟩ := boxArr_inv hb
      split at h
      · rename_i hfit
        obtain ⟨rfl, hfit⟩ := hfit
        simp only [Option.some.injEq, Prod.mk.injEq] at h
        obtain ⟨rfl, rfl⟩ := h
        have hlen : ((xs.drop st).take n).length = n := by simp; omega
        rcases hy.bsl_inv hs (cur_of g1 g2) with ⟨kb, cells, et, fr, cap, hk, hh, rfl, h5, h6⟩ | ⟨rfl, a, rfl⟩
        · obtain ⟨cells', e', fr', f1, f2, f3, f4, f5⟩ := (row_of hs g1 g3 hk).ex
          rw [hh] at f1; cases f1
          have hge : ∀ (i : Nat) x, ((xs.drop st).take n)[i]? = some x → xs[st + i]? = some x := fun i x hx => by
            rw [List.getElem?_take] at hx
            split at hx
            · rwa [List.getElem?_drop] at hx
            · cases hx
          have hz : st * s' + ((xs.drop st).take n).length * s' ≤ cells.size := by
            rw [hlen, ← Nat.add_mul]
            exact Nat.le_trans (Nat.mul_le_mul_right _ hfit) f3
          obtain ⟨n1, n2, n3, n4⟩ := news_of (c := c) (cells := cells) (off := st * s') hz (fun i x hx => f4 _ x (hge i x hx)) (fun i x j y v a b d => f5 (st + i) x j y v (hge i x a) b (by rw [Nat.add_mul]; exact d)) hs0
          rw [hlen] at n1 n2 n3 n4
          refine ⟨_, ⟨⟨_, cap, by rw [hlen], fun h => by simp at h, fun ad had j u hu => ?_⟩, by rw [hlen]; exact n1, n3, n4⟩⟩
          cases had; rw [Addr.add_lit, cell_of_row c.w kb _ cells et fr hh]; exact n2 j u hu
        · exact ⟨[], ⟨⟨a, 0, by simp, fun _ => by simp, fun ad _ j u hu => by simp at hu⟩, by simp, by simp only [List.take_zero]; exact row_nil s', fun u hu => by simp at hu⟩⟩
      · cases h
    · cases h
  · cases h

section runs
variable {w : World} {t t2 ty e e2 : TypeId} {i : TypeInfo}

theorem run_app_room (ht : P.underlying t = some (.slice e)) (ht2 : P.underlying t2 = some (.slice e2)) (hi : P.info? e = some i) (g sLen sCap : Nat) (cur : Array Value) (t' : TypeId) (hg : w.heap[g]? = some (.cells cur t' (0, 0)))
    {va : Option Addr} {m cap : Nat} {news : List Value} (hl : news.length = m * i.size) (hnone : va = none → m = 0) (hnews : ∀ ad, va = some ad → ∀ (j : Nat) u, news[j]? = some u → w.cell? (ad.add j) = some u) (h1 : ∀ u ∈ news, u.oneCell' = true)
    (hroom : sLen + m ≤ sCap) (hfit : sLen * i.size + news.length ≤ cur.size) :
    (Builtin.append_ #[t, t2] ty #[.slice (some ⟨g, 0, none⟩) sLen sCap, .slice va m cap]).run P w =
      .ok (.slice (some ⟨g, 0, none⟩) (sLen + m) sCap) (w.setRow g (cur.toList.take (sLen * i.size) ++ news ++ cur.toList.drop (sLen * i.size + news.length)).toArray) := by
  have hst := run_storeCells_at P g (sLen * i.size) t' news 0 cur w hg (by simpa using hfit) h1
  simp only [Nat.add_zero] at hst
  have hf : (Builtin.firstCells i.size m (.slice va m cap)).run P w = .ok news.toArray w := by
    cases va with
    | none =>
      obtain rfl := hnone rfl
      have : news = [] := List.eq_nil_of_length_eq_zero (by simpa using hl)
      subst this; rfl
    | some ad => exact run_firstCells_some (P := P) w i.size m ad m cap news hl (hnews ad rfl)
  simp [Builtin.append_, run_underlying ht, run_underlying ht2, run_sizeOf' hi, Builtin.lenOf, hroom, hf, Addr.add_lit, hst]

theorem run_app_none (ht : P.underlying t = some (.slice e)) (ht2 : P.underlying t2 = some (.slice e2)) (hi : P.info? e = some i) (a va : Option Addr) (cap : Nat) :
    (Builtin.append_ #[t, t2] ty #[.slice a 0 0, .slice va 0 cap]).run P w = .ok (.slice a 0 0) w := by
  have hf : (Builtin.firstCells i.size 0 (.slice va 0 cap)).run P w = .ok #[] w := by cases va <;> simp [Builtin.firstCells, loadCells, loadCellsFrom]
  cases a <;> simp [Builtin.append_, run_underlying ht, run_underlying ht2, run_sizeOf' hi, Builtin.lenOf, hf, storeCells]

theorem run_app_grow {z : Value} (ht : P.underlying t = some (.slice e)) (ht2 : P.underlying t2 = some (.slice e2)) (hi : P.info? e = some i) (hz : i.zero = some z)
    {b : Option Addr} (sLen sCap : Nat) (olds : List Value) (hlo : olds.length = sLen * i.size) (hbn : b = none → sLen = 0) (holds : ∀ ad, b = some ad → ∀ (j : Nat) v, olds[j]? = some v → w.cell? (ad.add j) = some v)
    {va : Option Addr} {m cap : Nat} {news : List Value} (hl : news.length = m * i.size) (hnone : va = none → m = 0) (hnews : ∀ ad, va = some ad → ∀ (j : Nat) u, news[j]? = some u → w.cell? (ad.add j) = some u)
    (hg : sCap < sLen + m) (h63 : ((sLen + m : Nat) : Int) ≤ 9223372036854775807) (hfit : Builtin.nextslicecap (sLen + m) sCap * i.bytes ≤ 281474976710656) :
    (Builtin.append_ #[t, t2] ty #[.slice b sLen sCap, .slice va m cap]).run P w =
      .ok (.slice (some ⟨w.heap.size, 0, none⟩) (sLen + m) (grownCap w (sLen + m) sCap e))
        (w.drew.alloc (.cells (olds.toArray ++ news.toArray ++ Builtin.zeroCells z.cells (grownCap w (sLen + m) sCap e - (sLen + m))) e)) := by
  have hn : ¬ (sLen + m ≤ sCap) := by omega
  have h63' : ¬ (9223372036854775807 < ((sLen : Int) + (m : Int))) := by omega
  have h48' : ¬ (281474976710656 < Builtin.nextslicecap (sLen + m) sCap * i.bytes) := by omega
  have hf : (Builtin.firstCells i.size m (.slice va m cap)).run P w.drew = .ok news.toArray w.drew := by
    cases va with
    | none =>
      obtain rfl := hnone rfl
      have : news = [] := List.eq_nil_of_length_eq_zero (by simpa using hl)
      subst this; rfl
    | some ad => exact run_firstCells_some (P := P) w.drew i.size m ad m cap news hl (hnews ad rfl)
  have hfo : (Builtin.firstCells i.size sLen (.slice b sLen sCap)).run P w.drew = .ok olds.toArray w.drew := by
    cases b with
    | none =>
      obtain rfl := hbn rfl
      have : olds = [] := List.eq_nil_of_length_eq_zero (by simpa using hlo)
      subst this; rfl
    | some ad => exact run_firstCells_some (P := P) w.drew i.size sLen ad sLen sCap olds hlo (holds ad rfl)
  simp [Builtin.append_, run_underlying ht, run_underlying ht2, Go.sizeOf, typeInfo, zeroValue, hi, hz, Builtin.lenOf, hn, h63', h48', Question.forced, hf, hfo, newRow, grownCap]
  congr 2
  apply Array.ext'
  simp [List.append_assoc]
end runs

theorem row_append {A B : Array Value} {s : Nat} {xs ys : List PV} (ha : RowOk c A s xs) (hb : RowOk c B s ys) (Z : Array Value) :
    (∀ (i : Nat) x, (xs ++ ys)[i]? = some x → x.cells.length = s) ∧ (∀ (i : Nat) x (j : Nat) y v, (xs ++ ys)[i]? = some x → x.cells[j]? = some y → (A ++ B ++ Z)[i * s + j]? = some v → v.oneCell' = true ∧ Rel c false y v) := by
  have hla := ha.size
  have hlb := hb.size
  have hlen : ∀ (i : Nat) x, (xs ++ ys)[i]? = some x → x.cells.length = s := fun i x hx => by
    rw [List.getElem?_append] at hx
    split at hx
    · exact ha.len i x hx
    · exact hb.len _ x hx
  refine ⟨hlen, fun i x j y v hx hy hv => ?_⟩
  have hjs : j < s := by
    have := (List.getElem?_eq_some_iff.1 hy).1
    have := hlen i x hx
    omega
  rw [List.getElem?_append] at hx
  split at hx
  · rename_i hi
    have hroom := elem_room (s := s) (n := xs.length) (sz := A.size) (by omega) hi
    rw [Array.append_assoc, Array.getElem?_append, if_pos (by omega)] at hv
    exact ha.rel i x j y v hx hy hv
  · rename_i hi
    have hil := (List.getElem?_eq_some_iff.1 hx).1
    have hroom := elem_room (s := s) (n := ys.length) (sz := B.size) (by omega) hil
    have hmul : i * s = xs.length * s + (i - xs.length) * s := by rw [← Nat.add_mul]; congr 1; omega
    rw [Array.append_assoc, Array.getElem?_append, if_neg (by omega), Array.getElem?_append, if_pos (by omega)] at hv
    exact hb.rel (i - xs.length) x j y v hx hy (by rw [← hv]; congr 1; omega)

/-- Elements appended to a slice of no element and no room. -/
theorem append_empty (hs : Sim c H) {t t2 ty e e2 : TypeId} (ht : P.underlying t = some (.slice e)) (ht2 : P.underlying t2 = some (.slice e2)) {i : TypeInfo} (hi : P.info? e = some i) {z : Value} (hz : i.zero = some z) {s : Nat} (hsz : i.size = s)
    (hzs : z.cells.size = s) (hs0 : 0 < s) {v : Value} {ys : List PV} {news : List Value} (hsrc : Src c v s ys news) (h63 : ys.length ≤ maxLen) (hby : ys.length * i.bytes ≤ 140737488355328) (a : Option Addr) (b g' : Nat)
    (hg : ∀ x, H b = some x → x.gen < g') (ids : List Nat) :
    OpOk c H (((do pure (Next.value (← Builtin.append_ #[t, t2] ty #[.slice a 0 0, v]))) : Sem Next).run P c.w) { v := .bsl b g' s 0 ys.length, rd := ids, wr := [(b, ⟨g', true, .arr s ys⟩)] } := by
  subst hsz
  obtain ⟨va, cap, rfl, hnone, hnews⟩ := hsrc.ex
  by_cases hm : ys.length = 0
  · have hys : ys = [] := List.eq_nil_of_length_eq_zero hm
    subst hys
    obtain ⟨c', h1, h2, h3, h4, h5⟩ := hs.virt b g' hg ⟨g', true, .arr i.size []⟩ rfl (.inl ⟨_, rfl⟩)
    refine ⟨.value (.slice a 0 0), .slice a 0 0, c', ?_, .inl rfl, .bsl _ rfl h2 (Nat.le_refl _) fun _ => .inr ⟨rfl, a, rfl⟩, h4, h5⟩
    rw [h1]
    have hr := run_app_none (P := P) (w := c.w) (ty := ty) ht ht2 hi a va cap
    simp only [List.length_nil, Sem.run_bind, hr, Result.andThen_ok, Sem.run_pure]
  · have hr := run_app_grow (P := P) (w := c.w) (ty := ty) ht ht2 hi hz (b := a) 0 0 [] (by simp) (fun _ => rfl) (fun ad _ j v h => by simp at h) (va := va) (m := ys.length) (cap := cap) hsrc.len hnone hnews (by omega) (by simp only [maxLen] at h63; omega)
      (growslice_fits (by omega) (by simpa using hby))
    simp only [Nat.zero_add] at hr
    have hge := grownCap_ge c.w ys.length 0 e
    have hrow := row_append (c := c) (row_nil i.size) hsrc.row (Builtin.zeroCells z.cells (grownCap c.w ys.length 0 e - ys.length))
    simp only [List.nil_append] at hrow
    have hcsz : (#[] ++ news.toArray ++ Builtin.zeroCells z.cells (grownCap c.w ys.length 0 e - ys.length)).size = grownCap c.w ys.length 0 e * i.size := by
      simp only [Array.size_append, List.size_toArray, size_zeroCells, hzs, hsrc.len, List.length_nil, Nat.zero_add, ← Nat.add_mul]
      congr 1
      omega
    obtain ⟨c', h1, h2, h3, h4, h5, h6⟩ := hs.fresh b g' hg (w' := c.w.drew.alloc (.cells (#[] ++ news.toArray ++ Builtin.zeroCells z.cells (grownCap c.w ys.length 0 e - ys.length)) e)) rfl rfl rfl rfl (s := i.size) (xs' := ys)
      (by rw [hcsz]; exact Nat.mul_le_mul_right _ hge) hrow.1 hrow.2
    refine ⟨.value (.slice (some ⟨c.w.heap.size, 0, none⟩) ys.length (grownCap c.w ys.length 0 e)), _, c', ?_, .inl rfl, ?_, h5, h6⟩
    · rw [h1]
      simp only [Sem.run_bind, hr, Result.andThen_ok, Sem.run_pure]
    · refine .bsl _ rfl h3 (Nat.le_refl _) fun _ => .inl ⟨c.w.heap.size, _, e, (0, 0), _, h2, ?_, by simp, hge, by rw [hcsz]; simp⟩
      rw [h1]; show (c.w.heap.push _)[c.w.heap.size]? = _; simp

theorem ok_append (hs : Sim c H) {d t t2 ty : Nat} {x y : PV} {vx vy : Value} (hx : Rel c false x vx) (hy : Rel c false y vy) {r : Res} (h : sAppend P H d t t2 x y = some r) :
    OpOk c H (((do pure (Next.value (← Builtin.append_ #[t, t2] ty #[vx, vy]))) : Sem Next).run P c.w) r := by
  unfold sAppend at h
  split at h
  · rename_i e e' he he'
    rcases elemI_inv he with ⟨_, hu⟩ | ⟨n, hn, _⟩
    · rcases elemI_inv he' with ⟨_, hu2⟩ | ⟨n, hn, _⟩
      · split at h
        · rename_i ti ys ids ht hsrc
          split at hsrc
          · rename_i hee
            split at h
            · rename_i hc
              obtain ⟨hok, hs0⟩ := hc
              obtain ⟨inf, z, i1, i2, i3, i4, i5⟩ := zero_rel ht hok
              rw [cellsOf_info i1, i3] at hsrc
              obtain ⟨news, hsr⟩ := src_of hs hy hsrc hs0
              have hzs : z.cells.size = ti.size := (okElem_cells hok (i5 c)).1
              split at h
              · split at h
                · rename_i hb
                  simp only [Option.some.injEq] at h
                  subst h
                  cases hx with
                  | nils => exact append_empty hs hu hu2 i1 i2 i3 hzs hs0 hsr hb.2 (by rw [i4]; exact hb.1) none d (genOf H d) genOf_lt _
                · cases h
              · rename_i b g s st n
                split at h
                · rename_i bx xs hbx
                  obtain ⟨g1, g2, g3⟩ := boxArr_inv hbx
                  split at h
                  · rename_i hb
                    obtain ⟨hown, hss, rfl, hnx, hbytes, h63⟩ := hb
                    simp only [Option.some.injEq] at h
                    subst h
                    rw [hss] at g3 hx hbx ⊢
                    have hgg : ∀ x, H b = some x → x.gen < g + 1 := fun x hx => by rw [g1] at hx; cases hx; omega
                    rcases hx.bsl_inv hs (cur_of g1 g2) with ⟨kb, cells, et, fr, cap, hk, hh, rfl, h5, h6⟩ | ⟨rfl, a, rfl⟩
                    · obtain ⟨cells', e', fr', f1, f2, f3, f4, f5⟩ := (row_of hs g1 g3 hk).ex
                      rw [hh] at f1; cases f1
                      obtain rfl := f2 hown
                      have hl : bx.live = true := by simp [Box.live, g3]
                      obtain ⟨va, capy, hvy, hnone, hnews⟩ := hsr.ex
                      subst hvy
                      have htk : (xs.take n).length = n := by simp; omega
                      have htg : ∀ (i : Nat) x, (xs.take n)[i]? = some x → xs[i]? = some x := fun i x hx => by
                        rw [List.getElem?_take] at hx
                        split at hx
                        · exact hx
                        · cases hx
                      simp only [Nat.zero_add, Nat.zero_mul] at h6 ⊢
                      have hncap : n * ti.size ≤ cap * ti.size := Nat.mul_le_mul_right _ h5
                      obtain ⟨o1, o2, o3, o4⟩ := news_of (c := c) (cells := cells) (off := 0) (s := ti.size) (xs := xs.take n) (by rw [htk]; omega) (fun i x hx => f4 i x (htg i x hx)) (fun i x j y v a b d => f5 i x j y v (htg i x a) b (by simpa using d)) hs0
                      rw [htk] at o1 o2 o3 o4
                      simp only [List.drop_zero, Nat.zero_add] at o1 o2 o3 o4
                      by_cases hroom : n + ys.length ≤ cap
                      · have hfit : n * inf.size + news.length ≤ cells.size := by
                          rw [i3, hsr.len, ← Nat.add_mul]
                          exact Nat.le_trans (Nat.mul_le_mul_right _ hroom) h6
                        have hr := run_app_room (P := P) (w := c.w) (ty := ty) hu hu2 i1 kb n cap cells et hh (va := va) (m := ys.length) (cap := capy) (news := news) (by rw [i3]; exact hsr.len) hnone hnews hsr.one hroom hfit
                        rw [i3] at hr hfit
                        have hrow := row_append (c := c) o3 hsr.row (cells.toList.drop (n * ti.size + news.length)).toArray
                        have happ : (cells.toList.take (n * ti.size)).toArray ++ news.toArray ++ (cells.toList.drop (n * ti.size + news.length)).toArray = (cells.toList.take (n * ti.size) ++ news ++ cells.toList.drop (n * ti.size + news.length)).toArray := by simp
                        rw [happ] at hrow
                        obtain ⟨c', q1, q2, q3, q4, q5, q6⟩ := hs.write g1 hown hl hk hh (cells' := (cells.toList.take (n * ti.size) ++ news ++ cells.toList.drop (n * ti.size + news.length)).toArray)
                          (by simp; omega) (g + 1) (by omega) (s := ti.size) (xs' := xs.take n ++ ys)
                          (by rw [List.length_append, htk]; exact Nat.le_trans (Nat.mul_le_mul_right _ hroom) h6) hrow.1 hrow.2
                        refine ⟨.value (.slice (some ⟨kb, 0, none⟩) (n + ys.length) cap), _, c', ?_, .inl rfl, ?_, q5, q6⟩
                        · rw [q1]
                          simp only [Sem.run_bind, hr, Result.andThen_ok, Sem.run_pure]
                        · refine .bsl _ rfl q3 (Nat.le_refl _) fun _ => .inl ⟨kb, _, et, (0, 0), cap, by rw [q2]; exact hk, by rw [q1]; exact setRow_heap c.w kb cells _ et (0, 0) hh, by simp, hroom, ?_⟩
                          simp; omega
                      · have hr := run_app_grow (P := P) (w := c.w) (ty := ty) hu hu2 i1 i2 (b := some ⟨kb, 0, none⟩) n cap (cells.toList.take (n * ti.size)) (by rw [i3]; exact o1) (fun h => by cases h)
                          (fun ad had j v hv => by cases had; rw [Addr.add_lit, cell_of_row c.w kb _ cells et (0, 0) hh]; simpa using o2 j v hv)
                          (va := va) (m := ys.length) (cap := capy) (news := news) (by rw [i3]; exact hsr.len) hnone hnews (by omega) (by simp only [maxLen] at h63; omega) (growslice_fits (by omega) (by rw [i4]; exact hbytes))
                        have hge := grownCap_ge c.w (n + ys.length) cap e
                        have hrow := row_append (c := c) o3 hsr.row (Builtin.zeroCells z.cells (grownCap c.w (n + ys.length) cap e - (n + ys.length)))
                        have hcsz : ((cells.toList.take (n * ti.size)).toArray ++ news.toArray ++ Builtin.zeroCells z.cells (grownCap c.w (n + ys.length) cap e - (n + ys.length))).size = grownCap c.w (n + ys.length) cap e * ti.size := by
                          simp only [Array.size_append, List.size_toArray, size_zeroCells, hzs, hsr.len, o1, ← Nat.add_mul]
                          congr 1; omega
                        obtain ⟨c', q1, q2, q3, q4, q5, q6⟩ := hs.fresh b (g + 1) hgg (w' := c.w.drew.alloc (.cells ((cells.toList.take (n * ti.size)).toArray ++ news.toArray ++ Builtin.zeroCells z.cells (grownCap c.w (n + ys.length) cap e - (n + ys.length))) e)) rfl rfl rfl rfl
                          (s := ti.size) (xs' := xs.take n ++ ys) (by rw [hcsz, List.length_append, htk]; exact Nat.mul_le_mul_right _ hge) hrow.1 hrow.2
                        refine ⟨.value (.slice (some ⟨c.w.heap.size, 0, none⟩) (n + ys.length) (grownCap c.w (n + ys.length) cap e)), _, c', ?_, .inl rfl, ?_, q5, q6⟩
                        · rw [q1]
                          simp only [Sem.run_bind, hr, Result.andThen_ok, Sem.run_pure]
                        · refine .bsl _ rfl q3 (Nat.le_refl _) fun _ => .inl ⟨c.w.heap.size, _, e, (0, 0), _, q2, ?_, by simp, hge, by rw [hcsz]; simp⟩
                          rw [q1]; show (c.w.heap.push _)[c.w.heap.size]? = _; simp
                    · simp only [Nat.zero_add] at hbytes h63 ⊢
                      have := append_empty hs hu hu2 (ty := ty) i1 i2 i3 hzs hs0 hsr h63 (by rw [i4]; exact hbytes) a b (g + 1) hgg (b :: ids)
                      simpa using this
                  · cases h
                · cases h
              · cases h
            · cases h
          · cases hsrc
        · cases h
      · cases hn
    · cases hn
  · cases h

end
end Pv
