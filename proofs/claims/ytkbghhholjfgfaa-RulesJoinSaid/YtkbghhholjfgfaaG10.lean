import Derived.Test.YtkbghhholjfgfaaG5
set_option linter.unusedSimpArgs false
set_option linter.unusedVariables false
namespace Pv
open Go Go.Proofs
attribute [local simp] Body.ren Body.withinB Box.ren List.drop_succ_cons List.map_set List.take_succ_cons PV.ren PV.within PV.within.go boxArr co30 co50 co60 co69 cur el46 el47 el48 el82 ev_const ev_fr ev_func ev_glob find_cons find_nil fl50_0 fl50_1 fl50_2 fr_get' fstep genOf guardDec inBlockP inH keepL keys lk maxLen memL newBox ofConst ofScalar pEv pEv0 part' put puts renL sAlloc sAppend sAppend.srcOf sFieldAddr sIndexAddr sLen sLoad sStore setD_fr setD_none setc_agg shR_d shR_r splice take_map_len thenP ty30 ty46 ty47 ty48 ty50 ty60 ty69 upF withinB_arr
set_option maxRecDepth 100000 in
set_option maxHeartbeats 4000000 in
theorem join_pf (l : List NRows) (hl : l.length < 1000000) (h : (catRows l).le 1000000) : PFun Try.prog 22 [.sl 3 (l.map NRows.pv)] ((joinRows l).pv) := by
 refine PFun.of_bodyF (by simp) Try.func22 rfl 33 rfl (by simp) fun c0 => ?_
 simp only [argL, Nat.reduceAdd]
 have h1 := h.f
 have h2 := h.g
 have h3 := h.l
 simp only [catRows] at h1 h2 h3
 refine pw_seq_k fun K1 hK1 => ?_
 refine pw_region 0 ?_
 simp [frzW, upd]
 apply hK1; try clear hK1 K1
 refine pw_seq_k fun K2 hK2 => ?_
 refine pw_region 0 ?_
 simp [frzW, upd]
 apply hK2; try clear hK2 K2
 refine pw_seq_k fun K3 hK3 => ?_
 refine pw_seq_k fun K4 hK4 => ?_
 refine pw_region 0 ?_
 simp [frzW, upd]
 apply hK4; try clear hK4 K4
 refine pw_block ?_
 refine pw_loopF (α := Nat × Nat × Nat × Nat × (List NFront) × (List NGroup) × (List NFilter)) [2, 3, 6, 7] (fun s => [(8, .int .i64 (s.1 : Nat))]) (fun s => [(3, ⟨0, true, .arr 3 [.agg [.bsl 16 s.2.1 26 0 s.2.2.2.2.1.length, .bsl 22 s.2.2.1 8 0 s.2.2.2.2.2.1.length, .bsl 28 s.2.2.2.1 3 0 s.2.2.2.2.2.2.length]]⟩), (16, ⟨s.2.1, true, .arr 26 (s.2.2.2.2.1.map NFront.pv)⟩), (22, ⟨s.2.2.1, true, .arr 8 (s.2.2.2.2.2.1.map NGroup.pv)⟩), (28, ⟨s.2.2.2.1, true, .arr 3 (s.2.2.2.2.2.2.map NFilter.pv)⟩)]) (fun m s => s.1 + m = l.length ∧ s.2.2.2.2.1 = (l.take s.1).flatMap (fun r => r.fronts) ∧ s.2.2.2.2.2.1 = (l.take s.1).flatMap (fun r => r.groups) ∧ s.2.2.2.2.2.2 = (l.take s.1).flatMap (fun r => r.filters)) (l.length) (0, 0, 0, 0, [], [], []) ?_ ?_ ?_
 ·(try dsimp only) <;> (simp)
 ·refine Wk.trans (Wk.virt 16 0 26 (by simp)) ?_
  refine Wk.trans (Wk.virt 22 0 8 (by simp)) ?_
  refine Wk.trans (Wk.virt 28 0 3 (by simp)) ?_
  refine Wk.toF ?_ ?_ ?_ ?_ ?_
  ·try simp only [keepL, memL, cond_true, cond_false, ↓reduceIte, reduceCtorEq, Nat.reduceEqDiff, List.cons_append, List.nil_append, puts, put]
   repeat (first | exact trivial | (refine FLt.cons ?_ ?_; focus (first | exact Lt.refl _ | exact Lt.any _ | (refine Lt.nilb ?_; simp; done) | (refine lt_eq (congrArg (PV.int .i64) ?_); omega) | (refine lt_eq ?_; simp; done) | (refine lt_eq ?_; simp <;> omega))))
  ·try simp only [puts, put, ↓reduceIte, reduceCtorEq, Nat.reduceEqDiff]
   repeat (first | exact trivial | (refine ⟨⟨_, rfl, ?_⟩, ?_⟩; focus (first | exact BLt.refl _ | (refine BLt.of_eq ?_; simp; done) | (refine BLt.of_eq ?_; simp <;> omega) | (refine BLt.one ?_; (repeat (first | exact LtL.nil | (refine LtL.cons ?_ ?_; focus (first | exact Lt.refl _ | exact Lt.any _ | (refine Lt.nilb ?_; simp; done) | (refine lt_eq (congrArg (PV.int .i64) ?_); omega) | (refine lt_eq ?_; simp; done) | (refine lt_eq ?_; simp <;> omega))))); done))))
  ·simp
  ·simp
  ·simp
 ·intro m s hinv KL5 hKL5
  obtain ⟨i, g1, g2, g3, F, G, L⟩ := s
  try dsimp only at hinv
  obtain ⟨hk, hF, hG, hL⟩ := hinv
  simp only [keepL, memL, cond_true, cond_false, ↓reduceIte, reduceCtorEq, Nat.reduceEqDiff, List.cons_append, List.nil_append, puts, put]
  refine pw_seq_k fun K6 hK6 => ?_
  refine pw_region 0 ?_
  simp [sBinH, sBin, binop, frzW, upd]
  apply hK6; try clear hK6 K6
  refine pw_seq_k fun K7 hK7 => ?_
  refine pw_cond _ rfl (fun h8 => ?_) (fun h8 => ?_)
  ·try simp at h8
   obtain ⟨x, hx, hX⟩ := getN2 (l := l) (k := i) (by omega)
   have hw := wrap_i64 (n := (i : Int) + 1) (by omega) (by omega)
   have hdr := drop_get hx
   have htk := take_get hx
   have q1 := flat_le (fun r => r.fronts) l (i + 1)
   have q2 := flat_le (fun r => r.groups) l (i + 1)
   have q3 := flat_le (fun r => r.filters) l (i + 1)
   rw [flat_next hx, List.length_append, ← hF] at q1
   rw [flat_next hx, List.length_append, ← hG] at q2
   rw [flat_next hx, List.length_append, ← hL] at q3
   have b11 : (F.length + x.fronts.length) * 112 ≤ 140737488355328 := by omega
   have b21 : (G.length + x.groups.length) * 112 ≤ 140737488355328 := by omega
   have b31 : (L.length + x.filters.length) * 56 ≤ 140737488355328 := by omega
   have b12 : F.length + x.fronts.length ≤ 9223372036854775807 := by omega
   have b22 : G.length + x.groups.length ≤ 9223372036854775807 := by omega
   have b32 : L.length + x.filters.length ≤ 9223372036854775807 := by omega
   refine pw_skip ?_
   try simp only [thenP, inBlockP]
   apply hK7; try clear hK7 K7
   refine pw_seq_k fun K9 hK9 => ?_
   refine pw_block ?_
   refine pw_seq_k fun K10 hK10 => ?_
   refine pw_region 0 ?_
   simp [frzW, upd, h8, hx, hX, hw, htk, b11, b12, b21, b22, b31, b32]
   apply hK10; try clear hK10 K10
   refine pw_seq_k fun K11 hK11 => ?_
   refine pw_region 0 ?_
   refine pEv0_split 4 fun Kr12 hKr12 => ?_
   simp [frzW, upd, h8, hx, hX, hw, htk, b11, b12, b21, b22, b31, b32]
   apply hKr12; clear hKr12 Kr12
   simp [frzW, upd, h8, hx, hX, hw, htk, b11, b12, b21, b22, b31, b32]
   apply hK11; try clear hK11 K11
   refine pw_keep [2, 3, 5, 6, 7, 8] ?_
   simp only [keepL, memL, cond_true, cond_false, ↓reduceIte, reduceCtorEq, Nat.reduceEqDiff]
   refine pw_seq_k fun K13 hK13 => ?_
   refine pw_region 0 ?_
   refine pEv0_split 4 fun Kr14 hKr14 => ?_
   simp [frzW, upd, h8, hx, hX, hw, htk, b11, b12, b21, b22, b31, b32]
   apply hKr14; clear hKr14 Kr14
   simp [frzW, upd, h8, hx, hX, hw, htk, b11, b12, b21, b22, b31, b32]
   apply hK13; try clear hK13 K13
   refine pw_keep [2, 3, 5, 6, 7, 8] ?_
   simp only [keepL, memL, cond_true, cond_false, ↓reduceIte, reduceCtorEq, Nat.reduceEqDiff]
   refine pw_region 0 ?_
   refine pEv0_split 4 fun Kr15 hKr15 => ?_
   simp [frzW, upd, h8, hx, hX, hw, htk, b11, b12, b21, b22, b31, b32]
   apply hKr15; clear hKr15 Kr15
   simp [frzW, upd, h8, hx, hX, hw, htk, b11, b12, b21, b22, b31, b32]
   apply hK9; try clear hK9 K9
   refine pw_keep [2, 3, 6, 7, 8] ?_
   simp only [keepL, memL, cond_true, cond_false, ↓reduceIte, reduceCtorEq, Nat.reduceEqDiff]
   refine pw_region 0 ?_
   simp [sBinH, sBin, binop, frzW, upd, h8, hx, hX, hw, htk, b11, b12, b21, b22, b31, b32]
   refine hKL5 _ (m - 1) (i + 1, g1 + 1, g2 + 1, g3 + 1, F ++ x.fronts, G ++ x.groups, L ++ x.filters) ?_ ?_ ?_
   ·omega
   ·(try dsimp only) <;> (exact ⟨by omega, by rw [hF, flat_next hx], by rw [hG, flat_next hx], by rw [hL, flat_next hx]⟩)
   ·refine Wk.toF ?_ ?_ ?_ ?_ ?_
    ·try simp only [keepL, memL, cond_true, cond_false, ↓reduceIte, reduceCtorEq, Nat.reduceEqDiff, List.cons_append, List.nil_append, puts, put]
     repeat (first | exact trivial | (refine FLt.cons ?_ ?_; focus (first | exact Lt.refl _ | exact Lt.any _ | (refine lt_eq (congrArg (PV.int .i64) ?_); omega) | (refine lt_eq ?_; simp [h8, htk, b11, b12, b21, b22, b31, b32]; done) | (refine lt_eq ?_; simp [h8, htk, b11, b12, b21, b22, b31, b32] <;> omega))))
    ·try simp only [puts, put, ↓reduceIte, reduceCtorEq, Nat.reduceEqDiff]
     repeat (first | exact trivial | (refine ⟨⟨_, rfl, ?_⟩, ?_⟩; focus (first | exact BLt.refl _ | (refine BLt.of_eq ?_; simp [h8, htk, b11, b12, b21, b22, b31, b32]; done) | (refine BLt.of_eq ?_; simp [h8, htk, b11, b12, b21, b22, b31, b32] <;> omega) | (refine BLt.one ?_; (repeat (first | exact LtL.nil | (refine LtL.cons ?_ ?_; focus (first | exact Lt.refl _ | exact Lt.any _ | (refine lt_eq (congrArg (PV.int .i64) ?_); omega) | (refine lt_eq ?_; simp [h8, htk, b11, b12, b21, b22, b31, b32]; done) | (refine lt_eq ?_; simp [h8, htk, b11, b12, b21, b22, b31, b32] <;> omega))))); done))))
    ·simp
    ·simp
    ·simp
  ·try simp at h8
   have hF2 : F = (catRows l).fronts := by rw [hF, List.take_of_length_le (by omega)]; rfl
   have hG2 : G = (catRows l).groups := by rw [hG, List.take_of_length_le (by omega)]; rfl
   have hL2 : L = (catRows l).filters := by rw [hL, List.take_of_length_le (by omega)]; rfl
   clear hF hG hL
   subst hF2 hG2 hL2
   refine pw_exit ?_
   simp [thenP, inBlockP]
   apply hK3; try clear hK3 K3
   refine pw_keep [2, 3] ?_
   simp only [keepL, memL, cond_true, cond_false, ↓reduceIte, reduceCtorEq, Nat.reduceEqDiff]
   refine pw_seq_k fun K16 hK16 => ?_
   refine pw_region 0 ?_
   refine pEv0_split 1 fun Kr17 hKr17 => ?_
   simp [frzW, upd, h8]
   apply hKr17; clear hKr17 Kr17
   refine pEv0_call' rfl rfl rfl ((call_frz (M := fun _ => false) (VwL.cons (VwA.agg (VwL.cons (VwA.rowB rfl rfl rfl (by simp) (El_front.all _) (by simp [take_map_len])) (VwL.cons (VwA.rowB rfl rfl rfl (by simp) (El_group.all _) (by simp [take_map_len])) (VwL.cons (VwA.rowB rfl rfl rfl (by simp) (El_filter.all _) (by simp [take_map_len])) VwL.nil)))) VwL.nil) (call_pure (sort_pf (catRows l) h) en28 (by simp) _))) ?_
   simp [frzW, upd, h8]
   apply hK16; try clear hK16 K16
   refine pw_ret ?_
   try simp only [thenP, inBlockP]
   refine bodyQ_ex (by first | exact .inl rfl | exact .inr rfl) ?_
   simp only [resL, resVL, lk, sLoad, boxArr, find_cons, Try.func22, Try.results22, ty50, ↓reduceIte, reduceCtorEq, Nat.reduceLT, Nat.reduceEqDiff, Option.map_some, Option.bind_some, Option.some.injEq, exists_eq_left', List.getElem?_cons_zero, ld_agg_t, ld_int, ld_bool, ld_str, ld_sl, ld_bsl, ld_nils, List.length_cons, List.length_nil, Nat.reduceAdd, Nat.reduceLeDiff, List.take_succ_cons, List.take_zero, List.drop_zero, and_self, true_and, Nat.le_refl, Nat.zero_add, NAddr.ld, NCidr.ld, NPoint.ld, NKey.ld, NFront.ld, NId.ld, NFilter.ld, NTable.ld, NGroup.ld, NRows.ld]
   first | rfl | (simp [joinRows]; done)

end Pv
