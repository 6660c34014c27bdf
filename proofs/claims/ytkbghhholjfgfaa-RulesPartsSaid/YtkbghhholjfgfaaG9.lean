import Derived.Test.YtkbghhholjfgfaaG5
set_option linter.unusedSimpArgs false
set_option linter.unusedVariables false
namespace Pv
open Go Go.Proofs
attribute [local simp] Body.ren Body.withinB Box.ren List.drop_succ_cons List.map_set List.take_succ_cons PV.ren PV.within PV.within.go boundOf boxArr co28 cur el81 ev_const ev_fr ev_func ev_glob find_cons find_nil fr_get' fstep genOf guardDec inBlockP inH keepL keys layParts lk maxLen memL newBox ofConst ofScalar pEv pEv0 part' put puts renL sAlloc sAppend sAppend.srcOf sBuildSlice sIndexAddr sLen sLoad sSlice sStore setD_fr setD_none setc_agg shR_d shR_r splice take_map_len thenP ty28 upF withinB_arr
set_option maxRecDepth 100000 in
set_option maxHeartbeats 4000000 in
theorem rsort_pf (l : List NKey) (hl : l.length < 1000000) : PFun Try.prog 26 [.sl 2 (l.map NKey.pv)] (.sl 2 ((l.foldl putU []).map NKey.pv)) := by
 refine PFun.of_body_frozenF (by simp) Try.func26 rfl 55 rfl (by simp) fun c0 => ?_
 simp only [argL, Nat.reduceAdd]
 refine pw_seq_k fun K1 hK1 => ?_
 refine pw_region 0 ?_
 simp [take_app, drop_app, take_snoc, take_mid]
 apply hK1; try clear hK1 K1
 refine pw_seq_k fun K2 hK2 => ?_
 refine pw_region 0 ?_
 simp [take_app, drop_app, take_snoc, take_mid]
 apply hK2; try clear hK2 K2
 refine pw_seq_k fun K3 hK3 => ?_
 refine pw_seq_k fun K4 hK4 => ?_
 refine pw_weak (Wk.freeze (b := 7) rfl) ?_
 simp only [put, ↓reduceIte, reduceCtorEq, Nat.reduceEqDiff]
 refine pw_region 0 ?_
 simp [take_app, drop_app, take_snoc, take_mid]
 apply hK4; try clear hK4 K4
 refine pw_block ?_
 refine pw_loopF (α := Nat × (List NKey)) [8, 9] (fun s => [(10, .int .i64 (s.1 : Nat)), (3, .sl 2 (s.2.map NKey.pv))]) (fun s => []) (fun m s => s.1 + m = l.length ∧ (l.drop s.1).foldl putU s.2 = l.foldl putU [] ∧ s.2.length ≤ s.1) (l.length) (0, []) ?_ ?_ ?_
 ·(try dsimp only) <;> (simp)
 ·refine Wk.toF ?_ ?_ ?_ ?_ ?_
  ·try simp only [keepL, memL, cond_true, cond_false, ↓reduceIte, reduceCtorEq, Nat.reduceEqDiff, List.cons_append, List.nil_append, puts, put]
   repeat (first | exact trivial | (refine FLt.cons ?_ ?_; focus (first | exact Lt.refl _ | exact Lt.any _ | exact Lt.nilsl _ | (refine lt_frozB rfl rfl rfl rfl ?_ ?_ ?_ <;> (first | rfl | (simp [take_app, drop_app, take_snoc, take_mid]; done) | (simp [take_app, drop_app, take_snoc, take_mid] <;> omega)); done) | (refine lt_eq (congrArg (PV.int .i64) ?_); omega) | (refine lt_eq ?_; simp [take_app, drop_app, take_snoc, take_mid]; done) | (refine lt_eq ?_; simp [take_app, drop_app, take_snoc, take_mid] <;> omega))))
  ·try simp only [puts, put, ↓reduceIte, reduceCtorEq, Nat.reduceEqDiff]
   repeat (first | exact trivial | (refine ⟨⟨_, rfl, ?_⟩, ?_⟩; focus (first | exact BLt.refl _ | (refine BLt.of_eq ?_; simp [take_app, drop_app, take_snoc, take_mid]; done) | (refine BLt.of_eq ?_; simp [take_app, drop_app, take_snoc, take_mid] <;> omega))))
  ·simp
  ·simp
  ·simp
 ·intro m s hinv KL5 hKL5
  obtain ⟨i, acc⟩ := s
  try dsimp only at hinv
  obtain ⟨hk, hf, hal⟩ := hinv
  simp only [keepL, memL, cond_true, cond_false, ↓reduceIte, reduceCtorEq, Nat.reduceEqDiff, List.cons_append, List.nil_append, puts, put]
  refine pw_seq_k fun K6 hK6 => ?_
  refine pw_region 0 ?_
  simp [sBinH, sBin, binop, take_app, drop_app, take_snoc, take_mid]
  apply hK6; try clear hK6 K6
  refine pw_seq_k fun K7 hK7 => ?_
  refine pw_cond _ rfl (fun h8 => ?_) (fun h8 => ?_)
  ·try simp at h8
   obtain ⟨x, hx, hX⟩ := getN2 (l := l) (k := i) (by omega)
   have hw := wrap_i64 (n := (i : Int) + 1) (by omega) (by omega)
   have hdr := drop_get hx
   have htk := take_get hx
   refine pw_skip ?_
   try simp only [thenP, inBlockP]
   apply hK7; try clear hK7 K7
   refine pw_seq_k fun K9 hK9 => ?_
   refine pw_block ?_
   refine pw_seq_k fun K10 hK10 => ?_
   refine pw_region 0 ?_
   simp [take_app, drop_app, take_snoc, take_mid, h8, hx, hX, hw, htk]
   apply hK10; try clear hK10 K10
   refine pw_seq_k fun K11 hK11 => ?_
   refine pw_region 0 ?_
   simp [take_app, drop_app, take_snoc, take_mid, h8, hx, hX, hw, htk]
   apply hK11; try clear hK11 K11
   refine pw_keep [3, 5, 6, 8, 9, 10] ?_
   simp only [keepL, memL, cond_true, cond_false, ↓reduceIte, reduceCtorEq, Nat.reduceEqDiff]
   obtain ⟨p0, hp0⟩ : ∃ p, p = posR keyCmp acc x acc.length := ⟨_, rfl⟩
   refine pw_cutF [3, 5, 8, 9, 10] [(6, .int .i64 (p0 : Nat))] [] (fun K12 hK12 => ?_) ?_
   ·refine pw_block ?_
    refine pw_loopF (α := Nat) [3, 5, 8, 9, 10] (fun s => [(6, .int .i64 (s : Nat))]) (fun s => []) (fun m2 s => s = m2 ∧ s ≤ acc.length ∧ posR keyCmp acc x s = posR keyCmp acc x acc.length) (acc.length) (acc.length) ?_ ?_ ?_
    ·(try dsimp only) <;> (exact ⟨rfl, Nat.le_refl _, rfl⟩)
    ·refine Wk.toF ?_ ?_ ?_ ?_ ?_
     ·try simp only [keepL, memL, cond_true, cond_false, ↓reduceIte, reduceCtorEq, Nat.reduceEqDiff, List.cons_append, List.nil_append, puts, put]
      repeat (first | exact trivial | (refine FLt.cons ?_ ?_; focus (first | exact Lt.refl _ | exact Lt.any _ | (refine lt_eq (congrArg (PV.int .i64) ?_); omega) | (refine lt_eq ?_; simp [h8, htk, take_app, drop_app, take_snoc, take_mid]; done) | (refine lt_eq ?_; simp [h8, htk, take_app, drop_app, take_snoc, take_mid] <;> omega))))
     ·try simp only [puts, put, ↓reduceIte, reduceCtorEq, Nat.reduceEqDiff]
      repeat (first | exact trivial | (refine ⟨⟨_, rfl, ?_⟩, ?_⟩; focus (first | exact BLt.refl _)))
     ·simp
     ·simp
     ·simp
    ·intro m2 p hinv KL13 hKL13
     try dsimp only at hinv
     obtain ⟨hk2, hpl, hpos⟩ := hinv
     simp only [keepL, memL, cond_true, cond_false, ↓reduceIte, reduceCtorEq, Nat.reduceEqDiff, List.cons_append, List.nil_append, puts, put]
     refine pw_seq_k fun K14 hK14 => ?_
     refine pw_seq_k fun K15 hK15 => ?_
     refine pw_region_draw mix 0 ?_
     refine pEv_split 3 fun Kr16 hKr16 => ?_
     simp [sBinH, sBin, binop, take_app, drop_app, take_snoc, take_mid, h8, hx, hX, hw, htk]
     apply hKr16; clear hKr16 Kr16
     refine pEv_guard _ rfl (fun hg17 => ?_) (fun hg17 => ?_)
     ·have hgb17 := eq_of_beq hg17
      try simp only [Bool.not_true, Bool.not_false] at hgb17
      try simp at hg17
      obtain ⟨y, hy, hY⟩ := getN2 (l := acc) (k := p - 1) (by omega)
      have hw1 := wrap_i64 (n := (p : Int) - 1) (by omega) (by omega)
      have ht1 : ((p : Int) - 1).toNat = p - 1 := by omega
      have hb1 : (1 : Int) ≤ (p : Int) := by omega
      have hb2 : 1 ≤ p := by omega
      have hb3 : (p : Int) - 1 < (acc.length : Int) := by omega
      refine pEv_split 4 fun Kr18 hKr18 => ?_
      simp [sBinH, sBin, binop, take_app, drop_app, take_snoc, take_mid, h8, hx, hX, hw, htk, hg17, hgb17, hy, hY, hw1, ht1, hb1, hb2, hb3]
      apply hKr18; clear hKr18 Kr18
      refine pEv_split 2 fun Kr19 hKr19 => ?_
      simp [take_app, drop_app, take_snoc, take_mid, h8, hx, hX, hw, htk, hg17, hgb17, hy, hY, hw1, ht1, hb1, hb2, hb3]
      apply hKr19; clear hKr19 Kr19
      refine pEv_call' rfl rfl rfl (call_pure (kcmp_pf _ _) en37 (by simp) _) ?_
      simp [sBinH, sBin, binop, take_app, drop_app, take_snoc, take_mid, h8, hx, hX, hw, htk, hg17, hgb17, hy, hY, hw1, ht1, hb1, hb2, hb3]
      refine ⟨by decide +kernel, ?_⟩
      apply hK15; try clear hK15 K15
      refine pw_keep [3, 5, 6, 8, 9, 10, 27] ?_
      simp only [keepL, memL, cond_true, cond_false, ↓reduceIte, reduceCtorEq, Nat.reduceEqDiff]
      refine pw_cond _ rfl (fun h20 => ?_) (fun h20 => ?_)
      ·try simp at h20
       refine pw_skip ?_
       try simp only [thenP, inBlockP]
       apply hK14; try clear hK14 K14
       refine pw_block ?_
       refine pw_region 0 ?_
       simp [sBinH, sBin, binop, take_app, drop_app, take_snoc, take_mid, h8, hx, hX, hw, htk, hg17, hgb17, hy, hY, hw1, ht1, hb1, hb2, hb3, h20]
       refine hKL13 _ (m2 - 1) (p - 1) ?_ ?_ ?_
       ·omega
       ·(try dsimp only) <;> (exact ⟨by omega, by omega, posR_step hpos (by omega) hy (by assumption)⟩)
       ·refine Wk.toF ?_ ?_ ?_ ?_ ?_
        ·try simp only [keepL, memL, cond_true, cond_false, ↓reduceIte, reduceCtorEq, Nat.reduceEqDiff, List.cons_append, List.nil_append, puts, put]
         repeat (first | exact trivial | (refine FLt.cons ?_ ?_; focus (first | exact Lt.refl _ | exact Lt.any _ | (refine lt_eq (congrArg (PV.int .i64) ?_); omega) | (refine lt_eq ?_; simp [h8, htk, hg17, hgb17, h20, take_app, drop_app, take_snoc, take_mid]; done) | (refine lt_eq ?_; simp [h8, htk, hg17, hgb17, h20, take_app, drop_app, take_snoc, take_mid] <;> omega))))
        ·try simp only [puts, put, ↓reduceIte, reduceCtorEq, Nat.reduceEqDiff]
         repeat (first | exact trivial | (refine ⟨⟨_, rfl, ?_⟩, ?_⟩; focus (first | exact BLt.refl _)))
        ·simp
        ·simp
        ·simp
      ·try simp at h20
       have hp := posR_stop hpos (by omega) hy (by omega)
       refine pw_exit ?_
       simp [thenP, inBlockP]
       apply hK12; try clear hK12 K12
       refine Wk.toF ?_ ?_ ?_ ?_ ?_
       ·try simp only [keepL, memL, cond_true, cond_false, ↓reduceIte, reduceCtorEq, Nat.reduceEqDiff, List.cons_append, List.nil_append, puts, put]
        repeat (first | exact trivial | (refine FLt.cons ?_ ?_; focus (first | exact Lt.refl _ | exact Lt.any _ | (refine lt_eq (congrArg (PV.int .i64) ?_); omega) | (refine lt_eq ?_; simp [h8, htk, hg17, hgb17, h20, take_app, drop_app, take_snoc, take_mid]; done) | (refine lt_eq ?_; simp [h8, htk, hg17, hgb17, h20, take_app, drop_app, take_snoc, take_mid] <;> omega))))
       ·try simp only [puts, put, ↓reduceIte, reduceCtorEq, Nat.reduceEqDiff]
        repeat (first | exact trivial | (refine ⟨⟨_, rfl, ?_⟩, ?_⟩; focus (first | exact BLt.refl _)))
       ·simp
       ·simp
       ·simp
     ·have hgb17 := beq_off hg17
      try simp only [Bool.not_true, Bool.not_false] at hgb17
      try simp at hg17
      have hp := posR_zero hpos (by omega)
      refine pEv_split 4 fun Kr21 hKr21 => ?_
      simp [sBinH, sBin, binop, take_app, drop_app, take_snoc, take_mid, h8, hx, hX, hw, htk, hg17, hgb17]
      apply hKr21; clear hKr21 Kr21
      refine pEv_split 4 fun Kr22 hKr22 => ?_
      simp [sBinH, sBin, binop, take_app, drop_app, take_snoc, take_mid, h8, hx, hX, hw, htk, hg17, hgb17]
      apply hKr22; clear hKr22 Kr22
      simp [take_app, drop_app, take_snoc, take_mid, h8, hx, hX, hw, htk, hg17, hgb17]
      refine ⟨by decide +kernel, ?_⟩
      apply hK15; try clear hK15 K15
      refine pw_keep [3, 5, 6, 8, 9, 10, 27] ?_
      simp only [keepL, memL, cond_true, cond_false, ↓reduceIte, reduceCtorEq, Nat.reduceEqDiff]
      refine pw_cond _ rfl (fun h23 => ?_) (fun h23 => ?_)
      ·simp at h23
      ·clear h23
       refine pw_exit ?_
       simp [thenP, inBlockP]
       apply hK12; try clear hK12 K12
       refine Wk.toF ?_ ?_ ?_ ?_ ?_
       ·try simp only [keepL, memL, cond_true, cond_false, ↓reduceIte, reduceCtorEq, Nat.reduceEqDiff, List.cons_append, List.nil_append, puts, put]
        repeat (first | exact trivial | (refine FLt.cons ?_ ?_; focus (first | exact Lt.refl _ | exact Lt.any _ | (refine lt_eq (congrArg (PV.int .i64) ?_); omega) | (refine lt_eq ?_; simp [h8, htk, hg17, hgb17, take_app, drop_app, take_snoc, take_mid]; done) | (refine lt_eq ?_; simp [h8, htk, hg17, hgb17, take_app, drop_app, take_snoc, take_mid] <;> omega))))
       ·try simp only [puts, put, ↓reduceIte, reduceCtorEq, Nat.reduceEqDiff]
        repeat (first | exact trivial | (refine ⟨⟨_, rfl, ?_⟩, ?_⟩; focus (first | exact BLt.refl _)))
       ·simp
       ·simp
       ·simp
   ·simp only [keepL, memL, cond_true, cond_false, ↓reduceIte, reduceCtorEq, Nat.reduceEqDiff, List.cons_append, List.nil_append, puts, put]
    have hple : p0 ≤ acc.length := by rw [hp0]; exact posR_le _ _ _ _
    obtain ⟨A, B, rfl, rfl⟩ := cut_at acc p0 hple
    have hAB : A.length + B.length < 1000000 := by simp at hal; omega
    have hbz : (A.length + 1 + B.length) * 32 ≤ 140737488355328 := by omega
    have hbz1 : A.length * 32 ≤ 140737488355328 := by omega
    have hbz2 : (A.length + 1) * 32 ≤ 140737488355328 := by omega
    have hbm : A.length + 1 + B.length ≤ 9223372036854775807 := by omega
    have hbm1 : A.length ≤ 9223372036854775807 := by omega
    have hbm2 : A.length + 1 ≤ 9223372036854775807 := by omega
    refine pw_seq_k fun K24 hK24 => ?_
    refine pw_seq_k fun K25 hK25 => ?_
    refine pw_region_draw mix 0 ?_
    refine pEv_split 3 fun Kr26 hKr26 => ?_
    simp [sBinH, sBin, binop, take_app, drop_app, take_snoc, take_mid, h8, hx, hX, hw, htk, hbz, hbz1, hbz2, hbm, hbm1, hbm2]
    apply hKr26; clear hKr26 Kr26
    refine pEv_guard _ rfl (fun hg27 => ?_) (fun hg27 => ?_)
    ·have hgb27 := eq_of_beq hg27
     try simp only [Bool.not_true, Bool.not_false] at hgb27
     try simp at hg27
     obtain ⟨y, hy, hY⟩ := getN2 (l := (A ++ B)) (k := A.length - 1) (by omega)
     have hw1 := wrap_i64 (n := (A.length : Int) - 1) (by omega) (by omega)
     have ht1 : ((A.length : Int) - 1).toNat = A.length - 1 := by omega
     have hb1 : (1 : Int) ≤ (A.length : Int) := by omega
     have hb2 : 1 ≤ A.length := by omega
     have hb3 : (A.length : Int) - 1 < ((A ++ B).length : Int) := by omega
     have hb4 : (A.length : Int) - 1 < (A.length : Int) + (B.length : Int) := by omega
     have hy2 : (A.map NKey.pv ++ B.map NKey.pv)[A.length - 1]? = some y.pv := by rw [← List.map_append]; exact map_get hy
     refine pEv_split 4 fun Kr28 hKr28 => ?_
     simp [sBinH, sBin, binop, take_app, drop_app, take_snoc, take_mid, h8, hx, hX, hw, htk, hbz, hbz1, hbz2, hbm, hbm1, hbm2, hg27, hgb27, hy, hY, hw1, ht1, hb1, hb2, hb3, hb4, hy2]
     apply hKr28; clear hKr28 Kr28
     simp [eq28, take_app, drop_app, take_snoc, take_mid, h8, hx, hX, hw, htk, hbz, hbz1, hbz2, hbm, hbm1, hbm2, hg27, hgb27, hy, hY, hw1, ht1, hb1, hb2, hb3, hb4, hy2]
     refine ⟨by decide +kernel, ?_⟩
     apply hK25; try clear hK25 K25
     refine pw_keep [3, 5, 6, 8, 9, 10, 40] ?_
     simp only [keepL, memL, cond_true, cond_false, ↓reduceIte, reduceCtorEq, Nat.reduceEqDiff]
     refine pw_cond _ rfl (fun h29 => ?_) (fun h29 => ?_)
     ·try simp at h29
      have hsk : putU (A ++ B) x = A ++ B := by unfold putU; rw [← hp0, if_pos ⟨by omega, by rw [hy, h29]⟩]
      refine pw_exit ?_
      simp [thenP, inBlockP]
      apply hK9; try clear hK9 K9
      refine pw_region 0 ?_
      simp [sBinH, sBin, binop, take_app, drop_app, take_snoc, take_mid, h8, hx, hX, hw, htk, hbz, hbz1, hbz2, hbm, hbm1, hbm2, hg27, hgb27, hy, hY, hw1, ht1, hb1, hb2, hb3, hb4, hy2, h29]
      refine hKL5 _ (m - 1) (i + 1, A ++ B) ?_ ?_ ?_
      ·omega
      ·(try dsimp only) <;> (exact ⟨by omega, by rw [hdr, List.foldl_cons, hsk] at hf; exact hf, by omega⟩)
      ·refine Wk.toF ?_ ?_ ?_ ?_ ?_
       ·try simp only [keepL, memL, cond_true, cond_false, ↓reduceIte, reduceCtorEq, Nat.reduceEqDiff, List.cons_append, List.nil_append, puts, put]
        repeat (first | exact trivial | (refine FLt.cons ?_ ?_; focus (first | exact Lt.refl _ | exact Lt.any _ | exact Lt.nilsl _ | (refine lt_frozB rfl rfl rfl rfl ?_ ?_ ?_ <;> (first | rfl | (simp [h8, htk, hg27, hgb27, h29, take_app, drop_app, take_snoc, take_mid]; done) | (simp [h8, htk, hg27, hgb27, h29, take_app, drop_app, take_snoc, take_mid] <;> omega)); done) | (refine lt_eq (congrArg (PV.int .i64) ?_); omega) | (refine lt_eq ?_; simp [h8, htk, hg27, hgb27, h29, take_app, drop_app, take_snoc, take_mid]; done) | (refine lt_eq ?_; simp [h8, htk, hg27, hgb27, h29, take_app, drop_app, take_snoc, take_mid] <;> omega))))
       ·try simp only [puts, put, ↓reduceIte, reduceCtorEq, Nat.reduceEqDiff]
        repeat (first | exact trivial | (refine ⟨⟨_, rfl, ?_⟩, ?_⟩; focus (first | exact BLt.refl _ | (refine BLt.of_eq ?_; simp [h8, htk, hg27, hgb27, h29, take_app, drop_app, take_snoc, take_mid]; done) | (refine BLt.of_eq ?_; simp [h8, htk, hg27, hgb27, h29, take_app, drop_app, take_snoc, take_mid] <;> omega))))
       ·simp
       ·simp
       ·simp
     ·try simp at h29
      have hpu : putU (A ++ B) x = A ++ x :: B := by unfold putU; rw [← hp0, if_neg (by rw [hy]; intro e; exact h29 (Option.some.inj e.2))]; exact putR_cut hp0
      refine pw_skip ?_
      try simp only [thenP, inBlockP]
      apply hK24; try clear hK24 K24
      refine pw_region_draw mix 0 ?_
      refine pEv_split 4 fun Kr30 hKr30 => ?_
      simp [take_app, drop_app, take_snoc, take_mid, h8, hx, hX, hw, htk, hbz, hbz1, hbz2, hbm, hbm1, hbm2, hg27, hgb27, hy, hY, hw1, ht1, hb1, hb2, hb3, hb4, hy2, h29]
      apply hKr30; clear hKr30 Kr30
      refine pEv_split 4 fun Kr31 hKr31 => ?_
      simp [take_app, drop_app, take_snoc, take_mid, h8, hx, hX, hw, htk, hbz, hbz1, hbz2, hbm, hbm1, hbm2, hg27, hgb27, hy, hY, hw1, ht1, hb1, hb2, hb3, hb4, hy2, h29]
      apply hKr31; clear hKr31 Kr31
      refine pEv_split 4 fun Kr32 hKr32 => ?_
      simp [take_app, drop_app, take_snoc, take_mid, h8, hx, hX, hw, htk, hbz, hbz1, hbz2, hbm, hbm1, hbm2, hg27, hgb27, hy, hY, hw1, ht1, hb1, hb2, hb3, hb4, hy2, h29]
      apply hKr32; clear hKr32 Kr32
      simp [take_app, drop_app, take_snoc, take_mid, h8, hx, hX, hw, htk, hbz, hbz1, hbz2, hbm, hbm1, hbm2, hg27, hgb27, hy, hY, hw1, ht1, hb1, hb2, hb3, hb4, hy2, h29]
      refine ⟨by decide +kernel, ?_⟩
      apply hK9; try clear hK9 K9
      refine pw_keep [3, 8, 9, 10] ?_
      simp only [keepL, memL, cond_true, cond_false, ↓reduceIte, reduceCtorEq, Nat.reduceEqDiff]
      refine pw_region 0 ?_
      simp [sBinH, sBin, binop, take_app, drop_app, take_snoc, take_mid, h8, hx, hX, hw, htk, hbz, hbz1, hbz2, hbm, hbm1, hbm2, hg27, hgb27, hy, hY, hw1, ht1, hb1, hb2, hb3, hb4, hy2, h29]
      refine hKL5 _ (m - 1) (i + 1, A ++ x :: B) ?_ ?_ ?_
      ·omega
      ·(try dsimp only) <;> (exact ⟨by omega, by rw [hdr, List.foldl_cons, hpu] at hf; exact hf, by simp at hal ⊢; omega⟩)
      ·refine Wk.trans (Wk.freeze (b := 41) rfl) ?_
       refine Wk.toF ?_ ?_ ?_ ?_ ?_
       ·try simp only [keepL, memL, cond_true, cond_false, ↓reduceIte, reduceCtorEq, Nat.reduceEqDiff, List.cons_append, List.nil_append, puts, put]
        repeat (first | exact trivial | (refine FLt.cons ?_ ?_; focus (first | exact Lt.refl _ | exact Lt.any _ | exact Lt.nilsl _ | (refine lt_frozB rfl rfl rfl rfl ?_ ?_ ?_ <;> (first | rfl | (simp [h8, htk, hg27, hgb27, h29, take_app, drop_app, take_snoc, take_mid]; done) | (simp [h8, htk, hg27, hgb27, h29, take_app, drop_app, take_snoc, take_mid] <;> omega)); done) | (refine lt_eq (congrArg (PV.int .i64) ?_); omega) | (refine lt_eq ?_; simp [h8, htk, hg27, hgb27, h29, take_app, drop_app, take_snoc, take_mid]; done) | (refine lt_eq ?_; simp [h8, htk, hg27, hgb27, h29, take_app, drop_app, take_snoc, take_mid] <;> omega))))
       ·try simp only [puts, put, ↓reduceIte, reduceCtorEq, Nat.reduceEqDiff]
        repeat (first | exact trivial | (refine ⟨⟨_, rfl, ?_⟩, ?_⟩; focus (first | exact BLt.refl _ | (refine BLt.of_eq ?_; simp [h8, htk, hg27, hgb27, h29, take_app, drop_app, take_snoc, take_mid]; done) | (refine BLt.of_eq ?_; simp [h8, htk, hg27, hgb27, h29, take_app, drop_app, take_snoc, take_mid] <;> omega))))
       ·simp
       ·simp
       ·simp
    ·have hgb27 := beq_off hg27
     try simp only [Bool.not_true, Bool.not_false] at hgb27
     try simp at hg27
     have hA0 : A.length = 0 := by first | omega | (simp_all; done)
     have hbt : (x.pv :: B.map NKey.pv).take (1 + B.length) = x.pv :: B.map NKey.pv := List.take_of_length_le (by simp; omega)
     have hbz3 : (1 + B.length) * 32 ≤ 140737488355328 := by omega
     have hbm3 : 1 + B.length ≤ 9223372036854775807 := by omega
     have hbz4 : (B.length + 1) * 32 ≤ 140737488355328 := by omega
     have hbm4 : B.length + 1 ≤ 9223372036854775807 := by omega
     have hpu : putU (A ++ B) x = A ++ x :: B := by unfold putU; rw [← hp0, if_neg (by omega)]; exact putR_cut hp0
     refine pEv_split 4 fun Kr33 hKr33 => ?_
     simp [sBinH, sBin, binop, take_app, drop_app, take_snoc, take_mid, h8, hx, hX, hw, htk, hbz, hbz1, hbz2, hbm, hbm1, hbm2, hg27, hgb27, hbz3, hbm3, hbz4, hbm4, hbt]
     apply hKr33; clear hKr33 Kr33
     simp [eq28, take_app, drop_app, take_snoc, take_mid, h8, hx, hX, hw, htk, hbz, hbz1, hbz2, hbm, hbm1, hbm2, hg27, hgb27, hbz3, hbm3, hbz4, hbm4, hbt]
     refine ⟨by decide +kernel, ?_⟩
     apply hK25; try clear hK25 K25
     refine pw_keep [3, 5, 6, 8, 9, 10, 40] ?_
     simp only [keepL, memL, cond_true, cond_false, ↓reduceIte, reduceCtorEq, Nat.reduceEqDiff]
     refine pw_cond _ rfl (fun h34 => ?_) (fun h34 => ?_)
     ·simp at h34
     ·clear h34
      refine pw_skip ?_
      try simp only [thenP, inBlockP]
      apply hK24; try clear hK24 K24
      refine pw_region_draw mix 0 ?_
      refine pEv_split 4 fun Kr35 hKr35 => ?_
      simp [take_app, drop_app, take_snoc, take_mid, h8, hx, hX, hw, htk, hbz, hbz1, hbz2, hbm, hbm1, hbm2, hg27, hgb27, hbz3, hbm3, hbz4, hbm4, hbt]
      apply hKr35; clear hKr35 Kr35
      refine pEv_split 4 fun Kr36 hKr36 => ?_
      simp [take_app, drop_app, take_snoc, take_mid, h8, hx, hX, hw, htk, hbz, hbz1, hbz2, hbm, hbm1, hbm2, hg27, hgb27, hbz3, hbm3, hbz4, hbm4, hbt]
      apply hKr36; clear hKr36 Kr36
      refine pEv_split 4 fun Kr37 hKr37 => ?_
      simp [take_app, drop_app, take_snoc, take_mid, h8, hx, hX, hw, htk, hbz, hbz1, hbz2, hbm, hbm1, hbm2, hg27, hgb27, hbz3, hbm3, hbz4, hbm4, hbt]
      apply hKr37; clear hKr37 Kr37
      simp [take_app, drop_app, take_snoc, take_mid, h8, hx, hX, hw, htk, hbz, hbz1, hbz2, hbm, hbm1, hbm2, hg27, hgb27, hbz3, hbm3, hbz4, hbm4, hbt]
      refine ⟨by decide +kernel, ?_⟩
      apply hK9; try clear hK9 K9
      refine pw_keep [3, 8, 9, 10] ?_
      simp only [keepL, memL, cond_true, cond_false, ↓reduceIte, reduceCtorEq, Nat.reduceEqDiff]
      refine pw_region 0 ?_
      simp [sBinH, sBin, binop, take_app, drop_app, take_snoc, take_mid, h8, hx, hX, hw, htk, hbz, hbz1, hbz2, hbm, hbm1, hbm2, hg27, hgb27, hbz3, hbm3, hbz4, hbm4, hbt]
      refine hKL5 _ (m - 1) (i + 1, A ++ x :: B) ?_ ?_ ?_
      ·omega
      ·(try dsimp only) <;> (exact ⟨by omega, by rw [hdr, List.foldl_cons, hpu] at hf; exact hf, by simp at hal ⊢; omega⟩)
      ·refine Wk.trans (Wk.freeze (b := 41) rfl) ?_
       refine Wk.toF ?_ ?_ ?_ ?_ ?_
       ·try simp only [keepL, memL, cond_true, cond_false, ↓reduceIte, reduceCtorEq, Nat.reduceEqDiff, List.cons_append, List.nil_append, puts, put]
        repeat (first | exact trivial | (refine FLt.cons ?_ ?_; focus (first | exact Lt.refl _ | exact Lt.any _ | exact Lt.nilsl _ | (refine lt_frozB rfl rfl rfl rfl ?_ ?_ ?_ <;> (first | rfl | (simp [h8, htk, hg27, hgb27, take_app, drop_app, take_snoc, take_mid]; done) | (simp [h8, htk, hg27, hgb27, take_app, drop_app, take_snoc, take_mid] <;> omega)); done) | (refine lt_eq (congrArg (PV.int .i64) ?_); omega) | (refine lt_eq ?_; simp [h8, htk, hg27, hgb27, take_app, drop_app, take_snoc, take_mid]; done) | (refine lt_eq ?_; simp [h8, htk, hg27, hgb27, take_app, drop_app, take_snoc, take_mid] <;> omega))))
       ·try simp only [puts, put, ↓reduceIte, reduceCtorEq, Nat.reduceEqDiff]
        repeat (first | exact trivial | (refine ⟨⟨_, rfl, ?_⟩, ?_⟩; focus (first | exact BLt.refl _ | (refine BLt.of_eq ?_; simp [h8, htk, hg27, hgb27, take_app, drop_app, take_snoc, take_mid]; done) | (refine BLt.of_eq ?_; simp [h8, htk, hg27, hgb27, take_app, drop_app, take_snoc, take_mid] <;> omega))))
       ·simp
       ·simp
       ·simp
  ·try simp at h8
   have hfin : acc = l.foldl putU [] := by rw [← hf, drop_end (by omega)]; rfl
   refine pw_exit ?_
   simp [thenP, inBlockP]
   apply hK3; try clear hK3 K3
   refine pw_keep [3] ?_
   simp only [keepL, memL, cond_true, cond_false, ↓reduceIte, reduceCtorEq, Nat.reduceEqDiff]
   refine pw_seq_k fun K38 hK38 => ?_
   refine pw_region 0 ?_
   simp [take_app, drop_app, take_snoc, take_mid, h8, hfin]
   apply hK38; try clear hK38 K38
   refine pw_ret ?_
   try simp only [thenP, inBlockP]
   refine bodyQ_fr (by first | exact .inl rfl | exact .inr rfl) _ rfl ?_
   refine ⟨[], _, rfl, ?_⟩
   simp [lk]; exact PV.le_refl _

end Pv
