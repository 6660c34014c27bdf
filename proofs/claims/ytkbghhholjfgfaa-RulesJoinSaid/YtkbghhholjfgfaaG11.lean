import Derived.Test.YtkbghhholjfgfaaG5
set_option linter.unusedSimpArgs false
set_option linter.unusedVariables false
namespace Pv
open Go Go.Proofs
attribute [local simp] Body.ren Body.withinB Box.ren List.drop_succ_cons List.map_set List.take_succ_cons PV.ren PV.within PV.within.go boundOf boxArr co36 co52 co53 co54 co56 co63 co74 cur el52 el53 el54 el78 ev_const ev_fr ev_func ev_glob find_cons find_nil fl56_0 fl56_1 fl56_2 fl63_0 fl74_0 fr_get' fstep genOf guardDec inBlockP inH keepL keys layFields layParts lk maxLen memL newBox ofConst ofScalar pEv pEv0 part' put puts renL sAlloc sAppend sAppend.srcOf sBuild sBuildSlice sFieldAddr sIndexAddr sLen sLoad sSlice sStore setD_fr setD_none setc_agg shR_d shR_r splice st56 take_map_len thenP ty28 ty36 ty37 ty52 ty53 ty54 ty56 ty63 ty74 upF withinB_arr
set_option maxRecDepth 100000 in
set_option maxHeartbeats 4000000 in
theorem rjoin_pf (l : List NRows) (hl : l.length < 1000000) (h : (catRows l).le 900000) : PFun Try.prog 23 [.sl 3 (l.map NRows.pv)] ((joinRows l).pv) := by
 refine PFun.of_bodyF (by simp) Try.func23 rfl 151 rfl (by simp) fun c0 => ?_
 simp only [argL, Nat.reduceAdd]
 have h1 := h.f
 have h2 := h.g
 have h3 := h.l
 simp only [catRows] at h1 h2 h3
 refine pw_seq_k fun K1 hK1 => ?_
 refine pw_region 0 ?_
 simp [take_app, drop_app, take_snoc, take_mid]
 apply hK1; try clear hK1 K1
 refine pw_seq_k fun K2 hK2 => ?_
 refine pw_region 0 ?_
 simp [take_app, drop_app, take_snoc, take_mid]
 apply hK2; try clear hK2 K2
 refine pw_seq_k fun K3 hK3 => ?_
 refine pw_seq_k fun K4 hK4 => ?_
 refine pw_region 0 ?_
 simp [take_app, drop_app, take_snoc, take_mid]
 apply hK4; try clear hK4 K4
 refine pw_block ?_
 refine pw_loopF (α := Nat × (List NFront) × (List NGroup) × (List NFilter)) [2, 3, 16, 17] (fun s => [(18, .int .i64 (s.1 : Nat))]) (fun s => [(3, ⟨0, true, .arr 3 [.agg [.sl 26 (s.2.1.map NFront.pv), .sl 8 (s.2.2.1.map NGroup.pv), .sl 3 (s.2.2.2.map NFilter.pv)]]⟩)]) (fun m s => s.1 + m = l.length ∧ (((l.drop s.1).flatMap (fun r => r.fronts)).foldl (putR frontCmp) s.2.1 = (joinRows l).fronts ∧ s.2.1.length + ((l.drop s.1).flatMap (fun r => r.fronts)).length ≤ 900000) ∧ (((l.drop s.1).flatMap (fun r => r.groups)).foldl (putR grpCmp) s.2.2.1 = (joinRows l).groups ∧ s.2.2.1.length + ((l.drop s.1).flatMap (fun r => r.groups)).length ≤ 900000) ∧ (((l.drop s.1).flatMap (fun r => r.filters)).foldl (putR filCmp) s.2.2.2 = (joinRows l).filters ∧ s.2.2.2.length + ((l.drop s.1).flatMap (fun r => r.filters)).length ≤ 900000)) (l.length) (0, [], [], []) ?_ ?_ ?_
 ·(try dsimp only) <;> (exact ⟨by omega, ⟨by rw [joinRows_eq]; rfl, by simpa using h1⟩, ⟨by rw [joinRows_eq]; rfl, by simpa using h2⟩, ⟨by rw [joinRows_eq]; rfl, by simpa using h3⟩⟩)
 ·refine Wk.toF ?_ ?_ ?_ ?_ ?_
  ·try simp only [keepL, memL, cond_true, cond_false, ↓reduceIte, reduceCtorEq, Nat.reduceEqDiff, List.cons_append, List.nil_append, puts, put]
   repeat (first | exact trivial | (refine FLt.cons ?_ ?_; focus (first | exact Lt.refl _ | exact Lt.any _ | exact Lt.nilsl _ | (refine lt_frozB rfl rfl rfl rfl ?_ ?_ ?_ <;> (first | rfl | (simp [take_app, drop_app, take_snoc, take_mid]; done) | (simp [take_app, drop_app, take_snoc, take_mid] <;> omega)); done) | (refine lt_eq (congrArg (PV.int .i64) ?_); omega) | (refine lt_eq ?_; simp [take_app, drop_app, take_snoc, take_mid]; done) | (refine lt_eq ?_; simp [take_app, drop_app, take_snoc, take_mid] <;> omega))))
  ·try simp only [puts, put, ↓reduceIte, reduceCtorEq, Nat.reduceEqDiff]
   repeat (first | exact trivial | (refine ⟨⟨_, rfl, ?_⟩, ?_⟩; focus (first | exact BLt.refl _ | (refine BLt.of_eq ?_; simp [take_app, drop_app, take_snoc, take_mid]; done) | (refine BLt.of_eq ?_; simp [take_app, drop_app, take_snoc, take_mid] <;> omega) | (refine BLt.one ?_; (repeat (first | exact LtL.nil | (refine LtL.cons ?_ ?_; focus (first | exact Lt.refl _ | exact Lt.any _ | exact Lt.nilsl _ | (refine lt_frozB rfl rfl rfl rfl ?_ ?_ ?_ <;> (first | rfl | (simp [take_app, drop_app, take_snoc, take_mid]; done) | (simp [take_app, drop_app, take_snoc, take_mid] <;> omega)); done) | (refine lt_eq (congrArg (PV.int .i64) ?_); omega) | (refine lt_eq ?_; simp [take_app, drop_app, take_snoc, take_mid]; done) | (refine lt_eq ?_; simp [take_app, drop_app, take_snoc, take_mid] <;> omega))))); done))))
  ·simp
  ·simp
  ·simp
 ·intro m s hinv KL5 hKL5
  obtain ⟨i, F, G, L⟩ := s
  try dsimp only at hinv
  obtain ⟨hk, ⟨hF, hFl⟩, ⟨hG, hGl⟩, ⟨hL, hLl⟩⟩ := hinv
  simp only [keepL, memL, cond_true, cond_false, ↓reduceIte, reduceCtorEq, Nat.reduceEqDiff, List.cons_append, List.nil_append, puts, put]
  refine pw_seq_k fun K6 hK6 => ?_
  refine pw_region 0 ?_
  simp [sBinH, sBin, binop, take_app, drop_app, take_snoc, take_mid]
  apply hK6; try clear hK6 K6
  refine pw_seq_k fun K7 hK7 => ?_
  refine pw_cond _ rfl (fun h8 => ?_) (fun h8 => ?_)
  ·try simp at h8
   obtain ⟨x, hx, hX⟩ := getN2 (l := l) (k := i) (by omega)
   have hw := wrap_i64 (n := (i : Int) + 1) (by omega) (by omega)
   have hdr := drop_get hx
   have htk := take_get hx
   rw [flat_drop hx] at hF hFl hG hGl hL hLl
   rw [List.length_append] at hFl hGl hLl
   refine pw_skip ?_
   try simp only [thenP, inBlockP]
   apply hK7; try clear hK7 K7
   refine pw_seq_k fun K9 hK9 => ?_
   refine pw_block ?_
   refine pw_seq_k fun K10 hK10 => ?_
   refine pw_region 0 ?_
   simp [take_app, drop_app, take_snoc, take_mid, h8, hx, hX, hw, htk]
   apply hK10; try clear hK10 K10
   refine pw_seq_k fun K11 hK11 => ?_
   refine pw_seq_k fun K12 hK12 => ?_
   refine pw_region 0 ?_
   simp [take_app, drop_app, take_snoc, take_mid, h8, hx, hX, hw, htk]
   apply hK12; try clear hK12 K12
   refine pw_keep [2, 3, 5, 16, 17, 18, 23, 24, 25] ?_
   simp only [keepL, memL, cond_true, cond_false, ↓reduceIte, reduceCtorEq, Nat.reduceEqDiff]
   refine pw_block ?_
   refine pw_loopF (α := Nat × (List NFront)) [2, 3, 5, 16, 17, 18, 23, 24] (fun s => [(25, .int .i64 (s.1 : Nat))]) (fun s => [(3, ⟨0, true, .arr 3 [.agg [.sl 26 (s.2.map NFront.pv), .sl 8 (G.map NGroup.pv), .sl 3 (L.map NFilter.pv)]]⟩)]) (fun mj s => s.1 + mj = x.fronts.length ∧ (x.fronts.drop s.1).foldl (putR frontCmp) s.2 = x.fronts.foldl (putR frontCmp) F ∧ s.2.length = F.length + s.1) (x.fronts.length) (0, F) ?_ ?_ ?_
   ·(try dsimp only) <;> (simp)
   ·refine Wk.toF ?_ ?_ ?_ ?_ ?_
    ·try simp only [keepL, memL, cond_true, cond_false, ↓reduceIte, reduceCtorEq, Nat.reduceEqDiff, List.cons_append, List.nil_append, puts, put]
     repeat (first | exact trivial | (refine FLt.cons ?_ ?_; focus (first | exact Lt.refl _ | exact Lt.any _ | exact Lt.nilsl _ | (refine lt_frozB rfl rfl rfl rfl ?_ ?_ ?_ <;> (first | rfl | (simp [h8, htk, take_app, drop_app, take_snoc, take_mid]; done) | (simp [h8, htk, take_app, drop_app, take_snoc, take_mid] <;> omega)); done) | (refine lt_eq (congrArg (PV.int .i64) ?_); omega) | (refine lt_eq ?_; simp [h8, htk, take_app, drop_app, take_snoc, take_mid]; done) | (refine lt_eq ?_; simp [h8, htk, take_app, drop_app, take_snoc, take_mid] <;> omega))))
    ·try simp only [puts, put, ↓reduceIte, reduceCtorEq, Nat.reduceEqDiff]
     repeat (first | exact trivial | (refine ⟨⟨_, rfl, ?_⟩, ?_⟩; focus (first | exact BLt.refl _ | (refine BLt.of_eq ?_; simp [h8, htk, take_app, drop_app, take_snoc, take_mid]; done) | (refine BLt.of_eq ?_; simp [h8, htk, take_app, drop_app, take_snoc, take_mid] <;> omega) | (refine BLt.one ?_; (repeat (first | exact LtL.nil | (refine LtL.cons ?_ ?_; focus (first | exact Lt.refl _ | exact Lt.any _ | exact Lt.nilsl _ | (refine lt_frozB rfl rfl rfl rfl ?_ ?_ ?_ <;> (first | rfl | (simp [h8, htk, take_app, drop_app, take_snoc, take_mid]; done) | (simp [h8, htk, take_app, drop_app, take_snoc, take_mid] <;> omega)); done) | (refine lt_eq (congrArg (PV.int .i64) ?_); omega) | (refine lt_eq ?_; simp [h8, htk, take_app, drop_app, take_snoc, take_mid]; done) | (refine lt_eq ?_; simp [h8, htk, take_app, drop_app, take_snoc, take_mid] <;> omega))))); done))))
    ·simp
    ·simp
    ·simp
   ·intro mj s hinv KL13 hKL13
    obtain ⟨j, F2⟩ := s
    try dsimp only at hinv
    obtain ⟨hkj, hfj0, hlj0⟩ := hinv
    simp only [keepL, memL, cond_true, cond_false, ↓reduceIte, reduceCtorEq, Nat.reduceEqDiff, List.cons_append, List.nil_append, puts, put]
    refine pw_seq_k fun K14 hK14 => ?_
    refine pw_region 0 ?_
    simp [sBinH, sBin, binop, take_app, drop_app, take_snoc, take_mid, h8, hx, hX, hw, htk]
    apply hK14; try clear hK14 K14
    refine pw_seq_k fun K15 hK15 => ?_
    refine pw_cond _ rfl (fun h16 => ?_) (fun h16 => ?_)
    ·try simp at h16
     obtain ⟨z, hxz, hXz⟩ := getN2 (l := x.fronts) (k := j) (by omega)
     have hwz := wrap_i64 (n := (j : Int) + 1) (by omega) (by omega)
     have hdrz := drop_get hxz
     have htkz := take_get hxz
     refine pw_skip ?_
     try simp only [thenP, inBlockP]
     apply hK15; try clear hK15 K15
     refine pw_seq_k fun K17 hK17 => ?_
     refine pw_block ?_
     refine pw_seq_k fun K18 hK18 => ?_
     refine pw_region 0 ?_
     simp [take_app, drop_app, take_snoc, take_mid, h8, hx, hX, hw, htk, h16, hxz, hXz, hwz, htkz]
     apply hK18; try clear hK18 K18
     refine pw_seq_k fun K19 hK19 => ?_
     refine pw_region 0 ?_
     simp [take_app, drop_app, take_snoc, take_mid, h8, hx, hX, hw, htk, h16, hxz, hXz, hwz, htkz]
     apply hK19; try clear hK19 K19
     refine pw_keep [2, 3, 5, 7, 8, 16, 17, 18, 23, 24, 25] ?_
     simp only [keepL, memL, cond_true, cond_false, ↓reduceIte, reduceCtorEq, Nat.reduceEqDiff]
     obtain ⟨p0, hp0⟩ : ∃ p, p = posR frontCmp F2 z F2.length := ⟨_, rfl⟩
     refine pw_cutF [2, 3, 5, 7, 16, 17, 18, 23, 24, 25] [(8, .int .i64 (p0 : Nat))] [] (fun K20 hK20 => ?_) ?_
     ·refine pw_block ?_
      refine pw_loopF (α := Nat) [2, 3, 5, 7, 16, 17, 18, 23, 24, 25] (fun s => [(8, .int .i64 (s : Nat))]) (fun s => []) (fun mp s => s = mp ∧ s ≤ F2.length ∧ posR frontCmp F2 z s = posR frontCmp F2 z F2.length) (F2.length) (F2.length) ?_ ?_ ?_
      ·(try dsimp only) <;> (exact ⟨rfl, Nat.le_refl _, rfl⟩)
      ·refine Wk.toF ?_ ?_ ?_ ?_ ?_
       ·try simp only [keepL, memL, cond_true, cond_false, ↓reduceIte, reduceCtorEq, Nat.reduceEqDiff, List.cons_append, List.nil_append, puts, put]
        repeat (first | exact trivial | (refine FLt.cons ?_ ?_; focus (first | exact Lt.refl _ | exact Lt.any _ | (refine lt_eq (congrArg (PV.int .i64) ?_); omega) | (refine lt_eq ?_; simp [h8, htk, h16, htkz, take_app, drop_app, take_snoc, take_mid]; done) | (refine lt_eq ?_; simp [h8, htk, h16, htkz, take_app, drop_app, take_snoc, take_mid] <;> omega))))
       ·try simp only [puts, put, ↓reduceIte, reduceCtorEq, Nat.reduceEqDiff]
        repeat (first | exact trivial | (refine ⟨⟨_, rfl, ?_⟩, ?_⟩; focus (first | exact BLt.refl _)))
       ·simp
       ·simp
       ·simp
      ·intro mp p hinv KL21 hKL21
       try dsimp only at hinv
       obtain ⟨hk2, hpl, hpos⟩ := hinv
       simp only [keepL, memL, cond_true, cond_false, ↓reduceIte, reduceCtorEq, Nat.reduceEqDiff, List.cons_append, List.nil_append, puts, put]
       refine pw_seq_k fun K22 hK22 => ?_
       refine pw_seq_k fun K23 hK23 => ?_
       refine pw_region_draw mix 0 ?_
       refine pEv_split 3 fun Kr24 hKr24 => ?_
       simp [sBinH, sBin, binop, take_app, drop_app, take_snoc, take_mid, h8, hx, hX, hw, htk, h16, hxz, hXz, hwz, htkz]
       apply hKr24; clear hKr24 Kr24
       refine pEv_guard _ rfl (fun hg25 => ?_) (fun hg25 => ?_)
       ·have hgb25 := eq_of_beq hg25
        try simp only [Bool.not_true, Bool.not_false] at hgb25
        try simp at hg25
        obtain ⟨y, hy, hY⟩ := getN2 (l := F2) (k := p - 1) (by omega)
        have hw1 := wrap_i64 (n := (p : Int) - 1) (by omega) (by omega)
        have ht1 : ((p : Int) - 1).toNat = p - 1 := by omega
        have hb1 : (1 : Int) ≤ (p : Int) := by omega
        have hb2 : 1 ≤ p := by omega
        have hb3 : (p : Int) - 1 < (F2.length : Int) := by omega
        refine pEv_split 4 fun Kr26 hKr26 => ?_
        simp [take_app, drop_app, take_snoc, take_mid, h8, hx, hX, hw, htk, h16, hxz, hXz, hwz, htkz, hg25, hgb25, hy, hY, hw1, ht1, hb1, hb2, hb3]
        apply hKr26; clear hKr26 Kr26
        refine pEv_split 3 fun Kr27 hKr27 => ?_
        simp [sBinH, sBin, binop, take_app, drop_app, take_snoc, take_mid, h8, hx, hX, hw, htk, h16, hxz, hXz, hwz, htkz, hg25, hgb25, hy, hY, hw1, ht1, hb1, hb2, hb3]
        apply hKr27; clear hKr27 Kr27
        refine pEv_call' rfl rfl rfl (call_pure (rfcmp_pf _ _) en10 (by simp) _) ?_
        simp [sBinH, sBin, binop, take_app, drop_app, take_snoc, take_mid, h8, hx, hX, hw, htk, h16, hxz, hXz, hwz, htkz, hg25, hgb25, hy, hY, hw1, ht1, hb1, hb2, hb3]
        refine ⟨by decide +kernel, ?_⟩
        apply hK23; try clear hK23 K23
        refine pw_keep [2, 3, 5, 7, 8, 16, 17, 18, 23, 24, 25, 44] ?_
        simp only [keepL, memL, cond_true, cond_false, ↓reduceIte, reduceCtorEq, Nat.reduceEqDiff]
        refine pw_cond _ rfl (fun h28 => ?_) (fun h28 => ?_)
        ·try simp at h28
         have hlt : frontCmp z y < 0 := h28
         refine pw_skip ?_
         try simp only [thenP, inBlockP]
         apply hK22; try clear hK22 K22
         refine pw_block ?_
         refine pw_region 0 ?_
         simp [sBinH, sBin, binop, take_app, drop_app, take_snoc, take_mid, h8, hx, hX, hw, htk, h16, hxz, hXz, hwz, htkz, hg25, hgb25, hy, hY, hw1, ht1, hb1, hb2, hb3, h28]
         refine hKL21 _ (mp - 1) (p - 1) ?_ ?_ ?_
         ·omega
         ·(try dsimp only) <;> (exact ⟨by omega, by omega, posR_step hpos (by omega) hy hlt⟩)
         ·refine Wk.toF ?_ ?_ ?_ ?_ ?_
          ·try simp only [keepL, memL, cond_true, cond_false, ↓reduceIte, reduceCtorEq, Nat.reduceEqDiff, List.cons_append, List.nil_append, puts, put]
           repeat (first | exact trivial | (refine FLt.cons ?_ ?_; focus (first | exact Lt.refl _ | exact Lt.any _ | (refine lt_eq (congrArg (PV.int .i64) ?_); omega) | (refine lt_eq ?_; simp [h8, htk, h16, htkz, hg25, hgb25, h28, take_app, drop_app, take_snoc, take_mid]; done) | (refine lt_eq ?_; simp [h8, htk, h16, htkz, hg25, hgb25, h28, take_app, drop_app, take_snoc, take_mid] <;> omega))))
          ·try simp only [puts, put, ↓reduceIte, reduceCtorEq, Nat.reduceEqDiff]
           repeat (first | exact trivial | (refine ⟨⟨_, rfl, ?_⟩, ?_⟩; focus (first | exact BLt.refl _)))
          ·simp
          ·simp
          ·simp
        ·try simp at h28
         have hp := posR_stop hpos (by omega) hy (by omega)
         refine pw_exit ?_
         simp [thenP, inBlockP]
         apply hK20; try clear hK20 K20
         refine Wk.toF ?_ ?_ ?_ ?_ ?_
         ·try simp only [keepL, memL, cond_true, cond_false, ↓reduceIte, reduceCtorEq, Nat.reduceEqDiff, List.cons_append, List.nil_append, puts, put]
          repeat (first | exact trivial | (refine FLt.cons ?_ ?_; focus (first | exact Lt.refl _ | exact Lt.any _ | (refine lt_eq (congrArg (PV.int .i64) ?_); omega) | (refine lt_eq ?_; simp [h8, htk, h16, htkz, hg25, hgb25, h28, take_app, drop_app, take_snoc, take_mid]; done) | (refine lt_eq ?_; simp [h8, htk, h16, htkz, hg25, hgb25, h28, take_app, drop_app, take_snoc, take_mid] <;> omega))))
         ·try simp only [puts, put, ↓reduceIte, reduceCtorEq, Nat.reduceEqDiff]
          repeat (first | exact trivial | (refine ⟨⟨_, rfl, ?_⟩, ?_⟩; focus (first | exact BLt.refl _)))
         ·simp
         ·simp
         ·simp
       ·have hgb25 := beq_off hg25
        try simp only [Bool.not_true, Bool.not_false] at hgb25
        try simp at hg25
        have hp := posR_zero hpos (by omega)
        refine pEv_split 4 fun Kr29 hKr29 => ?_
        simp [take_app, drop_app, take_snoc, take_mid, h8, hx, hX, hw, htk, h16, hxz, hXz, hwz, htkz, hg25, hgb25]
        apply hKr29; clear hKr29 Kr29
        refine pEv_split 4 fun Kr30 hKr30 => ?_
        simp [sBinH, sBin, binop, take_app, drop_app, take_snoc, take_mid, h8, hx, hX, hw, htk, h16, hxz, hXz, hwz, htkz, hg25, hgb25]
        apply hKr30; clear hKr30 Kr30
        simp [sBinH, sBin, binop, take_app, drop_app, take_snoc, take_mid, h8, hx, hX, hw, htk, h16, hxz, hXz, hwz, htkz, hg25, hgb25]
        refine ⟨by decide +kernel, ?_⟩
        apply hK23; try clear hK23 K23
        refine pw_keep [2, 3, 5, 7, 8, 16, 17, 18, 23, 24, 25, 44] ?_
        simp only [keepL, memL, cond_true, cond_false, ↓reduceIte, reduceCtorEq, Nat.reduceEqDiff]
        refine pw_cond _ rfl (fun h31 => ?_) (fun h31 => ?_)
        ·simp at h31
        ·clear h31
         refine pw_exit ?_
         simp [thenP, inBlockP]
         apply hK20; try clear hK20 K20
         refine Wk.toF ?_ ?_ ?_ ?_ ?_
         ·try simp only [keepL, memL, cond_true, cond_false, ↓reduceIte, reduceCtorEq, Nat.reduceEqDiff, List.cons_append, List.nil_append, puts, put]
          repeat (first | exact trivial | (refine FLt.cons ?_ ?_; focus (first | exact Lt.refl _ | exact Lt.any _ | (refine lt_eq (congrArg (PV.int .i64) ?_); omega) | (refine lt_eq ?_; simp [h8, htk, h16, htkz, hg25, hgb25, take_app, drop_app, take_snoc, take_mid]; done) | (refine lt_eq ?_; simp [h8, htk, h16, htkz, hg25, hgb25, take_app, drop_app, take_snoc, take_mid] <;> omega))))
         ·try simp only [puts, put, ↓reduceIte, reduceCtorEq, Nat.reduceEqDiff]
          repeat (first | exact trivial | (refine ⟨⟨_, rfl, ?_⟩, ?_⟩; focus (first | exact BLt.refl _)))
         ·simp
         ·simp
         ·simp
     ·simp only [keepL, memL, cond_true, cond_false, ↓reduceIte, reduceCtorEq, Nat.reduceEqDiff, List.cons_append, List.nil_append, puts, put]
      have hple : p0 ≤ F2.length := by rw [hp0]; exact posR_le _ _ _ _
      obtain ⟨A, B, rfl, rfl⟩ := cut_at F2 p0 hple
      have hAB : A.length + B.length < 1000000 := by simp at hlj0; omega
      have hpu : putR frontCmp (A ++ B) z = A ++ z :: B := putR_cut hp0
      have hbz0 : (A.length + 1 + B.length) * 112 ≤ 140737488355328 := by omega
      have hbz1 : A.length * 112 ≤ 140737488355328 := by omega
      have hbz2 : (A.length + 1) * 112 ≤ 140737488355328 := by omega
      have hbm0 : A.length + 1 + B.length ≤ 9223372036854775807 := by omega
      have hbm1 : A.length ≤ 9223372036854775807 := by omega
      have hbm2 : A.length + 1 ≤ 9223372036854775807 := by omega
      refine pw_region_draw mix 0 ?_
      refine pEv_split 4 fun Kr32 hKr32 => ?_
      simp [take_app, drop_app, take_snoc, take_mid, h8, hx, hX, hw, htk, h16, hxz, hXz, hwz, htkz, hbz0, hbz1, hbz2, hbm0, hbm1, hbm2]
      apply hKr32; clear hKr32 Kr32
      refine pEv_split 4 fun Kr33 hKr33 => ?_
      simp [take_app, drop_app, take_snoc, take_mid, h8, hx, hX, hw, htk, h16, hxz, hXz, hwz, htkz, hbz0, hbz1, hbz2, hbm0, hbm1, hbm2]
      apply hKr33; clear hKr33 Kr33
      refine pEv_split 4 fun Kr34 hKr34 => ?_
      simp [take_app, drop_app, take_snoc, take_mid, h8, hx, hX, hw, htk, h16, hxz, hXz, hwz, htkz, hbz0, hbz1, hbz2, hbm0, hbm1, hbm2]
      apply hKr34; clear hKr34 Kr34
      simp [take_app, drop_app, take_snoc, take_mid, h8, hx, hX, hw, htk, h16, hxz, hXz, hwz, htkz, hbz0, hbz1, hbz2, hbm0, hbm1, hbm2]
      refine ⟨by decide +kernel, ?_⟩
      apply hK17; try clear hK17 K17
      refine pw_keep [2, 3, 5, 16, 17, 18, 23, 24, 25] ?_
      simp only [keepL, memL, cond_true, cond_false, ↓reduceIte, reduceCtorEq, Nat.reduceEqDiff]
      refine pw_region 0 ?_
      simp [sBinH, sBin, binop, take_app, drop_app, take_snoc, take_mid, h8, hx, hX, hw, htk, h16, hxz, hXz, hwz, htkz, hbz0, hbz1, hbz2, hbm0, hbm1, hbm2]
      refine hKL13 _ (mj - 1) (j + 1, A ++ z :: B) ?_ ?_ ?_
      ·omega
      ·(try dsimp only) <;> (exact ⟨by omega, by rw [hdrz, List.foldl_cons, hpu] at hfj0; exact hfj0, by simp at hlj0 ⊢; omega⟩)
      ·refine Wk.trans (Wk.freeze (b := 47) rfl) ?_
       refine Wk.toF ?_ ?_ ?_ ?_ ?_
       ·try simp only [keepL, memL, cond_true, cond_false, ↓reduceIte, reduceCtorEq, Nat.reduceEqDiff, List.cons_append, List.nil_append, puts, put]
        repeat (first | exact trivial | (refine FLt.cons ?_ ?_; focus (first | exact Lt.refl _ | exact Lt.any _ | exact Lt.nilsl _ | (refine lt_frozB rfl rfl rfl rfl ?_ ?_ ?_ <;> (first | rfl | (simp [h8, htk, h16, htkz, take_app, drop_app, take_snoc, take_mid]; done) | (simp [h8, htk, h16, htkz, take_app, drop_app, take_snoc, take_mid] <;> omega)); done) | (refine lt_eq (congrArg (PV.int .i64) ?_); omega) | (refine lt_eq ?_; simp [h8, htk, h16, htkz, take_app, drop_app, take_snoc, take_mid]; done) | (refine lt_eq ?_; simp [h8, htk, h16, htkz, take_app, drop_app, take_snoc, take_mid] <;> omega))))
       ·try simp only [puts, put, ↓reduceIte, reduceCtorEq, Nat.reduceEqDiff]
        repeat (first | exact trivial | (refine ⟨⟨_, rfl, ?_⟩, ?_⟩; focus (first | exact BLt.refl _ | (refine BLt.of_eq ?_; simp [h8, htk, h16, htkz, take_app, drop_app, take_snoc, take_mid]; done) | (refine BLt.of_eq ?_; simp [h8, htk, h16, htkz, take_app, drop_app, take_snoc, take_mid] <;> omega) | (refine BLt.one ?_; (repeat (first | exact LtL.nil | (refine LtL.cons ?_ ?_; focus (first | exact Lt.refl _ | exact Lt.any _ | exact Lt.nilsl _ | (refine lt_frozB rfl rfl rfl rfl ?_ ?_ ?_ <;> (first | rfl | (simp [h8, htk, h16, htkz, take_app, drop_app, take_snoc, take_mid]; done) | (simp [h8, htk, h16, htkz, take_app, drop_app, take_snoc, take_mid] <;> omega)); done) | (refine lt_eq (congrArg (PV.int .i64) ?_); omega) | (refine lt_eq ?_; simp [h8, htk, h16, htkz, take_app, drop_app, take_snoc, take_mid]; done) | (refine lt_eq ?_; simp [h8, htk, h16, htkz, take_app, drop_app, take_snoc, take_mid] <;> omega))))); done))))
       ·simp
       ·simp
       ·simp
    ·try simp at h16
     have he0 : x.fronts.foldl (putR frontCmp) F = F2 := by rw [← hfj0, drop_end (by omega)]; rfl
     refine pw_exit ?_
     simp [thenP, inBlockP]
     apply hK11; try clear hK11 K11
     refine pw_keep [2, 3, 5, 16, 17, 18] ?_
     simp only [keepL, memL, cond_true, cond_false, ↓reduceIte, reduceCtorEq, Nat.reduceEqDiff]
     refine pw_seq_k fun K35 hK35 => ?_
     refine pw_seq_k fun K36 hK36 => ?_
     refine pw_region 0 ?_
     simp [take_app, drop_app, take_snoc, take_mid, h8, hx, hX, hw, htk, h16]
     apply hK36; try clear hK36 K36
     refine pw_block ?_
     refine pw_loopF (α := Nat × (List NGroup)) [2, 3, 5, 16, 17, 18, 64, 65] (fun s => [(66, .int .i64 (s.1 : Nat))]) (fun s => [(3, ⟨0, true, .arr 3 [.agg [.sl 26 (F2.map NFront.pv), .sl 8 (s.2.map NGroup.pv), .sl 3 (L.map NFilter.pv)]]⟩)]) (fun mj s => s.1 + mj = x.groups.length ∧ (x.groups.drop s.1).foldl (putR grpCmp) s.2 = x.groups.foldl (putR grpCmp) G ∧ s.2.length = G.length + s.1) (x.groups.length) (0, G) ?_ ?_ ?_
     ·(try dsimp only) <;> (simp)
     ·refine Wk.toF ?_ ?_ ?_ ?_ ?_
      ·try simp only [keepL, memL, cond_true, cond_false, ↓reduceIte, reduceCtorEq, Nat.reduceEqDiff, List.cons_append, List.nil_append, puts, put]
       repeat (first | exact trivial | (refine FLt.cons ?_ ?_; focus (first | exact Lt.refl _ | exact Lt.any _ | exact Lt.nilsl _ | (refine lt_frozB rfl rfl rfl rfl ?_ ?_ ?_ <;> (first | rfl | (simp [h8, htk, h16, take_app, drop_app, take_snoc, take_mid]; done) | (simp [h8, htk, h16, take_app, drop_app, take_snoc, take_mid] <;> omega)); done) | (refine lt_eq (congrArg (PV.int .i64) ?_); omega) | (refine lt_eq ?_; simp [h8, htk, h16, take_app, drop_app, take_snoc, take_mid]; done) | (refine lt_eq ?_; simp [h8, htk, h16, take_app, drop_app, take_snoc, take_mid] <;> omega))))
      ·try simp only [puts, put, ↓reduceIte, reduceCtorEq, Nat.reduceEqDiff]
       repeat (first | exact trivial | (refine ⟨⟨_, rfl, ?_⟩, ?_⟩; focus (first | exact BLt.refl _ | (refine BLt.of_eq ?_; simp [h8, htk, h16, take_app, drop_app, take_snoc, take_mid]; done) | (refine BLt.of_eq ?_; simp [h8, htk, h16, take_app, drop_app, take_snoc, take_mid] <;> omega) | (refine BLt.one ?_; (repeat (first | exact LtL.nil | (refine LtL.cons ?_ ?_; focus (first | exact Lt.refl _ | exact Lt.any _ | exact Lt.nilsl _ | (refine lt_frozB rfl rfl rfl rfl ?_ ?_ ?_ <;> (first | rfl | (simp [h8, htk, h16, take_app, drop_app, take_snoc, take_mid]; done) | (simp [h8, htk, h16, take_app, drop_app, take_snoc, take_mid] <;> omega)); done) | (refine lt_eq (congrArg (PV.int .i64) ?_); omega) | (refine lt_eq ?_; simp [h8, htk, h16, take_app, drop_app, take_snoc, take_mid]; done) | (refine lt_eq ?_; simp [h8, htk, h16, take_app, drop_app, take_snoc, take_mid] <;> omega))))); done))))
      ·simp
      ·simp
      ·simp
     ·intro mj s hinv KL37 hKL37
      obtain ⟨j, G2⟩ := s
      try dsimp only at hinv
      obtain ⟨hkj, hfj1, hlj1⟩ := hinv
      simp only [keepL, memL, cond_true, cond_false, ↓reduceIte, reduceCtorEq, Nat.reduceEqDiff, List.cons_append, List.nil_append, puts, put]
      refine pw_seq_k fun K38 hK38 => ?_
      refine pw_region 0 ?_
      simp [sBinH, sBin, binop, take_app, drop_app, take_snoc, take_mid, h8, hx, hX, hw, htk, h16]
      apply hK38; try clear hK38 K38
      refine pw_seq_k fun K39 hK39 => ?_
      refine pw_cond _ rfl (fun h40 => ?_) (fun h40 => ?_)
      ·try simp at h40
       obtain ⟨z, hxz, hXz⟩ := getN2 (l := x.groups) (k := j) (by omega)
       have hwz := wrap_i64 (n := (j : Int) + 1) (by omega) (by omega)
       have hdrz := drop_get hxz
       have htkz := take_get hxz
       refine pw_skip ?_
       try simp only [thenP, inBlockP]
       apply hK39; try clear hK39 K39
       refine pw_seq_k fun K41 hK41 => ?_
       refine pw_block ?_
       refine pw_seq_k fun K42 hK42 => ?_
       refine pw_region 0 ?_
       simp [take_app, drop_app, take_snoc, take_mid, h8, hx, hX, hw, htk, h16, h40, hxz, hXz, hwz, htkz]
       apply hK42; try clear hK42 K42
       refine pw_seq_k fun K43 hK43 => ?_
       refine pw_region 0 ?_
       simp [take_app, drop_app, take_snoc, take_mid, h8, hx, hX, hw, htk, h16, h40, hxz, hXz, hwz, htkz]
       apply hK43; try clear hK43 K43
       refine pw_keep [2, 3, 5, 10, 11, 16, 17, 18, 64, 65, 66] ?_
       simp only [keepL, memL, cond_true, cond_false, ↓reduceIte, reduceCtorEq, Nat.reduceEqDiff]
       obtain ⟨p0, hp0⟩ : ∃ p, p = posR grpCmp G2 z G2.length := ⟨_, rfl⟩
       refine pw_cutF [2, 3, 5, 10, 16, 17, 18, 64, 65, 66] [(11, .int .i64 (p0 : Nat))] [] (fun K44 hK44 => ?_) ?_
       ·refine pw_block ?_
        refine pw_loopF (α := Nat) [2, 3, 5, 10, 16, 17, 18, 64, 65, 66] (fun s => [(11, .int .i64 (s : Nat))]) (fun s => []) (fun mp s => s = mp ∧ s ≤ G2.length ∧ posR grpCmp G2 z s = posR grpCmp G2 z G2.length) (G2.length) (G2.length) ?_ ?_ ?_
        ·(try dsimp only) <;> (exact ⟨rfl, Nat.le_refl _, rfl⟩)
        ·refine Wk.toF ?_ ?_ ?_ ?_ ?_
         ·try simp only [keepL, memL, cond_true, cond_false, ↓reduceIte, reduceCtorEq, Nat.reduceEqDiff, List.cons_append, List.nil_append, puts, put]
          repeat (first | exact trivial | (refine FLt.cons ?_ ?_; focus (first | exact Lt.refl _ | exact Lt.any _ | (refine lt_eq (congrArg (PV.int .i64) ?_); omega) | (refine lt_eq ?_; simp [h8, htk, h16, h40, htkz, take_app, drop_app, take_snoc, take_mid]; done) | (refine lt_eq ?_; simp [h8, htk, h16, h40, htkz, take_app, drop_app, take_snoc, take_mid] <;> omega))))
         ·try simp only [puts, put, ↓reduceIte, reduceCtorEq, Nat.reduceEqDiff]
          repeat (first | exact trivial | (refine ⟨⟨_, rfl, ?_⟩, ?_⟩; focus (first | exact BLt.refl _)))
         ·simp
         ·simp
         ·simp
        ·intro mp p hinv KL45 hKL45
         try dsimp only at hinv
         obtain ⟨hk2, hpl, hpos⟩ := hinv
         simp only [keepL, memL, cond_true, cond_false, ↓reduceIte, reduceCtorEq, Nat.reduceEqDiff, List.cons_append, List.nil_append, puts, put]
         refine pw_seq_k fun K46 hK46 => ?_
         refine pw_seq_k fun K47 hK47 => ?_
         refine pw_region_draw mix 0 ?_
         refine pEv_split 3 fun Kr48 hKr48 => ?_
         simp [sBinH, sBin, binop, take_app, drop_app, take_snoc, take_mid, h8, hx, hX, hw, htk, h16, h40, hxz, hXz, hwz, htkz]
         apply hKr48; clear hKr48 Kr48
         refine pEv_guard _ rfl (fun hg49 => ?_) (fun hg49 => ?_)
         ·have hgb49 := eq_of_beq hg49
          try simp only [Bool.not_true, Bool.not_false] at hgb49
          try simp at hg49
          obtain ⟨y, hy, hY⟩ := getN2 (l := G2) (k := p - 1) (by omega)
          have hw1 := wrap_i64 (n := (p : Int) - 1) (by omega) (by omega)
          have ht1 : ((p : Int) - 1).toNat = p - 1 := by omega
          have hb1 : (1 : Int) ≤ (p : Int) := by omega
          have hb2 : 1 ≤ p := by omega
          have hb3 : (p : Int) - 1 < (G2.length : Int) := by omega
          refine pEv_split 4 fun Kr50 hKr50 => ?_
          simp [take_app, drop_app, take_snoc, take_mid, h8, hx, hX, hw, htk, h16, h40, hxz, hXz, hwz, htkz, hg49, hgb49, hy, hY, hw1, ht1, hb1, hb2, hb3]
          apply hKr50; clear hKr50 Kr50
          refine pEv_split 4 fun Kr51 hKr51 => ?_
          simp [sBinH, sBin, binop, take_app, drop_app, take_snoc, take_mid, h8, hx, hX, hw, htk, h16, h40, hxz, hXz, hwz, htkz, hg49, hgb49, hy, hY, hw1, ht1, hb1, hb2, hb3]
          apply hKr51; clear hKr51 Kr51
          refine pEv_split 1 fun Kr52 hKr52 => ?_
          simp [take_app, drop_app, take_snoc, take_mid, h8, hx, hX, hw, htk, h16, h40, hxz, hXz, hwz, htkz, hg49, hgb49, hy, hY, hw1, ht1, hb1, hb2, hb3]
          apply hKr52; clear hKr52 Kr52
          refine pEv_call' rfl rfl rfl (call_pure (ridcmp_pf _ _) en14 (by simp) _) ?_
          simp [sBinH, sBin, binop, take_app, drop_app, take_snoc, take_mid, h8, hx, hX, hw, htk, h16, h40, hxz, hXz, hwz, htkz, hg49, hgb49, hy, hY, hw1, ht1, hb1, hb2, hb3]
          refine ⟨by decide +kernel, ?_⟩
          apply hK47; try clear hK47 K47
          refine pw_keep [2, 3, 5, 10, 11, 16, 17, 18, 64, 65, 66, 87] ?_
          simp only [keepL, memL, cond_true, cond_false, ↓reduceIte, reduceCtorEq, Nat.reduceEqDiff]
          refine pw_cond _ rfl (fun h53 => ?_) (fun h53 => ?_)
          ·try simp at h53
           have hlt : grpCmp z y < 0 := h53
           refine pw_skip ?_
           try simp only [thenP, inBlockP]
           apply hK46; try clear hK46 K46
           refine pw_block ?_
           refine pw_region 0 ?_
           simp [sBinH, sBin, binop, take_app, drop_app, take_snoc, take_mid, h8, hx, hX, hw, htk, h16, h40, hxz, hXz, hwz, htkz, hg49, hgb49, hy, hY, hw1, ht1, hb1, hb2, hb3, h53]
           refine hKL45 _ (mp - 1) (p - 1) ?_ ?_ ?_
           ·omega
           ·(try dsimp only) <;> (exact ⟨by omega, by omega, posR_step hpos (by omega) hy hlt⟩)
           ·refine Wk.toF ?_ ?_ ?_ ?_ ?_
            ·try simp only [keepL, memL, cond_true, cond_false, ↓reduceIte, reduceCtorEq, Nat.reduceEqDiff, List.cons_append, List.nil_append, puts, put]
             repeat (first | exact trivial | (refine FLt.cons ?_ ?_; focus (first | exact Lt.refl _ | exact Lt.any _ | (refine lt_eq (congrArg (PV.int .i64) ?_); omega) | (refine lt_eq ?_; simp [h8, htk, h16, h40, htkz, hg49, hgb49, h53, take_app, drop_app, take_snoc, take_mid]; done) | (refine lt_eq ?_; simp [h8, htk, h16, h40, htkz, hg49, hgb49, h53, take_app, drop_app, take_snoc, take_mid] <;> omega))))
            ·try simp only [puts, put, ↓reduceIte, reduceCtorEq, Nat.reduceEqDiff]
             repeat (first | exact trivial | (refine ⟨⟨_, rfl, ?_⟩, ?_⟩; focus (first | exact BLt.refl _)))
            ·simp
            ·simp
            ·simp
          ·try simp at h53
           have hp := posR_stop hpos (by omega) hy (show ¬ grpCmp z y < 0 by unfold grpCmp; omega)
           refine pw_exit ?_
           simp [thenP, inBlockP]
           apply hK44; try clear hK44 K44
           refine Wk.toF ?_ ?_ ?_ ?_ ?_
           ·try simp only [keepL, memL, cond_true, cond_false, ↓reduceIte, reduceCtorEq, Nat.reduceEqDiff, List.cons_append, List.nil_append, puts, put]
            repeat (first | exact trivial | (refine FLt.cons ?_ ?_; focus (first | exact Lt.refl _ | exact Lt.any _ | (refine lt_eq (congrArg (PV.int .i64) ?_); omega) | (refine lt_eq ?_; simp [h8, htk, h16, h40, htkz, hg49, hgb49, h53, take_app, drop_app, take_snoc, take_mid]; done) | (refine lt_eq ?_; simp [h8, htk, h16, h40, htkz, hg49, hgb49, h53, take_app, drop_app, take_snoc, take_mid] <;> omega))))
           ·try simp only [puts, put, ↓reduceIte, reduceCtorEq, Nat.reduceEqDiff]
            repeat (first | exact trivial | (refine ⟨⟨_, rfl, ?_⟩, ?_⟩; focus (first | exact BLt.refl _)))
           ·simp
           ·simp
           ·simp
         ·have hgb49 := beq_off hg49
          try simp only [Bool.not_true, Bool.not_false] at hgb49
          try simp at hg49
          have hp := posR_zero hpos (by omega)
          refine pEv_split 4 fun Kr54 hKr54 => ?_
          simp [take_app, drop_app, take_snoc, take_mid, h8, hx, hX, hw, htk, h16, h40, hxz, hXz, hwz, htkz, hg49, hgb49]
          apply hKr54; clear hKr54 Kr54
          refine pEv_split 4 fun Kr55 hKr55 => ?_
          simp [sBinH, sBin, binop, take_app, drop_app, take_snoc, take_mid, h8, hx, hX, hw, htk, h16, h40, hxz, hXz, hwz, htkz, hg49, hgb49]
          apply hKr55; clear hKr55 Kr55
          simp [sBinH, sBin, binop, take_app, drop_app, take_snoc, take_mid, h8, hx, hX, hw, htk, h16, h40, hxz, hXz, hwz, htkz, hg49, hgb49]
          refine ⟨by decide +kernel, ?_⟩
          apply hK47; try clear hK47 K47
          refine pw_keep [2, 3, 5, 10, 11, 16, 17, 18, 64, 65, 66, 87] ?_
          simp only [keepL, memL, cond_true, cond_false, ↓reduceIte, reduceCtorEq, Nat.reduceEqDiff]
          refine pw_cond _ rfl (fun h56 => ?_) (fun h56 => ?_)
          ·simp at h56
          ·clear h56
           refine pw_exit ?_
           simp [thenP, inBlockP]
           apply hK44; try clear hK44 K44
           refine Wk.toF ?_ ?_ ?_ ?_ ?_
           ·try simp only [keepL, memL, cond_true, cond_false, ↓reduceIte, reduceCtorEq, Nat.reduceEqDiff, List.cons_append, List.nil_append, puts, put]
            repeat (first | exact trivial | (refine FLt.cons ?_ ?_; focus (first | exact Lt.refl _ | exact Lt.any _ | (refine lt_eq (congrArg (PV.int .i64) ?_); omega) | (refine lt_eq ?_; simp [h8, htk, h16, h40, htkz, hg49, hgb49, take_app, drop_app, take_snoc, take_mid]; done) | (refine lt_eq ?_; simp [h8, htk, h16, h40, htkz, hg49, hgb49, take_app, drop_app, take_snoc, take_mid] <;> omega))))
           ·try simp only [puts, put, ↓reduceIte, reduceCtorEq, Nat.reduceEqDiff]
            repeat (first | exact trivial | (refine ⟨⟨_, rfl, ?_⟩, ?_⟩; focus (first | exact BLt.refl _)))
           ·simp
           ·simp
           ·simp
       ·simp only [keepL, memL, cond_true, cond_false, ↓reduceIte, reduceCtorEq, Nat.reduceEqDiff, List.cons_append, List.nil_append, puts, put]
        have hple : p0 ≤ G2.length := by rw [hp0]; exact posR_le _ _ _ _
        obtain ⟨A, B, rfl, rfl⟩ := cut_at G2 p0 hple
        have hAB : A.length + B.length < 1000000 := by simp at hlj1; omega
        have hpu : putR grpCmp (A ++ B) z = A ++ z :: B := putR_cut hp0
        have hbz0 : (A.length + 1 + B.length) * 112 ≤ 140737488355328 := by omega
        have hbz1 : A.length * 112 ≤ 140737488355328 := by omega
        have hbz2 : (A.length + 1) * 112 ≤ 140737488355328 := by omega
        have hbm0 : A.length + 1 + B.length ≤ 9223372036854775807 := by omega
        have hbm1 : A.length ≤ 9223372036854775807 := by omega
        have hbm2 : A.length + 1 ≤ 9223372036854775807 := by omega
        refine pw_region_draw mix 0 ?_
        refine pEv_split 4 fun Kr57 hKr57 => ?_
        simp [take_app, drop_app, take_snoc, take_mid, h8, hx, hX, hw, htk, h16, h40, hxz, hXz, hwz, htkz, hbz0, hbz1, hbz2, hbm0, hbm1, hbm2]
        apply hKr57; clear hKr57 Kr57
        refine pEv_split 4 fun Kr58 hKr58 => ?_
        simp [take_app, drop_app, take_snoc, take_mid, h8, hx, hX, hw, htk, h16, h40, hxz, hXz, hwz, htkz, hbz0, hbz1, hbz2, hbm0, hbm1, hbm2]
        apply hKr58; clear hKr58 Kr58
        refine pEv_split 4 fun Kr59 hKr59 => ?_
        simp [take_app, drop_app, take_snoc, take_mid, h8, hx, hX, hw, htk, h16, h40, hxz, hXz, hwz, htkz, hbz0, hbz1, hbz2, hbm0, hbm1, hbm2]
        apply hKr59; clear hKr59 Kr59
        simp [take_app, drop_app, take_snoc, take_mid, h8, hx, hX, hw, htk, h16, h40, hxz, hXz, hwz, htkz, hbz0, hbz1, hbz2, hbm0, hbm1, hbm2]
        refine ⟨by decide +kernel, ?_⟩
        apply hK41; try clear hK41 K41
        refine pw_keep [2, 3, 5, 16, 17, 18, 64, 65, 66] ?_
        simp only [keepL, memL, cond_true, cond_false, ↓reduceIte, reduceCtorEq, Nat.reduceEqDiff]
        refine pw_region 0 ?_
        simp [sBinH, sBin, binop, take_app, drop_app, take_snoc, take_mid, h8, hx, hX, hw, htk, h16, h40, hxz, hXz, hwz, htkz, hbz0, hbz1, hbz2, hbm0, hbm1, hbm2]
        refine hKL37 _ (mj - 1) (j + 1, A ++ z :: B) ?_ ?_ ?_
        ·omega
        ·(try dsimp only) <;> (exact ⟨by omega, by rw [hdrz, List.foldl_cons, hpu] at hfj1; exact hfj1, by simp at hlj1 ⊢; omega⟩)
        ·refine Wk.trans (Wk.freeze (b := 90) rfl) ?_
         refine Wk.toF ?_ ?_ ?_ ?_ ?_
         ·try simp only [keepL, memL, cond_true, cond_false, ↓reduceIte, reduceCtorEq, Nat.reduceEqDiff, List.cons_append, List.nil_append, puts, put]
          repeat (first | exact trivial | (refine FLt.cons ?_ ?_; focus (first | exact Lt.refl _ | exact Lt.any _ | exact Lt.nilsl _ | (refine lt_frozB rfl rfl rfl rfl ?_ ?_ ?_ <;> (first | rfl | (simp [h8, htk, h16, h40, htkz, take_app, drop_app, take_snoc, take_mid]; done) | (simp [h8, htk, h16, h40, htkz, take_app, drop_app, take_snoc, take_mid] <;> omega)); done) | (refine lt_eq (congrArg (PV.int .i64) ?_); omega) | (refine lt_eq ?_; simp [h8, htk, h16, h40, htkz, take_app, drop_app, take_snoc, take_mid]; done) | (refine lt_eq ?_; simp [h8, htk, h16, h40, htkz, take_app, drop_app, take_snoc, take_mid] <;> omega))))
         ·try simp only [puts, put, ↓reduceIte, reduceCtorEq, Nat.reduceEqDiff]
          repeat (first | exact trivial | (refine ⟨⟨_, rfl, ?_⟩, ?_⟩; focus (first | exact BLt.refl _ | (refine BLt.of_eq ?_; simp [h8, htk, h16, h40, htkz, take_app, drop_app, take_snoc, take_mid]; done) | (refine BLt.of_eq ?_; simp [h8, htk, h16, h40, htkz, take_app, drop_app, take_snoc, take_mid] <;> omega) | (refine BLt.one ?_; (repeat (first | exact LtL.nil | (refine LtL.cons ?_ ?_; focus (first | exact Lt.refl _ | exact Lt.any _ | exact Lt.nilsl _ | (refine lt_frozB rfl rfl rfl rfl ?_ ?_ ?_ <;> (first | rfl | (simp [h8, htk, h16, h40, htkz, take_app, drop_app, take_snoc, take_mid]; done) | (simp [h8, htk, h16, h40, htkz, take_app, drop_app, take_snoc, take_mid] <;> omega)); done) | (refine lt_eq (congrArg (PV.int .i64) ?_); omega) | (refine lt_eq ?_; simp [h8, htk, h16, h40, htkz, take_app, drop_app, take_snoc, take_mid]; done) | (refine lt_eq ?_; simp [h8, htk, h16, h40, htkz, take_app, drop_app, take_snoc, take_mid] <;> omega))))); done))))
         ·simp
         ·simp
         ·simp
      ·try simp at h40
       have he1 : x.groups.foldl (putR grpCmp) G = G2 := by rw [← hfj1, drop_end (by omega)]; rfl
       refine pw_exit ?_
       simp [thenP, inBlockP]
       apply hK35; try clear hK35 K35
       refine pw_keep [2, 3, 5, 16, 17, 18] ?_
       simp only [keepL, memL, cond_true, cond_false, ↓reduceIte, reduceCtorEq, Nat.reduceEqDiff]
       refine pw_seq_k fun K60 hK60 => ?_
       refine pw_region 0 ?_
       simp [take_app, drop_app, take_snoc, take_mid, h8, hx, hX, hw, htk, h16, h40]
       apply hK60; try clear hK60 K60
       refine pw_block ?_
       refine pw_loopF (α := Nat × (List NFilter)) [2, 3, 16, 17, 18, 107, 108] (fun s => [(109, .int .i64 (s.1 : Nat))]) (fun s => [(3, ⟨0, true, .arr 3 [.agg [.sl 26 (F2.map NFront.pv), .sl 8 (G2.map NGroup.pv), .sl 3 (s.2.map NFilter.pv)]]⟩)]) (fun mj s => s.1 + mj = x.filters.length ∧ (x.filters.drop s.1).foldl (putR filCmp) s.2 = x.filters.foldl (putR filCmp) L ∧ s.2.length = L.length + s.1) (x.filters.length) (0, L) ?_ ?_ ?_
       ·(try dsimp only) <;> (simp)
       ·refine Wk.toF ?_ ?_ ?_ ?_ ?_
        ·try simp only [keepL, memL, cond_true, cond_false, ↓reduceIte, reduceCtorEq, Nat.reduceEqDiff, List.cons_append, List.nil_append, puts, put]
         repeat (first | exact trivial | (refine FLt.cons ?_ ?_; focus (first | exact Lt.refl _ | exact Lt.any _ | exact Lt.nilsl _ | (refine lt_frozB rfl rfl rfl rfl ?_ ?_ ?_ <;> (first | rfl | (simp [h8, htk, h16, h40, take_app, drop_app, take_snoc, take_mid]; done) | (simp [h8, htk, h16, h40, take_app, drop_app, take_snoc, take_mid] <;> omega)); done) | (refine lt_eq (congrArg (PV.int .i64) ?_); omega) | (refine lt_eq ?_; simp [h8, htk, h16, h40, take_app, drop_app, take_snoc, take_mid]; done) | (refine lt_eq ?_; simp [h8, htk, h16, h40, take_app, drop_app, take_snoc, take_mid] <;> omega))))
        ·try simp only [puts, put, ↓reduceIte, reduceCtorEq, Nat.reduceEqDiff]
         repeat (first | exact trivial | (refine ⟨⟨_, rfl, ?_⟩, ?_⟩; focus (first | exact BLt.refl _ | (refine BLt.of_eq ?_; simp [h8, htk, h16, h40, take_app, drop_app, take_snoc, take_mid]; done) | (refine BLt.of_eq ?_; simp [h8, htk, h16, h40, take_app, drop_app, take_snoc, take_mid] <;> omega) | (refine BLt.one ?_; (repeat (first | exact LtL.nil | (refine LtL.cons ?_ ?_; focus (first | exact Lt.refl _ | exact Lt.any _ | exact Lt.nilsl _ | (refine lt_frozB rfl rfl rfl rfl ?_ ?_ ?_ <;> (first | rfl | (simp [h8, htk, h16, h40, take_app, drop_app, take_snoc, take_mid]; done) | (simp [h8, htk, h16, h40, take_app, drop_app, take_snoc, take_mid] <;> omega)); done) | (refine lt_eq (congrArg (PV.int .i64) ?_); omega) | (refine lt_eq ?_; simp [h8, htk, h16, h40, take_app, drop_app, take_snoc, take_mid]; done) | (refine lt_eq ?_; simp [h8, htk, h16, h40, take_app, drop_app, take_snoc, take_mid] <;> omega))))); done))))
        ·simp
        ·simp
        ·simp
       ·intro mj s hinv KL61 hKL61
        obtain ⟨j, L2⟩ := s
        try dsimp only at hinv
        obtain ⟨hkj, hfj2, hlj2⟩ := hinv
        simp only [keepL, memL, cond_true, cond_false, ↓reduceIte, reduceCtorEq, Nat.reduceEqDiff, List.cons_append, List.nil_append, puts, put]
        refine pw_seq_k fun K62 hK62 => ?_
        refine pw_region 0 ?_
        simp [sBinH, sBin, binop, take_app, drop_app, take_snoc, take_mid, h8, hx, hX, hw, htk, h16, h40]
        apply hK62; try clear hK62 K62
        refine pw_seq_k fun K63 hK63 => ?_
        refine pw_cond _ rfl (fun h64 => ?_) (fun h64 => ?_)
        ·try simp at h64
         obtain ⟨z, hxz, hXz⟩ := getN2 (l := x.filters) (k := j) (by omega)
         have hwz := wrap_i64 (n := (j : Int) + 1) (by omega) (by omega)
         have hdrz := drop_get hxz
         have htkz := take_get hxz
         refine pw_skip ?_
         try simp only [thenP, inBlockP]
         apply hK63; try clear hK63 K63
         refine pw_seq_k fun K65 hK65 => ?_
         refine pw_block ?_
         refine pw_seq_k fun K66 hK66 => ?_
         refine pw_region 0 ?_
         simp [take_app, drop_app, take_snoc, take_mid, h8, hx, hX, hw, htk, h16, h40, h64, hxz, hXz, hwz, htkz]
         apply hK66; try clear hK66 K66
         refine pw_seq_k fun K67 hK67 => ?_
         refine pw_region 0 ?_
         simp [take_app, drop_app, take_snoc, take_mid, h8, hx, hX, hw, htk, h16, h40, h64, hxz, hXz, hwz, htkz]
         apply hK67; try clear hK67 K67
         refine pw_keep [2, 3, 13, 14, 16, 17, 18, 107, 108, 109] ?_
         simp only [keepL, memL, cond_true, cond_false, ↓reduceIte, reduceCtorEq, Nat.reduceEqDiff]
         obtain ⟨p0, hp0⟩ : ∃ p, p = posR filCmp L2 z L2.length := ⟨_, rfl⟩
         refine pw_cutF [2, 3, 13, 16, 17, 18, 107, 108, 109] [(14, .int .i64 (p0 : Nat))] [] (fun K68 hK68 => ?_) ?_
         ·refine pw_block ?_
          refine pw_loopF (α := Nat) [2, 3, 13, 16, 17, 18, 107, 108, 109] (fun s => [(14, .int .i64 (s : Nat))]) (fun s => []) (fun mp s => s = mp ∧ s ≤ L2.length ∧ posR filCmp L2 z s = posR filCmp L2 z L2.length) (L2.length) (L2.length) ?_ ?_ ?_
          ·(try dsimp only) <;> (exact ⟨rfl, Nat.le_refl _, rfl⟩)
          ·refine Wk.toF ?_ ?_ ?_ ?_ ?_
           ·try simp only [keepL, memL, cond_true, cond_false, ↓reduceIte, reduceCtorEq, Nat.reduceEqDiff, List.cons_append, List.nil_append, puts, put]
            repeat (first | exact trivial | (refine FLt.cons ?_ ?_; focus (first | exact Lt.refl _ | exact Lt.any _ | (refine lt_eq (congrArg (PV.int .i64) ?_); omega) | (refine lt_eq ?_; simp [h8, htk, h16, h40, h64, htkz, take_app, drop_app, take_snoc, take_mid]; done) | (refine lt_eq ?_; simp [h8, htk, h16, h40, h64, htkz, take_app, drop_app, take_snoc, take_mid] <;> omega))))
           ·try simp only [puts, put, ↓reduceIte, reduceCtorEq, Nat.reduceEqDiff]
            repeat (first | exact trivial | (refine ⟨⟨_, rfl, ?_⟩, ?_⟩; focus (first | exact BLt.refl _)))
           ·simp
           ·simp
           ·simp
          ·intro mp p hinv KL69 hKL69
           try dsimp only at hinv
           obtain ⟨hk2, hpl, hpos⟩ := hinv
           simp only [keepL, memL, cond_true, cond_false, ↓reduceIte, reduceCtorEq, Nat.reduceEqDiff, List.cons_append, List.nil_append, puts, put]
           refine pw_seq_k fun K70 hK70 => ?_
           refine pw_seq_k fun K71 hK71 => ?_
           refine pw_region_draw mix 0 ?_
           refine pEv_split 3 fun Kr72 hKr72 => ?_
           simp [sBinH, sBin, binop, take_app, drop_app, take_snoc, take_mid, h8, hx, hX, hw, htk, h16, h40, h64, hxz, hXz, hwz, htkz]
           apply hKr72; clear hKr72 Kr72
           refine pEv_guard _ rfl (fun hg73 => ?_) (fun hg73 => ?_)
           ·have hgb73 := eq_of_beq hg73
            try simp only [Bool.not_true, Bool.not_false] at hgb73
            try simp at hg73
            obtain ⟨y, hy, hY⟩ := getN2 (l := L2) (k := p - 1) (by omega)
            have hw1 := wrap_i64 (n := (p : Int) - 1) (by omega) (by omega)
            have ht1 : ((p : Int) - 1).toNat = p - 1 := by omega
            have hb1 : (1 : Int) ≤ (p : Int) := by omega
            have hb2 : 1 ≤ p := by omega
            have hb3 : (p : Int) - 1 < (L2.length : Int) := by omega
            refine pEv_split 4 fun Kr74 hKr74 => ?_
            simp [take_app, drop_app, take_snoc, take_mid, h8, hx, hX, hw, htk, h16, h40, h64, hxz, hXz, hwz, htkz, hg73, hgb73, hy, hY, hw1, ht1, hb1, hb2, hb3]
            apply hKr74; clear hKr74 Kr74
            refine pEv_split 4 fun Kr75 hKr75 => ?_
            simp [sBinH, sBin, binop, take_app, drop_app, take_snoc, take_mid, h8, hx, hX, hw, htk, h16, h40, h64, hxz, hXz, hwz, htkz, hg73, hgb73, hy, hY, hw1, ht1, hb1, hb2, hb3]
            apply hKr75; clear hKr75 Kr75
            refine pEv_split 1 fun Kr76 hKr76 => ?_
            simp [take_app, drop_app, take_snoc, take_mid, h8, hx, hX, hw, htk, h16, h40, h64, hxz, hXz, hwz, htkz, hg73, hgb73, hy, hY, hw1, ht1, hb1, hb2, hb3]
            apply hKr76; clear hKr76 Kr76
            refine pEv_call' rfl rfl rfl (call_pure (kcmp_pf _ _) en37 (by simp) _) ?_
            simp [sBinH, sBin, binop, take_app, drop_app, take_snoc, take_mid, h8, hx, hX, hw, htk, h16, h40, h64, hxz, hXz, hwz, htkz, hg73, hgb73, hy, hY, hw1, ht1, hb1, hb2, hb3]
            refine ⟨by decide +kernel, ?_⟩
            apply hK71; try clear hK71 K71
            refine pw_keep [2, 3, 13, 14, 16, 17, 18, 107, 108, 109, 130] ?_
            simp only [keepL, memL, cond_true, cond_false, ↓reduceIte, reduceCtorEq, Nat.reduceEqDiff]
            refine pw_cond _ rfl (fun h77 => ?_) (fun h77 => ?_)
            ·try simp at h77
             have hlt : filCmp z y < 0 := h77
             refine pw_skip ?_
             try simp only [thenP, inBlockP]
             apply hK70; try clear hK70 K70
             refine pw_block ?_
             refine pw_region 0 ?_
             simp [sBinH, sBin, binop, take_app, drop_app, take_snoc, take_mid, h8, hx, hX, hw, htk, h16, h40, h64, hxz, hXz, hwz, htkz, hg73, hgb73, hy, hY, hw1, ht1, hb1, hb2, hb3, h77]
             refine hKL69 _ (mp - 1) (p - 1) ?_ ?_ ?_
             ·omega
             ·(try dsimp only) <;> (exact ⟨by omega, by omega, posR_step hpos (by omega) hy hlt⟩)
             ·refine Wk.toF ?_ ?_ ?_ ?_ ?_
              ·try simp only [keepL, memL, cond_true, cond_false, ↓reduceIte, reduceCtorEq, Nat.reduceEqDiff, List.cons_append, List.nil_append, puts, put]
               repeat (first | exact trivial | (refine FLt.cons ?_ ?_; focus (first | exact Lt.refl _ | exact Lt.any _ | (refine lt_eq (congrArg (PV.int .i64) ?_); omega) | (refine lt_eq ?_; simp [h8, htk, h16, h40, h64, htkz, hg73, hgb73, h77, take_app, drop_app, take_snoc, take_mid]; done) | (refine lt_eq ?_; simp [h8, htk, h16, h40, h64, htkz, hg73, hgb73, h77, take_app, drop_app, take_snoc, take_mid] <;> omega))))
              ·try simp only [puts, put, ↓reduceIte, reduceCtorEq, Nat.reduceEqDiff]
               repeat (first | exact trivial | (refine ⟨⟨_, rfl, ?_⟩, ?_⟩; focus (first | exact BLt.refl _)))
              ·simp
              ·simp
              ·simp
            ·try simp at h77
             have hp := posR_stop hpos (by omega) hy (show ¬ filCmp z y < 0 by unfold filCmp; omega)
             refine pw_exit ?_
             simp [thenP, inBlockP]
             apply hK68; try clear hK68 K68
             refine Wk.toF ?_ ?_ ?_ ?_ ?_
             ·try simp only [keepL, memL, cond_true, cond_false, ↓reduceIte, reduceCtorEq, Nat.reduceEqDiff, List.cons_append, List.nil_append, puts, put]
              repeat (first | exact trivial | (refine FLt.cons ?_ ?_; focus (first | exact Lt.refl _ | exact Lt.any _ | (refine lt_eq (congrArg (PV.int .i64) ?_); omega) | (refine lt_eq ?_; simp [h8, htk, h16, h40, h64, htkz, hg73, hgb73, h77, take_app, drop_app, take_snoc, take_mid]; done) | (refine lt_eq ?_; simp [h8, htk, h16, h40, h64, htkz, hg73, hgb73, h77, take_app, drop_app, take_snoc, take_mid] <;> omega))))
             ·try simp only [puts, put, ↓reduceIte, reduceCtorEq, Nat.reduceEqDiff]
              repeat (first | exact trivial | (refine ⟨⟨_, rfl, ?_⟩, ?_⟩; focus (first | exact BLt.refl _)))
             ·simp
             ·simp
             ·simp
           ·have hgb73 := beq_off hg73
            try simp only [Bool.not_true, Bool.not_false] at hgb73
            try simp at hg73
            have hp := posR_zero hpos (by omega)
            refine pEv_split 4 fun Kr78 hKr78 => ?_
            simp [take_app, drop_app, take_snoc, take_mid, h8, hx, hX, hw, htk, h16, h40, h64, hxz, hXz, hwz, htkz, hg73, hgb73]
            apply hKr78; clear hKr78 Kr78
            refine pEv_split 4 fun Kr79 hKr79 => ?_
            simp [sBinH, sBin, binop, take_app, drop_app, take_snoc, take_mid, h8, hx, hX, hw, htk, h16, h40, h64, hxz, hXz, hwz, htkz, hg73, hgb73]
            apply hKr79; clear hKr79 Kr79
            simp [sBinH, sBin, binop, take_app, drop_app, take_snoc, take_mid, h8, hx, hX, hw, htk, h16, h40, h64, hxz, hXz, hwz, htkz, hg73, hgb73]
            refine ⟨by decide +kernel, ?_⟩
            apply hK71; try clear hK71 K71
            refine pw_keep [2, 3, 13, 14, 16, 17, 18, 107, 108, 109, 130] ?_
            simp only [keepL, memL, cond_true, cond_false, ↓reduceIte, reduceCtorEq, Nat.reduceEqDiff]
            refine pw_cond _ rfl (fun h80 => ?_) (fun h80 => ?_)
            ·simp at h80
            ·clear h80
             refine pw_exit ?_
             simp [thenP, inBlockP]
             apply hK68; try clear hK68 K68
             refine Wk.toF ?_ ?_ ?_ ?_ ?_
             ·try simp only [keepL, memL, cond_true, cond_false, ↓reduceIte, reduceCtorEq, Nat.reduceEqDiff, List.cons_append, List.nil_append, puts, put]
              repeat (first | exact trivial | (refine FLt.cons ?_ ?_; focus (first | exact Lt.refl _ | exact Lt.any _ | (refine lt_eq (congrArg (PV.int .i64) ?_); omega) | (refine lt_eq ?_; simp [h8, htk, h16, h40, h64, htkz, hg73, hgb73, take_app, drop_app, take_snoc, take_mid]; done) | (refine lt_eq ?_; simp [h8, htk, h16, h40, h64, htkz, hg73, hgb73, take_app, drop_app, take_snoc, take_mid] <;> omega))))
             ·try simp only [puts, put, ↓reduceIte, reduceCtorEq, Nat.reduceEqDiff]
              repeat (first | exact trivial | (refine ⟨⟨_, rfl, ?_⟩, ?_⟩; focus (first | exact BLt.refl _)))
             ·simp
             ·simp
             ·simp
         ·simp only [keepL, memL, cond_true, cond_false, ↓reduceIte, reduceCtorEq, Nat.reduceEqDiff, List.cons_append, List.nil_append, puts, put]
          have hple : p0 ≤ L2.length := by rw [hp0]; exact posR_le _ _ _ _
          obtain ⟨A, B, rfl, rfl⟩ := cut_at L2 p0 hple
          have hAB : A.length + B.length < 1000000 := by simp at hlj2; omega
          have hpu : putR filCmp (A ++ B) z = A ++ z :: B := putR_cut hp0
          have hbz0 : (A.length + 1 + B.length) * 56 ≤ 140737488355328 := by omega
          have hbz1 : A.length * 56 ≤ 140737488355328 := by omega
          have hbz2 : (A.length + 1) * 56 ≤ 140737488355328 := by omega
          have hbm0 : A.length + 1 + B.length ≤ 9223372036854775807 := by omega
          have hbm1 : A.length ≤ 9223372036854775807 := by omega
          have hbm2 : A.length + 1 ≤ 9223372036854775807 := by omega
          refine pw_region_draw mix 0 ?_
          refine pEv_split 4 fun Kr81 hKr81 => ?_
          simp [take_app, drop_app, take_snoc, take_mid, h8, hx, hX, hw, htk, h16, h40, h64, hxz, hXz, hwz, htkz, hbz0, hbz1, hbz2, hbm0, hbm1, hbm2]
          apply hKr81; clear hKr81 Kr81
          refine pEv_split 4 fun Kr82 hKr82 => ?_
          simp [take_app, drop_app, take_snoc, take_mid, h8, hx, hX, hw, htk, h16, h40, h64, hxz, hXz, hwz, htkz, hbz0, hbz1, hbz2, hbm0, hbm1, hbm2]
          apply hKr82; clear hKr82 Kr82
          refine pEv_split 4 fun Kr83 hKr83 => ?_
          simp [take_app, drop_app, take_snoc, take_mid, h8, hx, hX, hw, htk, h16, h40, h64, hxz, hXz, hwz, htkz, hbz0, hbz1, hbz2, hbm0, hbm1, hbm2]
          apply hKr83; clear hKr83 Kr83
          simp [take_app, drop_app, take_snoc, take_mid, h8, hx, hX, hw, htk, h16, h40, h64, hxz, hXz, hwz, htkz, hbz0, hbz1, hbz2, hbm0, hbm1, hbm2]
          refine ⟨by decide +kernel, ?_⟩
          apply hK65; try clear hK65 K65
          refine pw_keep [2, 3, 16, 17, 18, 107, 108, 109] ?_
          simp only [keepL, memL, cond_true, cond_false, ↓reduceIte, reduceCtorEq, Nat.reduceEqDiff]
          refine pw_region 0 ?_
          simp [sBinH, sBin, binop, take_app, drop_app, take_snoc, take_mid, h8, hx, hX, hw, htk, h16, h40, h64, hxz, hXz, hwz, htkz, hbz0, hbz1, hbz2, hbm0, hbm1, hbm2]
          refine hKL61 _ (mj - 1) (j + 1, A ++ z :: B) ?_ ?_ ?_
          ·omega
          ·(try dsimp only) <;> (exact ⟨by omega, by rw [hdrz, List.foldl_cons, hpu] at hfj2; exact hfj2, by simp at hlj2 ⊢; omega⟩)
          ·refine Wk.trans (Wk.freeze (b := 133) rfl) ?_
           refine Wk.toF ?_ ?_ ?_ ?_ ?_
           ·try simp only [keepL, memL, cond_true, cond_false, ↓reduceIte, reduceCtorEq, Nat.reduceEqDiff, List.cons_append, List.nil_append, puts, put]
            repeat (first | exact trivial | (refine FLt.cons ?_ ?_; focus (first | exact Lt.refl _ | exact Lt.any _ | exact Lt.nilsl _ | (refine lt_frozB rfl rfl rfl rfl ?_ ?_ ?_ <;> (first | rfl | (simp [h8, htk, h16, h40, h64, htkz, take_app, drop_app, take_snoc, take_mid]; done) | (simp [h8, htk, h16, h40, h64, htkz, take_app, drop_app, take_snoc, take_mid] <;> omega)); done) | (refine lt_eq (congrArg (PV.int .i64) ?_); omega) | (refine lt_eq ?_; simp [h8, htk, h16, h40, h64, htkz, take_app, drop_app, take_snoc, take_mid]; done) | (refine lt_eq ?_; simp [h8, htk, h16, h40, h64, htkz, take_app, drop_app, take_snoc, take_mid] <;> omega))))
           ·try simp only [puts, put, ↓reduceIte, reduceCtorEq, Nat.reduceEqDiff]
            repeat (first | exact trivial | (refine ⟨⟨_, rfl, ?_⟩, ?_⟩; focus (first | exact BLt.refl _ | (refine BLt.of_eq ?_; simp [h8, htk, h16, h40, h64, htkz, take_app, drop_app, take_snoc, take_mid]; done) | (refine BLt.of_eq ?_; simp [h8, htk, h16, h40, h64, htkz, take_app, drop_app, take_snoc, take_mid] <;> omega) | (refine BLt.one ?_; (repeat (first | exact LtL.nil | (refine LtL.cons ?_ ?_; focus (first | exact Lt.refl _ | exact Lt.any _ | exact Lt.nilsl _ | (refine lt_frozB rfl rfl rfl rfl ?_ ?_ ?_ <;> (first | rfl | (simp [h8, htk, h16, h40, h64, htkz, take_app, drop_app, take_snoc, take_mid]; done) | (simp [h8, htk, h16, h40, h64, htkz, take_app, drop_app, take_snoc, take_mid] <;> omega)); done) | (refine lt_eq (congrArg (PV.int .i64) ?_); omega) | (refine lt_eq ?_; simp [h8, htk, h16, h40, h64, htkz, take_app, drop_app, take_snoc, take_mid]; done) | (refine lt_eq ?_; simp [h8, htk, h16, h40, h64, htkz, take_app, drop_app, take_snoc, take_mid] <;> omega))))); done))))
           ·simp
           ·simp
           ·simp
        ·try simp at h64
         have he2 : x.filters.foldl (putR filCmp) L = L2 := by rw [← hfj2, drop_end (by omega)]; rfl
         refine pw_exit ?_
         simp [thenP, inBlockP]
         apply hK9; try clear hK9 K9
         refine pw_keep [2, 3, 16, 17, 18] ?_
         simp only [keepL, memL, cond_true, cond_false, ↓reduceIte, reduceCtorEq, Nat.reduceEqDiff]
         refine pw_region 0 ?_
         simp [sBinH, sBin, binop, take_app, drop_app, take_snoc, take_mid, h8, hx, hX, hw, htk, h16, h40, h64]
         refine hKL5 _ (m - 1) (i + 1, F2, G2, L2) ?_ ?_ ?_
         ·omega
         ·(try dsimp only) <;> (exact ⟨by omega, ⟨by rw [List.foldl_append, he0] at hF; exact hF, by omega⟩, ⟨by rw [List.foldl_append, he1] at hG; exact hG, by omega⟩, ⟨by rw [List.foldl_append, he2] at hL; exact hL, by omega⟩⟩)
         ·refine Wk.toF ?_ ?_ ?_ ?_ ?_
          ·try simp only [keepL, memL, cond_true, cond_false, ↓reduceIte, reduceCtorEq, Nat.reduceEqDiff, List.cons_append, List.nil_append, puts, put]
           repeat (first | exact trivial | (refine FLt.cons ?_ ?_; focus (first | exact Lt.refl _ | exact Lt.any _ | exact Lt.nilsl _ | (refine lt_frozB rfl rfl rfl rfl ?_ ?_ ?_ <;> (first | rfl | (simp [h8, htk, h16, h40, h64, take_app, drop_app, take_snoc, take_mid]; done) | (simp [h8, htk, h16, h40, h64, take_app, drop_app, take_snoc, take_mid] <;> omega)); done) | (refine lt_eq (congrArg (PV.int .i64) ?_); omega) | (refine lt_eq ?_; simp [h8, htk, h16, h40, h64, take_app, drop_app, take_snoc, take_mid]; done) | (refine lt_eq ?_; simp [h8, htk, h16, h40, h64, take_app, drop_app, take_snoc, take_mid] <;> omega))))
          ·try simp only [puts, put, ↓reduceIte, reduceCtorEq, Nat.reduceEqDiff]
           repeat (first | exact trivial | (refine ⟨⟨_, rfl, ?_⟩, ?_⟩; focus (first | exact BLt.refl _ | (refine BLt.of_eq ?_; simp [h8, htk, h16, h40, h64, take_app, drop_app, take_snoc, take_mid]; done) | (refine BLt.of_eq ?_; simp [h8, htk, h16, h40, h64, take_app, drop_app, take_snoc, take_mid] <;> omega) | (refine BLt.one ?_; (repeat (first | exact LtL.nil | (refine LtL.cons ?_ ?_; focus (first | exact Lt.refl _ | exact Lt.any _ | exact Lt.nilsl _ | (refine lt_frozB rfl rfl rfl rfl ?_ ?_ ?_ <;> (first | rfl | (simp [h8, htk, h16, h40, h64, take_app, drop_app, take_snoc, take_mid]; done) | (simp [h8, htk, h16, h40, h64, take_app, drop_app, take_snoc, take_mid] <;> omega)); done) | (refine lt_eq (congrArg (PV.int .i64) ?_); omega) | (refine lt_eq ?_; simp [h8, htk, h16, h40, h64, take_app, drop_app, take_snoc, take_mid]; done) | (refine lt_eq ?_; simp [h8, htk, h16, h40, h64, take_app, drop_app, take_snoc, take_mid] <;> omega))))); done))))
          ·simp
          ·simp
          ·simp
  ·try simp at h8
   rw [drop_end (by omega)] at hF hG hL
   have hfin : (joinRows l).pv = .agg [.sl 26 (F.map NFront.pv), .sl 8 (G.map NGroup.pv), .sl 3 (L.map NFilter.pv)] := by simp only [List.flatMap_nil, List.foldl_nil] at hF hG hL; rw [hF, hG, hL]; rfl
   refine pw_exit ?_
   simp [thenP, inBlockP]
   apply hK3; try clear hK3 K3
   refine pw_keep [2, 3] ?_
   simp only [keepL, memL, cond_true, cond_false, ↓reduceIte, reduceCtorEq, Nat.reduceEqDiff]
   refine pw_seq_k fun K84 hK84 => ?_
   refine pw_region 0 ?_
   simp [take_app, drop_app, take_snoc, take_mid, h8]
   apply hK84; try clear hK84 K84
   refine pw_ret ?_
   try simp only [thenP, inBlockP]
   refine bodyQ_ex (by first | exact .inl rfl | exact .inr rfl) ?_
   simp only [resL, resVL, lk, sLoad, boxArr, find_cons, Try.func23, Try.results23, ty56, ↓reduceIte, reduceCtorEq, Nat.reduceLT, Nat.reduceEqDiff, Option.map_some, Option.bind_some, Option.some.injEq, exists_eq_left', List.getElem?_cons_zero, ld_agg_t, ld_int, ld_bool, ld_str, ld_sl, ld_bsl, ld_nils, List.length_cons, List.length_nil, Nat.reduceAdd, Nat.reduceLeDiff, List.take_succ_cons, List.take_zero, List.drop_zero, and_self, true_and, Nat.le_refl, Nat.zero_add, NAddr.ld, NCidr.ld, NPoint.ld, NKey.ld, NFront.ld, NId.ld, NFilter.ld, NTable.ld, NGroup.ld, NRows.ld]
   first | exact hfin.symm | (rw [hfin]; done) | (rw [hfin]; simp [lk]; done)

end Pv
