import Derived.Test.YtkbghhholjfgfaaGF
set_option linter.unusedSimpArgs false
set_option linter.unusedVariables false
namespace Pv
open Go Go.Proofs
attribute [local simp] Body.ren Body.withinB Box.ren List.drop_succ_cons List.map_set List.take_succ_cons PV.ren PV.within PV.within.go Try.underlying58 Try.underlying64 Try.underlying65 boundOf boxArr co26 co3 co30 co5 co60 co64 co65 co69 co98 cur el22 el46 el47 el48 el58 el64 el65 ev_const ev_fr ev_func ev_glob find_cons find_nil fl24_0 fl24_1 fl26_0 fl26_1 fl28_0 fl28_1 fl30_0 fl30_1 fl30_2 fl30_3 fl30_4 fl30_5 fl30_6 fl30_7 fl32_0 fl32_1 fl32_2 fl32_3 fl36_0 fl36_1 fl36_2 fl36_3 fl36_4 fl36_5 fl36_6 fl36_7 fl37_0 fl37_1 fl37_2 fl37_3 fl60_0 fl60_1 fl63_0 fl63_1 fl67_0 fl67_1 fl67_2 fl69_0 fl69_1 fl72_0 fl72_1 fl72_2 fl74_0 fl74_1 fr_get' fstep genOf guardDec inBlockP inH keepL keys layFields layParts lk maxLen memL newBox ofConst ofScalar pEv pEv0 part' put puts renL sAlloc sAppend sAppend.srcOf sBox sBuild sBuildSlice sFieldAddr sIndexAddr sLen sLoad sSlice sStore setD_fr setD_none setc_agg shR_d shR_r splice st67 take_map_len thenP ty24 ty26 ty28 ty3 ty30 ty32 ty36 ty37 ty4 ty5 ty58 ty60 ty63 ty64 ty65 ty67 ty69 ty74 ty9 ty98 upF withinB_arr
set_option maxRecDepth 100000 in
set_option maxHeartbeats 4000000 in
theorem isNaNi_pf (a : Int) : PFun Try.prog 63 [.int .i64 a] (.bool false) := by
 refine PFun.of_bodyF (by simp) Try.func63 rfl 6 rfl (by simp) fun c0 => ?_
 simp only [argL, Nat.reduceAdd]
 refine pw_seq_k fun K1 hK1 => ?_
 refine pw_region 0 ?_
 simp
 apply hK1; try clear hK1 K1
 refine pw_seq_k fun K2 hK2 => ?_
 refine pw_region 0 ?_
 simp [sBinH, sBin, binop]
 apply hK2; try clear hK2 K2
 refine pw_keep [2] ?_
 simp only [keepL, memL, cond_true, cond_false, ↓reduceIte, reduceCtorEq, Nat.reduceEqDiff]
 refine pw_ret ?_
 try simp only [thenP, inBlockP]
 refine bodyQ_fr (by first | exact .inl rfl | exact .inr rfl) _ rfl ?_
 first | rfl | (simp [lk]; done) | (simp [lk] <;> omega) | ((try clear hK2 K2); (try clear hK1 K1); simp_all [lk]; done)

set_option maxRecDepth 100000 in
set_option maxHeartbeats 4000000 in
theorem isNaNs_pf (a : ByteArray) : PFun Try.prog 66 [.str a] (.bool false) := by
 refine PFun.of_bodyF (by simp) Try.func66 rfl 6 rfl (by simp) fun c0 => ?_
 simp only [argL, Nat.reduceAdd]
 refine pw_seq_k fun K1 hK1 => ?_
 refine pw_region 0 ?_
 simp
 apply hK1; try clear hK1 K1
 refine pw_seq_k fun K2 hK2 => ?_
 refine pw_region 0 ?_
 simp [sBinH, sBin, binop]
 apply hK2; try clear hK2 K2
 refine pw_keep [2] ?_
 simp only [keepL, memL, cond_true, cond_false, ↓reduceIte, reduceCtorEq, Nat.reduceEqDiff]
 refine pw_ret ?_
 try simp only [thenP, inBlockP]
 refine bodyQ_fr (by first | exact .inl rfl | exact .inr rfl) _ rfl ?_
 first | rfl | (simp [lk]; done) | (simp [lk] <;> omega) | ((try clear hK2 K2); (try clear hK1 K1); simp_all [lk]; done)

set_option maxRecDepth 100000 in
set_option maxHeartbeats 4000000 in
theorem cmpI_pf (a b : Int) : PFun Try.prog 31 [.int .i64 a, .int .i64 b] (.int .i64 (cmpI a b)) := by
 refine PFun.of_bodyF (by simp) Try.func31 rfl 20 rfl (by simp) fun c0 => ?_
 simp only [argL, Nat.reduceAdd]
 refine pw_seq_k fun K1 hK1 => ?_
 refine pw_region 0 ?_
 simp
 apply hK1; try clear hK1 K1
 refine pw_seq_k fun K2 hK2 => ?_
 refine pw_region 0 ?_
 refine pEv0_split 1 fun Kr3 hKr3 => ?_
 simp
 apply hKr3; clear hKr3 Kr3
 refine pEv0_call' rfl rfl rfl (call_pure (isNaNi_pf _) en63 (by simp) _) ?_
 simp
 apply hK2; try clear hK2 K2
 refine pw_seq_k fun K4 hK4 => ?_
 refine pw_region 0 ?_
 refine pEv0_split 1 fun Kr5 hKr5 => ?_
 simp
 apply hKr5; clear hKr5 Kr5
 refine pEv0_call' rfl rfl rfl (call_pure (isNaNi_pf _) en63 (by simp) _) ?_
 simp
 apply hK4; try clear hK4 K4
 refine pw_keep [0, 1, 5, 6] ?_
 simp only [keepL, memL, cond_true, cond_false, ↓reduceIte, reduceCtorEq, Nat.reduceEqDiff]
 refine pw_seq_k fun K6 hK6 => ?_
 refine pw_seq_k fun K7 hK7 => ?_
 refine pw_region 0 ?_
 simp
 apply hK7; try clear hK7 K7
 refine pw_cond _ rfl (fun h8 => ?_) (fun h8 => ?_)
 ·simp at h8
 ·clear h8
  refine pw_skip ?_
  try simp only [thenP, inBlockP]
  apply hK6; try clear hK6 K6
  refine pw_seq_k fun K9 hK9 => ?_
  refine pw_seq_k fun K10 hK10 => ?_
  refine pw_region 0 ?_
  simp
  apply hK10; try clear hK10 K10
  refine pw_cond _ rfl (fun h11 => ?_) (fun h11 => ?_)
  ·simp at h11
  ·clear h11
   refine pw_skip ?_
   try simp only [thenP, inBlockP]
   apply hK9; try clear hK9 K9
   refine pw_keep [0, 1] ?_
   simp only [keepL, memL, cond_true, cond_false, ↓reduceIte, reduceCtorEq, Nat.reduceEqDiff]
   refine pw_seq_k fun K12 hK12 => ?_
   refine pw_seq_k fun K13 hK13 => ?_
   refine pw_region 0 ?_
   simp [sBinH, sBin, binop]
   apply hK13; try clear hK13 K13
   refine pw_cond _ rfl (fun h14 => ?_) (fun h14 => ?_)
   ·try simp at h14
    refine pw_seq_k fun K15 hK15 => ?_
    refine pw_region 0 ?_
    simp [h14]
    apply hK15; try clear hK15 K15
    refine pw_keep [4] ?_
    simp only [keepL, memL, cond_true, cond_false, ↓reduceIte, reduceCtorEq, Nat.reduceEqDiff]
    refine pw_ret ?_
    try simp only [thenP, inBlockP]
    refine bodyQ_fr (by first | exact .inl rfl | exact .inr rfl) _ rfl ?_
    first | rfl | (simp [lk, cmpI, h14]; done) | (simp [lk, cmpI, h14] <;> omega) | ((try clear hK15 K15); (try clear hK13 K13); (try clear hK12 K12); (try clear hK10 K10); (try clear hK9 K9); (try clear hK7 K7); (try clear hK6 K6); (try clear hK4 K4); (try clear hK2 K2); (try clear hK1 K1); simp_all [lk, cmpI]; done)
   ·try simp at h14
    refine pw_skip ?_
    try simp only [thenP, inBlockP]
    apply hK12; try clear hK12 K12
    refine pw_seq_k fun K16 hK16 => ?_
    refine pw_seq_k fun K17 hK17 => ?_
    refine pw_region 0 ?_
    simp [sBinH, sBin, binop, h14]
    apply hK17; try clear hK17 K17
    refine pw_keep [19] ?_
    simp only [keepL, memL, cond_true, cond_false, ↓reduceIte, reduceCtorEq, Nat.reduceEqDiff]
    refine pw_cond _ rfl (fun h18 => ?_) (fun h18 => ?_)
    ·try simp at h18
     refine pw_seq_k fun K19 hK19 => ?_
     refine pw_region 0 ?_
     simp [h14, h18]
     apply hK19; try clear hK19 K19
     refine pw_ret ?_
     try simp only [thenP, inBlockP]
     refine bodyQ_fr (by first | exact .inl rfl | exact .inr rfl) _ rfl ?_
     first | rfl | (simp [lk, cmpI, h14, h18]; done) | (simp [lk, cmpI, h14, h18] <;> omega) | ((try clear hK19 K19); (try clear hK17 K17); (try clear hK16 K16); (try clear hK15 K15); (try clear hK13 K13); (try clear hK12 K12); (try clear hK10 K10); (try clear hK9 K9); (try clear hK7 K7); (try clear hK6 K6); (try clear hK4 K4); (try clear hK2 K2); (try clear hK1 K1); simp_all [lk, cmpI]; done)
    ·try simp at h18
     refine pw_skip ?_
     try simp only [thenP, inBlockP]
     apply hK16; try clear hK16 K16
     refine pw_seq_k fun K20 hK20 => ?_
     refine pw_region 0 ?_
     simp [h14, h18]
     apply hK20; try clear hK20 K20
     refine pw_ret ?_
     try simp only [thenP, inBlockP]
     refine bodyQ_fr (by first | exact .inl rfl | exact .inr rfl) _ rfl ?_
     first | rfl | (simp [lk, cmpI, h14, h18]; done) | (simp [lk, cmpI, h14, h18] <;> omega) | ((try clear hK20 K20); (try clear hK19 K19); (try clear hK17 K17); (try clear hK16 K16); (try clear hK15 K15); (try clear hK13 K13); (try clear hK12 K12); (try clear hK10 K10); (try clear hK9 K9); (try clear hK7 K7); (try clear hK6 K6); (try clear hK4 K4); (try clear hK2 K2); (try clear hK1 K1); simp_all [lk, cmpI]; done)

set_option maxRecDepth 100000 in
set_option maxHeartbeats 4000000 in
theorem cmpS_pf (a b : ByteArray) : PFun Try.prog 40 [.str a, .str b] (.int .i64 (cmpS a b)) := by
 refine PFun.of_bodyF (by simp) Try.func40 rfl 20 rfl (by simp) fun c0 => ?_
 simp only [argL, Nat.reduceAdd]
 refine pw_seq_k fun K1 hK1 => ?_
 refine pw_region 0 ?_
 simp
 apply hK1; try clear hK1 K1
 refine pw_seq_k fun K2 hK2 => ?_
 refine pw_region 0 ?_
 refine pEv0_split 1 fun Kr3 hKr3 => ?_
 simp
 apply hKr3; clear hKr3 Kr3
 refine pEv0_call' rfl rfl rfl (call_pure (isNaNs_pf _) en66 (by simp) _) ?_
 simp
 apply hK2; try clear hK2 K2
 refine pw_seq_k fun K4 hK4 => ?_
 refine pw_region 0 ?_
 refine pEv0_split 1 fun Kr5 hKr5 => ?_
 simp
 apply hKr5; clear hKr5 Kr5
 refine pEv0_call' rfl rfl rfl (call_pure (isNaNs_pf _) en66 (by simp) _) ?_
 simp
 apply hK4; try clear hK4 K4
 refine pw_keep [0, 1, 5, 6] ?_
 simp only [keepL, memL, cond_true, cond_false, ↓reduceIte, reduceCtorEq, Nat.reduceEqDiff]
 refine pw_seq_k fun K6 hK6 => ?_
 refine pw_seq_k fun K7 hK7 => ?_
 refine pw_region 0 ?_
 simp
 apply hK7; try clear hK7 K7
 refine pw_cond _ rfl (fun h8 => ?_) (fun h8 => ?_)
 ·simp at h8
 ·clear h8
  refine pw_skip ?_
  try simp only [thenP, inBlockP]
  apply hK6; try clear hK6 K6
  refine pw_seq_k fun K9 hK9 => ?_
  refine pw_seq_k fun K10 hK10 => ?_
  refine pw_region 0 ?_
  simp
  apply hK10; try clear hK10 K10
  refine pw_cond _ rfl (fun h11 => ?_) (fun h11 => ?_)
  ·simp at h11
  ·clear h11
   refine pw_skip ?_
   try simp only [thenP, inBlockP]
   apply hK9; try clear hK9 K9
   refine pw_keep [0, 1] ?_
   simp only [keepL, memL, cond_true, cond_false, ↓reduceIte, reduceCtorEq, Nat.reduceEqDiff]
   refine pw_seq_k fun K12 hK12 => ?_
   refine pw_seq_k fun K13 hK13 => ?_
   refine pw_region 0 ?_
   simp [sBinH, sBin, binop]
   apply hK13; try clear hK13 K13
   refine pw_cond _ rfl (fun h14 => ?_) (fun h14 => ?_)
   ·try simp at h14
    refine pw_seq_k fun K15 hK15 => ?_
    refine pw_region 0 ?_
    simp [h14]
    apply hK15; try clear hK15 K15
    refine pw_keep [4] ?_
    simp only [keepL, memL, cond_true, cond_false, ↓reduceIte, reduceCtorEq, Nat.reduceEqDiff]
    refine pw_ret ?_
    try simp only [thenP, inBlockP]
    refine bodyQ_fr (by first | exact .inl rfl | exact .inr rfl) _ rfl ?_
    first | rfl | (simp [lk, cmpS, h14]; done) | (simp [lk, cmpS, h14] <;> omega) | ((try clear hK15 K15); (try clear hK13 K13); (try clear hK12 K12); (try clear hK10 K10); (try clear hK9 K9); (try clear hK7 K7); (try clear hK6 K6); (try clear hK4 K4); (try clear hK2 K2); (try clear hK1 K1); simp_all [lk, cmpS]; done)
   ·try simp at h14
    refine pw_skip ?_
    try simp only [thenP, inBlockP]
    apply hK12; try clear hK12 K12
    refine pw_seq_k fun K16 hK16 => ?_
    refine pw_seq_k fun K17 hK17 => ?_
    refine pw_region 0 ?_
    simp [sBinH, sBin, binop, h14]
    apply hK17; try clear hK17 K17
    refine pw_keep [19] ?_
    simp only [keepL, memL, cond_true, cond_false, ↓reduceIte, reduceCtorEq, Nat.reduceEqDiff]
    refine pw_cond _ rfl (fun h18 => ?_) (fun h18 => ?_)
    ·try simp at h18
     refine pw_seq_k fun K19 hK19 => ?_
     refine pw_region 0 ?_
     simp [h14, h18]
     apply hK19; try clear hK19 K19
     refine pw_ret ?_
     try simp only [thenP, inBlockP]
     refine bodyQ_fr (by first | exact .inl rfl | exact .inr rfl) _ rfl ?_
     first | rfl | (simp [lk, cmpS, h14, h18]; done) | (simp [lk, cmpS, h14, h18] <;> omega) | ((try clear hK19 K19); (try clear hK17 K17); (try clear hK16 K16); (try clear hK15 K15); (try clear hK13 K13); (try clear hK12 K12); (try clear hK10 K10); (try clear hK9 K9); (try clear hK7 K7); (try clear hK6 K6); (try clear hK4 K4); (try clear hK2 K2); (try clear hK1 K1); simp_all [lk, cmpS]; done)
    ·try simp at h18
     refine pw_skip ?_
     try simp only [thenP, inBlockP]
     apply hK16; try clear hK16 K16
     refine pw_seq_k fun K20 hK20 => ?_
     refine pw_region 0 ?_
     simp [h14, h18]
     apply hK20; try clear hK20 K20
     refine pw_ret ?_
     try simp only [thenP, inBlockP]
     refine bodyQ_fr (by first | exact .inl rfl | exact .inr rfl) _ rfl ?_
     first | rfl | (simp [lk, cmpS, h14, h18]; done) | (simp [lk, cmpS, h14, h18] <;> omega) | ((try clear hK20 K20); (try clear hK19 K19); (try clear hK17 K17); (try clear hK16 K16); (try clear hK15 K15); (try clear hK13 K13); (try clear hK12 K12); (try clear hK10 K10); (try clear hK9 K9); (try clear hK7 K7); (try clear hK6 K6); (try clear hK4 K4); (try clear hK2 K2); (try clear hK1 K1); simp_all [lk, cmpS]; done)

set_option maxRecDepth 100000 in
set_option maxHeartbeats 4000000 in
theorem or_pf0 (l : List Int) (hl : l.length < 2 ^ 31) : PFun Try.prog 29 [.sl 1 (l.map (.int .i64))] (.int .i64 (firstNZ l)) := by
 refine PFun.of_bodyF (by simp) Try.func29 rfl 18 rfl (by simp) fun c0 => ?_
 simp only [argL, Nat.reduceAdd]
 refine pw_seq_k fun K1 hK1 => ?_
 refine pw_region 0 ?_
 simp
 apply hK1; try clear hK1 K1
 refine pw_seq_k fun K2 hK2 => ?_
 refine pw_region 0 ?_
 simp
 apply hK2; try clear hK2 K2
 refine pw_seq_k fun K3 hK3 => ?_
 refine pw_seq_k fun K4 hK4 => ?_
 refine pw_region 0 ?_
 simp
 apply hK4; try clear hK4 K4
 refine pw_block ?_
 refine pw_loopF (α := Nat) [3, 6, 7] (fun s => [(8, .int .i64 (s : Nat))]) (fun s => []) (fun m s => s + m = l.length ∧ firstNZ (l.drop s) = firstNZ l) (l.length) (0) ?_ ?_ ?_
 ·(try dsimp only) <;> (simp)
 ·refine Wk.toF ?_ ?_ ?_ ?_ ?_
  ·try simp only [keepL, memL, cond_true, cond_false, ↓reduceIte, reduceCtorEq, Nat.reduceEqDiff, List.cons_append, List.nil_append, puts, put]
   repeat (first | exact trivial | (refine FLt.cons ?_ ?_; focus (first | exact Lt.refl _ | exact Lt.any _ | (refine lt_eq (congrArg (PV.int .i64) ?_); omega) | (refine lt_eq ?_; simp; done) | (refine lt_eq ?_; simp <;> omega))))
  ·try simp only [puts, put, ↓reduceIte, reduceCtorEq, Nat.reduceEqDiff]
   repeat (first | exact trivial | (refine ⟨⟨_, rfl, ?_⟩, ?_⟩; focus (first | exact BLt.refl _)))
  ·simp
  ·simp
  ·simp
 ·intro m a hinv KL5 hKL5
  try dsimp only at hinv
  obtain ⟨hk, hf⟩ := hinv
  simp only [keepL, memL, cond_true, cond_false, ↓reduceIte, reduceCtorEq, Nat.reduceEqDiff, List.cons_append, List.nil_append, puts, put]
  refine pw_seq_k fun K6 hK6 => ?_
  refine pw_region 0 ?_
  simp [sBinH, sBin, binop]
  apply hK6; try clear hK6 K6
  refine pw_seq_k fun K7 hK7 => ?_
  refine pw_cond _ rfl (fun h8 => ?_) (fun h8 => ?_)
  ·try simp at h8
   obtain ⟨x, hx⟩ := getN (l := l) (k := a) (by omega)
   have hw := wrap_i64 (n := (a : Int) + 1) (by omega) (by omega)
   refine pw_skip ?_
   try simp only [thenP, inBlockP]
   apply hK7; try clear hK7 K7
   refine pw_seq_k fun K9 hK9 => ?_
   refine pw_block ?_
   refine pw_seq_k fun K10 hK10 => ?_
   refine pw_region 0 ?_
   simp [h8, hx, hw]
   apply hK10; try clear hK10 K10
   refine pw_seq_k fun K11 hK11 => ?_
   refine pw_region 0 ?_
   simp [sBinH, sBin, binop, h8, hx, hw]
   apply hK11; try clear hK11 K11
   refine pw_keep [3, 5, 6, 7, 8, 14] ?_
   simp only [keepL, memL, cond_true, cond_false, ↓reduceIte, reduceCtorEq, Nat.reduceEqDiff]
   refine pw_cond _ rfl (fun h12 => ?_) (fun h12 => ?_)
   ·try simp at h12
    refine pw_seq_k fun K13 hK13 => ?_
    refine pw_region 0 ?_
    simp [h8, hx, hw, h12]
    apply hK13; try clear hK13 K13
    refine pw_keep [2] ?_
    simp only [keepL, memL, cond_true, cond_false, ↓reduceIte, reduceCtorEq, Nat.reduceEqDiff]
    refine pw_ret ?_
    try simp only [thenP, inBlockP]
    refine bodyQ_fr (by first | exact .inl rfl | exact .inr rfl) _ rfl ?_
    first | (simp [lk, ← hf, firstNZ]; done) | (rw [drop_get hx, firstNZ] at hf; simp_all [lk]; done)
   ·try simp at h12
    refine pw_skip ?_
    try simp only [thenP, inBlockP]
    apply hK9; try clear hK9 K9
    refine pw_region 0 ?_
    simp [sBinH, sBin, binop, h8, hx, hw, h12]
    refine hKL5 _ (m - 1) (a + 1) ?_ ?_ ?_
    ·omega
    ·(try dsimp only) <;> (exact ⟨by omega, by rw [← hf, drop_get hx, firstNZ, if_pos (by simp_all)]⟩)
    ·refine Wk.toF ?_ ?_ ?_ ?_ ?_
     ·try simp only [keepL, memL, cond_true, cond_false, ↓reduceIte, reduceCtorEq, Nat.reduceEqDiff, List.cons_append, List.nil_append, puts, put]
      repeat (first | exact trivial | (refine FLt.cons ?_ ?_; focus (first | exact Lt.refl _ | exact Lt.any _ | (refine lt_eq (congrArg (PV.int .i64) ?_); omega) | (refine lt_eq ?_; simp [h8, h12]; done) | (refine lt_eq ?_; simp [h8, h12] <;> omega))))
     ·try simp only [puts, put, ↓reduceIte, reduceCtorEq, Nat.reduceEqDiff]
      repeat (first | exact trivial | (refine ⟨⟨_, rfl, ?_⟩, ?_⟩; focus (first | exact BLt.refl _)))
     ·simp
     ·simp
     ·simp
  ·try simp at h8
   rw [drop_end (by omega)] at hf
   refine pw_exit ?_
   simp [thenP, inBlockP]
   apply hK3; try clear hK3 K3
   refine pw_keep [3] ?_
   simp only [keepL, memL, cond_true, cond_false, ↓reduceIte, reduceCtorEq, Nat.reduceEqDiff]
   refine pw_seq_k fun K14 hK14 => ?_
   refine pw_region 0 ?_
   simp [h8]
   apply hK14; try clear hK14 K14
   refine pw_ret ?_
   try simp only [thenP, inBlockP]
   refine bodyQ_fr (by first | exact .inl rfl | exact .inr rfl) _ rfl ?_
   first | (simp [lk, ← hf, firstNZ]; done) | (rw [drop_get hx, firstNZ] at hf; simp_all [lk]; done)
theorem or_pf (xs : List PV) (hx : xs.all isI = true) (hl : xs.length < 2 ^ 31) : PFun Try.prog 29 [.sl 1 xs] (.int .i64 (firstP xs)) := by
  obtain ⟨l, rfl⟩ := isI_ex hx
  rw [firstP_map]
  exact or_pf0 l (by simpa using hl)

set_option maxRecDepth 100000 in
set_option maxHeartbeats 4000000 in
theorem fst_pf0 (l : List Int) (hl : l.length < 2 ^ 31) : PFun Try.prog 33 [.sl 1 (l.map (.int .i64))] (.int .i64 (firstNZ l)) := by
 refine PFun.of_bodyF (by simp) Try.func33 rfl 15 rfl (by simp) fun c0 => ?_
 simp only [argL, Nat.reduceAdd]
 refine pw_seq_k fun K1 hK1 => ?_
 refine pw_region 0 ?_
 simp
 apply hK1; try clear hK1 K1
 refine pw_seq_k fun K2 hK2 => ?_
 refine pw_seq_k fun K3 hK3 => ?_
 refine pw_region 0 ?_
 simp
 apply hK3; try clear hK3 K3
 refine pw_block ?_
 refine pw_loopF (α := Nat) [5, 6] (fun s => [(7, .int .i64 (s : Nat))]) (fun s => []) (fun m s => s + m = l.length ∧ firstNZ (l.drop s) = firstNZ l) (l.length) (0) ?_ ?_ ?_
 ·(try dsimp only) <;> (simp)
 ·refine Wk.toF ?_ ?_ ?_ ?_ ?_
  ·try simp only [keepL, memL, cond_true, cond_false, ↓reduceIte, reduceCtorEq, Nat.reduceEqDiff, List.cons_append, List.nil_append, puts, put]
   repeat (first | exact trivial | (refine FLt.cons ?_ ?_; focus (first | exact Lt.refl _ | exact Lt.any _ | (refine lt_eq (congrArg (PV.int .i64) ?_); omega) | (refine lt_eq ?_; simp; done) | (refine lt_eq ?_; simp <;> omega))))
  ·try simp only [puts, put, ↓reduceIte, reduceCtorEq, Nat.reduceEqDiff]
   repeat (first | exact trivial | (refine ⟨⟨_, rfl, ?_⟩, ?_⟩; focus (first | exact BLt.refl _)))
  ·simp
  ·simp
  ·simp
 ·intro m a hinv KL4 hKL4
  try dsimp only at hinv
  obtain ⟨hk, hf⟩ := hinv
  simp only [keepL, memL, cond_true, cond_false, ↓reduceIte, reduceCtorEq, Nat.reduceEqDiff, List.cons_append, List.nil_append, puts, put]
  refine pw_seq_k fun K5 hK5 => ?_
  refine pw_region 0 ?_
  simp [sBinH, sBin, binop]
  apply hK5; try clear hK5 K5
  refine pw_seq_k fun K6 hK6 => ?_
  refine pw_cond _ rfl (fun h7 => ?_) (fun h7 => ?_)
  ·try simp at h7
   obtain ⟨x, hx⟩ := getN (l := l) (k := a) (by omega)
   have hw := wrap_i64 (n := (a : Int) + 1) (by omega) (by omega)
   refine pw_skip ?_
   try simp only [thenP, inBlockP]
   apply hK6; try clear hK6 K6
   refine pw_seq_k fun K8 hK8 => ?_
   refine pw_block ?_
   refine pw_seq_k fun K9 hK9 => ?_
   refine pw_region 0 ?_
   simp [h7, hx, hw]
   apply hK9; try clear hK9 K9
   refine pw_seq_k fun K10 hK10 => ?_
   refine pw_region 0 ?_
   simp [sBinH, sBin, binop, h7, hx, hw]
   apply hK10; try clear hK10 K10
   refine pw_keep [4, 5, 6, 7, 12] ?_
   simp only [keepL, memL, cond_true, cond_false, ↓reduceIte, reduceCtorEq, Nat.reduceEqDiff]
   refine pw_cond _ rfl (fun h11 => ?_) (fun h11 => ?_)
   ·try simp at h11
    refine pw_seq_k fun K12 hK12 => ?_
    refine pw_region 0 ?_
    simp [h7, hx, hw, h11]
    apply hK12; try clear hK12 K12
    refine pw_keep [2] ?_
    simp only [keepL, memL, cond_true, cond_false, ↓reduceIte, reduceCtorEq, Nat.reduceEqDiff]
    refine pw_ret ?_
    try simp only [thenP, inBlockP]
    refine bodyQ_fr (by first | exact .inl rfl | exact .inr rfl) _ rfl ?_
    first | (simp [lk, ← hf, firstNZ]; done) | (rw [drop_get hx, firstNZ] at hf; simp_all [lk]; done)
   ·try simp at h11
    refine pw_skip ?_
    try simp only [thenP, inBlockP]
    apply hK8; try clear hK8 K8
    refine pw_region 0 ?_
    simp [sBinH, sBin, binop, h7, hx, hw, h11]
    refine hKL4 _ (m - 1) (a + 1) ?_ ?_ ?_
    ·omega
    ·(try dsimp only) <;> (exact ⟨by omega, by rw [← hf, drop_get hx, firstNZ, if_pos (by simp_all)]⟩)
    ·refine Wk.toF ?_ ?_ ?_ ?_ ?_
     ·try simp only [keepL, memL, cond_true, cond_false, ↓reduceIte, reduceCtorEq, Nat.reduceEqDiff, List.cons_append, List.nil_append, puts, put]
      repeat (first | exact trivial | (refine FLt.cons ?_ ?_; focus (first | exact Lt.refl _ | exact Lt.any _ | (refine lt_eq (congrArg (PV.int .i64) ?_); omega) | (refine lt_eq ?_; simp [h7, h11]; done) | (refine lt_eq ?_; simp [h7, h11] <;> omega))))
     ·try simp only [puts, put, ↓reduceIte, reduceCtorEq, Nat.reduceEqDiff]
      repeat (first | exact trivial | (refine ⟨⟨_, rfl, ?_⟩, ?_⟩; focus (first | exact BLt.refl _)))
     ·simp
     ·simp
     ·simp
  ·try simp at h7
   rw [drop_end (by omega)] at hf
   refine pw_exit ?_
   simp [thenP, inBlockP]
   apply hK2; try clear hK2 K2
   refine pw_keep [] ?_
   simp only [keepL, memL, cond_true, cond_false, ↓reduceIte, reduceCtorEq, Nat.reduceEqDiff]
   refine pw_seq_k fun K13 hK13 => ?_
   refine pw_region 0 ?_
   simp [h7]
   apply hK13; try clear hK13 K13
   refine pw_ret ?_
   try simp only [thenP, inBlockP]
   refine bodyQ_fr (by first | exact .inl rfl | exact .inr rfl) _ rfl ?_
   first | (simp [lk, ← hf, firstNZ]; done) | (rw [drop_get hx, firstNZ] at hf; simp_all [lk]; done)
theorem fst_pf (xs : List PV) (hx : xs.all isI = true) (hl : xs.length < 2 ^ 31) : PFun Try.prog 33 [.sl 1 xs] (.int .i64 (firstP xs)) := by
  obtain ⟨l, rfl⟩ := isI_ex hx
  rw [firstP_map]
  exact fst_pf0 l (by simpa using hl)

set_option maxRecDepth 100000 in
set_option maxHeartbeats 4000000 in
theorem ncmp_pf (a b : NKey) : PFun Try.prog 39 [a.pv, b.pv] (.int .i64 (keyCmp a b)) := by
 refine PFun.of_bodyF (by simp) Try.func39 rfl 17 rfl (by simp) fun c0 => ?_
 simp only [argL, Nat.reduceAdd]
 refine pw_seq_k fun K1 hK1 => ?_
 refine pw_region 0 ?_
 simp
 apply hK1; try clear hK1 K1
 refine pw_seq_k fun K2 hK2 => ?_
 refine pw_region_draw mix 0 ?_
 refine pEv_split 4 fun Kr3 hKr3 => ?_
 simp
 apply hKr3; clear hKr3 Kr3
 refine pEv_call' rfl rfl rfl (call_pure (cmpS_pf _ _) en40 (by simp) _) ?_
 refine pEv_split 4 fun Kr4 hKr4 => ?_
 simp
 apply hKr4; clear hKr4 Kr4
 refine pEv_call' rfl rfl rfl (call_pure (cmpS_pf _ _) en40 (by simp) _) ?_
 refine pEv_split 1 fun Kr5 hKr5 => ?_
 simp
 apply hKr5; clear hKr5 Kr5
 refine pEv_call' rfl rfl rfl (call_view (or_pf _ (by rfl) (by simp)) en29 rfl (by rfl)) ?_
 simp
 refine ⟨by decide +kernel, ?_⟩
 apply hK2; try clear hK2 K2
 refine pw_keep [4] ?_
 simp only [keepL, memL, cond_true, cond_false, ↓reduceIte, reduceCtorEq, Nat.reduceEqDiff]
 refine pw_ret ?_
 try simp only [thenP, inBlockP]
 refine bodyQ_fr (by first | exact .inl rfl | exact .inr rfl) _ rfl ?_
 first | rfl | (simp [lk, firstP, firstNZ, keyCmp]; done) | (simp [lk, firstP, firstNZ, keyCmp] <;> omega) | ((try clear hK2 K2); (try clear hK1 K1); simp_all [lk, firstP, firstNZ, keyCmp]; done)

set_option maxRecDepth 100000 in
set_option maxHeartbeats 4000000 in
theorem num_pf (a : Bool) : PFun Try.prog 64 [.bool a] (.int .i64 (bn a)) := by
 refine PFun.of_bodyF (by simp) Try.func64 rfl 4 rfl (by simp) fun c0 => ?_
 simp only [argL, Nat.reduceAdd]
 refine pw_seq_k fun K1 hK1 => ?_
 refine pw_region 0 ?_
 simp
 apply hK1; try clear hK1 K1
 refine pw_seq_k fun K2 hK2 => ?_
 refine pw_seq_k fun K3 hK3 => ?_
 refine pw_region 0 ?_
 simp
 apply hK3; try clear hK3 K3
 refine pw_cond _ rfl (fun h4 => ?_) (fun h4 => ?_)
 ·try simp at h4
  refine pw_seq_k fun K5 hK5 => ?_
  refine pw_region 0 ?_
  simp [h4]
  apply hK5; try clear hK5 K5
  refine pw_ret ?_
  try simp only [thenP, inBlockP]
  refine bodyQ_fr (by first | exact .inl rfl | exact .inr rfl) _ rfl ?_
  first | rfl | (simp [lk, bn, h4]; done) | (simp [lk, bn, h4] <;> omega) | ((try clear hK5 K5); (try clear hK3 K3); (try clear hK2 K2); (try clear hK1 K1); simp_all [lk, bn]; done)
 ·try simp at h4
  refine pw_skip ?_
  try simp only [thenP, inBlockP]
  apply hK2; try clear hK2 K2
  refine pw_seq_k fun K6 hK6 => ?_
  refine pw_region 0 ?_
  simp [h4]
  apply hK6; try clear hK6 K6
  refine pw_ret ?_
  try simp only [thenP, inBlockP]
  refine bodyQ_fr (by first | exact .inl rfl | exact .inr rfl) _ rfl ?_
  first | rfl | (simp [lk, bn, h4]; done) | (simp [lk, bn, h4] <;> omega) | ((try clear hK6 K6); (try clear hK5 K5); (try clear hK3 K3); (try clear hK2 K2); (try clear hK1 K1); simp_all [lk, bn]; done)

set_option maxRecDepth 100000 in
set_option maxHeartbeats 4000000 in
theorem n_pf (a : Bool) : PFun Try.prog 35 [.bool a] (.int .i64 (bn a)) := by
 refine PFun.of_bodyF (by simp) Try.func35 rfl 4 rfl (by simp) fun c0 => ?_
 simp only [argL, Nat.reduceAdd]
 refine pw_seq_k fun K1 hK1 => ?_
 refine pw_region 0 ?_
 simp
 apply hK1; try clear hK1 K1
 refine pw_seq_k fun K2 hK2 => ?_
 refine pw_seq_k fun K3 hK3 => ?_
 refine pw_region 0 ?_
 simp
 apply hK3; try clear hK3 K3
 refine pw_cond _ rfl (fun h4 => ?_) (fun h4 => ?_)
 ·try simp at h4
  refine pw_seq_k fun K5 hK5 => ?_
  refine pw_region 0 ?_
  simp [h4]
  apply hK5; try clear hK5 K5
  refine pw_ret ?_
  try simp only [thenP, inBlockP]
  refine bodyQ_fr (by first | exact .inl rfl | exact .inr rfl) _ rfl ?_
  first | rfl | (simp [lk, bn, h4]; done) | (simp [lk, bn, h4] <;> omega) | ((try clear hK5 K5); (try clear hK3 K3); (try clear hK2 K2); (try clear hK1 K1); simp_all [lk, bn]; done)
 ·try simp at h4
  refine pw_skip ?_
  try simp only [thenP, inBlockP]
  apply hK2; try clear hK2 K2
  refine pw_seq_k fun K6 hK6 => ?_
  refine pw_region 0 ?_
  simp [h4]
  apply hK6; try clear hK6 K6
  refine pw_ret ?_
  try simp only [thenP, inBlockP]
  refine bodyQ_fr (by first | exact .inl rfl | exact .inr rfl) _ rfl ?_
  first | rfl | (simp [lk, bn, h4]; done) | (simp [lk, bn, h4] <;> omega) | ((try clear hK6 K6); (try clear hK5 K5); (try clear hK3 K3); (try clear hK2 K2); (try clear hK1 K1); simp_all [lk, bn]; done)

set_option maxRecDepth 100000 in
set_option maxHeartbeats 4000000 in
theorem truth_pf (a b : Bool) : PFun Try.prog 32 [.bool a, .bool b] (.int .i64 (cmpI (bn a) (bn b))) := by
 refine PFun.of_bodyF (by simp) Try.func32 rfl 10 rfl (by simp) fun c0 => ?_
 simp only [argL, Nat.reduceAdd]
 refine pw_seq_k fun K1 hK1 => ?_
 refine pw_region 0 ?_
 simp
 apply hK1; try clear hK1 K1
 refine pw_seq_k fun K2 hK2 => ?_
 refine pw_region 0 ?_
 refine pEv0_split 1 fun Kr3 hKr3 => ?_
 simp
 apply hKr3; clear hKr3 Kr3
 refine pEv0_call' rfl rfl rfl (call_pure (num_pf _) en64 (by simp) _) ?_
 refine pEv0_split 1 fun Kr4 hKr4 => ?_
 simp
 apply hKr4; clear hKr4 Kr4
 refine pEv0_call' rfl rfl rfl (call_pure (num_pf _) en64 (by simp) _) ?_
 refine pEv0_call' rfl rfl rfl (call_pure (cmpI_pf _ _) en31 (by simp) _) ?_
 simp
 apply hK2; try clear hK2 K2
 refine pw_keep [4] ?_
 simp only [keepL, memL, cond_true, cond_false, ↓reduceIte, reduceCtorEq, Nat.reduceEqDiff]
 refine pw_ret ?_
 try simp only [thenP, inBlockP]
 refine bodyQ_fr (by first | exact .inl rfl | exact .inr rfl) _ rfl ?_
 first | rfl | (simp [lk]; done) | (simp [lk] <;> omega) | ((try clear hK2 K2); (try clear hK1 K1); simp_all [lk]; done)

set_option maxRecDepth 100000 in
set_option maxHeartbeats 4000000 in
theorem idcmp_pf (a b : NId) : PFun Try.prog 13 [a.pv, b.pv] (.int .i64 (idCmp a b)) := by
 refine PFun.of_bodyF (by simp) Try.func13 rfl 27 rfl (by simp) fun c0 => ?_
 simp only [argL, Nat.reduceAdd]
 refine pw_seq_k fun K1 hK1 => ?_
 refine pw_region 0 ?_
 simp
 apply hK1; try clear hK1 K1
 refine pw_seq_k fun K2 hK2 => ?_
 refine pw_region_draw mix 0 ?_
 refine pEv_split 4 fun Kr3 hKr3 => ?_
 simp
 apply hKr3; clear hKr3 Kr3
 refine pEv_call' rfl rfl rfl (call_pure (ncmp_pf _ _) en39 (by simp) _) ?_
 refine pEv_split 4 fun Kr4 hKr4 => ?_
 simp
 apply hKr4; clear hKr4 Kr4
 refine pEv_call' rfl rfl rfl (call_pure (cmpS_pf _ _) en40 (by simp) _) ?_
 refine pEv_split 4 fun Kr5 hKr5 => ?_
 simp
 apply hKr5; clear hKr5 Kr5
 refine pEv_call' rfl rfl rfl (call_pure (truth_pf _ _) en32 (by simp) _) ?_
 refine pEv_split 4 fun Kr6 hKr6 => ?_
 simp
 apply hKr6; clear hKr6 Kr6
 refine pEv_call' rfl rfl rfl (call_pure (truth_pf _ _) en32 (by simp) _) ?_
 refine pEv_split 1 fun Kr7 hKr7 => ?_
 simp
 apply hKr7; clear hKr7 Kr7
 refine pEv_call' rfl rfl rfl (call_view (or_pf _ (by rfl) (by simp)) en29 rfl (by rfl)) ?_
 simp
 refine ⟨by decide +kernel, ?_⟩
 apply hK2; try clear hK2 K2
 refine pw_keep [4] ?_
 simp only [keepL, memL, cond_true, cond_false, ↓reduceIte, reduceCtorEq, Nat.reduceEqDiff]
 refine pw_ret ?_
 try simp only [thenP, inBlockP]
 refine bodyQ_fr (by first | exact .inl rfl | exact .inr rfl) _ rfl ?_
 first | rfl | (simp [lk, firstP, firstNZ, idCmp]; done) | (simp [lk, firstP, firstNZ, idCmp] <;> omega) | ((try clear hK2 K2); (try clear hK1 K1); simp_all [lk, firstP, firstNZ, idCmp]; done)

set_option maxRecDepth 100000 in
set_option maxHeartbeats 4000000 in
theorem groups_pf (a b : NGroup) : PFun Try.prog 59 [a.pv, b.pv] (.int .i64 (idCmp a.id b.id)) := by
 refine PFun.of_bodyF (by simp) Try.func59 rfl 10 rfl (by simp) fun c0 => ?_
 simp only [argL, Nat.reduceAdd]
 refine pw_seq_k fun K1 hK1 => ?_
 refine pw_region 0 ?_
 simp
 apply hK1; try clear hK1 K1
 refine pw_seq_k fun K2 hK2 => ?_
 refine pw_region 0 ?_
 refine pEv0_split 4 fun Kr3 hKr3 => ?_
 simp
 apply hKr3; clear hKr3 Kr3
 refine pEv0_call' rfl rfl rfl (call_pure (idcmp_pf _ _) en13 (by simp) _) ?_
 simp
 apply hK2; try clear hK2 K2
 refine pw_keep [4] ?_
 simp only [keepL, memL, cond_true, cond_false, ↓reduceIte, reduceCtorEq, Nat.reduceEqDiff]
 refine pw_ret ?_
 try simp only [thenP, inBlockP]
 refine bodyQ_fr (by first | exact .inl rfl | exact .inr rfl) _ rfl ?_
 first | rfl | (simp [lk]; done) | (simp [lk] <;> omega) | ((try clear hK2 K2); (try clear hK1 K1); simp_all [lk]; done)

set_option maxRecDepth 100000 in
set_option maxHeartbeats 4000000 in
theorem filters_pf (a b : NFilter) : PFun Try.prog 61 [a.pv, b.pv] (.int .i64 (keyCmp a.service b.service)) := by
 refine PFun.of_bodyF (by simp) Try.func61 rfl 10 rfl (by simp) fun c0 => ?_
 simp only [argL, Nat.reduceAdd]
 refine pw_seq_k fun K1 hK1 => ?_
 refine pw_region 0 ?_
 simp
 apply hK1; try clear hK1 K1
 refine pw_seq_k fun K2 hK2 => ?_
 refine pw_region 0 ?_
 refine pEv0_split 4 fun Kr3 hKr3 => ?_
 simp
 apply hKr3; clear hKr3 Kr3
 refine pEv0_call' rfl rfl rfl (call_pure (ncmp_pf _ _) en39 (by simp) _) ?_
 simp
 apply hK2; try clear hK2 K2
 refine pw_keep [4] ?_
 simp only [keepL, memL, cond_true, cond_false, ↓reduceIte, reduceCtorEq, Nat.reduceEqDiff]
 refine pw_ret ?_
 try simp only [thenP, inBlockP]
 refine bodyQ_fr (by first | exact .inl rfl | exact .inr rfl) _ rfl ?_
 first | rfl | (simp [lk]; done) | (simp [lk] <;> omega) | ((try clear hK2 K2); (try clear hK1 K1); simp_all [lk]; done)

set_option maxRecDepth 100000 in
set_option maxHeartbeats 4000000 in
theorem less_pf (a b : Int) : PFun Try.prog 34 [.int .i64 a, .int .i64 b] (.int .i64 (cmpI a b)) := by
 refine PFun.of_bodyF (by simp) Try.func34 rfl 11 rfl (by simp) fun c0 => ?_
 simp only [argL, Nat.reduceAdd]
 refine pw_seq_k fun K1 hK1 => ?_
 refine pw_region 0 ?_
 simp
 apply hK1; try clear hK1 K1
 refine pw_seq_k fun K2 hK2 => ?_
 refine pw_seq_k fun K3 hK3 => ?_
 refine pw_region 0 ?_
 simp [sBinH, sBin, binop]
 apply hK3; try clear hK3 K3
 refine pw_cond _ rfl (fun h4 => ?_) (fun h4 => ?_)
 ·try simp at h4
  refine pw_seq_k fun K5 hK5 => ?_
  refine pw_region 0 ?_
  simp [h4]
  apply hK5; try clear hK5 K5
  refine pw_keep [4] ?_
  simp only [keepL, memL, cond_true, cond_false, ↓reduceIte, reduceCtorEq, Nat.reduceEqDiff]
  refine pw_ret ?_
  try simp only [thenP, inBlockP]
  refine bodyQ_fr (by first | exact .inl rfl | exact .inr rfl) _ rfl ?_
  first | rfl | (simp [lk, cmpI, h4]; done) | (simp [lk, cmpI, h4] <;> omega) | ((try clear hK5 K5); (try clear hK3 K3); (try clear hK2 K2); (try clear hK1 K1); simp_all [lk, cmpI]; done)
 ·try simp at h4
  refine pw_skip ?_
  try simp only [thenP, inBlockP]
  apply hK2; try clear hK2 K2
  refine pw_keep [0, 1] ?_
  simp only [keepL, memL, cond_true, cond_false, ↓reduceIte, reduceCtorEq, Nat.reduceEqDiff]
  refine pw_seq_k fun K6 hK6 => ?_
  refine pw_seq_k fun K7 hK7 => ?_
  refine pw_region 0 ?_
  simp [sBinH, sBin, binop, h4]
  apply hK7; try clear hK7 K7
  refine pw_keep [10] ?_
  simp only [keepL, memL, cond_true, cond_false, ↓reduceIte, reduceCtorEq, Nat.reduceEqDiff]
  refine pw_cond _ rfl (fun h8 => ?_) (fun h8 => ?_)
  ·try simp at h8
   refine pw_seq_k fun K9 hK9 => ?_
   refine pw_region 0 ?_
   simp [h4, h8]
   apply hK9; try clear hK9 K9
   refine pw_ret ?_
   try simp only [thenP, inBlockP]
   refine bodyQ_fr (by first | exact .inl rfl | exact .inr rfl) _ rfl ?_
   first | rfl | (simp [lk, cmpI, h4, h8]; done) | (simp [lk, cmpI, h4, h8] <;> omega) | ((try clear hK9 K9); (try clear hK7 K7); (try clear hK6 K6); (try clear hK5 K5); (try clear hK3 K3); (try clear hK2 K2); (try clear hK1 K1); simp_all [lk, cmpI]; done)
  ·try simp at h8
   refine pw_skip ?_
   try simp only [thenP, inBlockP]
   apply hK6; try clear hK6 K6
   refine pw_seq_k fun K10 hK10 => ?_
   refine pw_region 0 ?_
   simp [h4, h8]
   apply hK10; try clear hK10 K10
   refine pw_ret ?_
   try simp only [thenP, inBlockP]
   refine bodyQ_fr (by first | exact .inl rfl | exact .inr rfl) _ rfl ?_
   first | rfl | (simp [lk, cmpI, h4, h8]; done) | (simp [lk, cmpI, h4, h8] <;> omega) | ((try clear hK10 K10); (try clear hK9 K9); (try clear hK7 K7); (try clear hK6 K6); (try clear hK5 K5); (try clear hK3 K3); (try clear hK2 K2); (try clear hK1 K1); simp_all [lk, cmpI]; done)

set_option maxRecDepth 100000 in
set_option maxHeartbeats 4000000 in
theorem text_pf (a b : ByteArray) : PFun Try.prog 38 [.str a, .str b] (.int .i64 (cmpS a b)) := by
 refine PFun.of_bodyF (by simp) Try.func38 rfl 11 rfl (by simp) fun c0 => ?_
 simp only [argL, Nat.reduceAdd]
 refine pw_seq_k fun K1 hK1 => ?_
 refine pw_region 0 ?_
 simp
 apply hK1; try clear hK1 K1
 refine pw_seq_k fun K2 hK2 => ?_
 refine pw_seq_k fun K3 hK3 => ?_
 refine pw_region 0 ?_
 simp [sBinH, sBin, binop]
 apply hK3; try clear hK3 K3
 refine pw_cond _ rfl (fun h4 => ?_) (fun h4 => ?_)
 ·try simp at h4
  refine pw_seq_k fun K5 hK5 => ?_
  refine pw_region 0 ?_
  simp [h4]
  apply hK5; try clear hK5 K5
  refine pw_keep [4] ?_
  simp only [keepL, memL, cond_true, cond_false, ↓reduceIte, reduceCtorEq, Nat.reduceEqDiff]
  refine pw_ret ?_
  try simp only [thenP, inBlockP]
  refine bodyQ_fr (by first | exact .inl rfl | exact .inr rfl) _ rfl ?_
  first | rfl | (simp [lk, cmpS, h4]; done) | (simp [lk, cmpS, h4] <;> omega) | ((try clear hK5 K5); (try clear hK3 K3); (try clear hK2 K2); (try clear hK1 K1); simp_all [lk, cmpS]; done)
 ·try simp at h4
  refine pw_skip ?_
  try simp only [thenP, inBlockP]
  apply hK2; try clear hK2 K2
  refine pw_keep [0, 1] ?_
  simp only [keepL, memL, cond_true, cond_false, ↓reduceIte, reduceCtorEq, Nat.reduceEqDiff]
  refine pw_seq_k fun K6 hK6 => ?_
  refine pw_seq_k fun K7 hK7 => ?_
  refine pw_region 0 ?_
  simp [sBinH, sBin, binop, h4]
  apply hK7; try clear hK7 K7
  refine pw_keep [10] ?_
  simp only [keepL, memL, cond_true, cond_false, ↓reduceIte, reduceCtorEq, Nat.reduceEqDiff]
  refine pw_cond _ rfl (fun h8 => ?_) (fun h8 => ?_)
  ·try simp at h8
   refine pw_seq_k fun K9 hK9 => ?_
   refine pw_region 0 ?_
   simp [h4, h8]
   apply hK9; try clear hK9 K9
   refine pw_ret ?_
   try simp only [thenP, inBlockP]
   refine bodyQ_fr (by first | exact .inl rfl | exact .inr rfl) _ rfl ?_
   first | rfl | (simp [lk, cmpS, h4, h8]; done) | (simp [lk, cmpS, h4, h8] <;> omega) | ((try clear hK9 K9); (try clear hK7 K7); (try clear hK6 K6); (try clear hK5 K5); (try clear hK3 K3); (try clear hK2 K2); (try clear hK1 K1); simp_all [lk, cmpS]; done)
  ·try simp at h8
   refine pw_skip ?_
   try simp only [thenP, inBlockP]
   apply hK6; try clear hK6 K6
   refine pw_seq_k fun K10 hK10 => ?_
   refine pw_region 0 ?_
   simp [h4, h8]
   apply hK10; try clear hK10 K10
   refine pw_ret ?_
   try simp only [thenP, inBlockP]
   refine bodyQ_fr (by first | exact .inl rfl | exact .inr rfl) _ rfl ?_
   first | rfl | (simp [lk, cmpS, h4, h8]; done) | (simp [lk, cmpS, h4, h8] <;> omega) | ((try clear hK10 K10); (try clear hK9 K9); (try clear hK7 K7); (try clear hK6 K6); (try clear hK5 K5); (try clear hK3 K3); (try clear hK2 K2); (try clear hK1 K1); simp_all [lk, cmpS]; done)

set_option maxRecDepth 100000 in
set_option maxHeartbeats 4000000 in
theorem bcmp_pf (l m : List UInt8) : PFun Try.prog 89 [.sl 1 (pvBy l), .sl 1 (pvBy m)] (.int .i64 (Lib.compareBytes l m)) := by
 refine PFun.of_bodyF (by simp) Try.func89 rfl 8 rfl (by simp) fun c0 => ?_
 simp only [argL, Nat.reduceAdd]
 refine pw_seq_k fun K1 hK1 => ?_
 refine pw_region 0 ?_
 simp
 apply hK1; try clear hK1 K1
 refine pw_seq_k fun K2 hK2 => ?_
 refine pw_region 0 ?_
 refine pEv0_split 2 fun Kr3 hKr3 => ?_
 simp
 apply hKr3; clear hKr3 Kr3
 refine pEv0_call' rfl rfl rfl (sem_cmpBytes x93 _ _ _) ?_
 simp
 apply hK2; try clear hK2 K2
 refine pw_keep [4] ?_
 simp only [keepL, memL, cond_true, cond_false, ↓reduceIte, reduceCtorEq, Nat.reduceEqDiff]
 refine pw_ret ?_
 try simp only [thenP, inBlockP]
 refine bodyQ_fr (by first | exact .inl rfl | exact .inr rfl) _ rfl ?_
 first | rfl | (simp [lk]; done) | (simp [lk] <;> omega) | ((try clear hK2 K2); (try clear hK1 K1); simp_all [lk]; done)

set_option maxRecDepth 100000 in
set_option maxHeartbeats 4000000 in
theorem acmp_pf (a b : NAddr) : PFun Try.prog 80 [a.pv, b.pv] (.int .i64 (addrCmp a b)) := by
 refine PFun.of_bodyF (by simp) Try.func80 rfl 19 rfl (by simp) fun c0 => ?_
 simp only [argL, Nat.reduceAdd]
 refine pw_seq_k fun K1 hK1 => ?_
 refine pw_region 0 ?_
 simp
 apply hK1; try clear hK1 K1
 refine pw_seq_k fun K2 hK2 => ?_
 refine pw_block ?_
 refine pw_seq_k fun K3 hK3 => ?_
 refine pw_region 0 ?_
 refine pEv0_split 4 fun Kr4 hKr4 => ?_
 simp
 apply hKr4; clear hKr4 Kr4
 simp [eq4]
 apply hK3; try clear hK3 K3
 refine pw_keep [2, 3, 5] ?_
 simp only [keepL, memL, cond_true, cond_false, ↓reduceIte, reduceCtorEq, Nat.reduceEqDiff]
 refine pw_cond _ rfl (fun h5 => ?_) (fun h5 => ?_)
 ·try simp at h5
  refine pw_seq_k fun K6 hK6 => ?_
  refine pw_region_draw mix 0 ?_
  refine pEv_split 4 fun Kr7 hKr7 => ?_
  simp [h5]
  apply hKr7; clear hKr7 Kr7
  refine pEv_call' rfl rfl rfl (call_pure (bcmp_pf _ _) en89 (by simp) _) ?_
  simp [h5]
  refine ⟨by decide +kernel, ?_⟩
  apply hK6; try clear hK6 K6
  refine pw_keep [4] ?_
  simp only [keepL, memL, cond_true, cond_false, ↓reduceIte, reduceCtorEq, Nat.reduceEqDiff]
  refine pw_ret ?_
  try simp only [thenP, inBlockP]
  refine bodyQ_fr (by first | exact .inl rfl | exact .inr rfl) _ rfl ?_
  first | rfl | (simp [lk, addrCmp, h5]; done) | (simp [lk, addrCmp, h5] <;> omega) | ((try clear hK6 K6); (try clear hK3 K3); (try clear hK2 K2); (try clear hK1 K1); simp_all [lk, addrCmp]; done)
 ·try simp at h5
  refine pw_seq_k fun K8 hK8 => ?_
  refine pw_region 0 ?_
  simp [h5]
  apply hK8; try clear hK8 K8
  refine pw_keep [16] ?_
  simp only [keepL, memL, cond_true, cond_false, ↓reduceIte, reduceCtorEq, Nat.reduceEqDiff]
  refine pw_cond _ rfl (fun h9 => ?_) (fun h9 => ?_)
  ·try simp at h9
   refine pw_seq_k fun K10 hK10 => ?_
   refine pw_region 0 ?_
   simp [h5, h9]
   apply hK10; try clear hK10 K10
   refine pw_ret ?_
   try simp only [thenP, inBlockP]
   refine bodyQ_fr (by first | exact .inl rfl | exact .inr rfl) _ rfl ?_
   first | rfl | (simp [lk, addrCmp, h5, h9]; done) | (simp [lk, addrCmp, h5, h9] <;> omega) | ((try clear hK10 K10); (try clear hK8 K8); (try clear hK6 K6); (try clear hK3 K3); (try clear hK2 K2); (try clear hK1 K1); simp_all [lk, addrCmp]; done)
  ·try simp at h9
   refine pw_skip ?_
   try simp only [thenP, inBlockP]
   apply hK2; try clear hK2 K2
   refine pw_seq_k fun K11 hK11 => ?_
   refine pw_region 0 ?_
   simp [h5, h9]
   apply hK11; try clear hK11 K11
   refine pw_ret ?_
   try simp only [thenP, inBlockP]
   refine bodyQ_fr (by first | exact .inl rfl | exact .inr rfl) _ rfl ?_
   first | rfl | (simp [lk, addrCmp, h5, h9]; done) | (simp [lk, addrCmp, h5, h9] <;> omega) | ((try clear hK11 K11); (try clear hK10 K10); (try clear hK8 K8); (try clear hK6 K6); (try clear hK3 K3); (try clear hK2 K2); (try clear hK1 K1); simp_all [lk, addrCmp]; done)

set_option maxRecDepth 100000 in
set_option maxHeartbeats 4000000 in
theorem rcmp_pf (a b : NAddr) : PFun Try.prog 65 [a.pv, b.pv] (.int .i64 (addrCmp a b)) := by
 refine PFun.of_bodyF (by simp) Try.func65 rfl 35 rfl (by simp) fun c0 => ?_
 simp only [argL, Nat.reduceAdd]
 refine pw_seq_k fun K1 hK1 => ?_
 refine pw_region 0 ?_
 simp
 apply hK1; try clear hK1 K1
 refine pw_seq_k fun K2 hK2 => ?_
 refine pw_seq_k fun K3 hK3 => ?_
 refine pw_region 0 ?_
 refine pEv0_split 4 fun Kr4 hKr4 => ?_
 simp
 apply hKr4; clear hKr4 Kr4
 simp [neq4]
 apply hK3; try clear hK3 K3
 refine pw_keep [2, 3, 10] ?_
 simp only [keepL, memL, cond_true, cond_false, ↓reduceIte, reduceCtorEq, Nat.reduceEqDiff]
 refine pw_cond _ rfl (fun h5 => ?_) (fun h5 => ?_)
 ·try simp at h5
  refine pw_seq_k fun K6 hK6 => ?_
  refine pw_seq_k fun K7 hK7 => ?_
  refine pw_region 0 ?_
  simp [h5]
  apply hK7; try clear hK7 K7
  refine pw_keep [12] ?_
  simp only [keepL, memL, cond_true, cond_false, ↓reduceIte, reduceCtorEq, Nat.reduceEqDiff]
  refine pw_cond _ rfl (fun h8 => ?_) (fun h8 => ?_)
  ·try simp at h8
   refine pw_seq_k fun K9 hK9 => ?_
   refine pw_region 0 ?_
   simp [h5, h8]
   apply hK9; try clear hK9 K9
   refine pw_ret ?_
   try simp only [thenP, inBlockP]
   refine bodyQ_fr (by first | exact .inl rfl | exact .inr rfl) _ rfl ?_
   first | (simp [lk, addrCmp, h5, h8]; done) | ((try clear hK9 K9); (try clear hK7 K7); (try clear hK6 K6); (try clear hK3 K3); (try clear hK2 K2); (try clear hK1 K1); simp_all [lk, addrCmp]; done) | (simp [lk, addrCmp, h5, h8, cmpB_lt hf hx hy (by assumption)]; done) | (simp [lk, addrCmp, h5, h8, cmpB_gt hf hx hy (by assumption)]; done) | (simp [lk, addrCmp, h5, h8, cmpB_end hf (by simp; omega) (by simp; omega)]; done)
  ·try simp at h8
   refine pw_skip ?_
   try simp only [thenP, inBlockP]
   apply hK6; try clear hK6 K6
   refine pw_seq_k fun K10 hK10 => ?_
   refine pw_region 0 ?_
   simp [h5, h8]
   apply hK10; try clear hK10 K10
   refine pw_ret ?_
   try simp only [thenP, inBlockP]
   refine bodyQ_fr (by first | exact .inl rfl | exact .inr rfl) _ rfl ?_
   first | (simp [lk, addrCmp, h5, h8]; done) | ((try clear hK10 K10); (try clear hK9 K9); (try clear hK7 K7); (try clear hK6 K6); (try clear hK3 K3); (try clear hK2 K2); (try clear hK1 K1); simp_all [lk, addrCmp]; done) | (simp [lk, addrCmp, h5, h8, cmpB_lt hf hx hy (by assumption)]; done) | (simp [lk, addrCmp, h5, h8, cmpB_gt hf hx hy (by assumption)]; done) | (simp [lk, addrCmp, h5, h8, cmpB_end hf (by simp; omega) (by simp; omega)]; done)
 ·try simp at h5
  refine pw_skip ?_
  try simp only [thenP, inBlockP]
  apply hK2; try clear hK2 K2
  refine pw_seq_k fun K11 hK11 => ?_
  refine pw_seq_k fun K12 hK12 => ?_
  refine pw_region 0 ?_
  simp [h5]
  apply hK12; try clear hK12 K12
  refine pw_block ?_
  refine pw_loopF (α := Nat) [2, 3] (fun s => [(13, .int .i64 (s : Nat))]) (fun s => []) (fun m s => s + m = 16 ∧ Lib.compareBytes (a.b.toList.drop s) (b.b.toList.drop s) = Lib.compareBytes a.b.toList b.b.toList) (16) (0) ?_ ?_ ?_
  ·(try dsimp only) <;> (exact ⟨rfl, rfl⟩)
  ·refine Wk.toF ?_ ?_ ?_ ?_ ?_
   ·try simp only [keepL, memL, cond_true, cond_false, ↓reduceIte, reduceCtorEq, Nat.reduceEqDiff, List.cons_append, List.nil_append, puts, put]
    repeat (first | exact trivial | (refine FLt.cons ?_ ?_; focus (first | exact Lt.refl _ | exact Lt.any _ | (refine lt_eq (congrArg (PV.int .i64) ?_); omega) | (refine lt_eq ?_; simp [h5]; done) | (refine lt_eq ?_; simp [h5] <;> omega))))
   ·try simp only [puts, put, ↓reduceIte, reduceCtorEq, Nat.reduceEqDiff]
    repeat (first | exact trivial | (refine ⟨⟨_, rfl, ?_⟩, ?_⟩; focus (first | exact BLt.refl _)))
   ·simp
   ·simp
   ·simp
  ·intro m i hinv KL13 hKL13
   try dsimp only at hinv
   obtain ⟨hk, hf⟩ := hinv
   simp only [keepL, memL, cond_true, cond_false, ↓reduceIte, reduceCtorEq, Nat.reduceEqDiff, List.cons_append, List.nil_append, puts, put]
   refine pw_seq_k fun K14 hK14 => ?_
   refine pw_region 0 ?_
   simp [sBinH, sBin, binop, h5]
   apply hK14; try clear hK14 K14
   refine pw_seq_k fun K15 hK15 => ?_
   refine pw_cond _ rfl (fun h16 => ?_) (fun h16 => ?_)
   ·try simp at h16
    obtain ⟨x, hx⟩ := getN (l := a.b.toList) (k := i) (by simp; omega)
    obtain ⟨y, hy⟩ := getN (l := b.b.toList) (k := i) (by simp; omega)
    have hX := NAddr.ld_at 1 hx
    have hY := NAddr.ld_at 1 hy
    have hw := wrap_i64 (n := (i : Int) + 1) (by omega) (by omega)
    refine pw_skip ?_
    try simp only [thenP, inBlockP]
    apply hK15; try clear hK15 K15
    refine pw_seq_k fun K17 hK17 => ?_
    refine pw_block ?_
    refine pw_seq_k fun K18 hK18 => ?_
    refine pw_region 0 ?_
    simp [h5, h16, hX, hY, hw]
    apply hK18; try clear hK18 K18
    refine pw_seq_k fun K19 hK19 => ?_
    refine pw_seq_k fun K20 hK20 => ?_
    refine pw_region_draw mix 0 ?_
    refine pEv_split 4 fun Kr21 hKr21 => ?_
    simp [h5, h16, hX, hY, hw]
    apply hKr21; clear hKr21 Kr21
    refine pEv_split 4 fun Kr22 hKr22 => ?_
    simp [h5, h16, hX, hY, hw]
    apply hKr22; clear hKr22 Kr22
    simp [sBinH, sBin, binop, h5, h16, hX, hY, hw]
    refine ⟨by decide +kernel, ?_⟩
    apply hK20; try clear hK20 K20
    refine pw_keep [2, 3, 5, 13, 24] ?_
    simp only [keepL, memL, cond_true, cond_false, ↓reduceIte, reduceCtorEq, Nat.reduceEqDiff]
    refine pw_cond _ rfl (fun h23 => ?_) (fun h23 => ?_)
    ·try simp at h23
     refine pw_seq_k fun K24 hK24 => ?_
     refine pw_region 0 ?_
     simp [h5, h16, hX, hY, hw, h23]
     apply hK24; try clear hK24 K24
     refine pw_keep [4] ?_
     simp only [keepL, memL, cond_true, cond_false, ↓reduceIte, reduceCtorEq, Nat.reduceEqDiff]
     refine pw_ret ?_
     try simp only [thenP, inBlockP]
     refine bodyQ_fr (by first | exact .inl rfl | exact .inr rfl) _ rfl ?_
     first | (simp [lk, addrCmp, h5, h16, hX, hY, hw, h23]; done) | ((try clear hK24 K24); (try clear hK20 K20); (try clear hK19 K19); (try clear hK18 K18); (try clear hK17 K17); (try clear hK15 K15); (try clear hK14 K14); (try clear hKL13 KL13); (try clear hK12 K12); (try clear hK11 K11); (try clear hK10 K10); (try clear hK9 K9); (try clear hK7 K7); (try clear hK6 K6); (try clear hK3 K3); (try clear hK2 K2); (try clear hK1 K1); simp_all [lk, addrCmp]; done) | (simp [lk, addrCmp, h5, h16, hX, hY, hw, h23, cmpB_lt hf hx hy (by assumption)]; done) | (simp [lk, addrCmp, h5, h16, hX, hY, hw, h23, cmpB_gt hf hx hy (by assumption)]; done) | (simp [lk, addrCmp, h5, h16, hX, hY, hw, h23, cmpB_end hf (by simp; omega) (by simp; omega)]; done)
    ·try simp at h23
     refine pw_skip ?_
     try simp only [thenP, inBlockP]
     apply hK19; try clear hK19 K19
     refine pw_seq_k fun K25 hK25 => ?_
     refine pw_region_draw mix 0 ?_
     refine pEv_split 4 fun Kr26 hKr26 => ?_
     simp [h5, h16, hX, hY, hw, h23]
     apply hKr26; clear hKr26 Kr26
     refine pEv_split 4 fun Kr27 hKr27 => ?_
     simp [h5, h16, hX, hY, hw, h23]
     apply hKr27; clear hKr27 Kr27
     simp [sBinH, sBin, binop, h5, h16, hX, hY, hw, h23]
     refine ⟨by decide +kernel, ?_⟩
     apply hK25; try clear hK25 K25
     refine pw_keep [2, 3, 13, 33] ?_
     simp only [keepL, memL, cond_true, cond_false, ↓reduceIte, reduceCtorEq, Nat.reduceEqDiff]
     refine pw_cond _ rfl (fun h28 => ?_) (fun h28 => ?_)
     ·try simp at h28
      refine pw_seq_k fun K29 hK29 => ?_
      refine pw_region 0 ?_
      simp [h5, h16, hX, hY, hw, h23, h28]
      apply hK29; try clear hK29 K29
      refine pw_keep [4] ?_
      simp only [keepL, memL, cond_true, cond_false, ↓reduceIte, reduceCtorEq, Nat.reduceEqDiff]
      refine pw_ret ?_
      try simp only [thenP, inBlockP]
      refine bodyQ_fr (by first | exact .inl rfl | exact .inr rfl) _ rfl ?_
      first | (simp [lk, addrCmp, h5, h16, hX, hY, hw, h23, h28]; done) | ((try clear hK29 K29); (try clear hK25 K25); (try clear hK24 K24); (try clear hK20 K20); (try clear hK19 K19); (try clear hK18 K18); (try clear hK17 K17); (try clear hK15 K15); (try clear hK14 K14); (try clear hKL13 KL13); (try clear hK12 K12); (try clear hK11 K11); (try clear hK10 K10); (try clear hK9 K9); (try clear hK7 K7); (try clear hK6 K6); (try clear hK3 K3); (try clear hK2 K2); (try clear hK1 K1); simp_all [lk, addrCmp]; done) | (simp [lk, addrCmp, h5, h16, hX, hY, hw, h23, h28, cmpB_lt hf hx hy (by assumption)]; done) | (simp [lk, addrCmp, h5, h16, hX, hY, hw, h23, h28, cmpB_gt hf hx hy (by assumption)]; done) | (simp [lk, addrCmp, h5, h16, hX, hY, hw, h23, h28, cmpB_end hf (by simp; omega) (by simp; omega)]; done)
     ·try simp at h28
      refine pw_skip ?_
      try simp only [thenP, inBlockP]
      apply hK17; try clear hK17 K17
      refine pw_region 0 ?_
      simp [sBinH, sBin, binop, h5, h16, hX, hY, hw, h23, h28]
      refine hKL13 _ (m - 1) (i + 1) ?_ ?_ ?_
      ·omega
      ·(try dsimp only) <;> (exact ⟨by omega, cmpB_next hf hx hy (by assumption) (by assumption)⟩)
      ·refine Wk.toF ?_ ?_ ?_ ?_ ?_
       ·try simp only [keepL, memL, cond_true, cond_false, ↓reduceIte, reduceCtorEq, Nat.reduceEqDiff, List.cons_append, List.nil_append, puts, put]
        repeat (first | exact trivial | (refine FLt.cons ?_ ?_; focus (first | exact Lt.refl _ | exact Lt.any _ | (refine lt_eq (congrArg (PV.int .i64) ?_); omega) | (refine lt_eq ?_; simp [h5, h16, h23, h28]; done) | (refine lt_eq ?_; simp [h5, h16, h23, h28] <;> omega))))
       ·try simp only [puts, put, ↓reduceIte, reduceCtorEq, Nat.reduceEqDiff]
        repeat (first | exact trivial | (refine ⟨⟨_, rfl, ?_⟩, ?_⟩; focus (first | exact BLt.refl _)))
       ·simp
       ·simp
       ·simp
   ·try simp at h16
    refine pw_exit ?_
    simp [thenP, inBlockP]
    apply hK11; try clear hK11 K11
    refine pw_keep [] ?_
    simp only [keepL, memL, cond_true, cond_false, ↓reduceIte, reduceCtorEq, Nat.reduceEqDiff]
    refine pw_seq_k fun K30 hK30 => ?_
    refine pw_region 0 ?_
    simp [h5, h16]
    apply hK30; try clear hK30 K30
    refine pw_ret ?_
    try simp only [thenP, inBlockP]
    refine bodyQ_fr (by first | exact .inl rfl | exact .inr rfl) _ rfl ?_
    first | (simp [lk, addrCmp, h5, h16]; done) | ((try clear hK30 K30); (try clear hK29 K29); (try clear hK25 K25); (try clear hK24 K24); (try clear hK20 K20); (try clear hK19 K19); (try clear hK18 K18); (try clear hK17 K17); (try clear hK15 K15); (try clear hK14 K14); (try clear hKL13 KL13); (try clear hK12 K12); (try clear hK11 K11); (try clear hK10 K10); (try clear hK9 K9); (try clear hK7 K7); (try clear hK6 K6); (try clear hK3 K3); (try clear hK2 K2); (try clear hK1 K1); simp_all [lk, addrCmp]; done) | (simp [lk, addrCmp, h5, h16, cmpB_lt hf hx hy (by assumption)]; done) | (simp [lk, addrCmp, h5, h16, cmpB_gt hf hx hy (by assumption)]; done) | (simp [lk, addrCmp, h5, h16, cmpB_end hf (by simp; omega) (by simp; omega)]; done)

set_option maxRecDepth 100000 in
set_option maxHeartbeats 4000000 in
theorem pcmp_pf (a b : NPoint) : PFun Try.prog 62 [a.pv, b.pv] (.int .i64 (pointCmp a b)) := by
 refine PFun.of_bodyF (by simp) Try.func62 rfl 17 rfl (by simp) fun c0 => ?_
 simp only [argL, Nat.reduceAdd]
 refine pw_seq_k fun K1 hK1 => ?_
 refine pw_region 0 ?_
 simp
 apply hK1; try clear hK1 K1
 refine pw_seq_k fun K2 hK2 => ?_
 refine pw_region_draw mix 0 ?_
 refine pEv_split 4 fun Kr3 hKr3 => ?_
 simp
 apply hKr3; clear hKr3 Kr3
 refine pEv_call' rfl rfl rfl (call_pure (acmp_pf _ _) en80 (by simp) _) ?_
 refine pEv_split 4 fun Kr4 hKr4 => ?_
 simp
 apply hKr4; clear hKr4 Kr4
 refine pEv_call' rfl rfl rfl (call_pure (cmpI_pf _ _) en31 (by simp) _) ?_
 refine pEv_split 1 fun Kr5 hKr5 => ?_
 simp
 apply hKr5; clear hKr5 Kr5
 refine pEv_call' rfl rfl rfl (call_view (or_pf _ (by rfl) (by simp)) en29 rfl (by rfl)) ?_
 simp
 refine ⟨by decide +kernel, ?_⟩
 apply hK2; try clear hK2 K2
 refine pw_keep [4] ?_
 simp only [keepL, memL, cond_true, cond_false, ↓reduceIte, reduceCtorEq, Nat.reduceEqDiff]
 refine pw_ret ?_
 try simp only [thenP, inBlockP]
 refine bodyQ_fr (by first | exact .inl rfl | exact .inr rfl) _ rfl ?_
 first | rfl | (simp [lk, firstP, firstNZ, pointCmp]; done) | (simp [lk, firstP, firstNZ, pointCmp] <;> omega) | ((try clear hK2 K2); (try clear hK1 K1); simp_all [lk, firstP, firstNZ, pointCmp]; done)

set_option maxRecDepth 100000 in
set_option maxHeartbeats 4000000 in
theorem place_pf (a b : NFront) : PFun Try.prog 30 [a.pv, b.pv] (.int .i64 (placeCmp a b)) := by
 refine PFun.of_bodyF (by simp) Try.func30 rfl 27 rfl (by simp) fun c0 => ?_
 simp only [argL, Nat.reduceAdd]
 refine pw_seq_k fun K1 hK1 => ?_
 refine pw_region 0 ?_
 simp
 apply hK1; try clear hK1 K1
 refine pw_seq_k fun K2 hK2 => ?_
 refine pw_region_draw mix 0 ?_
 refine pEv_split 4 fun Kr3 hKr3 => ?_
 simp
 apply hKr3; clear hKr3 Kr3
 refine pEv_call' rfl rfl rfl (call_pure (cmpI_pf _ _) en31 (by simp) _) ?_
 refine pEv_split 4 fun Kr4 hKr4 => ?_
 simp
 apply hKr4; clear hKr4 Kr4
 refine pEv_call' rfl rfl rfl (call_pure (pcmp_pf _ _) en62 (by simp) _) ?_
 refine pEv_split 4 fun Kr5 hKr5 => ?_
 simp
 apply hKr5; clear hKr5 Kr5
 refine pEv_call' rfl rfl rfl (call_pure (ncmp_pf _ _) en39 (by simp) _) ?_
 refine pEv_split 4 fun Kr6 hKr6 => ?_
 simp
 apply hKr6; clear hKr6 Kr6
 refine pEv_call' rfl rfl rfl (call_pure (cmpS_pf _ _) en40 (by simp) _) ?_
 refine pEv_split 1 fun Kr7 hKr7 => ?_
 simp
 apply hKr7; clear hKr7 Kr7
 refine pEv_call' rfl rfl rfl (call_view (or_pf _ (by rfl) (by simp)) en29 rfl (by rfl)) ?_
 simp
 refine ⟨by decide +kernel, ?_⟩
 apply hK2; try clear hK2 K2
 refine pw_keep [4] ?_
 simp only [keepL, memL, cond_true, cond_false, ↓reduceIte, reduceCtorEq, Nat.reduceEqDiff]
 refine pw_ret ?_
 try simp only [thenP, inBlockP]
 refine bodyQ_fr (by first | exact .inl rfl | exact .inr rfl) _ rfl ?_
 first | rfl | (simp [lk, firstP, firstNZ, placeCmp]; done) | (simp [lk, firstP, firstNZ, placeCmp] <;> omega) | ((try clear hK2 K2); (try clear hK1 K1); simp_all [lk, firstP, firstNZ, placeCmp]; done)

set_option maxRecDepth 100000 in
set_option maxHeartbeats 4000000 in
theorem fcmp_pf (a b : NFront) : PFun Try.prog 9 [a.pv, b.pv] (.int .i64 (frontCmp a b)) := by
 refine PFun.of_bodyF (by simp) Try.func9 rfl 30 rfl (by simp) fun c0 => ?_
 simp only [argL, Nat.reduceAdd]
 refine pw_seq_k fun K1 hK1 => ?_
 refine pw_region 0 ?_
 simp
 apply hK1; try clear hK1 K1
 refine pw_seq_k fun K2 hK2 => ?_
 refine pw_region_draw mix 0 ?_
 refine pEv_split 2 fun Kr3 hKr3 => ?_
 simp
 apply hKr3; clear hKr3 Kr3
 refine pEv_call' rfl rfl rfl (call_pure (place_pf _ _) en30 (by simp) _) ?_
 refine pEv_split 4 fun Kr4 hKr4 => ?_
 simp
 apply hKr4; clear hKr4 Kr4
 refine pEv_call' rfl rfl rfl (call_pure (cmpI_pf _ _) en31 (by simp) _) ?_
 refine pEv_split 4 fun Kr5 hKr5 => ?_
 simp
 apply hKr5; clear hKr5 Kr5
 refine pEv_call' rfl rfl rfl (call_pure (truth_pf _ _) en32 (by simp) _) ?_
 refine pEv_split 4 fun Kr6 hKr6 => ?_
 simp
 apply hKr6; clear hKr6 Kr6
 refine pEv_call' rfl rfl rfl (call_pure (truth_pf _ _) en32 (by simp) _) ?_
 refine pEv_split 4 fun Kr7 hKr7 => ?_
 simp
 apply hKr7; clear hKr7 Kr7
 refine pEv_call' rfl rfl rfl (call_pure (cmpI_pf _ _) en31 (by simp) _) ?_
 refine pEv_split 1 fun Kr8 hKr8 => ?_
 simp
 apply hKr8; clear hKr8 Kr8
 refine pEv_call' rfl rfl rfl (call_view (or_pf _ (by rfl) (by simp)) en29 rfl (by rfl)) ?_
 simp
 refine ⟨by decide +kernel, ?_⟩
 apply hK2; try clear hK2 K2
 refine pw_keep [4] ?_
 simp only [keepL, memL, cond_true, cond_false, ↓reduceIte, reduceCtorEq, Nat.reduceEqDiff]
 refine pw_ret ?_
 try simp only [thenP, inBlockP]
 refine bodyQ_fr (by first | exact .inl rfl | exact .inr rfl) _ rfl ?_
 first | rfl | (simp [lk, firstP, firstNZ, frontCmp]; done) | (simp [lk, firstP, firstNZ, frontCmp] <;> omega) | ((try clear hK2 K2); (try clear hK1 K1); simp_all [lk, firstP, firstNZ, frontCmp]; done)

set_option maxRecDepth 100000 in
set_option maxHeartbeats 4000000 in
theorem kcmp_pf (a b : NKey) : PFun Try.prog 37 [a.pv, b.pv] (.int .i64 (keyCmp a b)) := by
 refine PFun.of_bodyF (by simp) Try.func37 rfl 27 rfl (by simp) fun c0 => ?_
 simp only [argL, Nat.reduceAdd]
 refine pw_seq_k fun K1 hK1 => ?_
 refine pw_region 0 ?_
 simp
 apply hK1; try clear hK1 K1
 refine pw_seq_k fun K2 hK2 => ?_
 refine pw_seq_k fun K3 hK3 => ?_
 refine pw_region 0 ?_
 refine pEv0_split 4 fun Kr4 hKr4 => ?_
 simp
 apply hKr4; clear hKr4 Kr4
 refine pEv0_split 2 fun Kr5 hKr5 => ?_
 simp [sBinH, sBin, binop]
 apply hKr5; clear hKr5 Kr5
 refine pEv0_guard _ rfl (fun hg6 => ?_) (fun hg6 => ?_)
 ·have hgb6 := eq_of_beq hg6
  try simp only [Bool.not_true, Bool.not_false] at hgb6
  try simp at hg6
  refine pEv0_split 4 fun Kr7 hKr7 => ?_
  simp [hg6, hgb6]
  apply hKr7; clear hKr7 Kr7
  refine pEv0_split 2 fun Kr8 hKr8 => ?_
  simp [sBinH, sBin, binop, hg6, hgb6]
  apply hKr8; clear hKr8 Kr8
  refine pEv0_guard _ rfl (fun hg9 => ?_) (fun hg9 => ?_)
  ·have hgb9 := eq_of_beq hg9
   try simp only [Bool.not_true, Bool.not_false] at hgb9
   try simp at hg9
   refine pEv0_split 4 fun Kr10 hKr10 => ?_
   simp [hg6, hgb6, hg9, hgb9]
   apply hKr10; clear hKr10 Kr10
   simp [sBinH, sBin, binop, hg6, hgb6, hg9, hgb9]
   apply hK3; try clear hK3 K3
   refine pw_keep [2, 3, 23] ?_
   simp only [keepL, memL, cond_true, cond_false, ↓reduceIte, reduceCtorEq, Nat.reduceEqDiff]
   refine pw_cond _ rfl (fun h11 => ?_) (fun h11 => ?_)
   ·try simp at h11
    refine pw_seq_k fun K12 hK12 => ?_
    refine pw_region 0 ?_
    simp [hg6, hgb6, hg9, hgb9, h11]
    apply hK12; try clear hK12 K12
    refine pw_ret ?_
    try simp only [thenP, inBlockP]
    refine bodyQ_fr (by first | exact .inl rfl | exact .inr rfl) _ rfl ?_
    first | rfl | (simp [lk, keyCmp_eq, keyCmp', hg6, hgb6, hg9, hgb9, h11]; done) | (simp [lk, keyCmp_eq, keyCmp', hg6, hgb6, hg9, hgb9, h11] <;> omega) | ((try clear hK12 K12); (try clear hK3 K3); (try clear hK2 K2); (try clear hK1 K1); simp_all [lk, keyCmp_eq, keyCmp']; done)
   ·try simp at h11
    refine pw_skip ?_
    try simp only [thenP, inBlockP]
    apply hK2; try clear hK2 K2
    refine pw_seq_k fun K13 hK13 => ?_
    refine pw_seq_k fun K14 hK14 => ?_
    refine pw_region 0 ?_
    simp [eq28, hg6, hgb6, hg9, hgb9, h11]
    apply hK14; try clear hK14 K14
    refine pw_keep [26] ?_
    simp only [keepL, memL, cond_true, cond_false, ↓reduceIte, reduceCtorEq, Nat.reduceEqDiff]
    refine pw_cond _ rfl (fun h15 => ?_) (fun h15 => ?_)
    ·try simp at h15
     refine pw_seq_k fun K16 hK16 => ?_
     refine pw_region 0 ?_
     simp [hg6, hgb6, hg9, hgb9, h11, h15]
     apply hK16; try clear hK16 K16
     refine pw_ret ?_
     try simp only [thenP, inBlockP]
     refine bodyQ_fr (by first | exact .inl rfl | exact .inr rfl) _ rfl ?_
     first | rfl | (simp [lk, keyCmp_eq, keyCmp', hg6, hgb6, hg9, hgb9, h11, h15]; done) | (simp [lk, keyCmp_eq, keyCmp', hg6, hgb6, hg9, hgb9, h11, h15] <;> omega) | ((try clear hK16 K16); (try clear hK14 K14); (try clear hK13 K13); (try clear hK12 K12); (try clear hK3 K3); (try clear hK2 K2); (try clear hK1 K1); simp_all [lk, keyCmp_eq, keyCmp']; done)
    ·try simp at h15
     refine pw_skip ?_
     try simp only [thenP, inBlockP]
     apply hK13; try clear hK13 K13
     refine pw_seq_k fun K17 hK17 => ?_
     refine pw_region 0 ?_
     simp [hg6, hgb6, hg9, hgb9, h11, h15]
     apply hK17; try clear hK17 K17
     refine pw_ret ?_
     try simp only [thenP, inBlockP]
     refine bodyQ_fr (by first | exact .inl rfl | exact .inr rfl) _ rfl ?_
     first | rfl | (simp [lk, keyCmp_eq, keyCmp', hg6, hgb6, hg9, hgb9, h11, h15]; done) | (simp [lk, keyCmp_eq, keyCmp', hg6, hgb6, hg9, hgb9, h11, h15] <;> omega) | ((try clear hK17 K17); (try clear hK16 K16); (try clear hK14 K14); (try clear hK13 K13); (try clear hK12 K12); (try clear hK3 K3); (try clear hK2 K2); (try clear hK1 K1); simp_all [lk, keyCmp_eq, keyCmp']; done)
  ·have hgb9 := beq_off hg9
   try simp only [Bool.not_true, Bool.not_false] at hgb9
   try simp at hg9
   refine pEv0_split 4 fun Kr18 hKr18 => ?_
   simp [hg6, hgb6, hg9, hgb9]
   apply hKr18; clear hKr18 Kr18
   simp [sBinH, sBin, binop, hg6, hgb6, hg9, hgb9]
   apply hK3; try clear hK3 K3
   refine pw_keep [2, 3, 23] ?_
   simp only [keepL, memL, cond_true, cond_false, ↓reduceIte, reduceCtorEq, Nat.reduceEqDiff]
   refine pw_cond _ rfl (fun h19 => ?_) (fun h19 => ?_)
   ·simp at h19
   ·clear h19
    refine pw_skip ?_
    try simp only [thenP, inBlockP]
    apply hK2; try clear hK2 K2
    refine pw_seq_k fun K20 hK20 => ?_
    refine pw_seq_k fun K21 hK21 => ?_
    refine pw_region 0 ?_
    simp [eq28, hg6, hgb6, hg9, hgb9]
    apply hK21; try clear hK21 K21
    refine pw_keep [26] ?_
    simp only [keepL, memL, cond_true, cond_false, ↓reduceIte, reduceCtorEq, Nat.reduceEqDiff]
    refine pw_cond _ rfl (fun h22 => ?_) (fun h22 => ?_)
    ·try simp at h22
     refine pw_seq_k fun K23 hK23 => ?_
     refine pw_region 0 ?_
     simp [hg6, hgb6, hg9, hgb9, h22]
     apply hK23; try clear hK23 K23
     refine pw_ret ?_
     try simp only [thenP, inBlockP]
     refine bodyQ_fr (by first | exact .inl rfl | exact .inr rfl) _ rfl ?_
     first | rfl | (simp [lk, keyCmp_eq, keyCmp', hg6, hgb6, hg9, hgb9, h22]; done) | (simp [lk, keyCmp_eq, keyCmp', hg6, hgb6, hg9, hgb9, h22] <;> omega) | ((try clear hK23 K23); (try clear hK21 K21); (try clear hK20 K20); (try clear hK17 K17); (try clear hK16 K16); (try clear hK14 K14); (try clear hK13 K13); (try clear hK12 K12); (try clear hK3 K3); (try clear hK2 K2); (try clear hK1 K1); simp_all [lk, keyCmp_eq, keyCmp']; done)
    ·try simp at h22
     refine pw_skip ?_
     try simp only [thenP, inBlockP]
     apply hK20; try clear hK20 K20
     refine pw_seq_k fun K24 hK24 => ?_
     refine pw_region 0 ?_
     simp [hg6, hgb6, hg9, hgb9, h22]
     apply hK24; try clear hK24 K24
     refine pw_ret ?_
     try simp only [thenP, inBlockP]
     refine bodyQ_fr (by first | exact .inl rfl | exact .inr rfl) _ rfl ?_
     first | rfl | (simp [lk, keyCmp_eq, keyCmp', hg6, hgb6, hg9, hgb9, h22]; done) | (simp [lk, keyCmp_eq, keyCmp', hg6, hgb6, hg9, hgb9, h22] <;> omega) | ((try clear hK24 K24); (try clear hK23 K23); (try clear hK21 K21); (try clear hK20 K20); (try clear hK17 K17); (try clear hK16 K16); (try clear hK14 K14); (try clear hK13 K13); (try clear hK12 K12); (try clear hK3 K3); (try clear hK2 K2); (try clear hK1 K1); simp_all [lk, keyCmp_eq, keyCmp']; done)
 ·have hgb6 := beq_off hg6
  try simp only [Bool.not_true, Bool.not_false] at hgb6
  try simp at hg6
  refine pEv0_split 4 fun Kr25 hKr25 => ?_
  simp [hg6, hgb6]
  apply hKr25; clear hKr25 Kr25
  refine pEv0_split 4 fun Kr26 hKr26 => ?_
  simp [sBinH, sBin, binop, hg6, hgb6]
  apply hKr26; clear hKr26 Kr26
  refine pEv0_split 4 fun Kr27 hKr27 => ?_
  simp [sBinH, sBin, binop, hg6, hgb6]
  apply hKr27; clear hKr27 Kr27
  simp [hg6, hgb6]
  apply hK3; try clear hK3 K3
  refine pw_keep [2, 3, 23] ?_
  simp only [keepL, memL, cond_true, cond_false, ↓reduceIte, reduceCtorEq, Nat.reduceEqDiff]
  refine pw_cond _ rfl (fun h28 => ?_) (fun h28 => ?_)
  ·clear h28
   refine pw_seq_k fun K29 hK29 => ?_
   refine pw_region 0 ?_
   simp [hg6, hgb6]
   apply hK29; try clear hK29 K29
   refine pw_ret ?_
   try simp only [thenP, inBlockP]
   refine bodyQ_fr (by first | exact .inl rfl | exact .inr rfl) _ rfl ?_
   first | rfl | (simp [lk, keyCmp_eq, keyCmp', hg6, hgb6]; done) | (simp [lk, keyCmp_eq, keyCmp', hg6, hgb6] <;> omega) | ((try clear hK29 K29); (try clear hK24 K24); (try clear hK23 K23); (try clear hK21 K21); (try clear hK20 K20); (try clear hK17 K17); (try clear hK16 K16); (try clear hK14 K14); (try clear hK13 K13); (try clear hK12 K12); (try clear hK3 K3); (try clear hK2 K2); (try clear hK1 K1); simp_all [lk, keyCmp_eq, keyCmp']; done)
  ·simp at h28

set_option maxRecDepth 100000 in
set_option maxHeartbeats 4000000 in
theorem ptcmp_pf (a b : NPoint) : PFun Try.prog 36 [a.pv, b.pv] (.int .i64 (pointCmp a b)) := by
 refine PFun.of_bodyF (by simp) Try.func36 rfl 24 rfl (by simp) fun c0 => ?_
 simp only [argL, Nat.reduceAdd]
 refine pw_seq_k fun K1 hK1 => ?_
 refine pw_region 0 ?_
 simp
 apply hK1; try clear hK1 K1
 refine pw_seq_k fun K2 hK2 => ?_
 refine pw_seq_k fun K3 hK3 => ?_
 refine pw_region 0 ?_
 refine pEv0_split 4 fun Kr4 hKr4 => ?_
 simp
 apply hKr4; clear hKr4 Kr4
 refine pEv0_call' rfl rfl rfl (call_pure (rcmp_pf _ _) en65 (by simp) _) ?_
 simp
 apply hK3; try clear hK3 K3
 refine pw_keep [2, 3, 5] ?_
 simp only [keepL, memL, cond_true, cond_false, ↓reduceIte, reduceCtorEq, Nat.reduceEqDiff]
 refine pw_seq_k fun K5 hK5 => ?_
 refine pw_region 0 ?_
 simp [sBinH, sBin, binop]
 apply hK5; try clear hK5 K5
 refine pw_cond _ rfl (fun h6 => ?_) (fun h6 => ?_)
 ·try simp at h6
  refine pw_seq_k fun K7 hK7 => ?_
  refine pw_region 0 ?_
  simp [h6]
  apply hK7; try clear hK7 K7
  refine pw_keep [4] ?_
  simp only [keepL, memL, cond_true, cond_false, ↓reduceIte, reduceCtorEq, Nat.reduceEqDiff]
  refine pw_ret ?_
  try simp only [thenP, inBlockP]
  refine bodyQ_fr (by first | exact .inl rfl | exact .inr rfl) _ rfl ?_
  first | rfl | (simp [lk, pointCmp, firstNZ, cmpI, h6]; done) | (simp [lk, pointCmp, firstNZ, cmpI, h6] <;> omega) | ((try clear hK7 K7); (try clear hK5 K5); (try clear hK3 K3); (try clear hK2 K2); (try clear hK1 K1); simp_all [lk, pointCmp, firstNZ, cmpI]; done)
 ·try simp at h6
  refine pw_skip ?_
  try simp only [thenP, inBlockP]
  apply hK2; try clear hK2 K2
  refine pw_seq_k fun K8 hK8 => ?_
  refine pw_seq_k fun K9 hK9 => ?_
  refine pw_region 0 ?_
  refine pEv0_split 4 fun Kr10 hKr10 => ?_
  simp [h6]
  apply hKr10; clear hKr10 Kr10
  simp [sBinH, sBin, binop, h6]
  apply hK9; try clear hK9 K9
  refine pw_keep [2, 3, 18] ?_
  simp only [keepL, memL, cond_true, cond_false, ↓reduceIte, reduceCtorEq, Nat.reduceEqDiff]
  refine pw_cond _ rfl (fun h11 => ?_) (fun h11 => ?_)
  ·try simp at h11
   refine pw_seq_k fun K12 hK12 => ?_
   refine pw_region 0 ?_
   simp [h6, h11]
   apply hK12; try clear hK12 K12
   refine pw_ret ?_
   try simp only [thenP, inBlockP]
   refine bodyQ_fr (by first | exact .inl rfl | exact .inr rfl) _ rfl ?_
   first | rfl | (simp [lk, pointCmp, firstNZ, cmpI, h6, h11]; done) | (simp [lk, pointCmp, firstNZ, cmpI, h6, h11] <;> omega) | ((try clear hK12 K12); (try clear hK9 K9); (try clear hK8 K8); (try clear hK7 K7); (try clear hK5 K5); (try clear hK3 K3); (try clear hK2 K2); (try clear hK1 K1); simp_all [lk, pointCmp, firstNZ, cmpI]; done)
  ·try simp at h11
   refine pw_skip ?_
   try simp only [thenP, inBlockP]
   apply hK8; try clear hK8 K8
   refine pw_seq_k fun K13 hK13 => ?_
   refine pw_seq_k fun K14 hK14 => ?_
   refine pw_region 0 ?_
   refine pEv0_split 4 fun Kr15 hKr15 => ?_
   simp [h6, h11]
   apply hKr15; clear hKr15 Kr15
   simp [sBinH, sBin, binop, h6, h11]
   apply hK14; try clear hK14 K14
   refine pw_keep [23] ?_
   simp only [keepL, memL, cond_true, cond_false, ↓reduceIte, reduceCtorEq, Nat.reduceEqDiff]
   refine pw_cond _ rfl (fun h16 => ?_) (fun h16 => ?_)
   ·try simp at h16
    refine pw_seq_k fun K17 hK17 => ?_
    refine pw_region 0 ?_
    simp [h6, h11, h16]
    apply hK17; try clear hK17 K17
    refine pw_ret ?_
    try simp only [thenP, inBlockP]
    refine bodyQ_fr (by first | exact .inl rfl | exact .inr rfl) _ rfl ?_
    first | rfl | (simp [lk, pointCmp, firstNZ, cmpI, h6, h11, h16]; done) | (simp [lk, pointCmp, firstNZ, cmpI, h6, h11, h16] <;> omega) | ((try clear hK17 K17); (try clear hK14 K14); (try clear hK13 K13); (try clear hK12 K12); (try clear hK9 K9); (try clear hK8 K8); (try clear hK7 K7); (try clear hK5 K5); (try clear hK3 K3); (try clear hK2 K2); (try clear hK1 K1); simp_all [lk, pointCmp, firstNZ, cmpI]; done)
   ·try simp at h16
    refine pw_skip ?_
    try simp only [thenP, inBlockP]
    apply hK13; try clear hK13 K13
    refine pw_seq_k fun K18 hK18 => ?_
    refine pw_region 0 ?_
    simp [h6, h11, h16]
    apply hK18; try clear hK18 K18
    refine pw_ret ?_
    try simp only [thenP, inBlockP]
    refine bodyQ_fr (by first | exact .inl rfl | exact .inr rfl) _ rfl ?_
    first | rfl | (simp [lk, pointCmp, firstNZ, cmpI, h6, h11, h16]; done) | (simp [lk, pointCmp, firstNZ, cmpI, h6, h11, h16] <;> omega) | ((try clear hK18 K18); (try clear hK17 K17); (try clear hK14 K14); (try clear hK13 K13); (try clear hK12 K12); (try clear hK9 K9); (try clear hK8 K8); (try clear hK7 K7); (try clear hK5 K5); (try clear hK3 K3); (try clear hK2 K2); (try clear hK1 K1); simp_all [lk, pointCmp, firstNZ, cmpI]; done)

set_option maxRecDepth 100000 in
set_option maxHeartbeats 4000000 in
theorem rplace_pf (a b : NFront) : PFun Try.prog 12 [a.pv, b.pv] (.int .i64 (placeCmp a b)) := by
 refine PFun.of_bodyF (by simp) Try.func12 rfl 27 rfl (by simp) fun c0 => ?_
 simp only [argL, Nat.reduceAdd]
 refine pw_seq_k fun K1 hK1 => ?_
 refine pw_region 0 ?_
 simp
 apply hK1; try clear hK1 K1
 refine pw_seq_k fun K2 hK2 => ?_
 refine pw_region_draw mix 0 ?_
 refine pEv_split 4 fun Kr3 hKr3 => ?_
 simp
 apply hKr3; clear hKr3 Kr3
 refine pEv_call' rfl rfl rfl (call_pure (less_pf _ _) en34 (by simp) _) ?_
 refine pEv_split 4 fun Kr4 hKr4 => ?_
 simp
 apply hKr4; clear hKr4 Kr4
 refine pEv_call' rfl rfl rfl (call_pure (ptcmp_pf _ _) en36 (by simp) _) ?_
 refine pEv_split 4 fun Kr5 hKr5 => ?_
 simp
 apply hKr5; clear hKr5 Kr5
 refine pEv_call' rfl rfl rfl (call_pure (kcmp_pf _ _) en37 (by simp) _) ?_
 refine pEv_split 4 fun Kr6 hKr6 => ?_
 simp
 apply hKr6; clear hKr6 Kr6
 refine pEv_call' rfl rfl rfl (call_pure (text_pf _ _) en38 (by simp) _) ?_
 refine pEv_split 1 fun Kr7 hKr7 => ?_
 simp
 apply hKr7; clear hKr7 Kr7
 refine pEv_call' rfl rfl rfl (call_view (fst_pf _ (by rfl) (by simp)) en33 rfl (by rfl)) ?_
 simp
 refine ⟨by decide +kernel, ?_⟩
 apply hK2; try clear hK2 K2
 refine pw_keep [4] ?_
 simp only [keepL, memL, cond_true, cond_false, ↓reduceIte, reduceCtorEq, Nat.reduceEqDiff]
 refine pw_ret ?_
 try simp only [thenP, inBlockP]
 refine bodyQ_fr (by first | exact .inl rfl | exact .inr rfl) _ rfl ?_
 first | rfl | (simp [lk, firstP, firstNZ, placeCmp]; done) | (simp [lk, firstP, firstNZ, placeCmp] <;> omega) | ((try clear hK2 K2); (try clear hK1 K1); simp_all [lk, firstP, firstNZ, placeCmp]; done)

set_option maxRecDepth 100000 in
set_option maxHeartbeats 4000000 in
theorem ridcmp_pf (a b : NId) : PFun Try.prog 14 [a.pv, b.pv] (.int .i64 (idCmp a b)) := by
 refine PFun.of_bodyF (by simp) Try.func14 rfl 31 rfl (by simp) fun c0 => ?_
 simp only [argL, Nat.reduceAdd]
 refine pw_seq_k fun K1 hK1 => ?_
 refine pw_region 0 ?_
 simp
 apply hK1; try clear hK1 K1
 refine pw_seq_k fun K2 hK2 => ?_
 refine pw_region_draw mix 0 ?_
 refine pEv_split 4 fun Kr3 hKr3 => ?_
 simp
 apply hKr3; clear hKr3 Kr3
 refine pEv_call' rfl rfl rfl (call_pure (kcmp_pf _ _) en37 (by simp) _) ?_
 refine pEv_split 4 fun Kr4 hKr4 => ?_
 simp
 apply hKr4; clear hKr4 Kr4
 refine pEv_call' rfl rfl rfl (call_pure (text_pf _ _) en38 (by simp) _) ?_
 refine pEv_split 2 fun Kr5 hKr5 => ?_
 simp
 apply hKr5; clear hKr5 Kr5
 refine pEv_call' rfl rfl rfl (call_pure (n_pf _) en35 (by simp) _) ?_
 refine pEv_split 2 fun Kr6 hKr6 => ?_
 simp
 apply hKr6; clear hKr6 Kr6
 refine pEv_call' rfl rfl rfl (call_pure (n_pf _) en35 (by simp) _) ?_
 refine pEv_call' rfl rfl rfl (call_pure (less_pf _ _) en34 (by simp) _) ?_
 refine pEv_split 2 fun Kr7 hKr7 => ?_
 simp
 apply hKr7; clear hKr7 Kr7
 refine pEv_call' rfl rfl rfl (call_pure (n_pf _) en35 (by simp) _) ?_
 refine pEv_split 2 fun Kr8 hKr8 => ?_
 simp
 apply hKr8; clear hKr8 Kr8
 refine pEv_call' rfl rfl rfl (call_pure (n_pf _) en35 (by simp) _) ?_
 refine pEv_call' rfl rfl rfl (call_pure (less_pf _ _) en34 (by simp) _) ?_
 refine pEv_split 1 fun Kr9 hKr9 => ?_
 simp
 apply hKr9; clear hKr9 Kr9
 refine pEv_call' rfl rfl rfl (call_view (fst_pf _ (by rfl) (by simp)) en33 rfl (by rfl)) ?_
 simp
 refine ⟨by decide +kernel, ?_⟩
 apply hK2; try clear hK2 K2
 refine pw_keep [4] ?_
 simp only [keepL, memL, cond_true, cond_false, ↓reduceIte, reduceCtorEq, Nat.reduceEqDiff]
 refine pw_ret ?_
 try simp only [thenP, inBlockP]
 refine bodyQ_fr (by first | exact .inl rfl | exact .inr rfl) _ rfl ?_
 first | rfl | (simp [lk, firstP, firstNZ, idCmp]; done) | (simp [lk, firstP, firstNZ, idCmp] <;> omega) | ((try clear hK2 K2); (try clear hK1 K1); simp_all [lk, firstP, firstNZ, idCmp]; done)

set_option maxRecDepth 100000 in
set_option maxHeartbeats 4000000 in
theorem rfcmp_pf (a b : NFront) : PFun Try.prog 10 [a.pv, b.pv] (.int .i64 (frontCmp a b)) := by
 refine PFun.of_bodyF (by simp) Try.func10 rfl 34 rfl (by simp) fun c0 => ?_
 simp only [argL, Nat.reduceAdd]
 refine pw_seq_k fun K1 hK1 => ?_
 refine pw_region 0 ?_
 simp
 apply hK1; try clear hK1 K1
 refine pw_seq_k fun K2 hK2 => ?_
 refine pw_region_draw mix 0 ?_
 refine pEv_split 2 fun Kr3 hKr3 => ?_
 simp
 apply hKr3; clear hKr3 Kr3
 refine pEv_call' rfl rfl rfl (call_pure (rplace_pf _ _) en12 (by simp) _) ?_
 refine pEv_split 4 fun Kr4 hKr4 => ?_
 simp
 apply hKr4; clear hKr4 Kr4
 refine pEv_call' rfl rfl rfl (call_pure (less_pf _ _) en34 (by simp) _) ?_
 refine pEv_split 2 fun Kr5 hKr5 => ?_
 simp
 apply hKr5; clear hKr5 Kr5
 refine pEv_call' rfl rfl rfl (call_pure (n_pf _) en35 (by simp) _) ?_
 refine pEv_split 2 fun Kr6 hKr6 => ?_
 simp
 apply hKr6; clear hKr6 Kr6
 refine pEv_call' rfl rfl rfl (call_pure (n_pf _) en35 (by simp) _) ?_
 refine pEv_call' rfl rfl rfl (call_pure (less_pf _ _) en34 (by simp) _) ?_
 refine pEv_split 2 fun Kr7 hKr7 => ?_
 simp
 apply hKr7; clear hKr7 Kr7
 refine pEv_call' rfl rfl rfl (call_pure (n_pf _) en35 (by simp) _) ?_
 refine pEv_split 2 fun Kr8 hKr8 => ?_
 simp
 apply hKr8; clear hKr8 Kr8
 refine pEv_call' rfl rfl rfl (call_pure (n_pf _) en35 (by simp) _) ?_
 refine pEv_call' rfl rfl rfl (call_pure (less_pf _ _) en34 (by simp) _) ?_
 refine pEv_split 4 fun Kr9 hKr9 => ?_
 simp
 apply hKr9; clear hKr9 Kr9
 refine pEv_call' rfl rfl rfl (call_pure (less_pf _ _) en34 (by simp) _) ?_
 refine pEv_split 1 fun Kr10 hKr10 => ?_
 simp
 apply hKr10; clear hKr10 Kr10
 refine pEv_call' rfl rfl rfl (call_view (fst_pf _ (by rfl) (by simp)) en33 rfl (by rfl)) ?_
 simp
 refine ⟨by decide +kernel, ?_⟩
 apply hK2; try clear hK2 K2
 refine pw_keep [4] ?_
 simp only [keepL, memL, cond_true, cond_false, ↓reduceIte, reduceCtorEq, Nat.reduceEqDiff]
 refine pw_ret ?_
 try simp only [thenP, inBlockP]
 refine bodyQ_fr (by first | exact .inl rfl | exact .inr rfl) _ rfl ?_
 first | rfl | (simp [lk, firstP, firstNZ, frontCmp]; done) | (simp [lk, firstP, firstNZ, frontCmp] <;> omega) | ((try clear hK2 K2); (try clear hK1 K1); simp_all [lk, firstP, firstNZ, frontCmp]; done)

set_option maxRecDepth 100000 in
set_option maxHeartbeats 4000000 in
theorem clone_NCidr0  : PFun Try.prog 73 [.sl 18 []] (.sl 18 []) := by
 refine PFun.of_body_frozenF (by simp) Try.func73 rfl 8 rfl (by simp) fun c0 => ?_
 simp only [argL, Nat.reduceAdd]
 refine pw_seq_k fun K1 hK1 => ?_
 refine pw_region 0 ?_
 simp
 apply hK1; try clear hK1 K1
 refine pw_seq_k fun K2 hK2 => ?_
 refine pw_seq_k fun K3 hK3 => ?_
 refine pw_region 0 ?_
 simp [sBinH, sNil, sNil.curB]
 apply hK3; try clear hK3 K3
 refine pw_cond_u rfl ?_ ?_
 ·refine pw_seq_k fun K5 hK5 => ?_
  refine pw_region 0 ?_
  simp
  apply hK5; try clear hK5 K5
  refine pw_ret ?_
  try simp only [thenP, inBlockP]
  refine bodyQ_fr (by first | exact .inl rfl | exact .inr rfl) _ rfl ?_
  first | exact ⟨[], _, rfl, nils_le _⟩ | (refine ⟨[5], _, ?_, PV.le_refl _⟩; simp [lk, view, boxArr, find, List.take_of_length_le])
 ·refine pw_skip ?_
  try simp only [thenP, inBlockP]
  apply hK2; try clear hK2 K2
  refine pw_seq_k fun K6 hK6 => ?_
  refine pw_region 0 ?_
  simp
  apply hK6; try clear hK6 K6
  refine pw_keep [2] ?_
  simp only [keepL, memL, cond_true, cond_false, ↓reduceIte, reduceCtorEq, Nat.reduceEqDiff]
  refine pw_ret ?_
  try simp only [thenP, inBlockP]
  refine bodyQ_fr (by first | exact .inl rfl | exact .inr rfl) _ rfl ?_
  first | exact ⟨[], _, rfl, nils_le _⟩ | (refine ⟨[5], _, ?_, PV.le_refl _⟩; simp [lk, view, boxArr, find, List.take_of_length_le])

set_option maxRecDepth 100000 in
set_option maxHeartbeats 4000000 in
theorem clone_NCidr1 (x : NCidr) (l : List NCidr) (hl : l.length < 2 ^ 31) : PFun Try.prog 73 [.sl 18 ((x :: l).map (NCidr.pv))] (.sl 18 ((x :: l).map (NCidr.pv))) := by
 refine PFun.of_body_frozenF (by simp) Try.func73 rfl 8 rfl (by simp) fun c0 => ?_
 simp only [argL, Nat.reduceAdd]
 have hb1 : (l.length + 1) * 32 ≤ 140737488355328 := by omega
 have hb2 : l.length ≤ 9223372036854775806 := by omega
 refine pw_seq_k fun K1 hK1 => ?_
 refine pw_region 0 ?_
 simp [hb1, hb2]
 apply hK1; try clear hK1 K1
 refine pw_seq_k fun K2 hK2 => ?_
 refine pw_seq_k fun K3 hK3 => ?_
 refine pw_region 0 ?_
 simp [sBinH, sNil, sNil.curB, hb1, hb2]
 apply hK3; try clear hK3 K3
 refine pw_cond _ rfl (fun h4 => ?_) (fun h4 => ?_)
 ·simp at h4
 ·clear h4
  refine pw_skip ?_
  try simp only [thenP, inBlockP]
  apply hK2; try clear hK2 K2
  refine pw_seq_k fun K5 hK5 => ?_
  refine pw_region 0 ?_
  simp [hb1, hb2]
  apply hK5; try clear hK5 K5
  refine pw_keep [2] ?_
  simp only [keepL, memL, cond_true, cond_false, ↓reduceIte, reduceCtorEq, Nat.reduceEqDiff]
  refine pw_ret ?_
  try simp only [thenP, inBlockP]
  refine bodyQ_fr (by first | exact .inl rfl | exact .inr rfl) _ rfl ?_
  first | exact ⟨[], _, rfl, nils_le _⟩ | (refine ⟨[5], _, ?_, PV.le_refl _⟩; simp [lk, view, boxArr, find, List.take_of_length_le])
theorem clone_NCidr (l : List NCidr) (hl : l.length < 2 ^ 31) : PFun Try.prog 73 [.sl 18 (l.map (NCidr.pv))] (.sl 18 (l.map (NCidr.pv))) := by
  cases l with
  | nil => exact clone_NCidr0
  | cons x l => exact clone_NCidr1 x l (by simp at hl; omega)

set_option maxRecDepth 100000 in
set_option maxHeartbeats 4000000 in
theorem clone_Int0  : PFun Try.prog 82 [.sl 1 []] (.sl 1 []) := by
 refine PFun.of_body_frozenF (by simp) Try.func82 rfl 8 rfl (by simp) fun c0 => ?_
 simp only [argL, Nat.reduceAdd]
 refine pw_seq_k fun K1 hK1 => ?_
 refine pw_region 0 ?_
 simp
 apply hK1; try clear hK1 K1
 refine pw_seq_k fun K2 hK2 => ?_
 refine pw_seq_k fun K3 hK3 => ?_
 refine pw_region 0 ?_
 simp [sBinH, sNil, sNil.curB]
 apply hK3; try clear hK3 K3
 refine pw_cond_u rfl ?_ ?_
 ·refine pw_seq_k fun K5 hK5 => ?_
  refine pw_region 0 ?_
  simp
  apply hK5; try clear hK5 K5
  refine pw_ret ?_
  try simp only [thenP, inBlockP]
  refine bodyQ_fr (by first | exact .inl rfl | exact .inr rfl) _ rfl ?_
  first | exact ⟨[], _, rfl, nils_le _⟩ | (refine ⟨[5], _, ?_, PV.le_refl _⟩; simp [lk, view, boxArr, find, List.take_of_length_le])
 ·refine pw_skip ?_
  try simp only [thenP, inBlockP]
  apply hK2; try clear hK2 K2
  refine pw_seq_k fun K6 hK6 => ?_
  refine pw_region 0 ?_
  simp
  apply hK6; try clear hK6 K6
  refine pw_keep [2] ?_
  simp only [keepL, memL, cond_true, cond_false, ↓reduceIte, reduceCtorEq, Nat.reduceEqDiff]
  refine pw_ret ?_
  try simp only [thenP, inBlockP]
  refine bodyQ_fr (by first | exact .inl rfl | exact .inr rfl) _ rfl ?_
  first | exact ⟨[], _, rfl, nils_le _⟩ | (refine ⟨[5], _, ?_, PV.le_refl _⟩; simp [lk, view, boxArr, find, List.take_of_length_le])

set_option maxRecDepth 100000 in
set_option maxHeartbeats 4000000 in
theorem clone_Int1 (x : Int) (l : List Int) (hl : l.length < 2 ^ 31) : PFun Try.prog 82 [.sl 1 ((x :: l).map (PV.int .i64))] (.sl 1 ((x :: l).map (PV.int .i64))) := by
 refine PFun.of_body_frozenF (by simp) Try.func82 rfl 8 rfl (by simp) fun c0 => ?_
 simp only [argL, Nat.reduceAdd]
 have hb1 : (l.length + 1) * 8 ≤ 140737488355328 := by omega
 have hb2 : l.length ≤ 9223372036854775806 := by omega
 refine pw_seq_k fun K1 hK1 => ?_
 refine pw_region 0 ?_
 simp [hb1, hb2]
 apply hK1; try clear hK1 K1
 refine pw_seq_k fun K2 hK2 => ?_
 refine pw_seq_k fun K3 hK3 => ?_
 refine pw_region 0 ?_
 simp [sBinH, sNil, sNil.curB, hb1, hb2]
 apply hK3; try clear hK3 K3
 refine pw_cond _ rfl (fun h4 => ?_) (fun h4 => ?_)
 ·simp at h4
 ·clear h4
  refine pw_skip ?_
  try simp only [thenP, inBlockP]
  apply hK2; try clear hK2 K2
  refine pw_seq_k fun K5 hK5 => ?_
  refine pw_region 0 ?_
  simp [hb1, hb2]
  apply hK5; try clear hK5 K5
  refine pw_keep [2] ?_
  simp only [keepL, memL, cond_true, cond_false, ↓reduceIte, reduceCtorEq, Nat.reduceEqDiff]
  refine pw_ret ?_
  try simp only [thenP, inBlockP]
  refine bodyQ_fr (by first | exact .inl rfl | exact .inr rfl) _ rfl ?_
  first | exact ⟨[], _, rfl, nils_le _⟩ | (refine ⟨[5], _, ?_, PV.le_refl _⟩; simp [lk, view, boxArr, find, List.take_of_length_le])
theorem clone_Int (l : List Int) (hl : l.length < 2 ^ 31) : PFun Try.prog 82 [.sl 1 (l.map (PV.int .i64))] (.sl 1 (l.map (PV.int .i64))) := by
  cases l with
  | nil => exact clone_Int0
  | cons x l => exact clone_Int1 x l (by simp at hl; omega)

set_option maxRecDepth 100000 in
set_option maxHeartbeats 4000000 in
theorem clone_NPoint0  : PFun Try.prog 81 [.sl 18 []] (.sl 18 []) := by
 refine PFun.of_body_frozenF (by simp) Try.func81 rfl 8 rfl (by simp) fun c0 => ?_
 simp only [argL, Nat.reduceAdd]
 refine pw_seq_k fun K1 hK1 => ?_
 refine pw_region 0 ?_
 simp
 apply hK1; try clear hK1 K1
 refine pw_seq_k fun K2 hK2 => ?_
 refine pw_seq_k fun K3 hK3 => ?_
 refine pw_region 0 ?_
 simp [sBinH, sNil, sNil.curB]
 apply hK3; try clear hK3 K3
 refine pw_cond_u rfl ?_ ?_
 ·refine pw_seq_k fun K5 hK5 => ?_
  refine pw_region 0 ?_
  simp
  apply hK5; try clear hK5 K5
  refine pw_ret ?_
  try simp only [thenP, inBlockP]
  refine bodyQ_fr (by first | exact .inl rfl | exact .inr rfl) _ rfl ?_
  first | exact ⟨[], _, rfl, nils_le _⟩ | (refine ⟨[5], _, ?_, PV.le_refl _⟩; simp [lk, view, boxArr, find, List.take_of_length_le])
 ·refine pw_skip ?_
  try simp only [thenP, inBlockP]
  apply hK2; try clear hK2 K2
  refine pw_seq_k fun K6 hK6 => ?_
  refine pw_region 0 ?_
  simp
  apply hK6; try clear hK6 K6
  refine pw_keep [2] ?_
  simp only [keepL, memL, cond_true, cond_false, ↓reduceIte, reduceCtorEq, Nat.reduceEqDiff]
  refine pw_ret ?_
  try simp only [thenP, inBlockP]
  refine bodyQ_fr (by first | exact .inl rfl | exact .inr rfl) _ rfl ?_
  first | exact ⟨[], _, rfl, nils_le _⟩ | (refine ⟨[5], _, ?_, PV.le_refl _⟩; simp [lk, view, boxArr, find, List.take_of_length_le])

set_option maxRecDepth 100000 in
set_option maxHeartbeats 4000000 in
theorem clone_NPoint1 (x : NPoint) (l : List NPoint) (hl : l.length < 2 ^ 31) : PFun Try.prog 81 [.sl 18 ((x :: l).map (NPoint.pv))] (.sl 18 ((x :: l).map (NPoint.pv))) := by
 refine PFun.of_body_frozenF (by simp) Try.func81 rfl 8 rfl (by simp) fun c0 => ?_
 simp only [argL, Nat.reduceAdd]
 have hb1 : (l.length + 1) * 32 ≤ 140737488355328 := by omega
 have hb2 : l.length ≤ 9223372036854775806 := by omega
 refine pw_seq_k fun K1 hK1 => ?_
 refine pw_region 0 ?_
 simp [hb1, hb2]
 apply hK1; try clear hK1 K1
 refine pw_seq_k fun K2 hK2 => ?_
 refine pw_seq_k fun K3 hK3 => ?_
 refine pw_region 0 ?_
 simp [sBinH, sNil, sNil.curB, hb1, hb2]
 apply hK3; try clear hK3 K3
 refine pw_cond _ rfl (fun h4 => ?_) (fun h4 => ?_)
 ·simp at h4
 ·clear h4
  refine pw_skip ?_
  try simp only [thenP, inBlockP]
  apply hK2; try clear hK2 K2
  refine pw_seq_k fun K5 hK5 => ?_
  refine pw_region 0 ?_
  simp [hb1, hb2]
  apply hK5; try clear hK5 K5
  refine pw_keep [2] ?_
  simp only [keepL, memL, cond_true, cond_false, ↓reduceIte, reduceCtorEq, Nat.reduceEqDiff]
  refine pw_ret ?_
  try simp only [thenP, inBlockP]
  refine bodyQ_fr (by first | exact .inl rfl | exact .inr rfl) _ rfl ?_
  first | exact ⟨[], _, rfl, nils_le _⟩ | (refine ⟨[5], _, ?_, PV.le_refl _⟩; simp [lk, view, boxArr, find, List.take_of_length_le])
theorem clone_NPoint (l : List NPoint) (hl : l.length < 2 ^ 31) : PFun Try.prog 81 [.sl 18 (l.map (NPoint.pv))] (.sl 18 (l.map (NPoint.pv))) := by
  cases l with
  | nil => exact clone_NPoint0
  | cons x l => exact clone_NPoint1 x l (by simp at hl; omega)

set_option maxRecDepth 100000 in
set_option maxHeartbeats 4000000 in
theorem copyTable_pf (a : NTable) (hb : a.backends.length < 2 ^ 31) (hs : a.slots.length < 2 ^ 31) : PFun Try.prog 72 [a.pv] (a.pv) := by
 refine PFun.of_bodyF (by simp) Try.func72 rfl 12 rfl (by simp) fun c0 => ?_
 simp only [argL, Nat.reduceAdd]
 refine pw_seq_k fun K1 hK1 => ?_
 refine pw_region 0 ?_
 simp
 apply hK1; try clear hK1 K1
 refine pw_seq_k fun K2 hK2 => ?_
 refine pw_region_draw mix 0 ?_
 refine pEv_split 4 fun Kr3 hKr3 => ?_
 simp
 apply hKr3; clear hKr3 Kr3
 refine pEv_call' rfl rfl rfl (call_pure (clone_NPoint _ (by assumption)) en81 rfl _) ?_
 refine pEv_split 2 fun Kr4 hKr4 => ?_
 simp
 apply hKr4; clear hKr4 Kr4
 refine pEv_call' rfl rfl rfl (call_pure (clone_Int _ (by assumption)) en82 rfl _) ?_
 simp
 refine ⟨by decide +kernel, ?_⟩
 apply hK2; try clear hK2 K2
 refine pw_keep [2] ?_
 simp only [keepL, memL, cond_true, cond_false, ↓reduceIte, reduceCtorEq, Nat.reduceEqDiff]
 refine pw_ret ?_
 try simp only [thenP, inBlockP]
 refine bodyQ_ex (by first | exact .inl rfl | exact .inr rfl) ?_
 simp only [resL, resVL, lk, sLoad, boxArr, find_cons, Try.func72, Try.results72, ty67, ↓reduceIte, reduceCtorEq, Nat.reduceLT, Nat.reduceEqDiff, Option.map_some, Option.bind_some, Option.some.injEq, exists_eq_left', List.getElem?_cons_zero, ld_agg_t, ld_int, ld_bool, ld_str, ld_sl, ld_bsl, ld_nils, List.length_cons, List.length_nil, Nat.reduceAdd, Nat.reduceLeDiff, List.take_succ_cons, List.take_zero, List.drop_zero, and_self, true_and, Nat.le_refl, Nat.zero_add, NAddr.ld, NCidr.ld, NPoint.ld, NKey.ld, NFront.ld, NId.ld, NFilter.ld, NTable.ld, NGroup.ld, NRows.ld]
 first | rfl | (simp [lk]; done) | (simp [lk, NTable.pv, NTable.cs]; done)

set_option maxRecDepth 100000 in
set_option maxHeartbeats 4000000 in
theorem eqCidrs (l m : List NCidr) (hl : l.length < 2 ^ 31) : PFun Try.prog 42 [.sl 18 (l.map (NCidr.pv)), .sl 18 (m.map (NCidr.pv))] (.bool (decide (l = m))) := by
 refine PFun.of_bodyF (by simp) Try.func42 rfl 26 rfl (by simp) fun c0 => ?_
 simp only [argL, Nat.reduceAdd]
 refine pw_seq_k fun K1 hK1 => ?_
 refine pw_region 0 ?_
 simp
 apply hK1; try clear hK1 K1
 refine pw_seq_k fun K2 hK2 => ?_
 refine pw_seq_k fun K3 hK3 => ?_
 refine pw_region 0 ?_
 refine pEv0_split 4 fun Kr4 hKr4 => ?_
 simp
 apply hKr4; clear hKr4 Kr4
 simp [sBinH, sBin, binop]
 apply hK3; try clear hK3 K3
 refine pw_keep [0, 1, 10] ?_
 simp only [keepL, memL, cond_true, cond_false, ↓reduceIte, reduceCtorEq, Nat.reduceEqDiff]
 refine pw_cond _ rfl (fun h5 => ?_) (fun h5 => ?_)
 ·try simp at h5
  refine pw_seq_k fun K6 hK6 => ?_
  refine pw_region 0 ?_
  simp [h5]
  apply hK6; try clear hK6 K6
  refine pw_ret ?_
  try simp only [thenP, inBlockP]
  refine bodyQ_fr (by first | exact .inl rfl | exact .inr rfl) _ rfl ?_
  first | exact congrArg PV.bool (eq_len (by omega)).symm | exact congrArg PV.bool (eq_ne hf hx hy (by assumption)).symm | exact congrArg PV.bool (eq_end hf (by omega) (by omega)).symm
 ·try simp at h5
  refine pw_skip ?_
  try simp only [thenP, inBlockP]
  apply hK2; try clear hK2 K2
  refine pw_seq_k fun K7 hK7 => ?_
  refine pw_seq_k fun K8 hK8 => ?_
  refine pw_region 0 ?_
  simp [h5]
  apply hK8; try clear hK8 K8
  refine pw_block ?_
  refine pw_loopF (α := Nat) [0, 1, 12] (fun s => [(13, .int .i64 (s : Nat))]) (fun s => []) (fun m0 s => s + m0 = l.length ∧ ((l.drop s = m.drop s) ↔ l = m)) (l.length) (0) ?_ ?_ ?_
  ·(try dsimp only) <;> (simp)
  ·refine Wk.toF ?_ ?_ ?_ ?_ ?_
   ·try simp only [keepL, memL, cond_true, cond_false, ↓reduceIte, reduceCtorEq, Nat.reduceEqDiff, List.cons_append, List.nil_append, puts, put]
    repeat (first | exact trivial | (refine FLt.cons ?_ ?_; focus (first | exact Lt.refl _ | exact Lt.any _ | (refine lt_eq (congrArg (PV.int .i64) ?_); omega) | (refine lt_eq ?_; simp [h5]; done) | (refine lt_eq ?_; simp [h5] <;> omega))))
   ·try simp only [puts, put, ↓reduceIte, reduceCtorEq, Nat.reduceEqDiff]
    repeat (first | exact trivial | (refine ⟨⟨_, rfl, ?_⟩, ?_⟩; focus (first | exact BLt.refl _)))
   ·simp
   ·simp
   ·simp
  ·intro m0 i hinv KL9 hKL9
   try dsimp only at hinv
   obtain ⟨hk, hf⟩ := hinv
   simp only [keepL, memL, cond_true, cond_false, ↓reduceIte, reduceCtorEq, Nat.reduceEqDiff, List.cons_append, List.nil_append, puts, put]
   refine pw_seq_k fun K10 hK10 => ?_
   refine pw_region 0 ?_
   simp [sBinH, sBin, binop, h5]
   apply hK10; try clear hK10 K10
   refine pw_seq_k fun K11 hK11 => ?_
   refine pw_cond _ rfl (fun h12 => ?_) (fun h12 => ?_)
   ·try simp at h12
    obtain ⟨x, hx, hX⟩ := getN2 (l := l) (k := i) (by omega)
    obtain ⟨y, hy, hY⟩ := getN2 (l := m) (k := i) (by omega)
    have hw := wrap_i64 (n := (i : Int) + 1) (by omega) (by omega)
    refine pw_skip ?_
    try simp only [thenP, inBlockP]
    apply hK11; try clear hK11 K11
    refine pw_seq_k fun K13 hK13 => ?_
    refine pw_block ?_
    refine pw_seq_k fun K14 hK14 => ?_
    refine pw_region 0 ?_
    simp [h5, h12, hx, hy, hX, hY, hw]
    apply hK14; try clear hK14 K14
    refine pw_seq_k fun K15 hK15 => ?_
    refine pw_region_draw mix 0 ?_
    refine pEv_split 4 fun Kr16 hKr16 => ?_
    simp [h5, h12, hx, hy, hX, hY, hw]
    apply hKr16; clear hKr16 Kr16
    refine pEv_split 4 fun Kr17 hKr17 => ?_
    simp [h5, h12, hx, hy, hX, hY, hw]
    apply hKr17; clear hKr17 Kr17
    simp [neq98, h5, h12, hx, hy, hX, hY, hw]
    refine ⟨by decide +kernel, ?_⟩
    apply hK15; try clear hK15 K15
    refine pw_keep [0, 1, 12, 13, 24] ?_
    simp only [keepL, memL, cond_true, cond_false, ↓reduceIte, reduceCtorEq, Nat.reduceEqDiff]
    refine pw_cond _ rfl (fun h18 => ?_) (fun h18 => ?_)
    ·try simp at h18
     refine pw_seq_k fun K19 hK19 => ?_
     refine pw_region 0 ?_
     simp [h5, h12, hx, hy, hX, hY, hw, h18]
     apply hK19; try clear hK19 K19
     refine pw_keep [4] ?_
     simp only [keepL, memL, cond_true, cond_false, ↓reduceIte, reduceCtorEq, Nat.reduceEqDiff]
     refine pw_ret ?_
     try simp only [thenP, inBlockP]
     refine bodyQ_fr (by first | exact .inl rfl | exact .inr rfl) _ rfl ?_
     first | exact congrArg PV.bool (eq_len (by omega)).symm | exact congrArg PV.bool (eq_ne hf hx hy (by assumption)).symm | exact congrArg PV.bool (eq_end hf (by omega) (by omega)).symm
    ·try simp at h18
     refine pw_skip ?_
     try simp only [thenP, inBlockP]
     apply hK13; try clear hK13 K13
     refine pw_region 0 ?_
     simp [sBinH, sBin, binop, h5, h12, hx, hy, hX, hY, hw, h18]
     refine hKL9 _ (m0 - 1) (i + 1) ?_ ?_ ?_
     ·omega
     ·(try dsimp only) <;> (exact ⟨by omega, eq_next hf hx hy (by assumption)⟩)
     ·refine Wk.toF ?_ ?_ ?_ ?_ ?_
      ·try simp only [keepL, memL, cond_true, cond_false, ↓reduceIte, reduceCtorEq, Nat.reduceEqDiff, List.cons_append, List.nil_append, puts, put]
       repeat (first | exact trivial | (refine FLt.cons ?_ ?_; focus (first | exact Lt.refl _ | exact Lt.any _ | (refine lt_eq (congrArg (PV.int .i64) ?_); omega) | (refine lt_eq ?_; simp [h5, h12, h18]; done) | (refine lt_eq ?_; simp [h5, h12, h18] <;> omega))))
      ·try simp only [puts, put, ↓reduceIte, reduceCtorEq, Nat.reduceEqDiff]
       repeat (first | exact trivial | (refine ⟨⟨_, rfl, ?_⟩, ?_⟩; focus (first | exact BLt.refl _)))
      ·simp
      ·simp
      ·simp
   ·try simp at h12
    refine pw_exit ?_
    simp [thenP, inBlockP]
    apply hK7; try clear hK7 K7
    refine pw_keep [] ?_
    simp only [keepL, memL, cond_true, cond_false, ↓reduceIte, reduceCtorEq, Nat.reduceEqDiff]
    refine pw_seq_k fun K20 hK20 => ?_
    refine pw_region 0 ?_
    simp [h5, h12]
    apply hK20; try clear hK20 K20
    refine pw_ret ?_
    try simp only [thenP, inBlockP]
    refine bodyQ_fr (by first | exact .inl rfl | exact .inr rfl) _ rfl ?_
    first | exact congrArg PV.bool (eq_len (by omega)).symm | exact congrArg PV.bool (eq_ne hf hx hy (by assumption)).symm | exact congrArg PV.bool (eq_end hf (by omega) (by omega)).symm

set_option maxRecDepth 100000 in
set_option maxHeartbeats 4000000 in
theorem reqCidrs (l m : List NCidr) (hl : l.length < 2 ^ 31) : PFun Try.prog 43 [.sl 18 (l.map (NCidr.pv)), .sl 18 (m.map (NCidr.pv))] (.bool (decide (l = m))) := by
 refine PFun.of_bodyF (by simp) Try.func43 rfl 26 rfl (by simp) fun c0 => ?_
 simp only [argL, Nat.reduceAdd]
 refine pw_seq_k fun K1 hK1 => ?_
 refine pw_region 0 ?_
 simp
 apply hK1; try clear hK1 K1
 refine pw_seq_k fun K2 hK2 => ?_
 refine pw_seq_k fun K3 hK3 => ?_
 refine pw_region 0 ?_
 refine pEv0_split 4 fun Kr4 hKr4 => ?_
 simp
 apply hKr4; clear hKr4 Kr4
 simp [sBinH, sBin, binop]
 apply hK3; try clear hK3 K3
 refine pw_keep [0, 1, 10] ?_
 simp only [keepL, memL, cond_true, cond_false, ↓reduceIte, reduceCtorEq, Nat.reduceEqDiff]
 refine pw_cond _ rfl (fun h5 => ?_) (fun h5 => ?_)
 ·try simp at h5
  refine pw_seq_k fun K6 hK6 => ?_
  refine pw_region 0 ?_
  simp [h5]
  apply hK6; try clear hK6 K6
  refine pw_ret ?_
  try simp only [thenP, inBlockP]
  refine bodyQ_fr (by first | exact .inl rfl | exact .inr rfl) _ rfl ?_
  first | exact congrArg PV.bool (eq_len (by omega)).symm | exact congrArg PV.bool (eq_ne hf hx hy (by assumption)).symm | exact congrArg PV.bool (eq_end hf (by omega) (by omega)).symm
 ·try simp at h5
  refine pw_skip ?_
  try simp only [thenP, inBlockP]
  apply hK2; try clear hK2 K2
  refine pw_seq_k fun K7 hK7 => ?_
  refine pw_seq_k fun K8 hK8 => ?_
  refine pw_region 0 ?_
  simp [h5]
  apply hK8; try clear hK8 K8
  refine pw_block ?_
  refine pw_loopF (α := Nat) [0, 1, 12] (fun s => [(13, .int .i64 (s : Nat))]) (fun s => []) (fun m0 s => s + m0 = l.length ∧ ((l.drop s = m.drop s) ↔ l = m)) (l.length) (0) ?_ ?_ ?_
  ·(try dsimp only) <;> (simp)
  ·refine Wk.toF ?_ ?_ ?_ ?_ ?_
   ·try simp only [keepL, memL, cond_true, cond_false, ↓reduceIte, reduceCtorEq, Nat.reduceEqDiff, List.cons_append, List.nil_append, puts, put]
    repeat (first | exact trivial | (refine FLt.cons ?_ ?_; focus (first | exact Lt.refl _ | exact Lt.any _ | (refine lt_eq (congrArg (PV.int .i64) ?_); omega) | (refine lt_eq ?_; simp [h5]; done) | (refine lt_eq ?_; simp [h5] <;> omega))))
   ·try simp only [puts, put, ↓reduceIte, reduceCtorEq, Nat.reduceEqDiff]
    repeat (first | exact trivial | (refine ⟨⟨_, rfl, ?_⟩, ?_⟩; focus (first | exact BLt.refl _)))
   ·simp
   ·simp
   ·simp
  ·intro m0 i hinv KL9 hKL9
   try dsimp only at hinv
   obtain ⟨hk, hf⟩ := hinv
   simp only [keepL, memL, cond_true, cond_false, ↓reduceIte, reduceCtorEq, Nat.reduceEqDiff, List.cons_append, List.nil_append, puts, put]
   refine pw_seq_k fun K10 hK10 => ?_
   refine pw_region 0 ?_
   simp [sBinH, sBin, binop, h5]
   apply hK10; try clear hK10 K10
   refine pw_seq_k fun K11 hK11 => ?_
   refine pw_cond _ rfl (fun h12 => ?_) (fun h12 => ?_)
   ·try simp at h12
    obtain ⟨x, hx, hX⟩ := getN2 (l := l) (k := i) (by omega)
    obtain ⟨y, hy, hY⟩ := getN2 (l := m) (k := i) (by omega)
    have hw := wrap_i64 (n := (i : Int) + 1) (by omega) (by omega)
    refine pw_skip ?_
    try simp only [thenP, inBlockP]
    apply hK11; try clear hK11 K11
    refine pw_seq_k fun K13 hK13 => ?_
    refine pw_block ?_
    refine pw_seq_k fun K14 hK14 => ?_
    refine pw_region 0 ?_
    simp [h5, h12, hx, hy, hX, hY, hw]
    apply hK14; try clear hK14 K14
    refine pw_seq_k fun K15 hK15 => ?_
    refine pw_region_draw mix 0 ?_
    refine pEv_split 4 fun Kr16 hKr16 => ?_
    simp [h5, h12, hx, hy, hX, hY, hw]
    apply hKr16; clear hKr16 Kr16
    refine pEv_split 4 fun Kr17 hKr17 => ?_
    simp [h5, h12, hx, hy, hX, hY, hw]
    apply hKr17; clear hKr17 Kr17
    simp [neq98, h5, h12, hx, hy, hX, hY, hw]
    refine ⟨by decide +kernel, ?_⟩
    apply hK15; try clear hK15 K15
    refine pw_keep [0, 1, 12, 13, 24] ?_
    simp only [keepL, memL, cond_true, cond_false, ↓reduceIte, reduceCtorEq, Nat.reduceEqDiff]
    refine pw_cond _ rfl (fun h18 => ?_) (fun h18 => ?_)
    ·try simp at h18
     refine pw_seq_k fun K19 hK19 => ?_
     refine pw_region 0 ?_
     simp [h5, h12, hx, hy, hX, hY, hw, h18]
     apply hK19; try clear hK19 K19
     refine pw_keep [4] ?_
     simp only [keepL, memL, cond_true, cond_false, ↓reduceIte, reduceCtorEq, Nat.reduceEqDiff]
     refine pw_ret ?_
     try simp only [thenP, inBlockP]
     refine bodyQ_fr (by first | exact .inl rfl | exact .inr rfl) _ rfl ?_
     first | exact congrArg PV.bool (eq_len (by omega)).symm | exact congrArg PV.bool (eq_ne hf hx hy (by assumption)).symm | exact congrArg PV.bool (eq_end hf (by omega) (by omega)).symm
    ·try simp at h18
     refine pw_skip ?_
     try simp only [thenP, inBlockP]
     apply hK13; try clear hK13 K13
     refine pw_region 0 ?_
     simp [sBinH, sBin, binop, h5, h12, hx, hy, hX, hY, hw, h18]
     refine hKL9 _ (m0 - 1) (i + 1) ?_ ?_ ?_
     ·omega
     ·(try dsimp only) <;> (exact ⟨by omega, eq_next hf hx hy (by assumption)⟩)
     ·refine Wk.toF ?_ ?_ ?_ ?_ ?_
      ·try simp only [keepL, memL, cond_true, cond_false, ↓reduceIte, reduceCtorEq, Nat.reduceEqDiff, List.cons_append, List.nil_append, puts, put]
       repeat (first | exact trivial | (refine FLt.cons ?_ ?_; focus (first | exact Lt.refl _ | exact Lt.any _ | (refine lt_eq (congrArg (PV.int .i64) ?_); omega) | (refine lt_eq ?_; simp [h5, h12, h18]; done) | (refine lt_eq ?_; simp [h5, h12, h18] <;> omega))))
      ·try simp only [puts, put, ↓reduceIte, reduceCtorEq, Nat.reduceEqDiff]
       repeat (first | exact trivial | (refine ⟨⟨_, rfl, ?_⟩, ?_⟩; focus (first | exact BLt.refl _)))
      ·simp
      ·simp
      ·simp
   ·try simp at h12
    refine pw_exit ?_
    simp [thenP, inBlockP]
    apply hK7; try clear hK7 K7
    refine pw_keep [] ?_
    simp only [keepL, memL, cond_true, cond_false, ↓reduceIte, reduceCtorEq, Nat.reduceEqDiff]
    refine pw_seq_k fun K20 hK20 => ?_
    refine pw_region 0 ?_
    simp [h5, h12]
    apply hK20; try clear hK20 K20
    refine pw_ret ?_
    try simp only [thenP, inBlockP]
    refine bodyQ_fr (by first | exact .inl rfl | exact .inr rfl) _ rfl ?_
    first | exact congrArg PV.bool (eq_len (by omega)).symm | exact congrArg PV.bool (eq_ne hf hx hy (by assumption)).symm | exact congrArg PV.bool (eq_end hf (by omega) (by omega)).symm

set_option maxRecDepth 100000 in
set_option maxHeartbeats 4000000 in
theorem eqPoints (l m : List NPoint) (hl : l.length < 2 ^ 31) : PFun Try.prog 67 [.sl 18 (l.map (NPoint.pv)), .sl 18 (m.map (NPoint.pv))] (.bool (decide (l = m))) := by
 refine PFun.of_bodyF (by simp) Try.func67 rfl 26 rfl (by simp) fun c0 => ?_
 simp only [argL, Nat.reduceAdd]
 refine pw_seq_k fun K1 hK1 => ?_
 refine pw_region 0 ?_
 simp
 apply hK1; try clear hK1 K1
 refine pw_seq_k fun K2 hK2 => ?_
 refine pw_seq_k fun K3 hK3 => ?_
 refine pw_region 0 ?_
 refine pEv0_split 4 fun Kr4 hKr4 => ?_
 simp
 apply hKr4; clear hKr4 Kr4
 simp [sBinH, sBin, binop]
 apply hK3; try clear hK3 K3
 refine pw_keep [0, 1, 10] ?_
 simp only [keepL, memL, cond_true, cond_false, ↓reduceIte, reduceCtorEq, Nat.reduceEqDiff]
 refine pw_cond _ rfl (fun h5 => ?_) (fun h5 => ?_)
 ·try simp at h5
  refine pw_seq_k fun K6 hK6 => ?_
  refine pw_region 0 ?_
  simp [h5]
  apply hK6; try clear hK6 K6
  refine pw_ret ?_
  try simp only [thenP, inBlockP]
  refine bodyQ_fr (by first | exact .inl rfl | exact .inr rfl) _ rfl ?_
  first | exact congrArg PV.bool (eq_len (by omega)).symm | exact congrArg PV.bool (eq_ne hf hx hy (by assumption)).symm | exact congrArg PV.bool (eq_end hf (by omega) (by omega)).symm
 ·try simp at h5
  refine pw_skip ?_
  try simp only [thenP, inBlockP]
  apply hK2; try clear hK2 K2
  refine pw_seq_k fun K7 hK7 => ?_
  refine pw_seq_k fun K8 hK8 => ?_
  refine pw_region 0 ?_
  simp [h5]
  apply hK8; try clear hK8 K8
  refine pw_block ?_
  refine pw_loopF (α := Nat) [0, 1, 12] (fun s => [(13, .int .i64 (s : Nat))]) (fun s => []) (fun m0 s => s + m0 = l.length ∧ ((l.drop s = m.drop s) ↔ l = m)) (l.length) (0) ?_ ?_ ?_
  ·(try dsimp only) <;> (simp)
  ·refine Wk.toF ?_ ?_ ?_ ?_ ?_
   ·try simp only [keepL, memL, cond_true, cond_false, ↓reduceIte, reduceCtorEq, Nat.reduceEqDiff, List.cons_append, List.nil_append, puts, put]
    repeat (first | exact trivial | (refine FLt.cons ?_ ?_; focus (first | exact Lt.refl _ | exact Lt.any _ | (refine lt_eq (congrArg (PV.int .i64) ?_); omega) | (refine lt_eq ?_; simp [h5]; done) | (refine lt_eq ?_; simp [h5] <;> omega))))
   ·try simp only [puts, put, ↓reduceIte, reduceCtorEq, Nat.reduceEqDiff]
    repeat (first | exact trivial | (refine ⟨⟨_, rfl, ?_⟩, ?_⟩; focus (first | exact BLt.refl _)))
   ·simp
   ·simp
   ·simp
  ·intro m0 i hinv KL9 hKL9
   try dsimp only at hinv
   obtain ⟨hk, hf⟩ := hinv
   simp only [keepL, memL, cond_true, cond_false, ↓reduceIte, reduceCtorEq, Nat.reduceEqDiff, List.cons_append, List.nil_append, puts, put]
   refine pw_seq_k fun K10 hK10 => ?_
   refine pw_region 0 ?_
   simp [sBinH, sBin, binop, h5]
   apply hK10; try clear hK10 K10
   refine pw_seq_k fun K11 hK11 => ?_
   refine pw_cond _ rfl (fun h12 => ?_) (fun h12 => ?_)
   ·try simp at h12
    obtain ⟨x, hx, hX⟩ := getN2 (l := l) (k := i) (by omega)
    obtain ⟨y, hy, hY⟩ := getN2 (l := m) (k := i) (by omega)
    have hw := wrap_i64 (n := (i : Int) + 1) (by omega) (by omega)
    refine pw_skip ?_
    try simp only [thenP, inBlockP]
    apply hK11; try clear hK11 K11
    refine pw_seq_k fun K13 hK13 => ?_
    refine pw_block ?_
    refine pw_seq_k fun K14 hK14 => ?_
    refine pw_region 0 ?_
    simp [h5, h12, hx, hy, hX, hY, hw]
    apply hK14; try clear hK14 K14
    refine pw_seq_k fun K15 hK15 => ?_
    refine pw_region_draw mix 0 ?_
    refine pEv_split 4 fun Kr16 hKr16 => ?_
    simp [h5, h12, hx, hy, hX, hY, hw]
    apply hKr16; clear hKr16 Kr16
    refine pEv_split 4 fun Kr17 hKr17 => ?_
    simp [h5, h12, hx, hy, hX, hY, hw]
    apply hKr17; clear hKr17 Kr17
    simp [neq26, h5, h12, hx, hy, hX, hY, hw]
    refine ⟨by decide +kernel, ?_⟩
    apply hK15; try clear hK15 K15
    refine pw_keep [0, 1, 12, 13, 24] ?_
    simp only [keepL, memL, cond_true, cond_false, ↓reduceIte, reduceCtorEq, Nat.reduceEqDiff]
    refine pw_cond _ rfl (fun h18 => ?_) (fun h18 => ?_)
    ·try simp at h18
     refine pw_seq_k fun K19 hK19 => ?_
     refine pw_region 0 ?_
     simp [h5, h12, hx, hy, hX, hY, hw, h18]
     apply hK19; try clear hK19 K19
     refine pw_keep [4] ?_
     simp only [keepL, memL, cond_true, cond_false, ↓reduceIte, reduceCtorEq, Nat.reduceEqDiff]
     refine pw_ret ?_
     try simp only [thenP, inBlockP]
     refine bodyQ_fr (by first | exact .inl rfl | exact .inr rfl) _ rfl ?_
     first | exact congrArg PV.bool (eq_len (by omega)).symm | exact congrArg PV.bool (eq_ne hf hx hy (by assumption)).symm | exact congrArg PV.bool (eq_end hf (by omega) (by omega)).symm
    ·try simp at h18
     refine pw_skip ?_
     try simp only [thenP, inBlockP]
     apply hK13; try clear hK13 K13
     refine pw_region 0 ?_
     simp [sBinH, sBin, binop, h5, h12, hx, hy, hX, hY, hw, h18]
     refine hKL9 _ (m0 - 1) (i + 1) ?_ ?_ ?_
     ·omega
     ·(try dsimp only) <;> (exact ⟨by omega, eq_next hf hx hy (by assumption)⟩)
     ·refine Wk.toF ?_ ?_ ?_ ?_ ?_
      ·try simp only [keepL, memL, cond_true, cond_false, ↓reduceIte, reduceCtorEq, Nat.reduceEqDiff, List.cons_append, List.nil_append, puts, put]
       repeat (first | exact trivial | (refine FLt.cons ?_ ?_; focus (first | exact Lt.refl _ | exact Lt.any _ | (refine lt_eq (congrArg (PV.int .i64) ?_); omega) | (refine lt_eq ?_; simp [h5, h12, h18]; done) | (refine lt_eq ?_; simp [h5, h12, h18] <;> omega))))
      ·try simp only [puts, put, ↓reduceIte, reduceCtorEq, Nat.reduceEqDiff]
       repeat (first | exact trivial | (refine ⟨⟨_, rfl, ?_⟩, ?_⟩; focus (first | exact BLt.refl _)))
      ·simp
      ·simp
      ·simp
   ·try simp at h12
    refine pw_exit ?_
    simp [thenP, inBlockP]
    apply hK7; try clear hK7 K7
    refine pw_keep [] ?_
    simp only [keepL, memL, cond_true, cond_false, ↓reduceIte, reduceCtorEq, Nat.reduceEqDiff]
    refine pw_seq_k fun K20 hK20 => ?_
    refine pw_region 0 ?_
    simp [h5, h12]
    apply hK20; try clear hK20 K20
    refine pw_ret ?_
    try simp only [thenP, inBlockP]
    refine bodyQ_fr (by first | exact .inl rfl | exact .inr rfl) _ rfl ?_
    first | exact congrArg PV.bool (eq_len (by omega)).symm | exact congrArg PV.bool (eq_ne hf hx hy (by assumption)).symm | exact congrArg PV.bool (eq_end hf (by omega) (by omega)).symm

set_option maxRecDepth 100000 in
set_option maxHeartbeats 4000000 in
theorem reqPoints (l m : List NPoint) (hl : l.length < 2 ^ 31) : PFun Try.prog 45 [.sl 18 (l.map (NPoint.pv)), .sl 18 (m.map (NPoint.pv))] (.bool (decide (l = m))) := by
 refine PFun.of_bodyF (by simp) Try.func45 rfl 26 rfl (by simp) fun c0 => ?_
 simp only [argL, Nat.reduceAdd]
 refine pw_seq_k fun K1 hK1 => ?_
 refine pw_region 0 ?_
 simp
 apply hK1; try clear hK1 K1
 refine pw_seq_k fun K2 hK2 => ?_
 refine pw_seq_k fun K3 hK3 => ?_
 refine pw_region 0 ?_
 refine pEv0_split 4 fun Kr4 hKr4 => ?_
 simp
 apply hKr4; clear hKr4 Kr4
 simp [sBinH, sBin, binop]
 apply hK3; try clear hK3 K3
 refine pw_keep [0, 1, 10] ?_
 simp only [keepL, memL, cond_true, cond_false, ↓reduceIte, reduceCtorEq, Nat.reduceEqDiff]
 refine pw_cond _ rfl (fun h5 => ?_) (fun h5 => ?_)
 ·try simp at h5
  refine pw_seq_k fun K6 hK6 => ?_
  refine pw_region 0 ?_
  simp [h5]
  apply hK6; try clear hK6 K6
  refine pw_ret ?_
  try simp only [thenP, inBlockP]
  refine bodyQ_fr (by first | exact .inl rfl | exact .inr rfl) _ rfl ?_
  first | exact congrArg PV.bool (eq_len (by omega)).symm | exact congrArg PV.bool (eq_ne hf hx hy (by assumption)).symm | exact congrArg PV.bool (eq_end hf (by omega) (by omega)).symm
 ·try simp at h5
  refine pw_skip ?_
  try simp only [thenP, inBlockP]
  apply hK2; try clear hK2 K2
  refine pw_seq_k fun K7 hK7 => ?_
  refine pw_seq_k fun K8 hK8 => ?_
  refine pw_region 0 ?_
  simp [h5]
  apply hK8; try clear hK8 K8
  refine pw_block ?_
  refine pw_loopF (α := Nat) [0, 1, 12] (fun s => [(13, .int .i64 (s : Nat))]) (fun s => []) (fun m0 s => s + m0 = l.length ∧ ((l.drop s = m.drop s) ↔ l = m)) (l.length) (0) ?_ ?_ ?_
  ·(try dsimp only) <;> (simp)
  ·refine Wk.toF ?_ ?_ ?_ ?_ ?_
   ·try simp only [keepL, memL, cond_true, cond_false, ↓reduceIte, reduceCtorEq, Nat.reduceEqDiff, List.cons_append, List.nil_append, puts, put]
    repeat (first | exact trivial | (refine FLt.cons ?_ ?_; focus (first | exact Lt.refl _ | exact Lt.any _ | (refine lt_eq (congrArg (PV.int .i64) ?_); omega) | (refine lt_eq ?_; simp [h5]; done) | (refine lt_eq ?_; simp [h5] <;> omega))))
   ·try simp only [puts, put, ↓reduceIte, reduceCtorEq, Nat.reduceEqDiff]
    repeat (first | exact trivial | (refine ⟨⟨_, rfl, ?_⟩, ?_⟩; focus (first | exact BLt.refl _)))
   ·simp
   ·simp
   ·simp
  ·intro m0 i hinv KL9 hKL9
   try dsimp only at hinv
   obtain ⟨hk, hf⟩ := hinv
   simp only [keepL, memL, cond_true, cond_false, ↓reduceIte, reduceCtorEq, Nat.reduceEqDiff, List.cons_append, List.nil_append, puts, put]
   refine pw_seq_k fun K10 hK10 => ?_
   refine pw_region 0 ?_
   simp [sBinH, sBin, binop, h5]
   apply hK10; try clear hK10 K10
   refine pw_seq_k fun K11 hK11 => ?_
   refine pw_cond _ rfl (fun h12 => ?_) (fun h12 => ?_)
   ·try simp at h12
    obtain ⟨x, hx, hX⟩ := getN2 (l := l) (k := i) (by omega)
    obtain ⟨y, hy, hY⟩ := getN2 (l := m) (k := i) (by omega)
    have hw := wrap_i64 (n := (i : Int) + 1) (by omega) (by omega)
    refine pw_skip ?_
    try simp only [thenP, inBlockP]
    apply hK11; try clear hK11 K11
    refine pw_seq_k fun K13 hK13 => ?_
    refine pw_block ?_
    refine pw_seq_k fun K14 hK14 => ?_
    refine pw_region 0 ?_
    simp [h5, h12, hx, hy, hX, hY, hw]
    apply hK14; try clear hK14 K14
    refine pw_seq_k fun K15 hK15 => ?_
    refine pw_region_draw mix 0 ?_
    refine pEv_split 4 fun Kr16 hKr16 => ?_
    simp [h5, h12, hx, hy, hX, hY, hw]
    apply hKr16; clear hKr16 Kr16
    refine pEv_split 4 fun Kr17 hKr17 => ?_
    simp [h5, h12, hx, hy, hX, hY, hw]
    apply hKr17; clear hKr17 Kr17
    simp [neq26, h5, h12, hx, hy, hX, hY, hw]
    refine ⟨by decide +kernel, ?_⟩
    apply hK15; try clear hK15 K15
    refine pw_keep [0, 1, 12, 13, 24] ?_
    simp only [keepL, memL, cond_true, cond_false, ↓reduceIte, reduceCtorEq, Nat.reduceEqDiff]
    refine pw_cond _ rfl (fun h18 => ?_) (fun h18 => ?_)
    ·try simp at h18
     refine pw_seq_k fun K19 hK19 => ?_
     refine pw_region 0 ?_
     simp [h5, h12, hx, hy, hX, hY, hw, h18]
     apply hK19; try clear hK19 K19
     refine pw_keep [4] ?_
     simp only [keepL, memL, cond_true, cond_false, ↓reduceIte, reduceCtorEq, Nat.reduceEqDiff]
     refine pw_ret ?_
     try simp only [thenP, inBlockP]
     refine bodyQ_fr (by first | exact .inl rfl | exact .inr rfl) _ rfl ?_
     first | exact congrArg PV.bool (eq_len (by omega)).symm | exact congrArg PV.bool (eq_ne hf hx hy (by assumption)).symm | exact congrArg PV.bool (eq_end hf (by omega) (by omega)).symm
    ·try simp at h18
     refine pw_skip ?_
     try simp only [thenP, inBlockP]
     apply hK13; try clear hK13 K13
     refine pw_region 0 ?_
     simp [sBinH, sBin, binop, h5, h12, hx, hy, hX, hY, hw, h18]
     refine hKL9 _ (m0 - 1) (i + 1) ?_ ?_ ?_
     ·omega
     ·(try dsimp only) <;> (exact ⟨by omega, eq_next hf hx hy (by assumption)⟩)
     ·refine Wk.toF ?_ ?_ ?_ ?_ ?_
      ·try simp only [keepL, memL, cond_true, cond_false, ↓reduceIte, reduceCtorEq, Nat.reduceEqDiff, List.cons_append, List.nil_append, puts, put]
       repeat (first | exact trivial | (refine FLt.cons ?_ ?_; focus (first | exact Lt.refl _ | exact Lt.any _ | (refine lt_eq (congrArg (PV.int .i64) ?_); omega) | (refine lt_eq ?_; simp [h5, h12, h18]; done) | (refine lt_eq ?_; simp [h5, h12, h18] <;> omega))))
      ·try simp only [puts, put, ↓reduceIte, reduceCtorEq, Nat.reduceEqDiff]
       repeat (first | exact trivial | (refine ⟨⟨_, rfl, ?_⟩, ?_⟩; focus (first | exact BLt.refl _)))
      ·simp
      ·simp
      ·simp
   ·try simp at h12
    refine pw_exit ?_
    simp [thenP, inBlockP]
    apply hK7; try clear hK7 K7
    refine pw_keep [] ?_
    simp only [keepL, memL, cond_true, cond_false, ↓reduceIte, reduceCtorEq, Nat.reduceEqDiff]
    refine pw_seq_k fun K20 hK20 => ?_
    refine pw_region 0 ?_
    simp [h5, h12]
    apply hK20; try clear hK20 K20
    refine pw_ret ?_
    try simp only [thenP, inBlockP]
    refine bodyQ_fr (by first | exact .inl rfl | exact .inr rfl) _ rfl ?_
    first | exact congrArg PV.bool (eq_len (by omega)).symm | exact congrArg PV.bool (eq_ne hf hx hy (by assumption)).symm | exact congrArg PV.bool (eq_end hf (by omega) (by omega)).symm

set_option maxRecDepth 100000 in
set_option maxHeartbeats 4000000 in
theorem eqInts (l m : List Int) (hl : l.length < 2 ^ 31) : PFun Try.prog 68 [.sl 1 (l.map (PV.int .i64)), .sl 1 (m.map (PV.int .i64))] (.bool (decide (l = m))) := by
 refine PFun.of_bodyF (by simp) Try.func68 rfl 26 rfl (by simp) fun c0 => ?_
 simp only [argL, Nat.reduceAdd]
 refine pw_seq_k fun K1 hK1 => ?_
 refine pw_region 0 ?_
 simp
 apply hK1; try clear hK1 K1
 refine pw_seq_k fun K2 hK2 => ?_
 refine pw_seq_k fun K3 hK3 => ?_
 refine pw_region 0 ?_
 refine pEv0_split 4 fun Kr4 hKr4 => ?_
 simp
 apply hKr4; clear hKr4 Kr4
 simp [sBinH, sBin, binop]
 apply hK3; try clear hK3 K3
 refine pw_keep [0, 1, 10] ?_
 simp only [keepL, memL, cond_true, cond_false, ↓reduceIte, reduceCtorEq, Nat.reduceEqDiff]
 refine pw_cond _ rfl (fun h5 => ?_) (fun h5 => ?_)
 ·try simp at h5
  refine pw_seq_k fun K6 hK6 => ?_
  refine pw_region 0 ?_
  simp [h5]
  apply hK6; try clear hK6 K6
  refine pw_ret ?_
  try simp only [thenP, inBlockP]
  refine bodyQ_fr (by first | exact .inl rfl | exact .inr rfl) _ rfl ?_
  first | exact congrArg PV.bool (eq_len (by omega)).symm | exact congrArg PV.bool (eq_ne hf hx hy (by assumption)).symm | exact congrArg PV.bool (eq_end hf (by omega) (by omega)).symm
 ·try simp at h5
  refine pw_skip ?_
  try simp only [thenP, inBlockP]
  apply hK2; try clear hK2 K2
  refine pw_seq_k fun K7 hK7 => ?_
  refine pw_seq_k fun K8 hK8 => ?_
  refine pw_region 0 ?_
  simp [h5]
  apply hK8; try clear hK8 K8
  refine pw_block ?_
  refine pw_loopF (α := Nat) [0, 1, 12] (fun s => [(13, .int .i64 (s : Nat))]) (fun s => []) (fun m0 s => s + m0 = l.length ∧ ((l.drop s = m.drop s) ↔ l = m)) (l.length) (0) ?_ ?_ ?_
  ·(try dsimp only) <;> (simp)
  ·refine Wk.toF ?_ ?_ ?_ ?_ ?_
   ·try simp only [keepL, memL, cond_true, cond_false, ↓reduceIte, reduceCtorEq, Nat.reduceEqDiff, List.cons_append, List.nil_append, puts, put]
    repeat (first | exact trivial | (refine FLt.cons ?_ ?_; focus (first | exact Lt.refl _ | exact Lt.any _ | (refine lt_eq (congrArg (PV.int .i64) ?_); omega) | (refine lt_eq ?_; simp [h5]; done) | (refine lt_eq ?_; simp [h5] <;> omega))))
   ·try simp only [puts, put, ↓reduceIte, reduceCtorEq, Nat.reduceEqDiff]
    repeat (first | exact trivial | (refine ⟨⟨_, rfl, ?_⟩, ?_⟩; focus (first | exact BLt.refl _)))
   ·simp
   ·simp
   ·simp
  ·intro m0 i hinv KL9 hKL9
   try dsimp only at hinv
   obtain ⟨hk, hf⟩ := hinv
   simp only [keepL, memL, cond_true, cond_false, ↓reduceIte, reduceCtorEq, Nat.reduceEqDiff, List.cons_append, List.nil_append, puts, put]
   refine pw_seq_k fun K10 hK10 => ?_
   refine pw_region 0 ?_
   simp [sBinH, sBin, binop, h5]
   apply hK10; try clear hK10 K10
   refine pw_seq_k fun K11 hK11 => ?_
   refine pw_cond _ rfl (fun h12 => ?_) (fun h12 => ?_)
   ·try simp at h12
    obtain ⟨x, hx, hX⟩ := getN2 (l := l) (k := i) (by omega)
    obtain ⟨y, hy, hY⟩ := getN2 (l := m) (k := i) (by omega)
    have hw := wrap_i64 (n := (i : Int) + 1) (by omega) (by omega)
    refine pw_skip ?_
    try simp only [thenP, inBlockP]
    apply hK11; try clear hK11 K11
    refine pw_seq_k fun K13 hK13 => ?_
    refine pw_block ?_
    refine pw_seq_k fun K14 hK14 => ?_
    refine pw_region 0 ?_
    simp [h5, h12, hx, hy, hX, hY, hw]
    apply hK14; try clear hK14 K14
    refine pw_seq_k fun K15 hK15 => ?_
    refine pw_region_draw mix 0 ?_
    refine pEv_split 4 fun Kr16 hKr16 => ?_
    simp [h5, h12, hx, hy, hX, hY, hw]
    apply hKr16; clear hKr16 Kr16
    refine pEv_split 4 fun Kr17 hKr17 => ?_
    simp [h5, h12, hx, hy, hX, hY, hw]
    apply hKr17; clear hKr17 Kr17
    simp [sBinH, sBin, binop, h5, h12, hx, hy, hX, hY, hw]
    refine ⟨by decide +kernel, ?_⟩
    apply hK15; try clear hK15 K15
    refine pw_keep [0, 1, 12, 13, 24] ?_
    simp only [keepL, memL, cond_true, cond_false, ↓reduceIte, reduceCtorEq, Nat.reduceEqDiff]
    refine pw_cond _ rfl (fun h18 => ?_) (fun h18 => ?_)
    ·try simp at h18
     refine pw_seq_k fun K19 hK19 => ?_
     refine pw_region 0 ?_
     simp [h5, h12, hx, hy, hX, hY, hw, h18]
     apply hK19; try clear hK19 K19
     refine pw_keep [4] ?_
     simp only [keepL, memL, cond_true, cond_false, ↓reduceIte, reduceCtorEq, Nat.reduceEqDiff]
     refine pw_ret ?_
     try simp only [thenP, inBlockP]
     refine bodyQ_fr (by first | exact .inl rfl | exact .inr rfl) _ rfl ?_
     first | exact congrArg PV.bool (eq_len (by omega)).symm | exact congrArg PV.bool (eq_ne hf hx hy (by assumption)).symm | exact congrArg PV.bool (eq_end hf (by omega) (by omega)).symm
    ·try simp at h18
     refine pw_skip ?_
     try simp only [thenP, inBlockP]
     apply hK13; try clear hK13 K13
     refine pw_region 0 ?_
     simp [sBinH, sBin, binop, h5, h12, hx, hy, hX, hY, hw, h18]
     refine hKL9 _ (m0 - 1) (i + 1) ?_ ?_ ?_
     ·omega
     ·(try dsimp only) <;> (exact ⟨by omega, eq_next hf hx hy (by assumption)⟩)
     ·refine Wk.toF ?_ ?_ ?_ ?_ ?_
      ·try simp only [keepL, memL, cond_true, cond_false, ↓reduceIte, reduceCtorEq, Nat.reduceEqDiff, List.cons_append, List.nil_append, puts, put]
       repeat (first | exact trivial | (refine FLt.cons ?_ ?_; focus (first | exact Lt.refl _ | exact Lt.any _ | (refine lt_eq (congrArg (PV.int .i64) ?_); omega) | (refine lt_eq ?_; simp [h5, h12, h18]; done) | (refine lt_eq ?_; simp [h5, h12, h18] <;> omega))))
      ·try simp only [puts, put, ↓reduceIte, reduceCtorEq, Nat.reduceEqDiff]
       repeat (first | exact trivial | (refine ⟨⟨_, rfl, ?_⟩, ?_⟩; focus (first | exact BLt.refl _)))
      ·simp
      ·simp
      ·simp
   ·try simp at h12
    refine pw_exit ?_
    simp [thenP, inBlockP]
    apply hK7; try clear hK7 K7
    refine pw_keep [] ?_
    simp only [keepL, memL, cond_true, cond_false, ↓reduceIte, reduceCtorEq, Nat.reduceEqDiff]
    refine pw_seq_k fun K20 hK20 => ?_
    refine pw_region 0 ?_
    simp [h5, h12]
    apply hK20; try clear hK20 K20
    refine pw_ret ?_
    try simp only [thenP, inBlockP]
    refine bodyQ_fr (by first | exact .inl rfl | exact .inr rfl) _ rfl ?_
    first | exact congrArg PV.bool (eq_len (by omega)).symm | exact congrArg PV.bool (eq_ne hf hx hy (by assumption)).symm | exact congrArg PV.bool (eq_end hf (by omega) (by omega)).symm

set_option maxRecDepth 100000 in
set_option maxHeartbeats 4000000 in
theorem reqInts (l m : List Int) (hl : l.length < 2 ^ 31) : PFun Try.prog 46 [.sl 1 (l.map (PV.int .i64)), .sl 1 (m.map (PV.int .i64))] (.bool (decide (l = m))) := by
 refine PFun.of_bodyF (by simp) Try.func46 rfl 26 rfl (by simp) fun c0 => ?_
 simp only [argL, Nat.reduceAdd]
 refine pw_seq_k fun K1 hK1 => ?_
 refine pw_region 0 ?_
 simp
 apply hK1; try clear hK1 K1
 refine pw_seq_k fun K2 hK2 => ?_
 refine pw_seq_k fun K3 hK3 => ?_
 refine pw_region 0 ?_
 refine pEv0_split 4 fun Kr4 hKr4 => ?_
 simp
 apply hKr4; clear hKr4 Kr4
 simp [sBinH, sBin, binop]
 apply hK3; try clear hK3 K3
 refine pw_keep [0, 1, 10] ?_
 simp only [keepL, memL, cond_true, cond_false, ↓reduceIte, reduceCtorEq, Nat.reduceEqDiff]
 refine pw_cond _ rfl (fun h5 => ?_) (fun h5 => ?_)
 ·try simp at h5
  refine pw_seq_k fun K6 hK6 => ?_
  refine pw_region 0 ?_
  simp [h5]
  apply hK6; try clear hK6 K6
  refine pw_ret ?_
  try simp only [thenP, inBlockP]
  refine bodyQ_fr (by first | exact .inl rfl | exact .inr rfl) _ rfl ?_
  first | exact congrArg PV.bool (eq_len (by omega)).symm | exact congrArg PV.bool (eq_ne hf hx hy (by assumption)).symm | exact congrArg PV.bool (eq_end hf (by omega) (by omega)).symm
 ·try simp at h5
  refine pw_skip ?_
  try simp only [thenP, inBlockP]
  apply hK2; try clear hK2 K2
  refine pw_seq_k fun K7 hK7 => ?_
  refine pw_seq_k fun K8 hK8 => ?_
  refine pw_region 0 ?_
  simp [h5]
  apply hK8; try clear hK8 K8
  refine pw_block ?_
  refine pw_loopF (α := Nat) [0, 1, 12] (fun s => [(13, .int .i64 (s : Nat))]) (fun s => []) (fun m0 s => s + m0 = l.length ∧ ((l.drop s = m.drop s) ↔ l = m)) (l.length) (0) ?_ ?_ ?_
  ·(try dsimp only) <;> (simp)
  ·refine Wk.toF ?_ ?_ ?_ ?_ ?_
   ·try simp only [keepL, memL, cond_true, cond_false, ↓reduceIte, reduceCtorEq, Nat.reduceEqDiff, List.cons_append, List.nil_append, puts, put]
    repeat (first | exact trivial | (refine FLt.cons ?_ ?_; focus (first | exact Lt.refl _ | exact Lt.any _ | (refine lt_eq (congrArg (PV.int .i64) ?_); omega) | (refine lt_eq ?_; simp [h5]; done) | (refine lt_eq ?_; simp [h5] <;> omega))))
   ·try simp only [puts, put, ↓reduceIte, reduceCtorEq, Nat.reduceEqDiff]
    repeat (first | exact trivial | (refine ⟨⟨_, rfl, ?_⟩, ?_⟩; focus (first | exact BLt.refl _)))
   ·simp
   ·simp
   ·simp
  ·intro m0 i hinv KL9 hKL9
   try dsimp only at hinv
   obtain ⟨hk, hf⟩ := hinv
   simp only [keepL, memL, cond_true, cond_false, ↓reduceIte, reduceCtorEq, Nat.reduceEqDiff, List.cons_append, List.nil_append, puts, put]
   refine pw_seq_k fun K10 hK10 => ?_
   refine pw_region 0 ?_
   simp [sBinH, sBin, binop, h5]
   apply hK10; try clear hK10 K10
   refine pw_seq_k fun K11 hK11 => ?_
   refine pw_cond _ rfl (fun h12 => ?_) (fun h12 => ?_)
   ·try simp at h12
    obtain ⟨x, hx, hX⟩ := getN2 (l := l) (k := i) (by omega)
    obtain ⟨y, hy, hY⟩ := getN2 (l := m) (k := i) (by omega)
    have hw := wrap_i64 (n := (i : Int) + 1) (by omega) (by omega)
    refine pw_skip ?_
    try simp only [thenP, inBlockP]
    apply hK11; try clear hK11 K11
    refine pw_seq_k fun K13 hK13 => ?_
    refine pw_block ?_
    refine pw_seq_k fun K14 hK14 => ?_
    refine pw_region 0 ?_
    simp [h5, h12, hx, hy, hX, hY, hw]
    apply hK14; try clear hK14 K14
    refine pw_seq_k fun K15 hK15 => ?_
    refine pw_region_draw mix 0 ?_
    refine pEv_split 4 fun Kr16 hKr16 => ?_
    simp [h5, h12, hx, hy, hX, hY, hw]
    apply hKr16; clear hKr16 Kr16
    refine pEv_split 4 fun Kr17 hKr17 => ?_
    simp [h5, h12, hx, hy, hX, hY, hw]
    apply hKr17; clear hKr17 Kr17
    simp [sBinH, sBin, binop, h5, h12, hx, hy, hX, hY, hw]
    refine ⟨by decide +kernel, ?_⟩
    apply hK15; try clear hK15 K15
    refine pw_keep [0, 1, 12, 13, 24] ?_
    simp only [keepL, memL, cond_true, cond_false, ↓reduceIte, reduceCtorEq, Nat.reduceEqDiff]
    refine pw_cond _ rfl (fun h18 => ?_) (fun h18 => ?_)
    ·try simp at h18
     refine pw_seq_k fun K19 hK19 => ?_
     refine pw_region 0 ?_
     simp [h5, h12, hx, hy, hX, hY, hw, h18]
     apply hK19; try clear hK19 K19
     refine pw_keep [4] ?_
     simp only [keepL, memL, cond_true, cond_false, ↓reduceIte, reduceCtorEq, Nat.reduceEqDiff]
     refine pw_ret ?_
     try simp only [thenP, inBlockP]
     refine bodyQ_fr (by first | exact .inl rfl | exact .inr rfl) _ rfl ?_
     first | exact congrArg PV.bool (eq_len (by omega)).symm | exact congrArg PV.bool (eq_ne hf hx hy (by assumption)).symm | exact congrArg PV.bool (eq_end hf (by omega) (by omega)).symm
    ·try simp at h18
     refine pw_skip ?_
     try simp only [thenP, inBlockP]
     apply hK13; try clear hK13 K13
     refine pw_region 0 ?_
     simp [sBinH, sBin, binop, h5, h12, hx, hy, hX, hY, hw, h18]
     refine hKL9 _ (m0 - 1) (i + 1) ?_ ?_ ?_
     ·omega
     ·(try dsimp only) <;> (exact ⟨by omega, eq_next hf hx hy (by assumption)⟩)
     ·refine Wk.toF ?_ ?_ ?_ ?_ ?_
      ·try simp only [keepL, memL, cond_true, cond_false, ↓reduceIte, reduceCtorEq, Nat.reduceEqDiff, List.cons_append, List.nil_append, puts, put]
       repeat (first | exact trivial | (refine FLt.cons ?_ ?_; focus (first | exact Lt.refl _ | exact Lt.any _ | (refine lt_eq (congrArg (PV.int .i64) ?_); omega) | (refine lt_eq ?_; simp [h5, h12, h18]; done) | (refine lt_eq ?_; simp [h5, h12, h18] <;> omega))))
      ·try simp only [puts, put, ↓reduceIte, reduceCtorEq, Nat.reduceEqDiff]
       repeat (first | exact trivial | (refine ⟨⟨_, rfl, ?_⟩, ?_⟩; focus (first | exact BLt.refl _)))
      ·simp
      ·simp
      ·simp
   ·try simp at h12
    refine pw_exit ?_
    simp [thenP, inBlockP]
    apply hK7; try clear hK7 K7
    refine pw_keep [] ?_
    simp only [keepL, memL, cond_true, cond_false, ↓reduceIte, reduceCtorEq, Nat.reduceEqDiff]
    refine pw_seq_k fun K20 hK20 => ?_
    refine pw_region 0 ?_
    simp [h5, h12]
    apply hK20; try clear hK20 K20
    refine pw_ret ?_
    try simp only [thenP, inBlockP]
    refine bodyQ_fr (by first | exact .inl rfl | exact .inr rfl) _ rfl ?_
    first | exact congrArg PV.bool (eq_len (by omega)).symm | exact congrArg PV.bool (eq_ne hf hx hy (by assumption)).symm | exact congrArg PV.bool (eq_end hf (by omega) (by omega)).symm

set_option maxRecDepth 100000 in
set_option maxHeartbeats 4000000 in
theorem eqFronts (l m : List NFront) (hl : l.length < 2 ^ 31) : PFun Try.prog 47 [.sl 26 (l.map (NFront.pv)), .sl 26 (m.map (NFront.pv))] (.bool (decide (l = m))) := by
 refine PFun.of_bodyF (by simp) Try.func47 rfl 26 rfl (by simp) fun c0 => ?_
 simp only [argL, Nat.reduceAdd]
 refine pw_seq_k fun K1 hK1 => ?_
 refine pw_region 0 ?_
 simp
 apply hK1; try clear hK1 K1
 refine pw_seq_k fun K2 hK2 => ?_
 refine pw_seq_k fun K3 hK3 => ?_
 refine pw_region 0 ?_
 refine pEv0_split 4 fun Kr4 hKr4 => ?_
 simp
 apply hKr4; clear hKr4 Kr4
 simp [sBinH, sBin, binop]
 apply hK3; try clear hK3 K3
 refine pw_keep [0, 1, 10] ?_
 simp only [keepL, memL, cond_true, cond_false, ↓reduceIte, reduceCtorEq, Nat.reduceEqDiff]
 refine pw_cond _ rfl (fun h5 => ?_) (fun h5 => ?_)
 ·try simp at h5
  refine pw_seq_k fun K6 hK6 => ?_
  refine pw_region 0 ?_
  simp [h5]
  apply hK6; try clear hK6 K6
  refine pw_ret ?_
  try simp only [thenP, inBlockP]
  refine bodyQ_fr (by first | exact .inl rfl | exact .inr rfl) _ rfl ?_
  first | exact congrArg PV.bool (eq_len (by omega)).symm | exact congrArg PV.bool (eq_ne hf hx hy (by assumption)).symm | exact congrArg PV.bool (eq_end hf (by omega) (by omega)).symm
 ·try simp at h5
  refine pw_skip ?_
  try simp only [thenP, inBlockP]
  apply hK2; try clear hK2 K2
  refine pw_seq_k fun K7 hK7 => ?_
  refine pw_seq_k fun K8 hK8 => ?_
  refine pw_region 0 ?_
  simp [h5]
  apply hK8; try clear hK8 K8
  refine pw_block ?_
  refine pw_loopF (α := Nat) [0, 1, 12] (fun s => [(13, .int .i64 (s : Nat))]) (fun s => []) (fun m0 s => s + m0 = l.length ∧ ((l.drop s = m.drop s) ↔ l = m)) (l.length) (0) ?_ ?_ ?_
  ·(try dsimp only) <;> (simp)
  ·refine Wk.toF ?_ ?_ ?_ ?_ ?_
   ·try simp only [keepL, memL, cond_true, cond_false, ↓reduceIte, reduceCtorEq, Nat.reduceEqDiff, List.cons_append, List.nil_append, puts, put]
    repeat (first | exact trivial | (refine FLt.cons ?_ ?_; focus (first | exact Lt.refl _ | exact Lt.any _ | (refine lt_eq (congrArg (PV.int .i64) ?_); omega) | (refine lt_eq ?_; simp [h5]; done) | (refine lt_eq ?_; simp [h5] <;> omega))))
   ·try simp only [puts, put, ↓reduceIte, reduceCtorEq, Nat.reduceEqDiff]
    repeat (first | exact trivial | (refine ⟨⟨_, rfl, ?_⟩, ?_⟩; focus (first | exact BLt.refl _)))
   ·simp
   ·simp
   ·simp
  ·intro m0 i hinv KL9 hKL9
   try dsimp only at hinv
   obtain ⟨hk, hf⟩ := hinv
   simp only [keepL, memL, cond_true, cond_false, ↓reduceIte, reduceCtorEq, Nat.reduceEqDiff, List.cons_append, List.nil_append, puts, put]
   refine pw_seq_k fun K10 hK10 => ?_
   refine pw_region 0 ?_
   simp [sBinH, sBin, binop, h5]
   apply hK10; try clear hK10 K10
   refine pw_seq_k fun K11 hK11 => ?_
   refine pw_cond _ rfl (fun h12 => ?_) (fun h12 => ?_)
   ·try simp at h12
    obtain ⟨x, hx, hX⟩ := getN2 (l := l) (k := i) (by omega)
    obtain ⟨y, hy, hY⟩ := getN2 (l := m) (k := i) (by omega)
    have hw := wrap_i64 (n := (i : Int) + 1) (by omega) (by omega)
    refine pw_skip ?_
    try simp only [thenP, inBlockP]
    apply hK11; try clear hK11 K11
    refine pw_seq_k fun K13 hK13 => ?_
    refine pw_block ?_
    refine pw_seq_k fun K14 hK14 => ?_
    refine pw_region 0 ?_
    simp [h5, h12, hx, hy, hX, hY, hw]
    apply hK14; try clear hK14 K14
    refine pw_seq_k fun K15 hK15 => ?_
    refine pw_region_draw mix 0 ?_
    refine pEv_split 4 fun Kr16 hKr16 => ?_
    simp [h5, h12, hx, hy, hX, hY, hw]
    apply hKr16; clear hKr16 Kr16
    refine pEv_split 4 fun Kr17 hKr17 => ?_
    simp [h5, h12, hx, hy, hX, hY, hw]
    apply hKr17; clear hKr17 Kr17
    simp [neq30, h5, h12, hx, hy, hX, hY, hw]
    refine ⟨by decide +kernel, ?_⟩
    apply hK15; try clear hK15 K15
    refine pw_keep [0, 1, 12, 13, 24] ?_
    simp only [keepL, memL, cond_true, cond_false, ↓reduceIte, reduceCtorEq, Nat.reduceEqDiff]
    refine pw_cond _ rfl (fun h18 => ?_) (fun h18 => ?_)
    ·try simp at h18
     refine pw_seq_k fun K19 hK19 => ?_
     refine pw_region 0 ?_
     simp [h5, h12, hx, hy, hX, hY, hw, h18]
     apply hK19; try clear hK19 K19
     refine pw_keep [4] ?_
     simp only [keepL, memL, cond_true, cond_false, ↓reduceIte, reduceCtorEq, Nat.reduceEqDiff]
     refine pw_ret ?_
     try simp only [thenP, inBlockP]
     refine bodyQ_fr (by first | exact .inl rfl | exact .inr rfl) _ rfl ?_
     first | exact congrArg PV.bool (eq_len (by omega)).symm | exact congrArg PV.bool (eq_ne hf hx hy (by assumption)).symm | exact congrArg PV.bool (eq_end hf (by omega) (by omega)).symm
    ·try simp at h18
     refine pw_skip ?_
     try simp only [thenP, inBlockP]
     apply hK13; try clear hK13 K13
     refine pw_region 0 ?_
     simp [sBinH, sBin, binop, h5, h12, hx, hy, hX, hY, hw, h18]
     refine hKL9 _ (m0 - 1) (i + 1) ?_ ?_ ?_
     ·omega
     ·(try dsimp only) <;> (exact ⟨by omega, eq_next hf hx hy (by assumption)⟩)
     ·refine Wk.toF ?_ ?_ ?_ ?_ ?_
      ·try simp only [keepL, memL, cond_true, cond_false, ↓reduceIte, reduceCtorEq, Nat.reduceEqDiff, List.cons_append, List.nil_append, puts, put]
       repeat (first | exact trivial | (refine FLt.cons ?_ ?_; focus (first | exact Lt.refl _ | exact Lt.any _ | (refine lt_eq (congrArg (PV.int .i64) ?_); omega) | (refine lt_eq ?_; simp [h5, h12, h18]; done) | (refine lt_eq ?_; simp [h5, h12, h18] <;> omega))))
      ·try simp only [puts, put, ↓reduceIte, reduceCtorEq, Nat.reduceEqDiff]
       repeat (first | exact trivial | (refine ⟨⟨_, rfl, ?_⟩, ?_⟩; focus (first | exact BLt.refl _)))
      ·simp
      ·simp
      ·simp
   ·try simp at h12
    refine pw_exit ?_
    simp [thenP, inBlockP]
    apply hK7; try clear hK7 K7
    refine pw_keep [] ?_
    simp only [keepL, memL, cond_true, cond_false, ↓reduceIte, reduceCtorEq, Nat.reduceEqDiff]
    refine pw_seq_k fun K20 hK20 => ?_
    refine pw_region 0 ?_
    simp [h5, h12]
    apply hK20; try clear hK20 K20
    refine pw_ret ?_
    try simp only [thenP, inBlockP]
    refine bodyQ_fr (by first | exact .inl rfl | exact .inr rfl) _ rfl ?_
    first | exact congrArg PV.bool (eq_len (by omega)).symm | exact congrArg PV.bool (eq_ne hf hx hy (by assumption)).symm | exact congrArg PV.bool (eq_end hf (by omega) (by omega)).symm

set_option maxRecDepth 100000 in
set_option maxHeartbeats 4000000 in
theorem sameFilter_pf (a b : NFilter) (ha : a.ranges.length < 2 ^ 31) : PFun Try.prog 17 [a.pv, b.pv] (.bool (decide (a = b))) := by
 refine PFun.of_bodyF (by simp) Try.func17 rfl 17 rfl (by simp) fun c0 => ?_
 simp only [argL, Nat.reduceAdd]
 refine pw_seq_k fun K1 hK1 => ?_
 refine pw_region 0 ?_
 simp
 apply hK1; try clear hK1 K1
 refine pw_seq_k fun K2 hK2 => ?_
 refine pw_region 0 ?_
 refine pEv0_split 4 fun Kr3 hKr3 => ?_
 simp
 apply hKr3; clear hKr3 Kr3
 refine pEv0_split 2 fun Kr4 hKr4 => ?_
 simp [eq28]
 apply hKr4; clear hKr4 Kr4
 refine pEv0_guard _ rfl (fun hg5 => ?_) (fun hg5 => ?_)
 ·have hgb5 := eq_of_beq hg5
  try simp only [Bool.not_true, Bool.not_false] at hgb5
  try simp at hg5
  refine pEv0_split 4 fun Kr6 hKr6 => ?_
  simp [hg5, hgb5]
  apply hKr6; clear hKr6 Kr6
  refine pEv0_call' rfl rfl rfl (call_pure (eqCidrs _ _ (by assumption)) en42 rfl _) ?_
  simp [hg5, hgb5]
  apply hK2; try clear hK2 K2
  refine pw_keep [4] ?_
  simp only [keepL, memL, cond_true, cond_false, ↓reduceIte, reduceCtorEq, Nat.reduceEqDiff]
  refine pw_ret ?_
  try simp only [thenP, inBlockP]
  refine bodyQ_fr (by first | exact .inl rfl | exact .inr rfl) _ rfl ?_
  first | rfl | (simp [lk, NFilter.eq_iff, hg5, hgb5]; done) | (simp [lk, NFilter.eq_iff, hg5, hgb5] <;> omega) | ((try clear hK2 K2); (try clear hK1 K1); simp_all [lk, NFilter.eq_iff]; done)
 ·have hgb5 := beq_off hg5
  try simp only [Bool.not_true, Bool.not_false] at hgb5
  try simp at hg5
  refine pEv0_split 4 fun Kr7 hKr7 => ?_
  simp [hg5, hgb5]
  apply hKr7; clear hKr7 Kr7
  simp [hg5, hgb5]
  apply hK2; try clear hK2 K2
  refine pw_keep [4] ?_
  simp only [keepL, memL, cond_true, cond_false, ↓reduceIte, reduceCtorEq, Nat.reduceEqDiff]
  refine pw_ret ?_
  try simp only [thenP, inBlockP]
  refine bodyQ_fr (by first | exact .inl rfl | exact .inr rfl) _ rfl ?_
  first | rfl | (simp [lk, NFilter.eq_iff, hg5, hgb5]; done) | (simp [lk, NFilter.eq_iff, hg5, hgb5] <;> omega) | ((try clear hK2 K2); (try clear hK1 K1); simp_all [lk, NFilter.eq_iff]; done)

set_option maxRecDepth 100000 in
set_option maxHeartbeats 4000000 in
theorem rsameFilter_pf (a b : NFilter) (ha : a.ranges.length < 2 ^ 31) : PFun Try.prog 18 [a.pv, b.pv] (.bool (decide (a = b))) := by
 refine PFun.of_bodyF (by simp) Try.func18 rfl 17 rfl (by simp) fun c0 => ?_
 simp only [argL, Nat.reduceAdd]
 refine pw_seq_k fun K1 hK1 => ?_
 refine pw_region 0 ?_
 simp
 apply hK1; try clear hK1 K1
 refine pw_seq_k fun K2 hK2 => ?_
 refine pw_region 0 ?_
 refine pEv0_split 4 fun Kr3 hKr3 => ?_
 simp
 apply hKr3; clear hKr3 Kr3
 refine pEv0_split 2 fun Kr4 hKr4 => ?_
 simp [eq28]
 apply hKr4; clear hKr4 Kr4
 refine pEv0_guard _ rfl (fun hg5 => ?_) (fun hg5 => ?_)
 ·have hgb5 := eq_of_beq hg5
  try simp only [Bool.not_true, Bool.not_false] at hgb5
  try simp at hg5
  refine pEv0_split 4 fun Kr6 hKr6 => ?_
  simp [hg5, hgb5]
  apply hKr6; clear hKr6 Kr6
  refine pEv0_call' rfl rfl rfl (call_pure (reqCidrs _ _ (by assumption)) en43 rfl _) ?_
  simp [hg5, hgb5]
  apply hK2; try clear hK2 K2
  refine pw_keep [4] ?_
  simp only [keepL, memL, cond_true, cond_false, ↓reduceIte, reduceCtorEq, Nat.reduceEqDiff]
  refine pw_ret ?_
  try simp only [thenP, inBlockP]
  refine bodyQ_fr (by first | exact .inl rfl | exact .inr rfl) _ rfl ?_
  first | rfl | (simp [lk, NFilter.eq_iff, hg5, hgb5]; done) | (simp [lk, NFilter.eq_iff, hg5, hgb5] <;> omega) | ((try clear hK2 K2); (try clear hK1 K1); simp_all [lk, NFilter.eq_iff]; done)
 ·have hgb5 := beq_off hg5
  try simp only [Bool.not_true, Bool.not_false] at hgb5
  try simp at hg5
  refine pEv0_split 4 fun Kr7 hKr7 => ?_
  simp [hg5, hgb5]
  apply hKr7; clear hKr7 Kr7
  simp [hg5, hgb5]
  apply hK2; try clear hK2 K2
  refine pw_keep [4] ?_
  simp only [keepL, memL, cond_true, cond_false, ↓reduceIte, reduceCtorEq, Nat.reduceEqDiff]
  refine pw_ret ?_
  try simp only [thenP, inBlockP]
  refine bodyQ_fr (by first | exact .inl rfl | exact .inr rfl) _ rfl ?_
  first | rfl | (simp [lk, NFilter.eq_iff, hg5, hgb5]; done) | (simp [lk, NFilter.eq_iff, hg5, hgb5] <;> omega) | ((try clear hK2 K2); (try clear hK1 K1); simp_all [lk, NFilter.eq_iff]; done)

set_option maxRecDepth 100000 in
set_option maxHeartbeats 4000000 in
theorem sameTable_pf (a b : NTable) (h1 : a.backends.length < 2 ^ 31) (h2 : a.slots.length < 2 ^ 31) : PFun Try.prog 44 [a.pv, b.pv] (.bool (decide (a = b))) := by
 refine PFun.of_bodyF (by simp) Try.func44 rfl 24 rfl (by simp) fun c0 => ?_
 simp only [argL, Nat.reduceAdd]
 refine pw_seq_k fun K1 hK1 => ?_
 refine pw_region 0 ?_
 simp
 apply hK1; try clear hK1 K1
 refine pw_seq_k fun K2 hK2 => ?_
 refine pw_region 0 ?_
 refine pEv0_split 4 fun Kr3 hKr3 => ?_
 simp
 apply hKr3; clear hKr3 Kr3
 refine pEv0_split 2 fun Kr4 hKr4 => ?_
 simp [sBinH, sBin, binop]
 apply hKr4; clear hKr4 Kr4
 refine pEv0_guard _ rfl (fun hg5 => ?_) (fun hg5 => ?_)
 ·have hgb5 := eq_of_beq hg5
  try simp only [Bool.not_true, Bool.not_false] at hgb5
  try simp at hg5
  refine pEv0_split 4 fun Kr6 hKr6 => ?_
  simp [hg5, hgb5]
  apply hKr6; clear hKr6 Kr6
  refine pEv0_call' rfl rfl rfl (call_pure (eqPoints _ _ (by assumption)) en67 rfl _) ?_
  refine pEv0_split 2 fun Kr7 hKr7 => ?_
  simp [hg5, hgb5]
  apply hKr7; clear hKr7 Kr7
  refine pEv0_guard _ rfl (fun hg8 => ?_) (fun hg8 => ?_)
  ·have hgb8 := eq_of_beq hg8
   try simp only [Bool.not_true, Bool.not_false] at hgb8
   try simp at hg8
   refine pEv0_split 4 fun Kr9 hKr9 => ?_
   simp [hg5, hgb5, hg8, hgb8]
   apply hKr9; clear hKr9 Kr9
   refine pEv0_call' rfl rfl rfl (call_pure (eqInts _ _ (by assumption)) en68 rfl _) ?_
   simp [hg5, hgb5, hg8, hgb8]
   apply hK2; try clear hK2 K2
   refine pw_keep [4] ?_
   simp only [keepL, memL, cond_true, cond_false, ↓reduceIte, reduceCtorEq, Nat.reduceEqDiff]
   refine pw_ret ?_
   try simp only [thenP, inBlockP]
   refine bodyQ_fr (by first | exact .inl rfl | exact .inr rfl) _ rfl ?_
   first | rfl | (simp [lk, NTable.eq_iff, hg5, hgb5, hg8, hgb8]; done) | (simp [lk, NTable.eq_iff, hg5, hgb5, hg8, hgb8] <;> omega) | ((try clear hK2 K2); (try clear hK1 K1); simp_all [lk, NTable.eq_iff]; done)
  ·have hgb8 := beq_off hg8
   try simp only [Bool.not_true, Bool.not_false] at hgb8
   try simp at hg8
   refine pEv0_split 4 fun Kr10 hKr10 => ?_
   simp [hg5, hgb5, hg8, hgb8]
   apply hKr10; clear hKr10 Kr10
   simp [hg5, hgb5, hg8, hgb8]
   apply hK2; try clear hK2 K2
   refine pw_keep [4] ?_
   simp only [keepL, memL, cond_true, cond_false, ↓reduceIte, reduceCtorEq, Nat.reduceEqDiff]
   refine pw_ret ?_
   try simp only [thenP, inBlockP]
   refine bodyQ_fr (by first | exact .inl rfl | exact .inr rfl) _ rfl ?_
   first | rfl | (simp [lk, NTable.eq_iff, hg5, hgb5, hg8, hgb8]; done) | (simp [lk, NTable.eq_iff, hg5, hgb5, hg8, hgb8] <;> omega) | ((try clear hK2 K2); (try clear hK1 K1); simp_all [lk, NTable.eq_iff]; done)
 ·have hgb5 := beq_off hg5
  try simp only [Bool.not_true, Bool.not_false] at hgb5
  try simp at hg5
  refine pEv0_split 4 fun Kr11 hKr11 => ?_
  simp [hg5, hgb5]
  apply hKr11; clear hKr11 Kr11
  refine pEv0_split 4 fun Kr12 hKr12 => ?_
  simp [hg5, hgb5]
  apply hKr12; clear hKr12 Kr12
  refine pEv0_split 4 fun Kr13 hKr13 => ?_
  simp [hg5, hgb5]
  apply hKr13; clear hKr13 Kr13
  simp [hg5, hgb5]
  apply hK2; try clear hK2 K2
  refine pw_keep [4] ?_
  simp only [keepL, memL, cond_true, cond_false, ↓reduceIte, reduceCtorEq, Nat.reduceEqDiff]
  refine pw_ret ?_
  try simp only [thenP, inBlockP]
  refine bodyQ_fr (by first | exact .inl rfl | exact .inr rfl) _ rfl ?_
  first | rfl | (simp [lk, NTable.eq_iff, hg5, hgb5]; done) | (simp [lk, NTable.eq_iff, hg5, hgb5] <;> omega) | ((try clear hK2 K2); (try clear hK1 K1); simp_all [lk, NTable.eq_iff]; done)

set_option maxRecDepth 100000 in
set_option maxHeartbeats 4000000 in
theorem sameGroup_pf (a b : NGroup) (h1 : a.table.backends.length < 2 ^ 31) (h2 : a.table.slots.length < 2 ^ 31) : PFun Try.prog 19 [a.pv, b.pv] (.bool (decide (a = b))) := by
 refine PFun.of_bodyF (by simp) Try.func19 rfl 17 rfl (by simp) fun c0 => ?_
 simp only [argL, Nat.reduceAdd]
 refine pw_seq_k fun K1 hK1 => ?_
 refine pw_region 0 ?_
 simp
 apply hK1; try clear hK1 K1
 refine pw_seq_k fun K2 hK2 => ?_
 refine pw_region 0 ?_
 refine pEv0_split 4 fun Kr3 hKr3 => ?_
 simp
 apply hKr3; clear hKr3 Kr3
 refine pEv0_split 2 fun Kr4 hKr4 => ?_
 simp [eq32]
 apply hKr4; clear hKr4 Kr4
 refine pEv0_guard _ rfl (fun hg5 => ?_) (fun hg5 => ?_)
 ·have hgb5 := eq_of_beq hg5
  try simp only [Bool.not_true, Bool.not_false] at hgb5
  try simp at hg5
  refine pEv0_split 4 fun Kr6 hKr6 => ?_
  simp [hg5, hgb5]
  apply hKr6; clear hKr6 Kr6
  refine pEv0_call' rfl rfl rfl (call_pure (sameTable_pf _ _ (by assumption) (by assumption)) en44 (by simp) _) ?_
  simp [hg5, hgb5]
  apply hK2; try clear hK2 K2
  refine pw_keep [4] ?_
  simp only [keepL, memL, cond_true, cond_false, ↓reduceIte, reduceCtorEq, Nat.reduceEqDiff]
  refine pw_ret ?_
  try simp only [thenP, inBlockP]
  refine bodyQ_fr (by first | exact .inl rfl | exact .inr rfl) _ rfl ?_
  first | rfl | (simp [lk, NGroup.eq_iff, hg5, hgb5]; done) | (simp [lk, NGroup.eq_iff, hg5, hgb5] <;> omega) | ((try clear hK2 K2); (try clear hK1 K1); simp_all [lk, NGroup.eq_iff]; done)
 ·have hgb5 := beq_off hg5
  try simp only [Bool.not_true, Bool.not_false] at hgb5
  try simp at hg5
  refine pEv0_split 4 fun Kr7 hKr7 => ?_
  simp [hg5, hgb5]
  apply hKr7; clear hKr7 Kr7
  simp [hg5, hgb5]
  apply hK2; try clear hK2 K2
  refine pw_keep [4] ?_
  simp only [keepL, memL, cond_true, cond_false, ↓reduceIte, reduceCtorEq, Nat.reduceEqDiff]
  refine pw_ret ?_
  try simp only [thenP, inBlockP]
  refine bodyQ_fr (by first | exact .inl rfl | exact .inr rfl) _ rfl ?_
  first | rfl | (simp [lk, NGroup.eq_iff, hg5, hgb5]; done) | (simp [lk, NGroup.eq_iff, hg5, hgb5] <;> omega) | ((try clear hK2 K2); (try clear hK1 K1); simp_all [lk, NGroup.eq_iff]; done)

set_option maxRecDepth 100000 in
set_option maxHeartbeats 4000000 in
theorem rsameGroup_pf (a b : NGroup) (h1 : a.table.backends.length < 2 ^ 31) (h2 : a.table.slots.length < 2 ^ 31) : PFun Try.prog 20 [a.pv, b.pv] (.bool (decide (a = b))) := by
 refine PFun.of_bodyF (by simp) Try.func20 rfl 37 rfl (by simp) fun c0 => ?_
 simp only [argL, Nat.reduceAdd]
 refine pw_seq_k fun K1 hK1 => ?_
 refine pw_region 0 ?_
 simp
 apply hK1; try clear hK1 K1
 refine pw_seq_k fun K2 hK2 => ?_
 refine pw_region 0 ?_
 refine pEv0_split 4 fun Kr3 hKr3 => ?_
 simp
 apply hKr3; clear hKr3 Kr3
 refine pEv0_split 2 fun Kr4 hKr4 => ?_
 simp [eq37]
 apply hKr4; clear hKr4 Kr4
 refine pEv0_guard _ rfl (fun hg5 => ?_) (fun hg5 => ?_)
 ·have hgb5 := eq_of_beq hg5
  try simp only [Bool.not_true, Bool.not_false] at hgb5
  try simp at hg5
  refine pEv0_split 4 fun Kr6 hKr6 => ?_
  simp [hg5, hgb5]
  apply hKr6; clear hKr6 Kr6
  refine pEv0_split 4 fun Kr7 hKr7 => ?_
  simp [sBinH, sBin, binop, hg5, hgb5]
  apply hKr7; clear hKr7 Kr7
  refine pEv0_split 1 fun Kr8 hKr8 => ?_
  simp [hg5, hgb5]
  apply hKr8; clear hKr8 Kr8
  refine pEv0_guard _ rfl (fun hg9 => ?_) (fun hg9 => ?_)
  ·have hgb9 := eq_of_beq hg9
   try simp only [Bool.not_true, Bool.not_false] at hgb9
   try simp at hg9
   refine pEv0_split 4 fun Kr10 hKr10 => ?_
   simp [hg5, hgb5, hg9, hgb9]
   apply hKr10; clear hKr10 Kr10
   refine pEv0_split 2 fun Kr11 hKr11 => ?_
   simp [hg5, hgb5, hg9, hgb9]
   apply hKr11; clear hKr11 Kr11
   refine pEv0_call' rfl rfl rfl (call_pure (reqPoints _ _ (by assumption)) en45 rfl _) ?_
   refine pEv0_split 2 fun Kr12 hKr12 => ?_
   simp [hg5, hgb5, hg9, hgb9]
   apply hKr12; clear hKr12 Kr12
   refine pEv0_guard _ rfl (fun hg13 => ?_) (fun hg13 => ?_)
   ·have hgb13 := eq_of_beq hg13
    try simp only [Bool.not_true, Bool.not_false] at hgb13
    try simp at hg13
    refine pEv0_split 4 fun Kr14 hKr14 => ?_
    simp [hg5, hgb5, hg9, hgb9, hg13, hgb13]
    apply hKr14; clear hKr14 Kr14
    refine pEv0_split 2 fun Kr15 hKr15 => ?_
    simp [hg5, hgb5, hg9, hgb9, hg13, hgb13]
    apply hKr15; clear hKr15 Kr15
    refine pEv0_call' rfl rfl rfl (call_pure (reqInts _ _ (by assumption)) en46 rfl _) ?_
    simp [hg5, hgb5, hg9, hgb9, hg13, hgb13]
    apply hK2; try clear hK2 K2
    refine pw_keep [4] ?_
    simp only [keepL, memL, cond_true, cond_false, ↓reduceIte, reduceCtorEq, Nat.reduceEqDiff]
    refine pw_ret ?_
    try simp only [thenP, inBlockP]
    refine bodyQ_fr (by first | exact .inl rfl | exact .inr rfl) _ rfl ?_
    first | rfl | (simp [lk, NGroup.eq_iff, NTable.eq_iff, hg5, hgb5, hg9, hgb9, hg13, hgb13]; done) | (simp [lk, NGroup.eq_iff, NTable.eq_iff, hg5, hgb5, hg9, hgb9, hg13, hgb13] <;> omega) | ((try clear hK2 K2); (try clear hK1 K1); simp_all [lk, NGroup.eq_iff, NTable.eq_iff]; done)
   ·have hgb13 := beq_off hg13
    try simp only [Bool.not_true, Bool.not_false] at hgb13
    try simp at hg13
    refine pEv0_split 4 fun Kr16 hKr16 => ?_
    simp [hg5, hgb5, hg9, hgb9, hg13, hgb13]
    apply hKr16; clear hKr16 Kr16
    refine pEv0_split 4 fun Kr17 hKr17 => ?_
    simp [hg5, hgb5, hg9, hgb9, hg13, hgb13]
    apply hKr17; clear hKr17 Kr17
    simp [hg5, hgb5, hg9, hgb9, hg13, hgb13]
    apply hK2; try clear hK2 K2
    refine pw_keep [4] ?_
    simp only [keepL, memL, cond_true, cond_false, ↓reduceIte, reduceCtorEq, Nat.reduceEqDiff]
    refine pw_ret ?_
    try simp only [thenP, inBlockP]
    refine bodyQ_fr (by first | exact .inl rfl | exact .inr rfl) _ rfl ?_
    first | rfl | (simp [lk, NGroup.eq_iff, NTable.eq_iff, hg5, hgb5, hg9, hgb9, hg13, hgb13]; done) | (simp [lk, NGroup.eq_iff, NTable.eq_iff, hg5, hgb5, hg9, hgb9, hg13, hgb13] <;> omega) | ((try clear hK2 K2); (try clear hK1 K1); simp_all [lk, NGroup.eq_iff, NTable.eq_iff]; done)
  ·have hgb9 := beq_off hg9
   try simp only [Bool.not_true, Bool.not_false] at hgb9
   try simp at hg9
   refine pEv0_split 4 fun Kr18 hKr18 => ?_
   simp [hg5, hgb5, hg9, hgb9]
   apply hKr18; clear hKr18 Kr18
   refine pEv0_split 4 fun Kr19 hKr19 => ?_
   simp [hg5, hgb5, hg9, hgb9]
   apply hKr19; clear hKr19 Kr19
   refine pEv0_split 4 fun Kr20 hKr20 => ?_
   simp [hg5, hgb5, hg9, hgb9]
   apply hKr20; clear hKr20 Kr20
   refine pEv0_split 4 fun Kr21 hKr21 => ?_
   simp [hg5, hgb5, hg9, hgb9]
   apply hKr21; clear hKr21 Kr21
   simp [hg5, hgb5, hg9, hgb9]
   apply hK2; try clear hK2 K2
   refine pw_keep [4] ?_
   simp only [keepL, memL, cond_true, cond_false, ↓reduceIte, reduceCtorEq, Nat.reduceEqDiff]
   refine pw_ret ?_
   try simp only [thenP, inBlockP]
   refine bodyQ_fr (by first | exact .inl rfl | exact .inr rfl) _ rfl ?_
   first | rfl | (simp [lk, NGroup.eq_iff, NTable.eq_iff, hg5, hgb5, hg9, hgb9]; done) | (simp [lk, NGroup.eq_iff, NTable.eq_iff, hg5, hgb5, hg9, hgb9] <;> omega) | ((try clear hK2 K2); (try clear hK1 K1); simp_all [lk, NGroup.eq_iff, NTable.eq_iff]; done)
 ·have hgb5 := beq_off hg5
  try simp only [Bool.not_true, Bool.not_false] at hgb5
  try simp at hg5
  refine pEv0_split 4 fun Kr22 hKr22 => ?_
  simp [hg5, hgb5]
  apply hKr22; clear hKr22 Kr22
  refine pEv0_split 4 fun Kr23 hKr23 => ?_
  simp [sBinH, sBin, binop, hg5, hgb5]
  apply hKr23; clear hKr23 Kr23
  refine pEv0_split 4 fun Kr24 hKr24 => ?_
  simp [hg5, hgb5]
  apply hKr24; clear hKr24 Kr24
  refine pEv0_split 4 fun Kr25 hKr25 => ?_
  simp [hg5, hgb5]
  apply hKr25; clear hKr25 Kr25
  refine pEv0_split 4 fun Kr26 hKr26 => ?_
  simp [hg5, hgb5]
  apply hKr26; clear hKr26 Kr26
  refine pEv0_split 4 fun Kr27 hKr27 => ?_
  simp [hg5, hgb5]
  apply hKr27; clear hKr27 Kr27
  simp [hg5, hgb5]
  apply hK2; try clear hK2 K2
  refine pw_keep [4] ?_
  simp only [keepL, memL, cond_true, cond_false, ↓reduceIte, reduceCtorEq, Nat.reduceEqDiff]
  refine pw_ret ?_
  try simp only [thenP, inBlockP]
  refine bodyQ_fr (by first | exact .inl rfl | exact .inr rfl) _ rfl ?_
  first | rfl | (simp [lk, NGroup.eq_iff, NTable.eq_iff, hg5, hgb5]; done) | (simp [lk, NGroup.eq_iff, NTable.eq_iff, hg5, hgb5] <;> omega) | ((try clear hK2 K2); (try clear hK1 K1); simp_all [lk, NGroup.eq_iff, NTable.eq_iff]; done)

set_option maxRecDepth 100000 in
set_option maxHeartbeats 4000000 in
theorem eqGroups (l m : List NGroup) (hl : l.length < 2 ^ 31) (hb : ∀ x ∈ l, x.table.backends.length < 2 ^ 31 ∧ x.table.slots.length < 2 ^ 31) : PFun Try.prog 48 [.sl 8 (l.map (NGroup.pv)), .sl 8 (m.map (NGroup.pv)), .clo 19 [] []] (.bool (decide (l = m))) := by
 refine PFun.of_bodyF (by simp) Try.func48 rfl 32 rfl (by simp) fun c0 => ?_
 simp only [argL, Nat.reduceAdd]
 refine pw_seq_k fun K1 hK1 => ?_
 refine pw_region 0 ?_
 simp
 apply hK1; try clear hK1 K1
 refine pw_seq_k fun K2 hK2 => ?_
 refine pw_seq_k fun K3 hK3 => ?_
 refine pw_region 0 ?_
 refine pEv0_split 4 fun Kr4 hKr4 => ?_
 simp
 apply hKr4; clear hKr4 Kr4
 simp [sBinH, sBin, binop]
 apply hK3; try clear hK3 K3
 refine pw_keep [0, 1, 2, 14] ?_
 simp only [keepL, memL, cond_true, cond_false, ↓reduceIte, reduceCtorEq, Nat.reduceEqDiff]
 refine pw_cond _ rfl (fun h5 => ?_) (fun h5 => ?_)
 ·try simp at h5
  refine pw_seq_k fun K6 hK6 => ?_
  refine pw_region 0 ?_
  simp [h5]
  apply hK6; try clear hK6 K6
  refine pw_keep [6] ?_
  simp only [keepL, memL, cond_true, cond_false, ↓reduceIte, reduceCtorEq, Nat.reduceEqDiff]
  refine pw_ret ?_
  try simp only [thenP, inBlockP]
  refine bodyQ_fr (by first | exact .inl rfl | exact .inr rfl) _ rfl ?_
  first | exact congrArg PV.bool (eq_len (by omega)).symm | exact congrArg PV.bool (eq_ne hf hx hy (by assumption)).symm | exact congrArg PV.bool (eq_end hf (by omega) (by omega)).symm
 ·try simp at h5
  refine pw_skip ?_
  try simp only [thenP, inBlockP]
  apply hK2; try clear hK2 K2
  refine pw_seq_k fun K7 hK7 => ?_
  refine pw_seq_k fun K8 hK8 => ?_
  refine pw_region 0 ?_
  simp [h5]
  apply hK8; try clear hK8 K8
  refine pw_block ?_
  refine pw_loopF (α := Nat) [1, 2, 15, 16] (fun s => [(17, .int .i64 (s : Nat))]) (fun s => []) (fun m0 s => s + m0 = l.length ∧ ((l.drop s = m.drop s) ↔ l = m)) (l.length) (0) ?_ ?_ ?_
  ·(try dsimp only) <;> (simp)
  ·refine Wk.toF ?_ ?_ ?_ ?_ ?_
   ·try simp only [keepL, memL, cond_true, cond_false, ↓reduceIte, reduceCtorEq, Nat.reduceEqDiff, List.cons_append, List.nil_append, puts, put]
    repeat (first | exact trivial | (refine FLt.cons ?_ ?_; focus (first | exact Lt.refl _ | exact Lt.any _ | (refine lt_eq (congrArg (PV.int .i64) ?_); omega) | (refine lt_eq ?_; simp [h5]; done) | (refine lt_eq ?_; simp [h5] <;> omega))))
   ·try simp only [puts, put, ↓reduceIte, reduceCtorEq, Nat.reduceEqDiff]
    repeat (first | exact trivial | (refine ⟨⟨_, rfl, ?_⟩, ?_⟩; focus (first | exact BLt.refl _)))
   ·simp
   ·simp
   ·simp
  ·intro m0 i hinv KL9 hKL9
   try dsimp only at hinv
   obtain ⟨hk, hf⟩ := hinv
   simp only [keepL, memL, cond_true, cond_false, ↓reduceIte, reduceCtorEq, Nat.reduceEqDiff, List.cons_append, List.nil_append, puts, put]
   refine pw_seq_k fun K10 hK10 => ?_
   refine pw_region 0 ?_
   simp [sBinH, sBin, binop, h5]
   apply hK10; try clear hK10 K10
   refine pw_seq_k fun K11 hK11 => ?_
   refine pw_cond _ rfl (fun h12 => ?_) (fun h12 => ?_)
   ·try simp at h12
    obtain ⟨x, hx, hX⟩ := getN2 (l := l) (k := i) (by omega)
    obtain ⟨y, hy, hY⟩ := getN2 (l := m) (k := i) (by omega)
    have hw := wrap_i64 (n := (i : Int) + 1) (by omega) (by omega)
    have hbx := hb x (List.mem_of_getElem? hx)
    obtain ⟨hb1, hb2⟩ := hbx
    refine pw_skip ?_
    try simp only [thenP, inBlockP]
    apply hK11; try clear hK11 K11
    refine pw_seq_k fun K13 hK13 => ?_
    refine pw_block ?_
    refine pw_seq_k fun K14 hK14 => ?_
    refine pw_region 0 ?_
    refine pEv0_split 4 fun Kr15 hKr15 => ?_
    simp [h5, h12, hx, hy, hX, hY, hw]
    apply hKr15; clear hKr15 Kr15
    simp [h5, h12, hx, hy, hX, hY, hw]
    apply hK14; try clear hK14 K14
    refine pw_keep [1, 2, 7, 8, 15, 16, 17] ?_
    simp only [keepL, memL, cond_true, cond_false, ↓reduceIte, reduceCtorEq, Nat.reduceEqDiff]
    refine pw_seq_k fun K16 hK16 => ?_
    refine pw_region 0 ?_
    refine pEv0_split 4 fun Kr17 hKr17 => ?_
    simp [h5, h12, hx, hy, hX, hY, hw]
    apply hKr17; clear hKr17 Kr17
    simp [h5, h12, hx, hy, hX, hY, hw]
    apply hK16; try clear hK16 K16
    refine pw_keep [1, 2, 8, 9, 15, 16, 17] ?_
    simp only [keepL, memL, cond_true, cond_false, ↓reduceIte, reduceCtorEq, Nat.reduceEqDiff]
    refine pw_seq_k fun K18 hK18 => ?_
    refine pw_region 0 ?_
    refine pEv0_split 3 fun Kr19 hKr19 => ?_
    simp [h5, h12, hx, hy, hX, hY, hw]
    apply hKr19; clear hKr19 Kr19
    refine pEv0_call' rfl rfl rfl (call_pure (sameGroup_pf _ _ (by assumption) (by assumption)) en19 (by simp) _) ?_
    simp [h5, h12, hx, hy, hX, hY, hw]
    apply hK18; try clear hK18 K18
    refine pw_keep [1, 2, 15, 16, 17, 30] ?_
    simp only [keepL, memL, cond_true, cond_false, ↓reduceIte, reduceCtorEq, Nat.reduceEqDiff]
    refine pw_cond _ rfl (fun h20 => ?_) (fun h20 => ?_)
    ·try simp at h20
     refine pw_seq_k fun K21 hK21 => ?_
     refine pw_region 0 ?_
     simp [h5, h12, hx, hy, hX, hY, hw, h20]
     apply hK21; try clear hK21 K21
     refine pw_keep [6] ?_
     simp only [keepL, memL, cond_true, cond_false, ↓reduceIte, reduceCtorEq, Nat.reduceEqDiff]
     refine pw_ret ?_
     try simp only [thenP, inBlockP]
     refine bodyQ_fr (by first | exact .inl rfl | exact .inr rfl) _ rfl ?_
     first | exact congrArg PV.bool (eq_len (by omega)).symm | exact congrArg PV.bool (eq_ne hf hx hy (by assumption)).symm | exact congrArg PV.bool (eq_end hf (by omega) (by omega)).symm
    ·try simp at h20
     refine pw_skip ?_
     try simp only [thenP, inBlockP]
     apply hK13; try clear hK13 K13
     refine pw_region 0 ?_
     simp [sBinH, sBin, binop, h5, h12, hx, hy, hX, hY, hw, h20]
     refine hKL9 _ (m0 - 1) (i + 1) ?_ ?_ ?_
     ·omega
     ·(try dsimp only) <;> (exact ⟨by omega, eq_next hf hx hy (by assumption)⟩)
     ·refine Wk.toF ?_ ?_ ?_ ?_ ?_
      ·try simp only [keepL, memL, cond_true, cond_false, ↓reduceIte, reduceCtorEq, Nat.reduceEqDiff, List.cons_append, List.nil_append, puts, put]
       repeat (first | exact trivial | (refine FLt.cons ?_ ?_; focus (first | exact Lt.refl _ | exact Lt.any _ | (refine lt_eq (congrArg (PV.int .i64) ?_); omega) | (refine lt_eq ?_; simp [h5, h12, h20]; done) | (refine lt_eq ?_; simp [h5, h12, h20] <;> omega))))
      ·try simp only [puts, put, ↓reduceIte, reduceCtorEq, Nat.reduceEqDiff]
       repeat (first | exact trivial | (refine ⟨⟨_, rfl, ?_⟩, ?_⟩; focus (first | exact BLt.refl _)))
      ·simp
      ·simp
      ·simp
   ·try simp at h12
    refine pw_exit ?_
    simp [thenP, inBlockP]
    apply hK7; try clear hK7 K7
    refine pw_keep [] ?_
    simp only [keepL, memL, cond_true, cond_false, ↓reduceIte, reduceCtorEq, Nat.reduceEqDiff]
    refine pw_seq_k fun K22 hK22 => ?_
    refine pw_region 0 ?_
    simp [h5, h12]
    apply hK22; try clear hK22 K22
    refine pw_ret ?_
    try simp only [thenP, inBlockP]
    refine bodyQ_fr (by first | exact .inl rfl | exact .inr rfl) _ rfl ?_
    first | exact congrArg PV.bool (eq_len (by omega)).symm | exact congrArg PV.bool (eq_ne hf hx hy (by assumption)).symm | exact congrArg PV.bool (eq_end hf (by omega) (by omega)).symm

set_option maxRecDepth 100000 in
set_option maxHeartbeats 4000000 in
theorem eqFilters (l m : List NFilter) (hl : l.length < 2 ^ 31) (hb : ∀ x ∈ l, x.ranges.length < 2 ^ 31) : PFun Try.prog 49 [.sl 3 (l.map (NFilter.pv)), .sl 3 (m.map (NFilter.pv)), .clo 17 [] []] (.bool (decide (l = m))) := by
 refine PFun.of_bodyF (by simp) Try.func49 rfl 32 rfl (by simp) fun c0 => ?_
 simp only [argL, Nat.reduceAdd]
 refine pw_seq_k fun K1 hK1 => ?_
 refine pw_region 0 ?_
 simp
 apply hK1; try clear hK1 K1
 refine pw_seq_k fun K2 hK2 => ?_
 refine pw_seq_k fun K3 hK3 => ?_
 refine pw_region 0 ?_
 refine pEv0_split 4 fun Kr4 hKr4 => ?_
 simp
 apply hKr4; clear hKr4 Kr4
 simp [sBinH, sBin, binop]
 apply hK3; try clear hK3 K3
 refine pw_keep [0, 1, 2, 14] ?_
 simp only [keepL, memL, cond_true, cond_false, ↓reduceIte, reduceCtorEq, Nat.reduceEqDiff]
 refine pw_cond _ rfl (fun h5 => ?_) (fun h5 => ?_)
 ·try simp at h5
  refine pw_seq_k fun K6 hK6 => ?_
  refine pw_region 0 ?_
  simp [h5]
  apply hK6; try clear hK6 K6
  refine pw_keep [6] ?_
  simp only [keepL, memL, cond_true, cond_false, ↓reduceIte, reduceCtorEq, Nat.reduceEqDiff]
  refine pw_ret ?_
  try simp only [thenP, inBlockP]
  refine bodyQ_fr (by first | exact .inl rfl | exact .inr rfl) _ rfl ?_
  first | exact congrArg PV.bool (eq_len (by omega)).symm | exact congrArg PV.bool (eq_ne hf hx hy (by assumption)).symm | exact congrArg PV.bool (eq_end hf (by omega) (by omega)).symm
 ·try simp at h5
  refine pw_skip ?_
  try simp only [thenP, inBlockP]
  apply hK2; try clear hK2 K2
  refine pw_seq_k fun K7 hK7 => ?_
  refine pw_seq_k fun K8 hK8 => ?_
  refine pw_region 0 ?_
  simp [h5]
  apply hK8; try clear hK8 K8
  refine pw_block ?_
  refine pw_loopF (α := Nat) [1, 2, 15, 16] (fun s => [(17, .int .i64 (s : Nat))]) (fun s => []) (fun m0 s => s + m0 = l.length ∧ ((l.drop s = m.drop s) ↔ l = m)) (l.length) (0) ?_ ?_ ?_
  ·(try dsimp only) <;> (simp)
  ·refine Wk.toF ?_ ?_ ?_ ?_ ?_
   ·try simp only [keepL, memL, cond_true, cond_false, ↓reduceIte, reduceCtorEq, Nat.reduceEqDiff, List.cons_append, List.nil_append, puts, put]
    repeat (first | exact trivial | (refine FLt.cons ?_ ?_; focus (first | exact Lt.refl _ | exact Lt.any _ | (refine lt_eq (congrArg (PV.int .i64) ?_); omega) | (refine lt_eq ?_; simp [h5]; done) | (refine lt_eq ?_; simp [h5] <;> omega))))
   ·try simp only [puts, put, ↓reduceIte, reduceCtorEq, Nat.reduceEqDiff]
    repeat (first | exact trivial | (refine ⟨⟨_, rfl, ?_⟩, ?_⟩; focus (first | exact BLt.refl _)))
   ·simp
   ·simp
   ·simp
  ·intro m0 i hinv KL9 hKL9
   try dsimp only at hinv
   obtain ⟨hk, hf⟩ := hinv
   simp only [keepL, memL, cond_true, cond_false, ↓reduceIte, reduceCtorEq, Nat.reduceEqDiff, List.cons_append, List.nil_append, puts, put]
   refine pw_seq_k fun K10 hK10 => ?_
   refine pw_region 0 ?_
   simp [sBinH, sBin, binop, h5]
   apply hK10; try clear hK10 K10
   refine pw_seq_k fun K11 hK11 => ?_
   refine pw_cond _ rfl (fun h12 => ?_) (fun h12 => ?_)
   ·try simp at h12
    obtain ⟨x, hx, hX⟩ := getN2 (l := l) (k := i) (by omega)
    obtain ⟨y, hy, hY⟩ := getN2 (l := m) (k := i) (by omega)
    have hw := wrap_i64 (n := (i : Int) + 1) (by omega) (by omega)
    have hbx := hb x (List.mem_of_getElem? hx)
    refine pw_skip ?_
    try simp only [thenP, inBlockP]
    apply hK11; try clear hK11 K11
    refine pw_seq_k fun K13 hK13 => ?_
    refine pw_block ?_
    refine pw_seq_k fun K14 hK14 => ?_
    refine pw_region 0 ?_
    refine pEv0_split 4 fun Kr15 hKr15 => ?_
    simp [h5, h12, hx, hy, hX, hY, hw]
    apply hKr15; clear hKr15 Kr15
    simp [h5, h12, hx, hy, hX, hY, hw]
    apply hK14; try clear hK14 K14
    refine pw_keep [1, 2, 7, 8, 15, 16, 17] ?_
    simp only [keepL, memL, cond_true, cond_false, ↓reduceIte, reduceCtorEq, Nat.reduceEqDiff]
    refine pw_seq_k fun K16 hK16 => ?_
    refine pw_region 0 ?_
    refine pEv0_split 4 fun Kr17 hKr17 => ?_
    simp [h5, h12, hx, hy, hX, hY, hw]
    apply hKr17; clear hKr17 Kr17
    simp [h5, h12, hx, hy, hX, hY, hw]
    apply hK16; try clear hK16 K16
    refine pw_keep [1, 2, 8, 9, 15, 16, 17] ?_
    simp only [keepL, memL, cond_true, cond_false, ↓reduceIte, reduceCtorEq, Nat.reduceEqDiff]
    refine pw_seq_k fun K18 hK18 => ?_
    refine pw_region 0 ?_
    refine pEv0_split 3 fun Kr19 hKr19 => ?_
    simp [h5, h12, hx, hy, hX, hY, hw]
    apply hKr19; clear hKr19 Kr19
    refine pEv0_call' rfl rfl rfl (call_pure (sameFilter_pf _ _ (by assumption)) en17 (by simp) _) ?_
    simp [h5, h12, hx, hy, hX, hY, hw]
    apply hK18; try clear hK18 K18
    refine pw_keep [1, 2, 15, 16, 17, 30] ?_
    simp only [keepL, memL, cond_true, cond_false, ↓reduceIte, reduceCtorEq, Nat.reduceEqDiff]
    refine pw_cond _ rfl (fun h20 => ?_) (fun h20 => ?_)
    ·try simp at h20
     refine pw_seq_k fun K21 hK21 => ?_
     refine pw_region 0 ?_
     simp [h5, h12, hx, hy, hX, hY, hw, h20]
     apply hK21; try clear hK21 K21
     refine pw_keep [6] ?_
     simp only [keepL, memL, cond_true, cond_false, ↓reduceIte, reduceCtorEq, Nat.reduceEqDiff]
     refine pw_ret ?_
     try simp only [thenP, inBlockP]
     refine bodyQ_fr (by first | exact .inl rfl | exact .inr rfl) _ rfl ?_
     first | exact congrArg PV.bool (eq_len (by omega)).symm | exact congrArg PV.bool (eq_ne hf hx hy (by assumption)).symm | exact congrArg PV.bool (eq_end hf (by omega) (by omega)).symm
    ·try simp at h20
     refine pw_skip ?_
     try simp only [thenP, inBlockP]
     apply hK13; try clear hK13 K13
     refine pw_region 0 ?_
     simp [sBinH, sBin, binop, h5, h12, hx, hy, hX, hY, hw, h20]
     refine hKL9 _ (m0 - 1) (i + 1) ?_ ?_ ?_
     ·omega
     ·(try dsimp only) <;> (exact ⟨by omega, eq_next hf hx hy (by assumption)⟩)
     ·refine Wk.toF ?_ ?_ ?_ ?_ ?_
      ·try simp only [keepL, memL, cond_true, cond_false, ↓reduceIte, reduceCtorEq, Nat.reduceEqDiff, List.cons_append, List.nil_append, puts, put]
       repeat (first | exact trivial | (refine FLt.cons ?_ ?_; focus (first | exact Lt.refl _ | exact Lt.any _ | (refine lt_eq (congrArg (PV.int .i64) ?_); omega) | (refine lt_eq ?_; simp [h5, h12, h20]; done) | (refine lt_eq ?_; simp [h5, h12, h20] <;> omega))))
      ·try simp only [puts, put, ↓reduceIte, reduceCtorEq, Nat.reduceEqDiff]
       repeat (first | exact trivial | (refine ⟨⟨_, rfl, ?_⟩, ?_⟩; focus (first | exact BLt.refl _)))
      ·simp
      ·simp
      ·simp
   ·try simp at h12
    refine pw_exit ?_
    simp [thenP, inBlockP]
    apply hK7; try clear hK7 K7
    refine pw_keep [] ?_
    simp only [keepL, memL, cond_true, cond_false, ↓reduceIte, reduceCtorEq, Nat.reduceEqDiff]
    refine pw_seq_k fun K22 hK22 => ?_
    refine pw_region 0 ?_
    simp [h5, h12]
    apply hK22; try clear hK22 K22
    refine pw_ret ?_
    try simp only [thenP, inBlockP]
    refine bodyQ_fr (by first | exact .inl rfl | exact .inr rfl) _ rfl ?_
    first | exact congrArg PV.bool (eq_len (by omega)).symm | exact congrArg PV.bool (eq_ne hf hx hy (by assumption)).symm | exact congrArg PV.bool (eq_end hf (by omega) (by omega)).symm

end Pv
