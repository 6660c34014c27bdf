import Derived.Test.YtkbghhholjfgfaaG6
import Derived.Test.YtkbghhholjfgfaaG7
import Derived.Test.YtkbghhholjfgfaaG8
import Derived.Test.YtkbghhholjfgfaaG10
import Derived.Test.YtkbghhholjfgfaaG11
import Derived.Test.YtkbghhholjfgfaaB2
set_option linter.unusedSimpArgs false
set_option linter.unusedVariables false
namespace Pv
open Go Go.Proofs
attribute [local simp] Body.ren Body.withinB Box.ren List.drop_succ_cons List.map_set List.take_succ_cons PV.ren PV.within PV.within.go boxArr co60 co63 co69 co74 cur el47 el48 el53 el54 el78 el82 ev_const ev_fr ev_func ev_glob find_cons find_nil fl50_1 fl50_2 fl56_1 fl56_2 fr_get' fstep genOf guardDec inBlockP inH keepL keys layParts lk memL newBox ofConst ofScalar pEv pEv0 part' put puts renL sAlloc sBox sBuildSlice sFieldAddr sIndexAddr sLen sLoad sStore setD_fr setD_none setc_agg shR_d shR_r splice take_map_len thenP ty47 ty48 ty50 ty53 ty54 ty56 ty60 ty63 ty69 ty74 upF withinB_arr
set_option maxRecDepth 100000 in
set_option maxHeartbeats 4000000 in
theorem joinLaw_pf (a b : NRows) : PFun Try.prog 4 [a.pv, b.pv] (.bool true) := by
 refine PFun.of_bodyF (by simp) Try.func4 rfl 117 rfl (by simp) fun c0 => ?_
 simp only [argL, Nat.reduceAdd]
 refine pw_seq_k fun K1 hK1 => ?_
 refine pw_region 0 ?_
 simp [frzW, upd]
 apply hK1; try clear hK1 K1
 refine pw_seq_k fun K2 hK2 => ?_
 refine pw_seq_k fun K3 hK3 => ?_
 refine pw_region 0 ?_
 refine pEv0_call' rfl rfl rfl ((call_pure alive_pf.1 alive_pf.2 rfl _)) ?_
 simp [frzW, upd]
 apply hK3; try clear hK3 K3
 refine pw_keep [2, 3, 16] ?_
 simp only [keepL, memL, cond_true, cond_false, ↓reduceIte, reduceCtorEq, Nat.reduceEqDiff]
 refine pw_cond _ rfl (fun h4 => ?_) (fun h4 => ?_)
 ·simp at h4
 ·clear h4
  refine pw_skip ?_
  try simp only [thenP, inBlockP]
  apply hK2; try clear hK2 K2
  refine pw_seq_k fun K5 hK5 => ?_
  refine pw_seq_k fun K6 hK6 => ?_
  refine pw_region 0 ?_
  refine pEv0_split 1 fun Kr7 hKr7 => ?_
  simp [frzW, upd]
  apply hKr7; clear hKr7 Kr7
  refine pEv0_call' rfl rfl rfl ((call_pure (long_pf _ _ (by omega)) en15 (by simp) _)) ?_
  refine pEv0_split 1 fun Kr8 hKr8 => ?_
  simp [frzW, upd]
  apply hKr8; clear hKr8 Kr8
  refine pEv0_guard _ rfl (fun hg9 => ?_) (fun hg9 => ?_)
  ·have hgb9 := eq_of_beq hg9
   try simp only [Bool.not_true, Bool.not_false] at hgb9
   try simp at hg9
   have hla : longR a 40 = false := by first | exact hg9 | simpa using hg9
   refine pEv0_split 1 fun Kr10 hKr10 => ?_
   simp [frzW, upd, hg9, hgb9]
   apply hKr10; clear hKr10 Kr10
   refine pEv0_call' rfl rfl rfl ((call_pure (long_pf _ _ (by omega)) en15 (by simp) _)) ?_
   simp [frzW, upd, hg9, hgb9]
   apply hK6; try clear hK6 K6
   refine pw_keep [2, 3, 22] ?_
   simp only [keepL, memL, cond_true, cond_false, ↓reduceIte, reduceCtorEq, Nat.reduceEqDiff]
   refine pw_cond _ rfl (fun h11 => ?_) (fun h11 => ?_)
   ·try simp at h11
    refine pw_seq_k fun K12 hK12 => ?_
    refine pw_region 0 ?_
    simp [frzW, upd, hg9, hgb9, h11]
    apply hK12; try clear hK12 K12
    refine pw_ret ?_
    try simp only [thenP, inBlockP]
    refine bodyQ_fr (by first | exact .inl rfl | exact .inr rfl) _ rfl ?_
    first | rfl | (simp [lk]; done)
   ·try simp at h11
    have hlb : longR b 40 = false := by first | exact h11 | simpa using h11
    have hla2 := longR_le (most := 40) hla (by omega)
    have hlb2 := longR_le (most := 40) hlb (by omega)
    have fa1 := hla2.f
    have fa2 := hla2.g
    have fa3 := hla2.l
    have fb1 := hlb2.f
    have fb2 := hlb2.g
    have fb3 := hlb2.l
    have hcat : (catRows [a, b]).le 520 := catRows_le (k := 2) [a, b] (by intro r hr; simp at hr; rcases hr with e | e <;> (subst e; assumption)) (by simp) (by omega)
    have hjn : (joinRows [a, b]).le 520 := sortRows_le hcat
    refine pw_skip ?_
    try simp only [thenP, inBlockP]
    apply hK5; try clear hK5 K5
    refine pw_seq_k fun K13 hK13 => ?_
    refine pw_region_draw mix 0 ?_
    refine pEv_split 1 fun Kr14 hKr14 => ?_
    simp [frzW, upd, hg9, hgb9, h11]
    apply hKr14; clear hKr14 Kr14
    refine pEv_call' rfl rfl rfl ((call_pure (lof_pf a (hla2.mono (by omega))) en16 (by simp) _)) ?_
    refine pEv_split 1 fun Kr15 hKr15 => ?_
    simp [frzW, upd, hg9, hgb9, h11]
    apply hKr15; clear hKr15 Kr15
    refine pEv_call' rfl rfl rfl ((call_pure (lof_pf b (hlb2.mono (by omega))) en16 (by simp) _)) ?_
    simp [frzW, upd, hg9, hgb9, h11]
    refine ⟨by decide +kernel, ?_⟩
    apply hK13; try clear hK13 K13
    refine pw_keep [2, 3, 5, 6] ?_
    simp only [keepL, memL, cond_true, cond_false, ↓reduceIte, reduceCtorEq, Nat.reduceEqDiff]
    refine pw_seq_k fun K16 hK16 => ?_
    refine pw_seq_k fun K17 hK17 => ?_
    refine pw_region 0 ?_
    simp [frzW, upd, hg9, hgb9, h11]
    apply hK17; try clear hK17 K17
    refine pw_block ?_
    refine pw_loopF (α := Nat) [2, 3, 5, 6, 28, 29] (fun s => [(30, .int .i64 (s : Nat))]) (fun s => []) (fun m s => s + m = a.filters.length) (a.filters.length) (0) ?_ ?_ ?_
    ·(try dsimp only) <;> (omega)
    ·refine Wk.toF ?_ ?_ ?_ ?_ ?_
     ·try simp only [keepL, memL, cond_true, cond_false, ↓reduceIte, reduceCtorEq, Nat.reduceEqDiff, List.cons_append, List.nil_append, puts, put]
      repeat (first | exact trivial | (refine FLt.cons ?_ ?_; focus (first | exact Lt.refl _ | exact Lt.any _ | (refine lt_eq (congrArg (PV.int .i64) ?_); omega) | (refine lt_eq ?_; simp [hg9, hgb9, h11]; done) | (refine lt_eq ?_; simp [hg9, hgb9, h11] <;> omega))))
     ·try simp only [puts, put, ↓reduceIte, reduceCtorEq, Nat.reduceEqDiff]
      repeat (first | exact trivial | (refine ⟨⟨_, rfl, ?_⟩, ?_⟩; focus (first | exact BLt.refl _)))
     ·simp
     ·simp
     ·simp
    ·intro m i hinv KL18 hKL18
     try dsimp only at hinv
     simp only [keepL, memL, cond_true, cond_false, ↓reduceIte, reduceCtorEq, Nat.reduceEqDiff, List.cons_append, List.nil_append, puts, put]
     refine pw_seq_k fun K19 hK19 => ?_
     refine pw_region 0 ?_
     simp [sBinH, sBin, binop, frzW, upd, hg9, hgb9, h11]
     apply hK19; try clear hK19 K19
     refine pw_seq_k fun K20 hK20 => ?_
     refine pw_cond _ rfl (fun h21 => ?_) (fun h21 => ?_)
     ·try simp at h21
      obtain ⟨x, hx, hX⟩ := getN2 (l := a.filters) (k := i) (by omega)
      have hw := wrap_i64 (n := (i : Int) + 1) (by omega) (by omega)
      have hdr := drop_get hx
      have htk := take_get hx
      refine pw_skip ?_
      try simp only [thenP, inBlockP]
      apply hK20; try clear hK20 K20
      refine pw_seq_k fun K22 hK22 => ?_
      refine pw_block ?_
      refine pw_seq_k fun K23 hK23 => ?_
      refine pw_region 0 ?_
      refine pEv0_split 4 fun Kr24 hKr24 => ?_
      simp [frzW, upd, hg9, hgb9, h11, h21, hx, hX, hw, htk]
      apply hKr24; clear hKr24 Kr24
      simp [frzW, upd, hg9, hgb9, h11, h21, hx, hX, hw, htk]
      apply hK23; try clear hK23 K23
      refine pw_keep [2, 3, 5, 6, 7, 8, 28, 29, 30] ?_
      simp only [keepL, memL, cond_true, cond_false, ↓reduceIte, reduceCtorEq, Nat.reduceEqDiff]
      refine pw_seq_k fun K25 hK25 => ?_
      refine pw_region 0 ?_
      simp [frzW, upd, hg9, hgb9, h11, h21, hx, hX, hw, htk]
      apply hK25; try clear hK25 K25
      refine pw_block ?_
      refine pw_loopF (α := Nat) [2, 3, 5, 6, 7, 8, 28, 29, 30, 36, 37] (fun s => [(38, .int .i64 (s : Nat))]) (fun s => []) (fun mj s => s + mj = b.filters.length) (b.filters.length) (0) ?_ ?_ ?_
      ·(try dsimp only) <;> (omega)
      ·refine Wk.toF ?_ ?_ ?_ ?_ ?_
       ·try simp only [keepL, memL, cond_true, cond_false, ↓reduceIte, reduceCtorEq, Nat.reduceEqDiff, List.cons_append, List.nil_append, puts, put]
        repeat (first | exact trivial | (refine FLt.cons ?_ ?_; focus (first | exact Lt.refl _ | exact Lt.any _ | (refine lt_eq (congrArg (PV.int .i64) ?_); omega) | (refine lt_eq ?_; simp [hg9, hgb9, h11, h21, htk]; done) | (refine lt_eq ?_; simp [hg9, hgb9, h11, h21, htk] <;> omega))))
       ·try simp only [puts, put, ↓reduceIte, reduceCtorEq, Nat.reduceEqDiff]
        repeat (first | exact trivial | (refine ⟨⟨_, rfl, ?_⟩, ?_⟩; focus (first | exact BLt.refl _)))
       ·simp
       ·simp
       ·simp
      ·intro mj j hinv KL26 hKL26
       try dsimp only at hinv
       simp only [keepL, memL, cond_true, cond_false, ↓reduceIte, reduceCtorEq, Nat.reduceEqDiff, List.cons_append, List.nil_append, puts, put]
       refine pw_seq_k fun K27 hK27 => ?_
       refine pw_region 0 ?_
       simp [sBinH, sBin, binop, frzW, upd, hg9, hgb9, h11, h21, hx, hX, hw, htk]
       apply hK27; try clear hK27 K27
       refine pw_seq_k fun K28 hK28 => ?_
       refine pw_cond _ rfl (fun h29 => ?_) (fun h29 => ?_)
       ·try simp at h29
        obtain ⟨y, hxy, hXy⟩ := getN2 (l := b.filters) (k := j) (by omega)
        have hwy := wrap_i64 (n := (j : Int) + 1) (by omega) (by omega)
        have hdry := drop_get hxy
        have htky := take_get hxy
        refine pw_skip ?_
        try simp only [thenP, inBlockP]
        apply hK28; try clear hK28 K28
        refine pw_seq_k fun K30 hK30 => ?_
        refine pw_block ?_
        refine pw_seq_k fun K31 hK31 => ?_
        refine pw_region 0 ?_
        refine pEv0_split 4 fun Kr32 hKr32 => ?_
        simp [frzW, upd, hg9, hgb9, h11, h21, hx, hX, hw, htk, h29, hxy, hXy, hwy, htky]
        apply hKr32; clear hKr32 Kr32
        simp [frzW, upd, hg9, hgb9, h11, h21, hx, hX, hw, htk, h29, hxy, hXy, hwy, htky]
        apply hK31; try clear hK31 K31
        refine pw_keep [2, 3, 5, 6, 7, 8, 9, 10, 28, 29, 30, 36, 37, 38] ?_
        simp only [keepL, memL, cond_true, cond_false, ↓reduceIte, reduceCtorEq, Nat.reduceEqDiff]
        refine pw_seq_k fun K33 hK33 => ?_
        refine pw_region_draw mix 0 ?_
        refine pEv_split 2 fun Kr34 hKr34 => ?_
        simp [frzW, upd, hg9, hgb9, h11, h21, hx, hX, hw, htk, h29, hxy, hXy, hwy, htky]
        apply hKr34; clear hKr34 Kr34
        refine pEv_call' rfl rfl rfl ((call_pure (sameFilter_pf x y (by have := hla2.lr x (List.mem_of_getElem? hx); omega)) en17 (by simp) _)) ?_
        refine pEv_split 4 fun Kr35 hKr35 => ?_
        simp [frzW, upd, hg9, hgb9, h11, h21, hx, hX, hw, htk, h29, hxy, hXy, hwy, htky]
        apply hKr35; clear hKr35 Kr35
        refine pEv_split 4 fun Kr36 hKr36 => ?_
        simp [frzW, upd, hg9, hgb9, h11, h21, hx, hX, hw, htk, h29, hxy, hXy, hwy, htky]
        apply hKr36; clear hKr36 Kr36
        refine pEv_split 2 fun Kr37 hKr37 => ?_
        simp [frzW, upd, hg9, hgb9, h11, h21, hx, hX, hw, htk, h29, hxy, hXy, hwy, htky]
        apply hKr37; clear hKr37 Kr37
        refine pEv_call' rfl rfl rfl ((call_pure (rsameFilter_pf x y (by have := hla2.lr x (List.mem_of_getElem? hx); omega)) en18 (by simp) _)) ?_
        simp [neq4, frzW, upd, hg9, hgb9, h11, h21, hx, hX, hw, htk, h29, hxy, hXy, hwy, htky]
        refine ⟨by decide +kernel, ?_⟩
        apply hK33; try clear hK33 K33
        refine pw_keep [2, 3, 5, 6, 7, 8, 28, 29, 30, 36, 37, 38, 57] ?_
        simp only [keepL, memL, cond_true, cond_false, ↓reduceIte, reduceCtorEq, Nat.reduceEqDiff]
        refine pw_cond _ rfl (fun h38 => ?_) (fun h38 => ?_)
        ·simp at h38
        ·clear h38
         refine pw_skip ?_
         try simp only [thenP, inBlockP]
         apply hK30; try clear hK30 K30
         refine pw_region 0 ?_
         simp [sBinH, sBin, binop, frzW, upd, hg9, hgb9, h11, h21, hx, hX, hw, htk, h29, hxy, hXy, hwy, htky]
         refine hKL26 _ (mj - 1) (j + 1) ?_ ?_ ?_
         ·omega
         ·(try dsimp only) <;> (omega)
         ·refine Wk.toF ?_ ?_ ?_ ?_ ?_
          ·try simp only [keepL, memL, cond_true, cond_false, ↓reduceIte, reduceCtorEq, Nat.reduceEqDiff, List.cons_append, List.nil_append, puts, put]
           repeat (first | exact trivial | (refine FLt.cons ?_ ?_; focus (first | exact Lt.refl _ | exact Lt.any _ | (refine lt_eq (congrArg (PV.int .i64) ?_); omega) | (refine lt_eq ?_; simp [hg9, hgb9, h11, h21, htk, h29, htky]; done) | (refine lt_eq ?_; simp [hg9, hgb9, h11, h21, htk, h29, htky] <;> omega))))
          ·try simp only [puts, put, ↓reduceIte, reduceCtorEq, Nat.reduceEqDiff]
           repeat (first | exact trivial | (refine ⟨⟨_, rfl, ?_⟩, ?_⟩; focus (first | exact BLt.refl _)))
          ·simp
          ·simp
          ·simp
       ·try simp at h29
        refine pw_exit ?_
        simp [thenP, inBlockP]
        apply hK22; try clear hK22 K22
        refine pw_keep [2, 3, 5, 6, 28, 29, 30] ?_
        simp only [keepL, memL, cond_true, cond_false, ↓reduceIte, reduceCtorEq, Nat.reduceEqDiff]
        refine pw_region 0 ?_
        simp [sBinH, sBin, binop, frzW, upd, hg9, hgb9, h11, h21, hx, hX, hw, htk, h29]
        refine hKL18 _ (m - 1) (i + 1) ?_ ?_ ?_
        ·omega
        ·(try dsimp only) <;> (omega)
        ·refine Wk.toF ?_ ?_ ?_ ?_ ?_
         ·try simp only [keepL, memL, cond_true, cond_false, ↓reduceIte, reduceCtorEq, Nat.reduceEqDiff, List.cons_append, List.nil_append, puts, put]
          repeat (first | exact trivial | (refine FLt.cons ?_ ?_; focus (first | exact Lt.refl _ | exact Lt.any _ | (refine lt_eq (congrArg (PV.int .i64) ?_); omega) | (refine lt_eq ?_; simp [hg9, hgb9, h11, h21, htk, h29]; done) | (refine lt_eq ?_; simp [hg9, hgb9, h11, h21, htk, h29] <;> omega))))
         ·try simp only [puts, put, ↓reduceIte, reduceCtorEq, Nat.reduceEqDiff]
          repeat (first | exact trivial | (refine ⟨⟨_, rfl, ?_⟩, ?_⟩; focus (first | exact BLt.refl _)))
         ·simp
         ·simp
         ·simp
     ·try simp at h21
      refine pw_exit ?_
      simp [thenP, inBlockP]
      apply hK16; try clear hK16 K16
      refine pw_keep [2, 3, 5, 6] ?_
      simp only [keepL, memL, cond_true, cond_false, ↓reduceIte, reduceCtorEq, Nat.reduceEqDiff]
      refine pw_seq_k fun K39 hK39 => ?_
      refine pw_seq_k fun K40 hK40 => ?_
      refine pw_region 0 ?_
      simp [frzW, upd, hg9, hgb9, h11, h21]
      apply hK40; try clear hK40 K40
      refine pw_block ?_
      refine pw_loopF (α := Nat) [2, 3, 5, 6, 61, 62] (fun s => [(63, .int .i64 (s : Nat))]) (fun s => []) (fun m s => s + m = a.groups.length) (a.groups.length) (0) ?_ ?_ ?_
      ·(try dsimp only) <;> (omega)
      ·refine Wk.toF ?_ ?_ ?_ ?_ ?_
       ·try simp only [keepL, memL, cond_true, cond_false, ↓reduceIte, reduceCtorEq, Nat.reduceEqDiff, List.cons_append, List.nil_append, puts, put]
        repeat (first | exact trivial | (refine FLt.cons ?_ ?_; focus (first | exact Lt.refl _ | exact Lt.any _ | (refine lt_eq (congrArg (PV.int .i64) ?_); omega) | (refine lt_eq ?_; simp [hg9, hgb9, h11, h21]; done) | (refine lt_eq ?_; simp [hg9, hgb9, h11, h21] <;> omega))))
       ·try simp only [puts, put, ↓reduceIte, reduceCtorEq, Nat.reduceEqDiff]
        repeat (first | exact trivial | (refine ⟨⟨_, rfl, ?_⟩, ?_⟩; focus (first | exact BLt.refl _)))
       ·simp
       ·simp
       ·simp
      ·intro m i hinv KL41 hKL41
       try dsimp only at hinv
       simp only [keepL, memL, cond_true, cond_false, ↓reduceIte, reduceCtorEq, Nat.reduceEqDiff, List.cons_append, List.nil_append, puts, put]
       refine pw_seq_k fun K42 hK42 => ?_
       refine pw_region 0 ?_
       simp [sBinH, sBin, binop, frzW, upd, hg9, hgb9, h11, h21]
       apply hK42; try clear hK42 K42
       refine pw_seq_k fun K43 hK43 => ?_
       refine pw_cond _ rfl (fun h44 => ?_) (fun h44 => ?_)
       ·try simp at h44
        obtain ⟨x, hx, hX⟩ := getN2 (l := a.groups) (k := i) (by omega)
        have hw := wrap_i64 (n := (i : Int) + 1) (by omega) (by omega)
        have hdr := drop_get hx
        have htk := take_get hx
        refine pw_skip ?_
        try simp only [thenP, inBlockP]
        apply hK43; try clear hK43 K43
        refine pw_seq_k fun K45 hK45 => ?_
        refine pw_block ?_
        refine pw_seq_k fun K46 hK46 => ?_
        refine pw_region 0 ?_
        refine pEv0_split 4 fun Kr47 hKr47 => ?_
        simp [frzW, upd, hg9, hgb9, h11, h21, h44, hx, hX, hw, htk]
        apply hKr47; clear hKr47 Kr47
        simp [frzW, upd, hg9, hgb9, h11, h21, h44, hx, hX, hw, htk]
        apply hK46; try clear hK46 K46
        refine pw_keep [2, 3, 5, 6, 11, 12, 61, 62, 63] ?_
        simp only [keepL, memL, cond_true, cond_false, ↓reduceIte, reduceCtorEq, Nat.reduceEqDiff]
        refine pw_seq_k fun K48 hK48 => ?_
        refine pw_region 0 ?_
        simp [frzW, upd, hg9, hgb9, h11, h21, h44, hx, hX, hw, htk]
        apply hK48; try clear hK48 K48
        refine pw_block ?_
        refine pw_loopF (α := Nat) [2, 3, 5, 6, 11, 12, 61, 62, 63, 69, 70] (fun s => [(71, .int .i64 (s : Nat))]) (fun s => []) (fun mj s => s + mj = b.groups.length) (b.groups.length) (0) ?_ ?_ ?_
        ·(try dsimp only) <;> (omega)
        ·refine Wk.toF ?_ ?_ ?_ ?_ ?_
         ·try simp only [keepL, memL, cond_true, cond_false, ↓reduceIte, reduceCtorEq, Nat.reduceEqDiff, List.cons_append, List.nil_append, puts, put]
          repeat (first | exact trivial | (refine FLt.cons ?_ ?_; focus (first | exact Lt.refl _ | exact Lt.any _ | (refine lt_eq (congrArg (PV.int .i64) ?_); omega) | (refine lt_eq ?_; simp [hg9, hgb9, h11, h21, h44, htk]; done) | (refine lt_eq ?_; simp [hg9, hgb9, h11, h21, h44, htk] <;> omega))))
         ·try simp only [puts, put, ↓reduceIte, reduceCtorEq, Nat.reduceEqDiff]
          repeat (first | exact trivial | (refine ⟨⟨_, rfl, ?_⟩, ?_⟩; focus (first | exact BLt.refl _)))
         ·simp
         ·simp
         ·simp
        ·intro mj j hinv KL49 hKL49
         try dsimp only at hinv
         simp only [keepL, memL, cond_true, cond_false, ↓reduceIte, reduceCtorEq, Nat.reduceEqDiff, List.cons_append, List.nil_append, puts, put]
         refine pw_seq_k fun K50 hK50 => ?_
         refine pw_region 0 ?_
         simp [sBinH, sBin, binop, frzW, upd, hg9, hgb9, h11, h21, h44, hx, hX, hw, htk]
         apply hK50; try clear hK50 K50
         refine pw_seq_k fun K51 hK51 => ?_
         refine pw_cond _ rfl (fun h52 => ?_) (fun h52 => ?_)
         ·try simp at h52
          obtain ⟨y, hxy, hXy⟩ := getN2 (l := b.groups) (k := j) (by omega)
          have hwy := wrap_i64 (n := (j : Int) + 1) (by omega) (by omega)
          have hdry := drop_get hxy
          have htky := take_get hxy
          refine pw_skip ?_
          try simp only [thenP, inBlockP]
          apply hK51; try clear hK51 K51
          refine pw_seq_k fun K53 hK53 => ?_
          refine pw_block ?_
          refine pw_seq_k fun K54 hK54 => ?_
          refine pw_region 0 ?_
          refine pEv0_split 4 fun Kr55 hKr55 => ?_
          simp [frzW, upd, hg9, hgb9, h11, h21, h44, hx, hX, hw, htk, h52, hxy, hXy, hwy, htky]
          apply hKr55; clear hKr55 Kr55
          simp [frzW, upd, hg9, hgb9, h11, h21, h44, hx, hX, hw, htk, h52, hxy, hXy, hwy, htky]
          apply hK54; try clear hK54 K54
          refine pw_keep [2, 3, 5, 6, 11, 12, 13, 14, 61, 62, 63, 69, 70, 71] ?_
          simp only [keepL, memL, cond_true, cond_false, ↓reduceIte, reduceCtorEq, Nat.reduceEqDiff]
          refine pw_seq_k fun K56 hK56 => ?_
          refine pw_region_draw mix 0 ?_
          refine pEv_split 2 fun Kr57 hKr57 => ?_
          simp [frzW, upd, hg9, hgb9, h11, h21, h44, hx, hX, hw, htk, h52, hxy, hXy, hwy, htky]
          apply hKr57; clear hKr57 Kr57
          refine pEv_call' rfl rfl rfl ((call_pure (sameGroup_pf x y (by have := (hla2.gb x (List.mem_of_getElem? hx)).1; omega) (by have := (hla2.gb x (List.mem_of_getElem? hx)).2; omega)) en19 (by simp) _)) ?_
          refine pEv_split 4 fun Kr58 hKr58 => ?_
          simp [frzW, upd, hg9, hgb9, h11, h21, h44, hx, hX, hw, htk, h52, hxy, hXy, hwy, htky]
          apply hKr58; clear hKr58 Kr58
          refine pEv_split 4 fun Kr59 hKr59 => ?_
          simp [frzW, upd, hg9, hgb9, h11, h21, h44, hx, hX, hw, htk, h52, hxy, hXy, hwy, htky]
          apply hKr59; clear hKr59 Kr59
          refine pEv_split 2 fun Kr60 hKr60 => ?_
          simp [frzW, upd, hg9, hgb9, h11, h21, h44, hx, hX, hw, htk, h52, hxy, hXy, hwy, htky]
          apply hKr60; clear hKr60 Kr60
          refine pEv_call' rfl rfl rfl ((call_pure (rsameGroup_pf x y (by have := (hla2.gb x (List.mem_of_getElem? hx)).1; omega) (by have := (hla2.gb x (List.mem_of_getElem? hx)).2; omega)) en20 (by simp) _)) ?_
          simp [neq4, frzW, upd, hg9, hgb9, h11, h21, h44, hx, hX, hw, htk, h52, hxy, hXy, hwy, htky]
          refine ⟨by decide +kernel, ?_⟩
          apply hK56; try clear hK56 K56
          refine pw_keep [2, 3, 5, 6, 11, 12, 61, 62, 63, 69, 70, 71, 90] ?_
          simp only [keepL, memL, cond_true, cond_false, ↓reduceIte, reduceCtorEq, Nat.reduceEqDiff]
          refine pw_cond _ rfl (fun h61 => ?_) (fun h61 => ?_)
          ·simp at h61
          ·clear h61
           refine pw_skip ?_
           try simp only [thenP, inBlockP]
           apply hK53; try clear hK53 K53
           refine pw_region 0 ?_
           simp [sBinH, sBin, binop, frzW, upd, hg9, hgb9, h11, h21, h44, hx, hX, hw, htk, h52, hxy, hXy, hwy, htky]
           refine hKL49 _ (mj - 1) (j + 1) ?_ ?_ ?_
           ·omega
           ·(try dsimp only) <;> (omega)
           ·refine Wk.toF ?_ ?_ ?_ ?_ ?_
            ·try simp only [keepL, memL, cond_true, cond_false, ↓reduceIte, reduceCtorEq, Nat.reduceEqDiff, List.cons_append, List.nil_append, puts, put]
             repeat (first | exact trivial | (refine FLt.cons ?_ ?_; focus (first | exact Lt.refl _ | exact Lt.any _ | (refine lt_eq (congrArg (PV.int .i64) ?_); omega) | (refine lt_eq ?_; simp [hg9, hgb9, h11, h21, h44, htk, h52, htky]; done) | (refine lt_eq ?_; simp [hg9, hgb9, h11, h21, h44, htk, h52, htky] <;> omega))))
            ·try simp only [puts, put, ↓reduceIte, reduceCtorEq, Nat.reduceEqDiff]
             repeat (first | exact trivial | (refine ⟨⟨_, rfl, ?_⟩, ?_⟩; focus (first | exact BLt.refl _)))
            ·simp
            ·simp
            ·simp
         ·try simp at h52
          refine pw_exit ?_
          simp [thenP, inBlockP]
          apply hK45; try clear hK45 K45
          refine pw_keep [2, 3, 5, 6, 61, 62, 63] ?_
          simp only [keepL, memL, cond_true, cond_false, ↓reduceIte, reduceCtorEq, Nat.reduceEqDiff]
          refine pw_region 0 ?_
          simp [sBinH, sBin, binop, frzW, upd, hg9, hgb9, h11, h21, h44, hx, hX, hw, htk, h52]
          refine hKL41 _ (m - 1) (i + 1) ?_ ?_ ?_
          ·omega
          ·(try dsimp only) <;> (omega)
          ·refine Wk.toF ?_ ?_ ?_ ?_ ?_
           ·try simp only [keepL, memL, cond_true, cond_false, ↓reduceIte, reduceCtorEq, Nat.reduceEqDiff, List.cons_append, List.nil_append, puts, put]
            repeat (first | exact trivial | (refine FLt.cons ?_ ?_; focus (first | exact Lt.refl _ | exact Lt.any _ | (refine lt_eq (congrArg (PV.int .i64) ?_); omega) | (refine lt_eq ?_; simp [hg9, hgb9, h11, h21, h44, htk, h52]; done) | (refine lt_eq ?_; simp [hg9, hgb9, h11, h21, h44, htk, h52] <;> omega))))
           ·try simp only [puts, put, ↓reduceIte, reduceCtorEq, Nat.reduceEqDiff]
            repeat (first | exact trivial | (refine ⟨⟨_, rfl, ?_⟩, ?_⟩; focus (first | exact BLt.refl _)))
           ·simp
           ·simp
           ·simp
       ·try simp at h44
        refine pw_exit ?_
        simp [thenP, inBlockP]
        apply hK39; try clear hK39 K39
        refine pw_keep [2, 3, 5, 6] ?_
        simp only [keepL, memL, cond_true, cond_false, ↓reduceIte, reduceCtorEq, Nat.reduceEqDiff]
        refine pw_seq_k fun K62 hK62 => ?_
        refine pw_region_draw mix 0 ?_
        refine pEv_split 3 fun Kr63 hKr63 => ?_
        simp [frzW, upd, hg9, hgb9, h11, h21, h44]
        apply hKr63; clear hKr63 Kr63
        refine pEv_call' rfl rfl rfl ((call_frz (M := fun _ => false) (VwL.cons (VwA.row' (ys := [a, b].map NRows.pv) rfl (by simp) (by simp) rfl) VwL.nil) (call_pure (join_pf [a, b] (by simp) (hcat.mono (by omega))) en22 rfl _))) ?_
        refine pEv_call' rfl rfl rfl ((call_pure (lof_pf (joinRows [a, b]) (hjn.mono (by omega))) en16 (by simp) _)) ?_
        refine pEv_split 3 fun Kr64 hKr64 => ?_
        simp [frzW, upd, hg9, hgb9, h11, h21, h44]
        apply hKr64; clear hKr64 Kr64
        refine pEv_call' rfl rfl rfl ((call_frz (M := fun _ => false) (VwL.cons (VwA.row' (ys := [a, b].map NRows.pv) rfl (by simp) (by simp) rfl) VwL.nil) (call_pure (rjoin_pf [a, b] (by simp) (hcat.mono (by omega))) en23 rfl _))) ?_
        refine pEv_call' rfl rfl rfl ((call_pure (rsame_pf (joinRows [a, b]) (joinRows [a, b]) (hjn.mono (by omega))) en21 (by simp) _)) ?_
        refine pEv_split 3 fun Kr65 hKr65 => ?_
        simp [frzW, upd, hg9, hgb9, h11, h21, h44]
        apply hKr65; clear hKr65 Kr65
        refine pEv_call' rfl rfl rfl ((call_pure (same_pf a b (hla2.mono (by omega))) en24 (by simp) _)) ?_
        refine pEv_split 2 fun Kr66 hKr66 => ?_
        simp [frzW, upd, hg9, hgb9, h11, h21, h44]
        apply hKr66; clear hKr66 Kr66
        refine pEv_call' rfl rfl rfl ((call_pure (rsame_pf a b (hla2.mono (by omega))) en21 (by simp) _)) ?_
        refine pEv_split 3 fun Kr67 hKr67 => ?_
        simp [eq4, frzW, upd, hg9, hgb9, h11, h21, h44]
        apply hKr67; clear hKr67 Kr67
        refine pEv_call' rfl rfl rfl ((call_le (LeL.cons (nils_le 3) LeL.nil) (call_pure (join_pf [] (by simp) (by constructor <;> simp [catRows])) en22 rfl _))) ?_
        refine pEv_call' rfl rfl rfl ((call_pure (len_pf (joinRows []) (by constructor <;> simp [joinRows, sortRows, catRows, sortBy])) en25 (by simp) _)) ?_
        simp [sBinH, sBin, binop, frzW, upd, hg9, hgb9, h11, h21, h44]
        refine ⟨by decide +kernel, ?_⟩
        apply hK62; try clear hK62 K62
        refine pw_keep [4] ?_
        simp only [keepL, memL, cond_true, cond_false, ↓reduceIte, reduceCtorEq, Nat.reduceEqDiff]
        refine pw_ret ?_
        try simp only [thenP, inBlockP]
        refine bodyQ_fr (by first | exact .inl rfl | exact .inr rfl) _ rfl ?_
        first | rfl | (simp [lk]; done)
  ·have hgb9 := beq_off hg9
   try simp only [Bool.not_true, Bool.not_false] at hgb9
   try simp at hg9
   simp [frzW, upd, hg9, hgb9]
   apply hK6; try clear hK6 K6
   refine pw_keep [2, 3, 22] ?_
   simp only [keepL, memL, cond_true, cond_false, ↓reduceIte, reduceCtorEq, Nat.reduceEqDiff]
   refine pw_cond _ rfl (fun h68 => ?_) (fun h68 => ?_)
   ·clear h68
    refine pw_seq_k fun K69 hK69 => ?_
    refine pw_region 0 ?_
    simp [frzW, upd, hg9, hgb9]
    apply hK69; try clear hK69 K69
    refine pw_ret ?_
    try simp only [thenP, inBlockP]
    refine bodyQ_fr (by first | exact .inl rfl | exact .inr rfl) _ rfl ?_
    first | rfl | (simp [lk]; done)
   ·simp at h68

end Pv
