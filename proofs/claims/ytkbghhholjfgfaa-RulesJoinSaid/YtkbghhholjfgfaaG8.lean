import Derived.Test.YtkbghhholjfgfaaG5
set_option linter.unusedSimpArgs false
set_option linter.unusedVariables false
namespace Pv
open Go Go.Proofs
attribute [local simp] Body.ren Body.withinB Box.ren List.drop_succ_cons List.map_set List.take_succ_cons PV.ren PV.within PV.within.go boxArr co30 co60 co69 cur el46 el47 el48 el58 el64 el65 el9 ev_const ev_fr ev_func ev_glob find_cons find_nil fl28_0 fl28_1 fl30_2 fl30_3 fl32_0 fl32_1 fl50_0 fl50_1 fl50_2 fl60_0 fl60_1 fl67_1 fl67_2 fl69_0 fl69_1 fr_get' fstep genOf guardDec inBlockP inH is9 keepL keys lk memL newBox ofConst ofScalar pEv pEv0 part' put puts renL sAlloc sBox sFieldAddr sIndexAddr sLen sLoad sStore setD_fr setD_none setc_agg shR_d shR_r splice take_map_len thenP ty30 ty46 ty47 ty48 ty50 ty58 ty60 ty64 ty65 ty69 ty9 upF withinB_arr
set_option maxRecDepth 100000 in
set_option maxHeartbeats 4000000 in
theorem long_pf (a : NRows) (most : Int) (hm : most < 2 ^ 31) : PFun Try.prog 15 [a.pv, .int .i64 most] (.bool (longR a most)) := by
 refine PFun.of_bodyF (by simp) Try.func15 rfl 125 rfl (by simp) fun c0 => ?_
 simp only [argL, Nat.reduceAdd]
 refine pw_seq_k fun K1 hK1 => ?_
 refine pw_region 0 ?_
 simp
 apply hK1; try clear hK1 K1
 refine pw_seq_k fun K2 hK2 => ?_
 refine pw_seq_k fun K3 hK3 => ?_
 refine pw_region 0 ?_
 refine pEv0_split 4 fun Kr4 hKr4 => ?_
 simp
 apply hKr4; clear hKr4 Kr4
 refine pEv0_split 2 fun Kr5 hKr5 => ?_
 simp [sBinH, sBin, binop]
 apply hKr5; clear hKr5 Kr5
 refine pEv0_guard _ rfl (fun hg6 => ?_) (fun hg6 => ?_)
 ·have hgb6 := eq_of_beq hg6
  try simp only [Bool.not_true, Bool.not_false] at hgb6
  try simp at hg6
  refine pEv0_split 4 fun Kr7 hKr7 => ?_
  simp [hg6, hgb6]
  apply hKr7; clear hKr7 Kr7
  refine pEv0_split 3 fun Kr8 hKr8 => ?_
  simp [sBinH, sBin, binop, hg6, hgb6]
  apply hKr8; clear hKr8 Kr8
  refine pEv0_guard _ rfl (fun hg9 => ?_) (fun hg9 => ?_)
  ·have hgb9 := eq_of_beq hg9
   try simp only [Bool.not_true, Bool.not_false] at hgb9
   try simp at hg9
   refine pEv0_split 4 fun Kr10 hKr10 => ?_
   simp [hg6, hgb6, hg9, hgb9]
   apply hKr10; clear hKr10 Kr10
   simp [sBinH, sBin, binop, hg6, hgb6, hg9, hgb9]
   apply hK3; try clear hK3 K3
   refine pw_keep [2, 29] ?_
   simp only [keepL, memL, cond_true, cond_false, ↓reduceIte, reduceCtorEq, Nat.reduceEqDiff]
   refine pw_cond _ rfl (fun h11 => ?_) (fun h11 => ?_)
   ·try simp at h11
    have hq : longR a most = true := by simp only [longR, Bool.or_eq_true, decide_eq_true_eq]; omega
    refine pw_seq_k fun K12 hK12 => ?_
    refine pw_region 0 ?_
    simp [hg6, hgb6, hg9, hgb9, h11]
    apply hK12; try clear hK12 K12
    refine pw_ret ?_
    try simp only [thenP, inBlockP]
    refine bodyQ_fr (by first | exact .inl rfl | exact .inr rfl) _ rfl ?_
    rw [hq]; first | rfl | simp [lk]
   ·try simp at h11
    refine pw_skip ?_
    try simp only [thenP, inBlockP]
    apply hK2; try clear hK2 K2
    refine pw_seq_k fun K13 hK13 => ?_
    refine pw_seq_k fun K14 hK14 => ?_
    refine pw_region 0 ?_
    simp [hg6, hgb6, hg9, hgb9, h11]
    apply hK14; try clear hK14 K14
    refine pw_block ?_
    refine pw_loopF (α := Nat) [2, 31, 32] (fun s => [(33, .int .i64 (s : Nat))]) (fun s => []) (fun m s => s + m = a.fronts.length ∧ (a.fronts.drop s).any longF = a.fronts.any longF) (a.fronts.length) (0) ?_ ?_ ?_
    ·(try dsimp only) <;> (simp)
    ·refine Wk.toF ?_ ?_ ?_ ?_ ?_
     ·try simp only [keepL, memL, cond_true, cond_false, ↓reduceIte, reduceCtorEq, Nat.reduceEqDiff, List.cons_append, List.nil_append, puts, put]
      repeat (first | exact trivial | (refine FLt.cons ?_ ?_; focus (first | exact Lt.refl _ | exact Lt.any _ | (refine lt_eq (congrArg (PV.int .i64) ?_); omega) | (refine lt_eq ?_; simp [hg6, hgb6, hg9, hgb9, h11]; done) | (refine lt_eq ?_; simp [hg6, hgb6, hg9, hgb9, h11] <;> omega))))
     ·try simp only [puts, put, ↓reduceIte, reduceCtorEq, Nat.reduceEqDiff]
      repeat (first | exact trivial | (refine ⟨⟨_, rfl, ?_⟩, ?_⟩; focus (first | exact BLt.refl _)))
     ·simp
     ·simp
     ·simp
    ·intro m i hinv KL15 hKL15
     try dsimp only at hinv
     obtain ⟨hk, hf1⟩ := hinv
     simp only [keepL, memL, cond_true, cond_false, ↓reduceIte, reduceCtorEq, Nat.reduceEqDiff, List.cons_append, List.nil_append, puts, put]
     refine pw_seq_k fun K16 hK16 => ?_
     refine pw_region 0 ?_
     simp [sBinH, sBin, binop, hg6, hgb6, hg9, hgb9, h11]
     apply hK16; try clear hK16 K16
     refine pw_seq_k fun K17 hK17 => ?_
     refine pw_cond _ rfl (fun h18 => ?_) (fun h18 => ?_)
     ·try simp at h18
      obtain ⟨x, hx, hX⟩ := getN2 (l := a.fronts) (k := i) (by omega)
      have hw := wrap_i64 (n := (i : Int) + 1) (by omega) (by omega)
      have hdr := drop_get hx
      have htk := take_get hx
      refine pw_skip ?_
      try simp only [thenP, inBlockP]
      apply hK17; try clear hK17 K17
      refine pw_seq_k fun K19 hK19 => ?_
      refine pw_block ?_
      refine pw_seq_k fun K20 hK20 => ?_
      refine pw_region 0 ?_
      simp [hg6, hgb6, hg9, hgb9, h11, h18, hx, hX, hw, htk]
      apply hK20; try clear hK20 K20
      refine pw_seq_k fun K21 hK21 => ?_
      refine pw_region 0 ?_
      refine pEv0_split 4 fun Kr22 hKr22 => ?_
      simp [hg6, hgb6, hg9, hgb9, h11, h18, hx, hX, hw, htk]
      apply hKr22; clear hKr22 Kr22
      refine pEv0_split 2 fun Kr23 hKr23 => ?_
      simp [sBinH, sBin, binop, hg6, hgb6, hg9, hgb9, h11, h18, hx, hX, hw, htk]
      apply hKr23; clear hKr23 Kr23
      refine pEv0_guard _ rfl (fun hg24 => ?_) (fun hg24 => ?_)
      ·have hgb24 := eq_of_beq hg24
       try simp only [Bool.not_true, Bool.not_false] at hgb24
       try simp at hg24
       refine pEv0_split 4 fun Kr25 hKr25 => ?_
       simp [hg6, hgb6, hg9, hgb9, h11, h18, hx, hX, hw, htk, hg24, hgb24]
       apply hKr25; clear hKr25 Kr25
       refine pEv0_split 3 fun Kr26 hKr26 => ?_
       simp [sBinH, sBin, binop, hg6, hgb6, hg9, hgb9, h11, h18, hx, hX, hw, htk, hg24, hgb24]
       apply hKr26; clear hKr26 Kr26
       refine pEv0_guard _ rfl (fun hg27 => ?_) (fun hg27 => ?_)
       ·have hgb27 := eq_of_beq hg27
        try simp only [Bool.not_true, Bool.not_false] at hgb27
        try simp at hg27
        refine pEv0_split 4 fun Kr28 hKr28 => ?_
        simp [sBinH, sBin, binop, hg6, hgb6, hg9, hgb9, h11, h18, hx, hX, hw, htk, hg24, hgb24, hg27, hgb27]
        apply hKr28; clear hKr28 Kr28
        simp [hg6, hgb6, hg9, hgb9, h11, h18, hx, hX, hw, htk, hg24, hgb24, hg27, hgb27]
        apply hK21; try clear hK21 K21
        refine pw_keep [2, 31, 32, 33, 54] ?_
        simp only [keepL, memL, cond_true, cond_false, ↓reduceIte, reduceCtorEq, Nat.reduceEqDiff]
        refine pw_cond _ rfl (fun h29 => ?_) (fun h29 => ?_)
        ·try simp at h29
         have hq : longR a most = true := by have hp : longF x = true := (by simp only [longF, Bool.or_eq_true, decide_eq_true_eq]; omega); have := any_hit hf1 hx hp; simp [longR, this]
         refine pw_seq_k fun K30 hK30 => ?_
         refine pw_region 0 ?_
         simp [hg6, hgb6, hg9, hgb9, h11, h18, hx, hX, hw, htk, hg24, hgb24, hg27, hgb27, h29]
         apply hK30; try clear hK30 K30
         refine pw_keep [4] ?_
         simp only [keepL, memL, cond_true, cond_false, ↓reduceIte, reduceCtorEq, Nat.reduceEqDiff]
         refine pw_ret ?_
         try simp only [thenP, inBlockP]
         refine bodyQ_fr (by first | exact .inl rfl | exact .inr rfl) _ rfl ?_
         rw [hq]; first | rfl | simp [lk]
        ·try simp at h29
         have hnx : longF x = false := by simp only [longF, Bool.or_eq_false_iff, decide_eq_false_iff_not]; omega
         refine pw_skip ?_
         try simp only [thenP, inBlockP]
         apply hK19; try clear hK19 K19
         refine pw_region 0 ?_
         simp [sBinH, sBin, binop, hg6, hgb6, hg9, hgb9, h11, h18, hx, hX, hw, htk, hg24, hgb24, hg27, hgb27, h29]
         refine hKL15 _ (m - 1) (i + 1) ?_ ?_ ?_
         ·omega
         ·(try dsimp only) <;> (exact ⟨by omega, any_next hf1 hx hnx⟩)
         ·refine Wk.toF ?_ ?_ ?_ ?_ ?_
          ·try simp only [keepL, memL, cond_true, cond_false, ↓reduceIte, reduceCtorEq, Nat.reduceEqDiff, List.cons_append, List.nil_append, puts, put]
           repeat (first | exact trivial | (refine FLt.cons ?_ ?_; focus (first | exact Lt.refl _ | exact Lt.any _ | (refine lt_eq (congrArg (PV.int .i64) ?_); omega) | (refine lt_eq ?_; simp [hg6, hgb6, hg9, hgb9, h11, h18, htk, hg24, hgb24, hg27, hgb27, h29]; done) | (refine lt_eq ?_; simp [hg6, hgb6, hg9, hgb9, h11, h18, htk, hg24, hgb24, hg27, hgb27, h29] <;> omega))))
          ·try simp only [puts, put, ↓reduceIte, reduceCtorEq, Nat.reduceEqDiff]
           repeat (first | exact trivial | (refine ⟨⟨_, rfl, ?_⟩, ?_⟩; focus (first | exact BLt.refl _)))
          ·simp
          ·simp
          ·simp
       ·have hgb27 := beq_off hg27
        try simp only [Bool.not_true, Bool.not_false] at hgb27
        try simp at hg27
        have hq : longR a most = true := by have hp : longF x = true := (by simp only [longF, Bool.or_eq_true, decide_eq_true_eq]; omega); have := any_hit hf1 hx hp; simp [longR, this]
        refine pEv0_split 4 fun Kr31 hKr31 => ?_
        simp [sBinH, sBin, binop, hg6, hgb6, hg9, hgb9, h11, h18, hx, hX, hw, htk, hg24, hgb24, hg27, hgb27]
        apply hKr31; clear hKr31 Kr31
        simp [hg6, hgb6, hg9, hgb9, h11, h18, hx, hX, hw, htk, hg24, hgb24, hg27, hgb27]
        apply hK21; try clear hK21 K21
        refine pw_keep [2, 31, 32, 33, 54] ?_
        simp only [keepL, memL, cond_true, cond_false, ↓reduceIte, reduceCtorEq, Nat.reduceEqDiff]
        refine pw_cond _ rfl (fun h32 => ?_) (fun h32 => ?_)
        ·clear h32
         refine pw_seq_k fun K33 hK33 => ?_
         refine pw_region 0 ?_
         simp [hg6, hgb6, hg9, hgb9, h11, h18, hx, hX, hw, htk, hg24, hgb24, hg27, hgb27]
         apply hK33; try clear hK33 K33
         refine pw_keep [4] ?_
         simp only [keepL, memL, cond_true, cond_false, ↓reduceIte, reduceCtorEq, Nat.reduceEqDiff]
         refine pw_ret ?_
         try simp only [thenP, inBlockP]
         refine bodyQ_fr (by first | exact .inl rfl | exact .inr rfl) _ rfl ?_
         rw [hq]; first | rfl | simp [lk]
        ·simp at h32
      ·have hgb24 := beq_off hg24
       try simp only [Bool.not_true, Bool.not_false] at hgb24
       try simp at hg24
       have hq : longR a most = true := by have hp : longF x = true := (by simp only [longF, Bool.or_eq_true, decide_eq_true_eq]; omega); have := any_hit hf1 hx hp; simp [longR, this]
       refine pEv0_split 4 fun Kr34 hKr34 => ?_
       simp [hg6, hgb6, hg9, hgb9, h11, h18, hx, hX, hw, htk, hg24, hgb24]
       apply hKr34; clear hKr34 Kr34
       refine pEv0_split 4 fun Kr35 hKr35 => ?_
       simp [sBinH, sBin, binop, hg6, hgb6, hg9, hgb9, h11, h18, hx, hX, hw, htk, hg24, hgb24]
       apply hKr35; clear hKr35 Kr35
       simp [sBinH, sBin, binop, hg6, hgb6, hg9, hgb9, h11, h18, hx, hX, hw, htk, hg24, hgb24]
       apply hK21; try clear hK21 K21
       refine pw_keep [2, 31, 32, 33, 54] ?_
       simp only [keepL, memL, cond_true, cond_false, ↓reduceIte, reduceCtorEq, Nat.reduceEqDiff]
       refine pw_cond _ rfl (fun h36 => ?_) (fun h36 => ?_)
       ·clear h36
        refine pw_seq_k fun K37 hK37 => ?_
        refine pw_region 0 ?_
        simp [hg6, hgb6, hg9, hgb9, h11, h18, hx, hX, hw, htk, hg24, hgb24]
        apply hK37; try clear hK37 K37
        refine pw_keep [4] ?_
        simp only [keepL, memL, cond_true, cond_false, ↓reduceIte, reduceCtorEq, Nat.reduceEqDiff]
        refine pw_ret ?_
        try simp only [thenP, inBlockP]
        refine bodyQ_fr (by first | exact .inl rfl | exact .inr rfl) _ rfl ?_
        rw [hq]; first | rfl | simp [lk]
       ·simp at h36
     ·try simp at h18
      have hd1 := any_done hf1 (by omega)
      refine pw_exit ?_
      simp [thenP, inBlockP]
      apply hK13; try clear hK13 K13
      refine pw_keep [2] ?_
      simp only [keepL, memL, cond_true, cond_false, ↓reduceIte, reduceCtorEq, Nat.reduceEqDiff]
      refine pw_seq_k fun K38 hK38 => ?_
      refine pw_seq_k fun K39 hK39 => ?_
      refine pw_region 0 ?_
      simp [hg6, hgb6, hg9, hgb9, h11, h18]
      apply hK39; try clear hK39 K39
      refine pw_block ?_
      refine pw_loopF (α := Nat) [2, 57, 58] (fun s => [(59, .int .i64 (s : Nat))]) (fun s => []) (fun m s => s + m = a.groups.length ∧ (a.groups.drop s).any longG = a.groups.any longG) (a.groups.length) (0) ?_ ?_ ?_
      ·(try dsimp only) <;> (simp)
      ·refine Wk.toF ?_ ?_ ?_ ?_ ?_
       ·try simp only [keepL, memL, cond_true, cond_false, ↓reduceIte, reduceCtorEq, Nat.reduceEqDiff, List.cons_append, List.nil_append, puts, put]
        repeat (first | exact trivial | (refine FLt.cons ?_ ?_; focus (first | exact Lt.refl _ | exact Lt.any _ | (refine lt_eq (congrArg (PV.int .i64) ?_); omega) | (refine lt_eq ?_; simp [hg6, hgb6, hg9, hgb9, h11, h18]; done) | (refine lt_eq ?_; simp [hg6, hgb6, hg9, hgb9, h11, h18] <;> omega))))
       ·try simp only [puts, put, ↓reduceIte, reduceCtorEq, Nat.reduceEqDiff]
        repeat (first | exact trivial | (refine ⟨⟨_, rfl, ?_⟩, ?_⟩; focus (first | exact BLt.refl _)))
       ·simp
       ·simp
       ·simp
      ·intro m i hinv KL40 hKL40
       try dsimp only at hinv
       obtain ⟨hk, hf2⟩ := hinv
       simp only [keepL, memL, cond_true, cond_false, ↓reduceIte, reduceCtorEq, Nat.reduceEqDiff, List.cons_append, List.nil_append, puts, put]
       refine pw_seq_k fun K41 hK41 => ?_
       refine pw_region 0 ?_
       simp [sBinH, sBin, binop, hg6, hgb6, hg9, hgb9, h11, h18]
       apply hK41; try clear hK41 K41
       refine pw_seq_k fun K42 hK42 => ?_
       refine pw_cond _ rfl (fun h43 => ?_) (fun h43 => ?_)
       ·try simp at h43
        obtain ⟨x, hx, hX⟩ := getN2 (l := a.groups) (k := i) (by omega)
        have hw := wrap_i64 (n := (i : Int) + 1) (by omega) (by omega)
        have hdr := drop_get hx
        have htk := take_get hx
        refine pw_skip ?_
        try simp only [thenP, inBlockP]
        apply hK42; try clear hK42 K42
        refine pw_seq_k fun K44 hK44 => ?_
        refine pw_block ?_
        refine pw_seq_k fun K45 hK45 => ?_
        refine pw_region 0 ?_
        simp [hg6, hgb6, hg9, hgb9, h11, h18, h43, hx, hX, hw, htk]
        apply hK45; try clear hK45 K45
        refine pw_seq_k fun K46 hK46 => ?_
        refine pw_region 0 ?_
        refine pEv0_split 4 fun Kr47 hKr47 => ?_
        simp [hg6, hgb6, hg9, hgb9, h11, h18, h43, hx, hX, hw, htk]
        apply hKr47; clear hKr47 Kr47
        refine pEv0_split 3 fun Kr48 hKr48 => ?_
        simp [sBinH, sBin, binop, hg6, hgb6, hg9, hgb9, h11, h18, h43, hx, hX, hw, htk]
        apply hKr48; clear hKr48 Kr48
        refine pEv0_guard _ rfl (fun hg49 => ?_) (fun hg49 => ?_)
        ·have hgb49 := eq_of_beq hg49
         try simp only [Bool.not_true, Bool.not_false] at hgb49
         try simp at hg49
         refine pEv0_split 4 fun Kr50 hKr50 => ?_
         simp [hg6, hgb6, hg9, hgb9, h11, h18, h43, hx, hX, hw, htk, hg49, hgb49]
         apply hKr50; clear hKr50 Kr50
         refine pEv0_split 4 fun Kr51 hKr51 => ?_
         simp [sBinH, sBin, binop, hg6, hgb6, hg9, hgb9, h11, h18, h43, hx, hX, hw, htk, hg49, hgb49]
         apply hKr51; clear hKr51 Kr51
         refine pEv0_guard _ rfl (fun hg52 => ?_) (fun hg52 => ?_)
         ·have hgb52 := eq_of_beq hg52
          try simp only [Bool.not_true, Bool.not_false] at hgb52
          try simp at hg52
          refine pEv0_split 4 fun Kr53 hKr53 => ?_
          simp [hg6, hgb6, hg9, hgb9, h11, h18, h43, hx, hX, hw, htk, hg49, hgb49, hg52, hgb52]
          apply hKr53; clear hKr53 Kr53
          refine pEv0_split 3 fun Kr54 hKr54 => ?_
          simp [sBinH, sBin, binop, hg6, hgb6, hg9, hgb9, h11, h18, h43, hx, hX, hw, htk, hg49, hgb49, hg52, hgb52]
          apply hKr54; clear hKr54 Kr54
          refine pEv0_guard _ rfl (fun hg55 => ?_) (fun hg55 => ?_)
          ·have hgb55 := eq_of_beq hg55
           try simp only [Bool.not_true, Bool.not_false] at hgb55
           try simp at hg55
           refine pEv0_split 4 fun Kr56 hKr56 => ?_
           simp [hg6, hgb6, hg9, hgb9, h11, h18, h43, hx, hX, hw, htk, hg49, hgb49, hg52, hgb52, hg55, hgb55]
           apply hKr56; clear hKr56 Kr56
           refine pEv0_split 3 fun Kr57 hKr57 => ?_
           simp [sBinH, sBin, binop, hg6, hgb6, hg9, hgb9, h11, h18, h43, hx, hX, hw, htk, hg49, hgb49, hg52, hgb52, hg55, hgb55]
           apply hKr57; clear hKr57 Kr57
           refine pEv0_guard _ rfl (fun hg58 => ?_) (fun hg58 => ?_)
           ·have hgb58 := eq_of_beq hg58
            try simp only [Bool.not_true, Bool.not_false] at hgb58
            try simp at hg58
            refine pEv0_split 4 fun Kr59 hKr59 => ?_
            simp [hg6, hgb6, hg9, hgb9, h11, h18, h43, hx, hX, hw, htk, hg49, hgb49, hg52, hgb52, hg55, hgb55, hg58, hgb58]
            apply hKr59; clear hKr59 Kr59
            simp [sBinH, sBin, binop, hg6, hgb6, hg9, hgb9, h11, h18, h43, hx, hX, hw, htk, hg49, hgb49, hg52, hgb52, hg55, hgb55, hg58, hgb58]
            apply hK46; try clear hK46 K46
            refine pw_keep [2, 57, 58, 59, 97] ?_
            simp only [keepL, memL, cond_true, cond_false, ↓reduceIte, reduceCtorEq, Nat.reduceEqDiff]
            refine pw_cond _ rfl (fun h60 => ?_) (fun h60 => ?_)
            ·try simp at h60
             have hq : longR a most = true := by have hp : longG x = true := (by simp only [longG, Bool.or_eq_true, decide_eq_true_eq]; omega); have := any_hit hf2 hx hp; simp [longR, this]
             refine pw_seq_k fun K61 hK61 => ?_
             refine pw_region 0 ?_
             simp [hg6, hgb6, hg9, hgb9, h11, h18, h43, hx, hX, hw, htk, hg49, hgb49, hg52, hgb52, hg55, hgb55, hg58, hgb58, h60]
             apply hK61; try clear hK61 K61
             refine pw_keep [4] ?_
             simp only [keepL, memL, cond_true, cond_false, ↓reduceIte, reduceCtorEq, Nat.reduceEqDiff]
             refine pw_ret ?_
             try simp only [thenP, inBlockP]
             refine bodyQ_fr (by first | exact .inl rfl | exact .inr rfl) _ rfl ?_
             rw [hq]; first | rfl | simp [lk]
            ·try simp at h60
             have hnx : longG x = false := by simp only [longG, Bool.or_eq_false_iff, decide_eq_false_iff_not]; omega
             refine pw_skip ?_
             try simp only [thenP, inBlockP]
             apply hK44; try clear hK44 K44
             refine pw_region 0 ?_
             simp [sBinH, sBin, binop, hg6, hgb6, hg9, hgb9, h11, h18, h43, hx, hX, hw, htk, hg49, hgb49, hg52, hgb52, hg55, hgb55, hg58, hgb58, h60]
             refine hKL40 _ (m - 1) (i + 1) ?_ ?_ ?_
             ·omega
             ·(try dsimp only) <;> (exact ⟨by omega, any_next hf2 hx hnx⟩)
             ·refine Wk.toF ?_ ?_ ?_ ?_ ?_
              ·try simp only [keepL, memL, cond_true, cond_false, ↓reduceIte, reduceCtorEq, Nat.reduceEqDiff, List.cons_append, List.nil_append, puts, put]
               repeat (first | exact trivial | (refine FLt.cons ?_ ?_; focus (first | exact Lt.refl _ | exact Lt.any _ | (refine lt_eq (congrArg (PV.int .i64) ?_); omega) | (refine lt_eq ?_; simp [hg6, hgb6, hg9, hgb9, h11, h18, h43, htk, hg49, hgb49, hg52, hgb52, hg55, hgb55, hg58, hgb58, h60]; done) | (refine lt_eq ?_; simp [hg6, hgb6, hg9, hgb9, h11, h18, h43, htk, hg49, hgb49, hg52, hgb52, hg55, hgb55, hg58, hgb58, h60] <;> omega))))
              ·try simp only [puts, put, ↓reduceIte, reduceCtorEq, Nat.reduceEqDiff]
               repeat (first | exact trivial | (refine ⟨⟨_, rfl, ?_⟩, ?_⟩; focus (first | exact BLt.refl _)))
              ·simp
              ·simp
              ·simp
           ·have hgb58 := beq_off hg58
            try simp only [Bool.not_true, Bool.not_false] at hgb58
            try simp at hg58
            have hq : longR a most = true := by have hp : longG x = true := (by simp only [longG, Bool.or_eq_true, decide_eq_true_eq]; omega); have := any_hit hf2 hx hp; simp [longR, this]
            refine pEv0_split 4 fun Kr62 hKr62 => ?_
            simp [hg6, hgb6, hg9, hgb9, h11, h18, h43, hx, hX, hw, htk, hg49, hgb49, hg52, hgb52, hg55, hgb55, hg58, hgb58]
            apply hKr62; clear hKr62 Kr62
            simp [sBinH, sBin, binop, hg6, hgb6, hg9, hgb9, h11, h18, h43, hx, hX, hw, htk, hg49, hgb49, hg52, hgb52, hg55, hgb55, hg58, hgb58]
            apply hK46; try clear hK46 K46
            refine pw_keep [2, 57, 58, 59, 97] ?_
            simp only [keepL, memL, cond_true, cond_false, ↓reduceIte, reduceCtorEq, Nat.reduceEqDiff]
            refine pw_cond _ rfl (fun h63 => ?_) (fun h63 => ?_)
            ·clear h63
             refine pw_seq_k fun K64 hK64 => ?_
             refine pw_region 0 ?_
             simp [hg6, hgb6, hg9, hgb9, h11, h18, h43, hx, hX, hw, htk, hg49, hgb49, hg52, hgb52, hg55, hgb55, hg58, hgb58]
             apply hK64; try clear hK64 K64
             refine pw_keep [4] ?_
             simp only [keepL, memL, cond_true, cond_false, ↓reduceIte, reduceCtorEq, Nat.reduceEqDiff]
             refine pw_ret ?_
             try simp only [thenP, inBlockP]
             refine bodyQ_fr (by first | exact .inl rfl | exact .inr rfl) _ rfl ?_
             rw [hq]; first | rfl | simp [lk]
            ·simp at h63
          ·have hgb55 := beq_off hg55
           try simp only [Bool.not_true, Bool.not_false] at hgb55
           try simp at hg55
           have hq : longR a most = true := by have hp : longG x = true := (by simp only [longG, Bool.or_eq_true, decide_eq_true_eq]; omega); have := any_hit hf2 hx hp; simp [longR, this]
           refine pEv0_split 4 fun Kr65 hKr65 => ?_
           simp [hg6, hgb6, hg9, hgb9, h11, h18, h43, hx, hX, hw, htk, hg49, hgb49, hg52, hgb52, hg55, hgb55]
           apply hKr65; clear hKr65 Kr65
           refine pEv0_split 4 fun Kr66 hKr66 => ?_
           simp [sBinH, sBin, binop, hg6, hgb6, hg9, hgb9, h11, h18, h43, hx, hX, hw, htk, hg49, hgb49, hg52, hgb52, hg55, hgb55]
           apply hKr66; clear hKr66 Kr66
           refine pEv0_split 4 fun Kr67 hKr67 => ?_
           simp [sBinH, sBin, binop, hg6, hgb6, hg9, hgb9, h11, h18, h43, hx, hX, hw, htk, hg49, hgb49, hg52, hgb52, hg55, hgb55]
           apply hKr67; clear hKr67 Kr67
           simp [hg6, hgb6, hg9, hgb9, h11, h18, h43, hx, hX, hw, htk, hg49, hgb49, hg52, hgb52, hg55, hgb55]
           apply hK46; try clear hK46 K46
           refine pw_keep [2, 57, 58, 59, 97] ?_
           simp only [keepL, memL, cond_true, cond_false, ↓reduceIte, reduceCtorEq, Nat.reduceEqDiff]
           refine pw_cond _ rfl (fun h68 => ?_) (fun h68 => ?_)
           ·clear h68
            refine pw_seq_k fun K69 hK69 => ?_
            refine pw_region 0 ?_
            simp [hg6, hgb6, hg9, hgb9, h11, h18, h43, hx, hX, hw, htk, hg49, hgb49, hg52, hgb52, hg55, hgb55]
            apply hK69; try clear hK69 K69
            refine pw_keep [4] ?_
            simp only [keepL, memL, cond_true, cond_false, ↓reduceIte, reduceCtorEq, Nat.reduceEqDiff]
            refine pw_ret ?_
            try simp only [thenP, inBlockP]
            refine bodyQ_fr (by first | exact .inl rfl | exact .inr rfl) _ rfl ?_
            rw [hq]; first | rfl | simp [lk]
           ·simp at h68
         ·have hgb52 := beq_off hg52
          try simp only [Bool.not_true, Bool.not_false] at hgb52
          try simp at hg52
          have hq : longR a most = true := by have hp : longG x = true := (by simp only [longG, Bool.or_eq_true, decide_eq_true_eq]; omega); have := any_hit hf2 hx hp; simp [longR, this]
          refine pEv0_split 4 fun Kr70 hKr70 => ?_
          simp [hg6, hgb6, hg9, hgb9, h11, h18, h43, hx, hX, hw, htk, hg49, hgb49, hg52, hgb52]
          apply hKr70; clear hKr70 Kr70
          refine pEv0_split 4 fun Kr71 hKr71 => ?_
          simp [sBinH, sBin, binop, hg6, hgb6, hg9, hgb9, h11, h18, h43, hx, hX, hw, htk, hg49, hgb49, hg52, hgb52]
          apply hKr71; clear hKr71 Kr71
          refine pEv0_split 4 fun Kr72 hKr72 => ?_
          simp [sBinH, sBin, binop, hg6, hgb6, hg9, hgb9, h11, h18, h43, hx, hX, hw, htk, hg49, hgb49, hg52, hgb52]
          apply hKr72; clear hKr72 Kr72
          refine pEv0_split 4 fun Kr73 hKr73 => ?_
          simp [hg6, hgb6, hg9, hgb9, h11, h18, h43, hx, hX, hw, htk, hg49, hgb49, hg52, hgb52]
          apply hKr73; clear hKr73 Kr73
          simp [sBinH, sBin, binop, hg6, hgb6, hg9, hgb9, h11, h18, h43, hx, hX, hw, htk, hg49, hgb49, hg52, hgb52]
          apply hK46; try clear hK46 K46
          refine pw_keep [2, 57, 58, 59, 97] ?_
          simp only [keepL, memL, cond_true, cond_false, ↓reduceIte, reduceCtorEq, Nat.reduceEqDiff]
          refine pw_cond _ rfl (fun h74 => ?_) (fun h74 => ?_)
          ·clear h74
           refine pw_seq_k fun K75 hK75 => ?_
           refine pw_region 0 ?_
           simp [hg6, hgb6, hg9, hgb9, h11, h18, h43, hx, hX, hw, htk, hg49, hgb49, hg52, hgb52]
           apply hK75; try clear hK75 K75
           refine pw_keep [4] ?_
           simp only [keepL, memL, cond_true, cond_false, ↓reduceIte, reduceCtorEq, Nat.reduceEqDiff]
           refine pw_ret ?_
           try simp only [thenP, inBlockP]
           refine bodyQ_fr (by first | exact .inl rfl | exact .inr rfl) _ rfl ?_
           rw [hq]; first | rfl | simp [lk]
          ·simp at h74
        ·have hgb49 := beq_off hg49
         try simp only [Bool.not_true, Bool.not_false] at hgb49
         try simp at hg49
         have hq : longR a most = true := by have hp : longG x = true := (by simp only [longG, Bool.or_eq_true, decide_eq_true_eq]; omega); have := any_hit hf2 hx hp; simp [longR, this]
         refine pEv0_split 4 fun Kr76 hKr76 => ?_
         simp [hg6, hgb6, hg9, hgb9, h11, h18, h43, hx, hX, hw, htk, hg49, hgb49]
         apply hKr76; clear hKr76 Kr76
         refine pEv0_split 4 fun Kr77 hKr77 => ?_
         simp [sBinH, sBin, binop, hg6, hgb6, hg9, hgb9, h11, h18, h43, hx, hX, hw, htk, hg49, hgb49]
         apply hKr77; clear hKr77 Kr77
         refine pEv0_split 4 fun Kr78 hKr78 => ?_
         simp [hg6, hgb6, hg9, hgb9, h11, h18, h43, hx, hX, hw, htk, hg49, hgb49]
         apply hKr78; clear hKr78 Kr78
         refine pEv0_split 4 fun Kr79 hKr79 => ?_
         simp [sBinH, sBin, binop, hg6, hgb6, hg9, hgb9, h11, h18, h43, hx, hX, hw, htk, hg49, hgb49]
         apply hKr79; clear hKr79 Kr79
         refine pEv0_split 4 fun Kr80 hKr80 => ?_
         simp [sBinH, sBin, binop, hg6, hgb6, hg9, hgb9, h11, h18, h43, hx, hX, hw, htk, hg49, hgb49]
         apply hKr80; clear hKr80 Kr80
         refine pEv0_split 4 fun Kr81 hKr81 => ?_
         simp [hg6, hgb6, hg9, hgb9, h11, h18, h43, hx, hX, hw, htk, hg49, hgb49]
         apply hKr81; clear hKr81 Kr81
         simp [sBinH, sBin, binop, hg6, hgb6, hg9, hgb9, h11, h18, h43, hx, hX, hw, htk, hg49, hgb49]
         apply hK46; try clear hK46 K46
         refine pw_keep [2, 57, 58, 59, 97] ?_
         simp only [keepL, memL, cond_true, cond_false, ↓reduceIte, reduceCtorEq, Nat.reduceEqDiff]
         refine pw_cond _ rfl (fun h82 => ?_) (fun h82 => ?_)
         ·clear h82
          refine pw_seq_k fun K83 hK83 => ?_
          refine pw_region 0 ?_
          simp [hg6, hgb6, hg9, hgb9, h11, h18, h43, hx, hX, hw, htk, hg49, hgb49]
          apply hK83; try clear hK83 K83
          refine pw_keep [4] ?_
          simp only [keepL, memL, cond_true, cond_false, ↓reduceIte, reduceCtorEq, Nat.reduceEqDiff]
          refine pw_ret ?_
          try simp only [thenP, inBlockP]
          refine bodyQ_fr (by first | exact .inl rfl | exact .inr rfl) _ rfl ?_
          rw [hq]; first | rfl | simp [lk]
         ·simp at h82
       ·try simp at h43
        have hd2 := any_done hf2 (by omega)
        refine pw_exit ?_
        simp [thenP, inBlockP]
        apply hK38; try clear hK38 K38
        refine pw_keep [2] ?_
        simp only [keepL, memL, cond_true, cond_false, ↓reduceIte, reduceCtorEq, Nat.reduceEqDiff]
        refine pw_seq_k fun K84 hK84 => ?_
        refine pw_seq_k fun K85 hK85 => ?_
        refine pw_region 0 ?_
        simp [hg6, hgb6, hg9, hgb9, h11, h18, h43]
        apply hK85; try clear hK85 K85
        refine pw_block ?_
        refine pw_loopF (α := Nat) [100, 101] (fun s => [(102, .int .i64 (s : Nat))]) (fun s => []) (fun m s => s + m = a.filters.length ∧ (a.filters.drop s).any longL = a.filters.any longL) (a.filters.length) (0) ?_ ?_ ?_
        ·(try dsimp only) <;> (simp)
        ·refine Wk.toF ?_ ?_ ?_ ?_ ?_
         ·try simp only [keepL, memL, cond_true, cond_false, ↓reduceIte, reduceCtorEq, Nat.reduceEqDiff, List.cons_append, List.nil_append, puts, put]
          repeat (first | exact trivial | (refine FLt.cons ?_ ?_; focus (first | exact Lt.refl _ | exact Lt.any _ | (refine lt_eq (congrArg (PV.int .i64) ?_); omega) | (refine lt_eq ?_; simp [hg6, hgb6, hg9, hgb9, h11, h18, h43]; done) | (refine lt_eq ?_; simp [hg6, hgb6, hg9, hgb9, h11, h18, h43] <;> omega))))
         ·try simp only [puts, put, ↓reduceIte, reduceCtorEq, Nat.reduceEqDiff]
          repeat (first | exact trivial | (refine ⟨⟨_, rfl, ?_⟩, ?_⟩; focus (first | exact BLt.refl _)))
         ·simp
         ·simp
         ·simp
        ·intro m i hinv KL86 hKL86
         try dsimp only at hinv
         obtain ⟨hk, hf3⟩ := hinv
         simp only [keepL, memL, cond_true, cond_false, ↓reduceIte, reduceCtorEq, Nat.reduceEqDiff, List.cons_append, List.nil_append, puts, put]
         refine pw_seq_k fun K87 hK87 => ?_
         refine pw_region 0 ?_
         simp [sBinH, sBin, binop, hg6, hgb6, hg9, hgb9, h11, h18, h43]
         apply hK87; try clear hK87 K87
         refine pw_seq_k fun K88 hK88 => ?_
         refine pw_cond _ rfl (fun h89 => ?_) (fun h89 => ?_)
         ·try simp at h89
          obtain ⟨x, hx, hX⟩ := getN2 (l := a.filters) (k := i) (by omega)
          have hw := wrap_i64 (n := (i : Int) + 1) (by omega) (by omega)
          have hdr := drop_get hx
          have htk := take_get hx
          refine pw_skip ?_
          try simp only [thenP, inBlockP]
          apply hK88; try clear hK88 K88
          refine pw_seq_k fun K90 hK90 => ?_
          refine pw_block ?_
          refine pw_seq_k fun K91 hK91 => ?_
          refine pw_region 0 ?_
          simp [hg6, hgb6, hg9, hgb9, h11, h18, h43, h89, hx, hX, hw, htk]
          apply hK91; try clear hK91 K91
          refine pw_seq_k fun K92 hK92 => ?_
          refine pw_region 0 ?_
          refine pEv0_split 4 fun Kr93 hKr93 => ?_
          simp [hg6, hgb6, hg9, hgb9, h11, h18, h43, h89, hx, hX, hw, htk]
          apply hKr93; clear hKr93 Kr93
          refine pEv0_split 2 fun Kr94 hKr94 => ?_
          simp [sBinH, sBin, binop, hg6, hgb6, hg9, hgb9, h11, h18, h43, h89, hx, hX, hw, htk]
          apply hKr94; clear hKr94 Kr94
          refine pEv0_guard _ rfl (fun hg95 => ?_) (fun hg95 => ?_)
          ·have hgb95 := eq_of_beq hg95
           try simp only [Bool.not_true, Bool.not_false] at hgb95
           try simp at hg95
           refine pEv0_split 4 fun Kr96 hKr96 => ?_
           simp [hg6, hgb6, hg9, hgb9, h11, h18, h43, h89, hx, hX, hw, htk, hg95, hgb95]
           apply hKr96; clear hKr96 Kr96
           refine pEv0_split 3 fun Kr97 hKr97 => ?_
           simp [sBinH, sBin, binop, hg6, hgb6, hg9, hgb9, h11, h18, h43, h89, hx, hX, hw, htk, hg95, hgb95]
           apply hKr97; clear hKr97 Kr97
           refine pEv0_guard _ rfl (fun hg98 => ?_) (fun hg98 => ?_)
           ·have hgb98 := eq_of_beq hg98
            try simp only [Bool.not_true, Bool.not_false] at hgb98
            try simp at hg98
            refine pEv0_split 4 fun Kr99 hKr99 => ?_
            simp [sBinH, sBin, binop, hg6, hgb6, hg9, hgb9, h11, h18, h43, h89, hx, hX, hw, htk, hg95, hgb95, hg98, hgb98]
            apply hKr99; clear hKr99 Kr99
            simp [hg6, hgb6, hg9, hgb9, h11, h18, h43, h89, hx, hX, hw, htk, hg95, hgb95, hg98, hgb98]
            apply hK92; try clear hK92 K92
            refine pw_keep [100, 101, 102, 123] ?_
            simp only [keepL, memL, cond_true, cond_false, ↓reduceIte, reduceCtorEq, Nat.reduceEqDiff]
            refine pw_cond _ rfl (fun h100 => ?_) (fun h100 => ?_)
            ·try simp at h100
             have hq : longR a most = true := by have hp : longL x = true := (by simp only [longL, Bool.or_eq_true, decide_eq_true_eq]; omega); have := any_hit hf3 hx hp; simp [longR, this]
             refine pw_seq_k fun K101 hK101 => ?_
             refine pw_region 0 ?_
             simp [hg6, hgb6, hg9, hgb9, h11, h18, h43, h89, hx, hX, hw, htk, hg95, hgb95, hg98, hgb98, h100]
             apply hK101; try clear hK101 K101
             refine pw_keep [4] ?_
             simp only [keepL, memL, cond_true, cond_false, ↓reduceIte, reduceCtorEq, Nat.reduceEqDiff]
             refine pw_ret ?_
             try simp only [thenP, inBlockP]
             refine bodyQ_fr (by first | exact .inl rfl | exact .inr rfl) _ rfl ?_
             rw [hq]; first | rfl | simp [lk]
            ·try simp at h100
             have hnx : longL x = false := by simp only [longL, Bool.or_eq_false_iff, decide_eq_false_iff_not]; omega
             refine pw_skip ?_
             try simp only [thenP, inBlockP]
             apply hK90; try clear hK90 K90
             refine pw_region 0 ?_
             simp [sBinH, sBin, binop, hg6, hgb6, hg9, hgb9, h11, h18, h43, h89, hx, hX, hw, htk, hg95, hgb95, hg98, hgb98, h100]
             refine hKL86 _ (m - 1) (i + 1) ?_ ?_ ?_
             ·omega
             ·(try dsimp only) <;> (exact ⟨by omega, any_next hf3 hx hnx⟩)
             ·refine Wk.toF ?_ ?_ ?_ ?_ ?_
              ·try simp only [keepL, memL, cond_true, cond_false, ↓reduceIte, reduceCtorEq, Nat.reduceEqDiff, List.cons_append, List.nil_append, puts, put]
               repeat (first | exact trivial | (refine FLt.cons ?_ ?_; focus (first | exact Lt.refl _ | exact Lt.any _ | (refine lt_eq (congrArg (PV.int .i64) ?_); omega) | (refine lt_eq ?_; simp [hg6, hgb6, hg9, hgb9, h11, h18, h43, h89, htk, hg95, hgb95, hg98, hgb98, h100]; done) | (refine lt_eq ?_; simp [hg6, hgb6, hg9, hgb9, h11, h18, h43, h89, htk, hg95, hgb95, hg98, hgb98, h100] <;> omega))))
              ·try simp only [puts, put, ↓reduceIte, reduceCtorEq, Nat.reduceEqDiff]
               repeat (first | exact trivial | (refine ⟨⟨_, rfl, ?_⟩, ?_⟩; focus (first | exact BLt.refl _)))
              ·simp
              ·simp
              ·simp
           ·have hgb98 := beq_off hg98
            try simp only [Bool.not_true, Bool.not_false] at hgb98
            try simp at hg98
            have hq : longR a most = true := by have hp : longL x = true := (by simp only [longL, Bool.or_eq_true, decide_eq_true_eq]; omega); have := any_hit hf3 hx hp; simp [longR, this]
            refine pEv0_split 4 fun Kr102 hKr102 => ?_
            simp [sBinH, sBin, binop, hg6, hgb6, hg9, hgb9, h11, h18, h43, h89, hx, hX, hw, htk, hg95, hgb95, hg98, hgb98]
            apply hKr102; clear hKr102 Kr102
            simp [hg6, hgb6, hg9, hgb9, h11, h18, h43, h89, hx, hX, hw, htk, hg95, hgb95, hg98, hgb98]
            apply hK92; try clear hK92 K92
            refine pw_keep [100, 101, 102, 123] ?_
            simp only [keepL, memL, cond_true, cond_false, ↓reduceIte, reduceCtorEq, Nat.reduceEqDiff]
            refine pw_cond _ rfl (fun h103 => ?_) (fun h103 => ?_)
            ·clear h103
             refine pw_seq_k fun K104 hK104 => ?_
             refine pw_region 0 ?_
             simp [hg6, hgb6, hg9, hgb9, h11, h18, h43, h89, hx, hX, hw, htk, hg95, hgb95, hg98, hgb98]
             apply hK104; try clear hK104 K104
             refine pw_keep [4] ?_
             simp only [keepL, memL, cond_true, cond_false, ↓reduceIte, reduceCtorEq, Nat.reduceEqDiff]
             refine pw_ret ?_
             try simp only [thenP, inBlockP]
             refine bodyQ_fr (by first | exact .inl rfl | exact .inr rfl) _ rfl ?_
             rw [hq]; first | rfl | simp [lk]
            ·simp at h103
          ·have hgb95 := beq_off hg95
           try simp only [Bool.not_true, Bool.not_false] at hgb95
           try simp at hg95
           have hq : longR a most = true := by have hp : longL x = true := (by simp only [longL, Bool.or_eq_true, decide_eq_true_eq]; omega); have := any_hit hf3 hx hp; simp [longR, this]
           refine pEv0_split 4 fun Kr105 hKr105 => ?_
           simp [hg6, hgb6, hg9, hgb9, h11, h18, h43, h89, hx, hX, hw, htk, hg95, hgb95]
           apply hKr105; clear hKr105 Kr105
           refine pEv0_split 4 fun Kr106 hKr106 => ?_
           simp [sBinH, sBin, binop, hg6, hgb6, hg9, hgb9, h11, h18, h43, h89, hx, hX, hw, htk, hg95, hgb95]
           apply hKr106; clear hKr106 Kr106
           simp [sBinH, sBin, binop, hg6, hgb6, hg9, hgb9, h11, h18, h43, h89, hx, hX, hw, htk, hg95, hgb95]
           apply hK92; try clear hK92 K92
           refine pw_keep [100, 101, 102, 123] ?_
           simp only [keepL, memL, cond_true, cond_false, ↓reduceIte, reduceCtorEq, Nat.reduceEqDiff]
           refine pw_cond _ rfl (fun h107 => ?_) (fun h107 => ?_)
           ·clear h107
            refine pw_seq_k fun K108 hK108 => ?_
            refine pw_region 0 ?_
            simp [hg6, hgb6, hg9, hgb9, h11, h18, h43, h89, hx, hX, hw, htk, hg95, hgb95]
            apply hK108; try clear hK108 K108
            refine pw_keep [4] ?_
            simp only [keepL, memL, cond_true, cond_false, ↓reduceIte, reduceCtorEq, Nat.reduceEqDiff]
            refine pw_ret ?_
            try simp only [thenP, inBlockP]
            refine bodyQ_fr (by first | exact .inl rfl | exact .inr rfl) _ rfl ?_
            rw [hq]; first | rfl | simp [lk]
           ·simp at h107
         ·try simp at h89
          have hd3 := any_done hf3 (by omega)
          have hq : longR a most = false := by simp only [longR, hd1, hd2, hd3, Bool.or_false, Bool.or_eq_false_iff, decide_eq_false_iff_not]; omega
          refine pw_exit ?_
          simp [thenP, inBlockP]
          apply hK84; try clear hK84 K84
          refine pw_keep [] ?_
          simp only [keepL, memL, cond_true, cond_false, ↓reduceIte, reduceCtorEq, Nat.reduceEqDiff]
          refine pw_seq_k fun K109 hK109 => ?_
          refine pw_region 0 ?_
          simp [hg6, hgb6, hg9, hgb9, h11, h18, h43, h89]
          apply hK109; try clear hK109 K109
          refine pw_ret ?_
          try simp only [thenP, inBlockP]
          refine bodyQ_fr (by first | exact .inl rfl | exact .inr rfl) _ rfl ?_
          rw [hq]; first | rfl | simp [lk]
  ·have hgb9 := beq_off hg9
   try simp only [Bool.not_true, Bool.not_false] at hgb9
   try simp at hg9
   have hq : longR a most = true := by simp only [longR, Bool.or_eq_true, decide_eq_true_eq]; omega
   refine pEv0_split 4 fun Kr110 hKr110 => ?_
   simp [hg6, hgb6, hg9, hgb9]
   apply hKr110; clear hKr110 Kr110
   simp [sBinH, sBin, binop, hg6, hgb6, hg9, hgb9]
   apply hK3; try clear hK3 K3
   refine pw_keep [2, 29] ?_
   simp only [keepL, memL, cond_true, cond_false, ↓reduceIte, reduceCtorEq, Nat.reduceEqDiff]
   refine pw_cond _ rfl (fun h111 => ?_) (fun h111 => ?_)
   ·clear h111
    refine pw_seq_k fun K112 hK112 => ?_
    refine pw_region 0 ?_
    simp [hg6, hgb6, hg9, hgb9]
    apply hK112; try clear hK112 K112
    refine pw_ret ?_
    try simp only [thenP, inBlockP]
    refine bodyQ_fr (by first | exact .inl rfl | exact .inr rfl) _ rfl ?_
    rw [hq]; first | rfl | simp [lk]
   ·simp at h111
 ·have hgb6 := beq_off hg6
  try simp only [Bool.not_true, Bool.not_false] at hgb6
  try simp at hg6
  have hq : longR a most = true := by simp only [longR, Bool.or_eq_true, decide_eq_true_eq]; omega
  refine pEv0_split 4 fun Kr113 hKr113 => ?_
  simp [hg6, hgb6]
  apply hKr113; clear hKr113 Kr113
  refine pEv0_split 4 fun Kr114 hKr114 => ?_
  simp [sBinH, sBin, binop, hg6, hgb6]
  apply hKr114; clear hKr114 Kr114
  refine pEv0_split 4 fun Kr115 hKr115 => ?_
  simp [sBinH, sBin, binop, hg6, hgb6]
  apply hKr115; clear hKr115 Kr115
  simp [hg6, hgb6]
  apply hK3; try clear hK3 K3
  refine pw_keep [2, 29] ?_
  simp only [keepL, memL, cond_true, cond_false, ↓reduceIte, reduceCtorEq, Nat.reduceEqDiff]
  refine pw_cond _ rfl (fun h116 => ?_) (fun h116 => ?_)
  ·clear h116
   refine pw_seq_k fun K117 hK117 => ?_
   refine pw_region 0 ?_
   simp [hg6, hgb6]
   apply hK117; try clear hK117 K117
   refine pw_ret ?_
   try simp only [thenP, inBlockP]
   refine bodyQ_fr (by first | exact .inl rfl | exact .inr rfl) _ rfl ?_
   rw [hq]; first | rfl | simp [lk]
  ·simp at h116

end Pv
