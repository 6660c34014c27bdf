import Derived.Test.YtkbghhholjfgfaaG5
set_option linter.unusedSimpArgs false
set_option linter.unusedVariables false
namespace Pv
open Go Go.Proofs
attribute [local simp] Body.ren Body.withinB Box.ren List.drop_succ_cons List.map_set List.take_succ_cons PV.ren PV.within PV.within.go boxArr co30 co36 co52 co53 co54 co60 co63 co69 co74 cur el46 el47 el48 el52 el53 el54 ev_const ev_fr ev_func ev_glob find_cons find_nil fl50_0 fl50_1 fl50_2 fl56_0 fl56_1 fl56_2 fr_get' fstep genOf guardDec inBlockP inH keepL keys layFields layParts lk maxLen memL newBox ofConst ofScalar pEv pEv0 part' put puts renL sAlloc sAppend sAppend.srcOf sBox sBuild sBuildSlice sFieldAddr sIndexAddr sLen sLoad sStore setD_fr setD_none setc_agg shR_d shR_r splice st56 take_map_len thenP ty30 ty36 ty46 ty47 ty48 ty50 ty52 ty53 ty54 ty56 ty60 ty63 ty69 ty74 upF withinB_arr
set_option maxRecDepth 100000 in
set_option maxHeartbeats 4000000 in
theorem rsame_pf (a b : NRows) (h : a.le 1000000) : PFun Try.prog 21 [a.pv, b.pv] (.bool (decide (a = b))) := by
 refine PFun.of_bodyF (by simp) Try.func21 rfl 89 rfl (by simp) fun c0 => ?_
 simp only [argL, Nat.reduceAdd]
 have h1 := h.f
 have h2 := h.g
 have h3 := h.l
 refine pw_seq_k fun K1 hK1 => ?_
 refine pw_region 0 ?_
 simp
 apply hK1; try clear hK1 K1
 refine pw_seq_k fun K2 hK2 => ?_
 refine pw_seq_k fun K3 hK3 => ?_
 refine pw_region 0 ?_
 refine pEv0_split 4 fun Kr4 hKr4 => ?_
 simp
 apply hKr4; clear hKr4 Kr4
 refine pEv0_split 4 fun Kr5 hKr5 => ?_
 simp [sBinH, sBin, binop]
 apply hKr5; clear hKr5 Kr5
 refine pEv0_guard _ rfl (fun hg6 => ?_) (fun hg6 => ?_)
 ·have hgb6 := eq_of_beq hg6
  try simp only [Bool.not_true, Bool.not_false] at hgb6
  try simp at hg6
  have hl1 : a.fronts.length = b.fronts.length := by first | exact hg6 | omega
  refine pEv0_split 4 fun Kr7 hKr7 => ?_
  simp [hg6, hgb6]
  apply hKr7; clear hKr7 Kr7
  refine pEv0_split 4 fun Kr8 hKr8 => ?_
  simp [sBinH, sBin, binop, hg6, hgb6]
  apply hKr8; clear hKr8 Kr8
  refine pEv0_split 1 fun Kr9 hKr9 => ?_
  simp [hg6, hgb6]
  apply hKr9; clear hKr9 Kr9
  refine pEv0_guard _ rfl (fun hg10 => ?_) (fun hg10 => ?_)
  ·have hgb10 := eq_of_beq hg10
   try simp only [Bool.not_true, Bool.not_false] at hgb10
   try simp at hg10
   have hl2 : a.groups.length = b.groups.length := by first | exact hg10 | omega
   refine pEv0_split 4 fun Kr11 hKr11 => ?_
   simp [hg6, hgb6, hg10, hgb10]
   apply hKr11; clear hKr11 Kr11
   simp [sBinH, sBin, binop, hg6, hgb6, hg10, hgb10]
   apply hK3; try clear hK3 K3
   refine pw_keep [2, 3, 32] ?_
   simp only [keepL, memL, cond_true, cond_false, ↓reduceIte, reduceCtorEq, Nat.reduceEqDiff]
   refine pw_cond _ rfl (fun h12 => ?_) (fun h12 => ?_)
   ·try simp at h12
    have hne : ¬ a = b := by intro e; subst e; first | contradiction | (simp_all; done) | omega
    refine pw_seq_k fun K13 hK13 => ?_
    refine pw_region 0 ?_
    simp [hg6, hgb6, hg10, hgb10, h12]
    apply hK13; try clear hK13 K13
    refine pw_ret ?_
    try simp only [thenP, inBlockP]
    refine bodyQ_fr (by first | exact .inl rfl | exact .inr rfl) _ rfl ?_
    first | exact congrArg PV.bool (decide_eq_false hne).symm | exact congrArg PV.bool (decide_eq_true ((NRows.eq_iff a b).mpr ⟨he1, he2, he3⟩)).symm
   ·try simp at h12
    have hl3 : a.filters.length = b.filters.length := by first | exact h12 | omega
    refine pw_skip ?_
    try simp only [thenP, inBlockP]
    apply hK2; try clear hK2 K2
    refine pw_seq_k fun K14 hK14 => ?_
    refine pw_seq_k fun K15 hK15 => ?_
    refine pw_region 0 ?_
    simp [hg6, hgb6, hg10, hgb10, h12]
    apply hK15; try clear hK15 K15
    refine pw_block ?_
    refine pw_loopF (α := Nat) [2, 3, 35] (fun s => [(36, .int .i64 (s : Nat))]) (fun s => []) (fun m s => s + m = a.fronts.length ∧ ((a.fronts.drop s = b.fronts.drop s) ↔ a.fronts = b.fronts)) (a.fronts.length) (0) ?_ ?_ ?_
    ·(try dsimp only) <;> (simp)
    ·refine Wk.toF ?_ ?_ ?_ ?_ ?_
     ·try simp only [keepL, memL, cond_true, cond_false, ↓reduceIte, reduceCtorEq, Nat.reduceEqDiff, List.cons_append, List.nil_append, puts, put]
      repeat (first | exact trivial | (refine FLt.cons ?_ ?_; focus (first | exact Lt.refl _ | exact Lt.any _ | (refine lt_eq (congrArg (PV.int .i64) ?_); omega) | (refine lt_eq ?_; simp [hg6, hgb6, hg10, hgb10, h12]; done) | (refine lt_eq ?_; simp [hg6, hgb6, hg10, hgb10, h12] <;> omega))))
     ·try simp only [puts, put, ↓reduceIte, reduceCtorEq, Nat.reduceEqDiff]
      repeat (first | exact trivial | (refine ⟨⟨_, rfl, ?_⟩, ?_⟩; focus (first | exact BLt.refl _)))
     ·simp
     ·simp
     ·simp
    ·intro m i hinv KL16 hKL16
     try dsimp only at hinv
     obtain ⟨hk, hf1⟩ := hinv
     simp only [keepL, memL, cond_true, cond_false, ↓reduceIte, reduceCtorEq, Nat.reduceEqDiff, List.cons_append, List.nil_append, puts, put]
     refine pw_seq_k fun K17 hK17 => ?_
     refine pw_region 0 ?_
     simp [sBinH, sBin, binop, hg6, hgb6, hg10, hgb10, h12]
     apply hK17; try clear hK17 K17
     refine pw_seq_k fun K18 hK18 => ?_
     refine pw_cond _ rfl (fun h19 => ?_) (fun h19 => ?_)
     ·try simp at h19
      obtain ⟨x, hx, hX⟩ := getN2 (l := a.fronts) (k := i) (by omega)
      obtain ⟨y, hy, hY⟩ := getN2 (l := b.fronts) (k := i) (by omega)
      have hw := wrap_i64 (n := (i : Int) + 1) (by omega) (by omega)
      refine pw_skip ?_
      try simp only [thenP, inBlockP]
      apply hK18; try clear hK18 K18
      refine pw_seq_k fun K20 hK20 => ?_
      refine pw_block ?_
      refine pw_seq_k fun K21 hK21 => ?_
      refine pw_region 0 ?_
      simp [hg6, hgb6, hg10, hgb10, h12, h19, hx, hy, hX, hY, hw]
      apply hK21; try clear hK21 K21
      refine pw_seq_k fun K22 hK22 => ?_
      refine pw_region_draw mix 0 ?_
      refine pEv_split 4 fun Kr23 hKr23 => ?_
      simp [hg6, hgb6, hg10, hgb10, h12, h19, hx, hy, hX, hY, hw]
      apply hKr23; clear hKr23 Kr23
      refine pEv_split 4 fun Kr24 hKr24 => ?_
      simp [hg6, hgb6, hg10, hgb10, h12, h19, hx, hy, hX, hY, hw]
      apply hKr24; clear hKr24 Kr24
      simp [neq36, hg6, hgb6, hg10, hgb10, h12, h19, hx, hy, hX, hY, hw]
      refine ⟨by decide +kernel, ?_⟩
      apply hK22; try clear hK22 K22
      refine pw_keep [2, 3, 35, 36, 49] ?_
      simp only [keepL, memL, cond_true, cond_false, ↓reduceIte, reduceCtorEq, Nat.reduceEqDiff]
      refine pw_cond _ rfl (fun h25 => ?_) (fun h25 => ?_)
      ·try simp at h25
       have hne : ¬ a = b := by intro e; subst e; rw [hx] at hy; cases hy; exact absurd rfl h25
       refine pw_seq_k fun K26 hK26 => ?_
       refine pw_region 0 ?_
       simp [hg6, hgb6, hg10, hgb10, h12, h19, hx, hy, hX, hY, hw, h25]
       apply hK26; try clear hK26 K26
       refine pw_keep [4] ?_
       simp only [keepL, memL, cond_true, cond_false, ↓reduceIte, reduceCtorEq, Nat.reduceEqDiff]
       refine pw_ret ?_
       try simp only [thenP, inBlockP]
       refine bodyQ_fr (by first | exact .inl rfl | exact .inr rfl) _ rfl ?_
       first | exact congrArg PV.bool (decide_eq_false hne).symm | exact congrArg PV.bool (decide_eq_true ((NRows.eq_iff a b).mpr ⟨he1, he2, he3⟩)).symm
      ·try simp at h25
       refine pw_skip ?_
       try simp only [thenP, inBlockP]
       apply hK20; try clear hK20 K20
       refine pw_region 0 ?_
       simp [sBinH, sBin, binop, hg6, hgb6, hg10, hgb10, h12, h19, hx, hy, hX, hY, hw, h25]
       refine hKL16 _ (m - 1) (i + 1) ?_ ?_ ?_
       ·omega
       ·(try dsimp only) <;> (exact ⟨by omega, eq_next hf1 hx hy (by assumption)⟩)
       ·refine Wk.toF ?_ ?_ ?_ ?_ ?_
        ·try simp only [keepL, memL, cond_true, cond_false, ↓reduceIte, reduceCtorEq, Nat.reduceEqDiff, List.cons_append, List.nil_append, puts, put]
         repeat (first | exact trivial | (refine FLt.cons ?_ ?_; focus (first | exact Lt.refl _ | exact Lt.any _ | (refine lt_eq (congrArg (PV.int .i64) ?_); omega) | (refine lt_eq ?_; simp [hg6, hgb6, hg10, hgb10, h12, h19, h25]; done) | (refine lt_eq ?_; simp [hg6, hgb6, hg10, hgb10, h12, h19, h25] <;> omega))))
        ·try simp only [puts, put, ↓reduceIte, reduceCtorEq, Nat.reduceEqDiff]
         repeat (first | exact trivial | (refine ⟨⟨_, rfl, ?_⟩, ?_⟩; focus (first | exact BLt.refl _)))
        ·simp
        ·simp
        ·simp
     ·try simp at h19
      have he1 : a.fronts = b.fronts := hf1.1 (by rw [drop_end (by omega), drop_end (by omega)])
      refine pw_exit ?_
      simp [thenP, inBlockP]
      apply hK14; try clear hK14 K14
      refine pw_seq_k fun K27 hK27 => ?_
      refine pw_seq_k fun K28 hK28 => ?_
      refine pw_region 0 ?_
      simp [hg6, hgb6, hg10, hgb10, h12, h19]
      apply hK28; try clear hK28 K28
      refine pw_keep [2, 3, 53, 54] ?_
      simp only [keepL, memL, cond_true, cond_false, ↓reduceIte, reduceCtorEq, Nat.reduceEqDiff]
      refine pw_block ?_
      refine pw_loopF (α := Nat) [2, 3, 53] (fun s => [(54, .int .i64 (s : Nat))]) (fun s => []) (fun m s => s + m = a.groups.length ∧ ((a.groups.drop s = b.groups.drop s) ↔ a.groups = b.groups)) (a.groups.length) (0) ?_ ?_ ?_
      ·(try dsimp only) <;> (simp)
      ·refine Wk.toF ?_ ?_ ?_ ?_ ?_
       ·try simp only [keepL, memL, cond_true, cond_false, ↓reduceIte, reduceCtorEq, Nat.reduceEqDiff, List.cons_append, List.nil_append, puts, put]
        repeat (first | exact trivial | (refine FLt.cons ?_ ?_; focus (first | exact Lt.refl _ | exact Lt.any _ | (refine lt_eq (congrArg (PV.int .i64) ?_); omega) | (refine lt_eq ?_; simp [hg6, hgb6, hg10, hgb10, h12, h19]; done) | (refine lt_eq ?_; simp [hg6, hgb6, hg10, hgb10, h12, h19] <;> omega))))
       ·try simp only [puts, put, ↓reduceIte, reduceCtorEq, Nat.reduceEqDiff]
        repeat (first | exact trivial | (refine ⟨⟨_, rfl, ?_⟩, ?_⟩; focus (first | exact BLt.refl _)))
       ·simp
       ·simp
       ·simp
      ·intro m i hinv KL29 hKL29
       try dsimp only at hinv
       obtain ⟨hk, hf2⟩ := hinv
       simp only [keepL, memL, cond_true, cond_false, ↓reduceIte, reduceCtorEq, Nat.reduceEqDiff, List.cons_append, List.nil_append, puts, put]
       refine pw_seq_k fun K30 hK30 => ?_
       refine pw_region 0 ?_
       simp [sBinH, sBin, binop, hg6, hgb6, hg10, hgb10, h12, h19]
       apply hK30; try clear hK30 K30
       refine pw_seq_k fun K31 hK31 => ?_
       refine pw_cond _ rfl (fun h32 => ?_) (fun h32 => ?_)
       ·try simp at h32
        obtain ⟨x, hx, hX⟩ := getN2 (l := a.groups) (k := i) (by omega)
        obtain ⟨y, hy, hY⟩ := getN2 (l := b.groups) (k := i) (by omega)
        have hw := wrap_i64 (n := (i : Int) + 1) (by omega) (by omega)
        obtain ⟨hb1, hb2⟩ := h.gb x (List.mem_of_getElem? hx)
        refine pw_skip ?_
        try simp only [thenP, inBlockP]
        apply hK31; try clear hK31 K31
        refine pw_seq_k fun K33 hK33 => ?_
        refine pw_block ?_
        refine pw_seq_k fun K34 hK34 => ?_
        refine pw_region 0 ?_
        simp [hg6, hgb6, hg10, hgb10, h12, h19, h32, hx, hy, hX, hY, hw]
        apply hK34; try clear hK34 K34
        refine pw_seq_k fun K35 hK35 => ?_
        refine pw_region_draw mix 0 ?_
        refine pEv_split 4 fun Kr36 hKr36 => ?_
        simp [hg6, hgb6, hg10, hgb10, h12, h19, h32, hx, hy, hX, hY, hw]
        apply hKr36; clear hKr36 Kr36
        refine pEv_split 4 fun Kr37 hKr37 => ?_
        simp [hg6, hgb6, hg10, hgb10, h12, h19, h32, hx, hy, hX, hY, hw]
        apply hKr37; clear hKr37 Kr37
        refine pEv_split 2 fun Kr38 hKr38 => ?_
        simp [hg6, hgb6, hg10, hgb10, h12, h19, h32, hx, hy, hX, hY, hw]
        apply hKr38; clear hKr38 Kr38
        refine pEv_call' rfl rfl rfl ((call_pure (rsameGroup_pf x y (by omega) (by omega)) en20 (by simp) _)) ?_
        simp [hg6, hgb6, hg10, hgb10, h12, h19, h32, hx, hy, hX, hY, hw]
        refine ⟨by decide +kernel, ?_⟩
        apply hK35; try clear hK35 K35
        refine pw_keep [2, 3, 53, 54, 68] ?_
        simp only [keepL, memL, cond_true, cond_false, ↓reduceIte, reduceCtorEq, Nat.reduceEqDiff]
        refine pw_cond _ rfl (fun h39 => ?_) (fun h39 => ?_)
        ·try simp at h39
         have hne : ¬ a = b := by intro e; subst e; rw [hx] at hy; cases hy; exact absurd rfl h39
         refine pw_seq_k fun K40 hK40 => ?_
         refine pw_region 0 ?_
         simp [hg6, hgb6, hg10, hgb10, h12, h19, h32, hx, hy, hX, hY, hw, h39]
         apply hK40; try clear hK40 K40
         refine pw_keep [4] ?_
         simp only [keepL, memL, cond_true, cond_false, ↓reduceIte, reduceCtorEq, Nat.reduceEqDiff]
         refine pw_ret ?_
         try simp only [thenP, inBlockP]
         refine bodyQ_fr (by first | exact .inl rfl | exact .inr rfl) _ rfl ?_
         first | exact congrArg PV.bool (decide_eq_false hne).symm | exact congrArg PV.bool (decide_eq_true ((NRows.eq_iff a b).mpr ⟨he1, he2, he3⟩)).symm
        ·try simp at h39
         refine pw_skip ?_
         try simp only [thenP, inBlockP]
         apply hK33; try clear hK33 K33
         refine pw_region 0 ?_
         simp [sBinH, sBin, binop, hg6, hgb6, hg10, hgb10, h12, h19, h32, hx, hy, hX, hY, hw, h39]
         refine hKL29 _ (m - 1) (i + 1) ?_ ?_ ?_
         ·omega
         ·(try dsimp only) <;> (exact ⟨by omega, eq_next hf2 hx hy (by assumption)⟩)
         ·refine Wk.toF ?_ ?_ ?_ ?_ ?_
          ·try simp only [keepL, memL, cond_true, cond_false, ↓reduceIte, reduceCtorEq, Nat.reduceEqDiff, List.cons_append, List.nil_append, puts, put]
           repeat (first | exact trivial | (refine FLt.cons ?_ ?_; focus (first | exact Lt.refl _ | exact Lt.any _ | (refine lt_eq (congrArg (PV.int .i64) ?_); omega) | (refine lt_eq ?_; simp [hg6, hgb6, hg10, hgb10, h12, h19, h32, h39]; done) | (refine lt_eq ?_; simp [hg6, hgb6, hg10, hgb10, h12, h19, h32, h39] <;> omega))))
          ·try simp only [puts, put, ↓reduceIte, reduceCtorEq, Nat.reduceEqDiff]
           repeat (first | exact trivial | (refine ⟨⟨_, rfl, ?_⟩, ?_⟩; focus (first | exact BLt.refl _)))
          ·simp
          ·simp
          ·simp
       ·try simp at h32
        have he2 : a.groups = b.groups := hf2.1 (by rw [drop_end (by omega), drop_end (by omega)])
        refine pw_exit ?_
        simp [thenP, inBlockP]
        apply hK27; try clear hK27 K27
        refine pw_seq_k fun K41 hK41 => ?_
        refine pw_seq_k fun K42 hK42 => ?_
        refine pw_region 0 ?_
        simp [hg6, hgb6, hg10, hgb10, h12, h19, h32]
        apply hK42; try clear hK42 K42
        refine pw_keep [2, 3, 72, 73] ?_
        simp only [keepL, memL, cond_true, cond_false, ↓reduceIte, reduceCtorEq, Nat.reduceEqDiff]
        refine pw_block ?_
        refine pw_loopF (α := Nat) [2, 3, 72] (fun s => [(73, .int .i64 (s : Nat))]) (fun s => []) (fun m s => s + m = a.filters.length ∧ ((a.filters.drop s = b.filters.drop s) ↔ a.filters = b.filters)) (a.filters.length) (0) ?_ ?_ ?_
        ·(try dsimp only) <;> (simp)
        ·refine Wk.toF ?_ ?_ ?_ ?_ ?_
         ·try simp only [keepL, memL, cond_true, cond_false, ↓reduceIte, reduceCtorEq, Nat.reduceEqDiff, List.cons_append, List.nil_append, puts, put]
          repeat (first | exact trivial | (refine FLt.cons ?_ ?_; focus (first | exact Lt.refl _ | exact Lt.any _ | (refine lt_eq (congrArg (PV.int .i64) ?_); omega) | (refine lt_eq ?_; simp [hg6, hgb6, hg10, hgb10, h12, h19, h32]; done) | (refine lt_eq ?_; simp [hg6, hgb6, hg10, hgb10, h12, h19, h32] <;> omega))))
         ·try simp only [puts, put, ↓reduceIte, reduceCtorEq, Nat.reduceEqDiff]
          repeat (first | exact trivial | (refine ⟨⟨_, rfl, ?_⟩, ?_⟩; focus (first | exact BLt.refl _)))
         ·simp
         ·simp
         ·simp
        ·intro m i hinv KL43 hKL43
         try dsimp only at hinv
         obtain ⟨hk, hf3⟩ := hinv
         simp only [keepL, memL, cond_true, cond_false, ↓reduceIte, reduceCtorEq, Nat.reduceEqDiff, List.cons_append, List.nil_append, puts, put]
         refine pw_seq_k fun K44 hK44 => ?_
         refine pw_region 0 ?_
         simp [sBinH, sBin, binop, hg6, hgb6, hg10, hgb10, h12, h19, h32]
         apply hK44; try clear hK44 K44
         refine pw_seq_k fun K45 hK45 => ?_
         refine pw_cond _ rfl (fun h46 => ?_) (fun h46 => ?_)
         ·try simp at h46
          obtain ⟨x, hx, hX⟩ := getN2 (l := a.filters) (k := i) (by omega)
          obtain ⟨y, hy, hY⟩ := getN2 (l := b.filters) (k := i) (by omega)
          have hw := wrap_i64 (n := (i : Int) + 1) (by omega) (by omega)
          have hb1 := h.lr x (List.mem_of_getElem? hx)
          refine pw_skip ?_
          try simp only [thenP, inBlockP]
          apply hK45; try clear hK45 K45
          refine pw_seq_k fun K47 hK47 => ?_
          refine pw_block ?_
          refine pw_seq_k fun K48 hK48 => ?_
          refine pw_region 0 ?_
          simp [hg6, hgb6, hg10, hgb10, h12, h19, h32, h46, hx, hy, hX, hY, hw]
          apply hK48; try clear hK48 K48
          refine pw_seq_k fun K49 hK49 => ?_
          refine pw_region_draw mix 0 ?_
          refine pEv_split 4 fun Kr50 hKr50 => ?_
          simp [hg6, hgb6, hg10, hgb10, h12, h19, h32, h46, hx, hy, hX, hY, hw]
          apply hKr50; clear hKr50 Kr50
          refine pEv_split 4 fun Kr51 hKr51 => ?_
          simp [hg6, hgb6, hg10, hgb10, h12, h19, h32, h46, hx, hy, hX, hY, hw]
          apply hKr51; clear hKr51 Kr51
          refine pEv_split 2 fun Kr52 hKr52 => ?_
          simp [hg6, hgb6, hg10, hgb10, h12, h19, h32, h46, hx, hy, hX, hY, hw]
          apply hKr52; clear hKr52 Kr52
          refine pEv_call' rfl rfl rfl ((call_pure (rsameFilter_pf x y (by omega)) en18 (by simp) _)) ?_
          simp [hg6, hgb6, hg10, hgb10, h12, h19, h32, h46, hx, hy, hX, hY, hw]
          refine ⟨by decide +kernel, ?_⟩
          apply hK49; try clear hK49 K49
          refine pw_keep [2, 3, 72, 73, 87] ?_
          simp only [keepL, memL, cond_true, cond_false, ↓reduceIte, reduceCtorEq, Nat.reduceEqDiff]
          refine pw_cond _ rfl (fun h53 => ?_) (fun h53 => ?_)
          ·try simp at h53
           have hne : ¬ a = b := by intro e; subst e; rw [hx] at hy; cases hy; exact absurd rfl h53
           refine pw_seq_k fun K54 hK54 => ?_
           refine pw_region 0 ?_
           simp [hg6, hgb6, hg10, hgb10, h12, h19, h32, h46, hx, hy, hX, hY, hw, h53]
           apply hK54; try clear hK54 K54
           refine pw_keep [4] ?_
           simp only [keepL, memL, cond_true, cond_false, ↓reduceIte, reduceCtorEq, Nat.reduceEqDiff]
           refine pw_ret ?_
           try simp only [thenP, inBlockP]
           refine bodyQ_fr (by first | exact .inl rfl | exact .inr rfl) _ rfl ?_
           first | exact congrArg PV.bool (decide_eq_false hne).symm | exact congrArg PV.bool (decide_eq_true ((NRows.eq_iff a b).mpr ⟨he1, he2, he3⟩)).symm
          ·try simp at h53
           refine pw_skip ?_
           try simp only [thenP, inBlockP]
           apply hK47; try clear hK47 K47
           refine pw_region 0 ?_
           simp [sBinH, sBin, binop, hg6, hgb6, hg10, hgb10, h12, h19, h32, h46, hx, hy, hX, hY, hw, h53]
           refine hKL43 _ (m - 1) (i + 1) ?_ ?_ ?_
           ·omega
           ·(try dsimp only) <;> (exact ⟨by omega, eq_next hf3 hx hy (by assumption)⟩)
           ·refine Wk.toF ?_ ?_ ?_ ?_ ?_
            ·try simp only [keepL, memL, cond_true, cond_false, ↓reduceIte, reduceCtorEq, Nat.reduceEqDiff, List.cons_append, List.nil_append, puts, put]
             repeat (first | exact trivial | (refine FLt.cons ?_ ?_; focus (first | exact Lt.refl _ | exact Lt.any _ | (refine lt_eq (congrArg (PV.int .i64) ?_); omega) | (refine lt_eq ?_; simp [hg6, hgb6, hg10, hgb10, h12, h19, h32, h46, h53]; done) | (refine lt_eq ?_; simp [hg6, hgb6, hg10, hgb10, h12, h19, h32, h46, h53] <;> omega))))
            ·try simp only [puts, put, ↓reduceIte, reduceCtorEq, Nat.reduceEqDiff]
             repeat (first | exact trivial | (refine ⟨⟨_, rfl, ?_⟩, ?_⟩; focus (first | exact BLt.refl _)))
            ·simp
            ·simp
            ·simp
         ·try simp at h46
          have he3 : a.filters = b.filters := hf3.1 (by rw [drop_end (by omega), drop_end (by omega)])
          refine pw_exit ?_
          simp [thenP, inBlockP]
          apply hK41; try clear hK41 K41
          refine pw_keep [] ?_
          simp only [keepL, memL, cond_true, cond_false, ↓reduceIte, reduceCtorEq, Nat.reduceEqDiff]
          refine pw_seq_k fun K55 hK55 => ?_
          refine pw_region 0 ?_
          simp [hg6, hgb6, hg10, hgb10, h12, h19, h32, h46]
          apply hK55; try clear hK55 K55
          refine pw_ret ?_
          try simp only [thenP, inBlockP]
          refine bodyQ_fr (by first | exact .inl rfl | exact .inr rfl) _ rfl ?_
          first | exact congrArg PV.bool (decide_eq_false hne).symm | exact congrArg PV.bool (decide_eq_true ((NRows.eq_iff a b).mpr ⟨he1, he2, he3⟩)).symm
  ·have hgb10 := beq_off hg10
   try simp only [Bool.not_true, Bool.not_false] at hgb10
   try simp at hg10
   have hl2 : a.groups.length ≠ b.groups.length := by first | exact hg10 | omega
   have hne : ¬ a = b := fun e => hl2 (by rw [e])
   refine pEv0_split 4 fun Kr56 hKr56 => ?_
   simp [hg6, hgb6, hg10, hgb10]
   apply hKr56; clear hKr56 Kr56
   simp [sBinH, sBin, binop, hg6, hgb6, hg10, hgb10]
   apply hK3; try clear hK3 K3
   refine pw_keep [2, 3, 32] ?_
   simp only [keepL, memL, cond_true, cond_false, ↓reduceIte, reduceCtorEq, Nat.reduceEqDiff]
   refine pw_cond _ rfl (fun h57 => ?_) (fun h57 => ?_)
   ·clear h57
    refine pw_seq_k fun K58 hK58 => ?_
    refine pw_region 0 ?_
    simp [hg6, hgb6, hg10, hgb10]
    apply hK58; try clear hK58 K58
    refine pw_ret ?_
    try simp only [thenP, inBlockP]
    refine bodyQ_fr (by first | exact .inl rfl | exact .inr rfl) _ rfl ?_
    first | exact congrArg PV.bool (decide_eq_false hne).symm | exact congrArg PV.bool (decide_eq_true ((NRows.eq_iff a b).mpr ⟨he1, he2, he3⟩)).symm
   ·simp at h57
 ·have hgb6 := beq_off hg6
  try simp only [Bool.not_true, Bool.not_false] at hgb6
  try simp at hg6
  have hl1 : a.fronts.length ≠ b.fronts.length := by first | exact hg6 | omega
  have hne : ¬ a = b := fun e => hl1 (by rw [e])
  refine pEv0_split 4 fun Kr59 hKr59 => ?_
  simp [hg6, hgb6]
  apply hKr59; clear hKr59 Kr59
  refine pEv0_split 4 fun Kr60 hKr60 => ?_
  simp [sBinH, sBin, binop, hg6, hgb6]
  apply hKr60; clear hKr60 Kr60
  refine pEv0_split 4 fun Kr61 hKr61 => ?_
  simp [hg6, hgb6]
  apply hKr61; clear hKr61 Kr61
  refine pEv0_split 4 fun Kr62 hKr62 => ?_
  simp [sBinH, sBin, binop, hg6, hgb6]
  apply hKr62; clear hKr62 Kr62
  simp [hg6, hgb6]
  apply hK3; try clear hK3 K3
  refine pw_keep [2, 3, 32] ?_
  simp only [keepL, memL, cond_true, cond_false, ↓reduceIte, reduceCtorEq, Nat.reduceEqDiff]
  refine pw_cond _ rfl (fun h63 => ?_) (fun h63 => ?_)
  ·clear h63
   refine pw_seq_k fun K64 hK64 => ?_
   refine pw_region 0 ?_
   simp [hg6, hgb6]
   apply hK64; try clear hK64 K64
   refine pw_ret ?_
   try simp only [thenP, inBlockP]
   refine bodyQ_fr (by first | exact .inl rfl | exact .inr rfl) _ rfl ?_
   first | exact congrArg PV.bool (decide_eq_false hne).symm | exact congrArg PV.bool (decide_eq_true ((NRows.eq_iff a b).mpr ⟨he1, he2, he3⟩)).symm
  ·simp at h63

set_option maxRecDepth 100000 in
set_option maxHeartbeats 4000000 in
theorem lof_pf (a : NRows) (h : a.le 1000000) : PFun Try.prog 16 [a.pv] (a.pv) := by
 refine PFun.of_body_frozenF (by simp) Try.func16 rfl 55 rfl (by simp) fun c0 => ?_
 simp only [argL, Nat.reduceAdd]
 have h1 := h.f
 have h2 := h.g
 have h3 := h.l
 refine pw_seq_k fun K1 hK1 => ?_
 refine pw_region 0 ?_
 simp
 apply hK1; try clear hK1 K1
 refine pw_seq_k fun K2 hK2 => ?_
 refine pw_region 0 ?_
 simp
 apply hK2; try clear hK2 K2
 refine pw_seq_k fun K3 hK3 => ?_
 refine pw_seq_k fun K4 hK4 => ?_
 refine pw_region 0 ?_
 simp
 apply hK4; try clear hK4 K4
 refine pw_block ?_
 refine pw_loopF (α := Nat × Nat × (List NFront)) [1, 2, 3, 12, 13] (fun s => [(14, .int .i64 (s.1 : Nat))]) (fun s => [(3, ⟨0, true, .arr 3 [.agg [.bsl 22 s.2.1 26 0 s.2.2.length, .nils, .nils]]⟩), (22, ⟨s.2.1, true, .arr 26 (s.2.2.map NFront.pv)⟩)]) (fun m s => s.1 + m = a.fronts.length ∧ s.2.2 = a.fronts.take s.1) (a.fronts.length) (0, 0, []) ?_ ?_ ?_
 ·(try dsimp only) <;> (simp)
 ·refine Wk.trans (Wk.virt 22 0 26 (by simp)) ?_
  refine Wk.toF ?_ ?_ ?_ ?_ ?_
  ·try simp only [keepL, memL, cond_true, cond_false, ↓reduceIte, reduceCtorEq, Nat.reduceEqDiff, List.cons_append, List.nil_append, puts, put]
   repeat (first | exact trivial | (refine FLt.cons ?_ ?_; focus (first | exact Lt.refl _ | exact Lt.any _ | (refine Lt.nilb ?_; simp; done) | (refine lt_eq (congrArg (PV.int .i64) ?_); omega) | (refine lt_eq ?_; simp; done) | (refine lt_eq ?_; simp <;> omega))))
  ·try simp only [puts, put, ↓reduceIte, reduceCtorEq, Nat.reduceEqDiff]
   repeat (first | exact trivial | (refine ⟨⟨_, rfl, ?_⟩, ?_⟩; focus (first | exact BLt.refl _ | (refine BLt.of_eq ?_; simp; done) | (refine BLt.of_eq ?_; simp <;> omega) | (refine BLt.one ?_; (repeat (first | exact LtL.nil | (refine LtL.cons ?_ ?_; focus (first | exact Lt.refl _ | exact Lt.any _ | (refine Lt.nilb ?_; simp; done) | (refine lt_eq (congrArg (PV.int .i64) ?_); omega) | (refine lt_eq ?_; simp; done) | (refine lt_eq ?_; simp <;> omega))))); done))))
  ·simp
  ·simp
  ·simp
 ·intro m s hinv KL5 hKL5
  obtain ⟨i, g, acc⟩ := s
  try dsimp only at hinv
  obtain ⟨hk, hacc⟩ := hinv
  have hal : acc.length ≤ 1000000 := by rw [hacc, List.length_take]; omega
  simp only [keepL, memL, cond_true, cond_false, ↓reduceIte, reduceCtorEq, Nat.reduceEqDiff, List.cons_append, List.nil_append, puts, put]
  refine pw_seq_k fun K6 hK6 => ?_
  refine pw_region 0 ?_
  simp [sBinH, sBin, binop]
  apply hK6; try clear hK6 K6
  refine pw_seq_k fun K7 hK7 => ?_
  refine pw_cond _ rfl (fun h8 => ?_) (fun h8 => ?_)
  ·try simp at h8
   obtain ⟨x, hx, hX⟩ := getN2 (l := a.fronts) (k := i) (by omega)
   have hw := wrap_i64 (n := (i : Int) + 1) (by omega) (by omega)
   have hdr := drop_get hx
   have htk := take_get hx
   have hbz : (acc.length + 1) * 112 ≤ 140737488355328 := by omega
   have hbm : acc.length + 1 ≤ 9223372036854775807 := by omega
   refine pw_skip ?_
   try simp only [thenP, inBlockP]
   apply hK7; try clear hK7 K7
   refine pw_seq_k fun K9 hK9 => ?_
   refine pw_block ?_
   refine pw_seq_k fun K10 hK10 => ?_
   refine pw_region 0 ?_
   simp [h8, hx, hX, hw, htk, hbz, hbm]
   apply hK10; try clear hK10 K10
   refine pw_region 0 ?_
   refine pEv0_split 4 fun Kr11 hKr11 => ?_
   simp [h8, hx, hX, hw, htk, hbz, hbm]
   apply hKr11; clear hKr11 Kr11
   simp [h8, hx, hX, hw, htk, hbz, hbm]
   apply hK9; try clear hK9 K9
   refine pw_keep [1, 2, 3, 12, 13, 14] ?_
   simp only [keepL, memL, cond_true, cond_false, ↓reduceIte, reduceCtorEq, Nat.reduceEqDiff]
   refine pw_region 0 ?_
   simp [sBinH, sBin, binop, h8, hx, hX, hw, htk, hbz, hbm]
   refine hKL5 _ (m - 1) (i + 1, g + 1, acc ++ [x]) ?_ ?_ ?_
   ·omega
   ·(try dsimp only) <;> (exact ⟨by omega, by rw [htk, hacc]⟩)
   ·refine Wk.toF ?_ ?_ ?_ ?_ ?_
    ·try simp only [keepL, memL, cond_true, cond_false, ↓reduceIte, reduceCtorEq, Nat.reduceEqDiff, List.cons_append, List.nil_append, puts, put]
     repeat (first | exact trivial | (refine FLt.cons ?_ ?_; focus (first | exact Lt.refl _ | exact Lt.any _ | (refine lt_eq (congrArg (PV.int .i64) ?_); omega) | (refine lt_eq ?_; simp [h8, htk]; done) | (refine lt_eq ?_; simp [h8, htk] <;> omega))))
    ·try simp only [puts, put, ↓reduceIte, reduceCtorEq, Nat.reduceEqDiff]
     repeat (first | exact trivial | (refine ⟨⟨_, rfl, ?_⟩, ?_⟩; focus (first | exact BLt.refl _ | (refine BLt.of_eq ?_; simp [h8, htk]; done) | (refine BLt.of_eq ?_; simp [h8, htk] <;> omega) | (refine BLt.one ?_; (repeat (first | exact LtL.nil | (refine LtL.cons ?_ ?_; focus (first | exact Lt.refl _ | exact Lt.any _ | (refine lt_eq (congrArg (PV.int .i64) ?_); omega) | (refine lt_eq ?_; simp [h8, htk]; done) | (refine lt_eq ?_; simp [h8, htk] <;> omega))))); done))))
    ·simp
    ·simp
    ·simp
  ·try simp at h8
   have hfin : acc = a.fronts := by rw [hacc, List.take_of_length_le (by omega)]
   refine pw_exit ?_
   simp [thenP, inBlockP]
   apply hK3; try clear hK3 K3
   refine pw_keep [1, 2, 3] ?_
   simp only [keepL, memL, cond_true, cond_false, ↓reduceIte, reduceCtorEq, Nat.reduceEqDiff]
   refine pw_seq_k fun K12 hK12 => ?_
   refine pw_seq_k fun K13 hK13 => ?_
   refine pw_weak (Wk.freeze (b := 22) rfl) ?_
   simp only [put, ↓reduceIte, reduceCtorEq, Nat.reduceEqDiff]
   refine pw_region 0 ?_
   simp [h8, hfin]
   apply hK13; try clear hK13 K13
   refine pw_block ?_
   refine pw_loopF (α := Nat × Nat × (List NGroup)) [1, 2, 3, 26, 27] (fun s => [(28, .int .i64 (s.1 : Nat))]) (fun s => [(3, ⟨0, true, .arr 3 [.agg [.sl 26 (a.fronts.map NFront.pv), .bsl 37 s.2.1 8 0 s.2.2.length, .nils]]⟩), (37, ⟨s.2.1, true, .arr 8 (s.2.2.map NGroup.pv)⟩)]) (fun m s => s.1 + m = a.groups.length ∧ s.2.2 = a.groups.take s.1) (a.groups.length) (0, 0, []) ?_ ?_ ?_
   ·(try dsimp only) <;> (simp)
   ·refine Wk.trans (Wk.virt 37 0 8 (by simp)) ?_
    refine Wk.toF ?_ ?_ ?_ ?_ ?_
    ·try simp only [keepL, memL, cond_true, cond_false, ↓reduceIte, reduceCtorEq, Nat.reduceEqDiff, List.cons_append, List.nil_append, puts, put]
     repeat (first | exact trivial | (refine FLt.cons ?_ ?_; focus (first | exact Lt.refl _ | exact Lt.any _ | (refine Lt.nilb ?_; simp; done) | exact Lt.nilsl _ | (refine lt_frozB rfl rfl rfl rfl ?_ ?_ ?_ <;> (first | rfl | (simp [h8, hfin]; done) | (simp [h8, hfin] <;> omega)); done) | (refine lt_eq (congrArg (PV.int .i64) ?_); omega) | (refine lt_eq ?_; simp [h8, hfin]; done) | (refine lt_eq ?_; simp [h8, hfin] <;> omega))))
    ·try simp only [puts, put, ↓reduceIte, reduceCtorEq, Nat.reduceEqDiff]
     repeat (first | exact trivial | (refine ⟨⟨_, rfl, ?_⟩, ?_⟩; focus (first | exact BLt.refl _ | (refine BLt.of_eq ?_; simp [h8, hfin]; done) | (refine BLt.of_eq ?_; simp [h8, hfin] <;> omega) | (refine BLt.one ?_; (repeat (first | exact LtL.nil | (refine LtL.cons ?_ ?_; focus (first | exact Lt.refl _ | exact Lt.any _ | (refine Lt.nilb ?_; simp; done) | exact Lt.nilsl _ | (refine lt_frozB rfl rfl rfl rfl ?_ ?_ ?_ <;> (first | rfl | (simp [h8, hfin]; done) | (simp [h8, hfin] <;> omega)); done) | (refine lt_eq (congrArg (PV.int .i64) ?_); omega) | (refine lt_eq ?_; simp [h8, hfin]; done) | (refine lt_eq ?_; simp [h8, hfin] <;> omega))))); done))))
    ·simp
    ·simp
    ·simp
   ·intro m s hinv KL14 hKL14
    obtain ⟨i, g, acc⟩ := s
    try dsimp only at hinv
    obtain ⟨hk, hacc⟩ := hinv
    have hal : acc.length ≤ 1000000 := by rw [hacc, List.length_take]; omega
    simp only [keepL, memL, cond_true, cond_false, ↓reduceIte, reduceCtorEq, Nat.reduceEqDiff, List.cons_append, List.nil_append, puts, put]
    refine pw_seq_k fun K15 hK15 => ?_
    refine pw_region 0 ?_
    simp [sBinH, sBin, binop, h8, hfin]
    apply hK15; try clear hK15 K15
    refine pw_seq_k fun K16 hK16 => ?_
    refine pw_cond _ rfl (fun h17 => ?_) (fun h17 => ?_)
    ·try simp at h17
     obtain ⟨x, hx, hX⟩ := getN2 (l := a.groups) (k := i) (by omega)
     have hw := wrap_i64 (n := (i : Int) + 1) (by omega) (by omega)
     have hdr := drop_get hx
     have htk := take_get hx
     have hbz : (acc.length + 1) * 112 ≤ 140737488355328 := by omega
     have hbm : acc.length + 1 ≤ 9223372036854775807 := by omega
     refine pw_skip ?_
     try simp only [thenP, inBlockP]
     apply hK16; try clear hK16 K16
     refine pw_seq_k fun K18 hK18 => ?_
     refine pw_block ?_
     refine pw_seq_k fun K19 hK19 => ?_
     refine pw_region 0 ?_
     simp [h8, hfin, h17, hx, hX, hw, htk, hbz, hbm]
     apply hK19; try clear hK19 K19
     refine pw_region_draw mix 0 ?_
     refine pEv_split 3 fun Kr20 hKr20 => ?_
     simp [h8, hfin, h17, hx, hX, hw, htk, hbz, hbm]
     apply hKr20; clear hKr20 Kr20
     refine pEv_call' rfl rfl rfl (call_pure (lgroup_pf _) en41 (by simp) _) ?_
     simp [h8, hfin, h17, hx, hX, hw, htk, hbz, hbm]
     refine ⟨by decide +kernel, ?_⟩
     apply hK18; try clear hK18 K18
     refine pw_keep [1, 2, 3, 26, 27, 28] ?_
     simp only [keepL, memL, cond_true, cond_false, ↓reduceIte, reduceCtorEq, Nat.reduceEqDiff]
     refine pw_region 0 ?_
     simp [sBinH, sBin, binop, h8, hfin, h17, hx, hX, hw, htk, hbz, hbm]
     refine hKL14 _ (m - 1) (i + 1, g + 1, acc ++ [x]) ?_ ?_ ?_
     ·omega
     ·(try dsimp only) <;> (exact ⟨by omega, by rw [htk, hacc]⟩)
     ·refine Wk.toF ?_ ?_ ?_ ?_ ?_
      ·try simp only [keepL, memL, cond_true, cond_false, ↓reduceIte, reduceCtorEq, Nat.reduceEqDiff, List.cons_append, List.nil_append, puts, put]
       repeat (first | exact trivial | (refine FLt.cons ?_ ?_; focus (first | exact Lt.refl _ | exact Lt.any _ | exact Lt.nilsl _ | (refine lt_frozB rfl rfl rfl rfl ?_ ?_ ?_ <;> (first | rfl | (simp [h8, hfin, h17, htk]; done) | (simp [h8, hfin, h17, htk] <;> omega)); done) | (refine lt_eq (congrArg (PV.int .i64) ?_); omega) | (refine lt_eq ?_; simp [h8, hfin, h17, htk]; done) | (refine lt_eq ?_; simp [h8, hfin, h17, htk] <;> omega))))
      ·try simp only [puts, put, ↓reduceIte, reduceCtorEq, Nat.reduceEqDiff]
       repeat (first | exact trivial | (refine ⟨⟨_, rfl, ?_⟩, ?_⟩; focus (first | exact BLt.refl _ | (refine BLt.of_eq ?_; simp [h8, hfin, h17, htk]; done) | (refine BLt.of_eq ?_; simp [h8, hfin, h17, htk] <;> omega) | (refine BLt.one ?_; (repeat (first | exact LtL.nil | (refine LtL.cons ?_ ?_; focus (first | exact Lt.refl _ | exact Lt.any _ | exact Lt.nilsl _ | (refine lt_frozB rfl rfl rfl rfl ?_ ?_ ?_ <;> (first | rfl | (simp [h8, hfin, h17, htk]; done) | (simp [h8, hfin, h17, htk] <;> omega)); done) | (refine lt_eq (congrArg (PV.int .i64) ?_); omega) | (refine lt_eq ?_; simp [h8, hfin, h17, htk]; done) | (refine lt_eq ?_; simp [h8, hfin, h17, htk] <;> omega))))); done))))
      ·simp
      ·simp
      ·simp
    ·try simp at h17
     have hfin : acc = a.groups := by rw [hacc, List.take_of_length_le (by omega)]
     refine pw_exit ?_
     simp [thenP, inBlockP]
     apply hK12; try clear hK12 K12
     refine pw_keep [1, 2, 3] ?_
     simp only [keepL, memL, cond_true, cond_false, ↓reduceIte, reduceCtorEq, Nat.reduceEqDiff]
     refine pw_seq_k fun K21 hK21 => ?_
     refine pw_seq_k fun K22 hK22 => ?_
     refine pw_weak (Wk.freeze (b := 37) rfl) ?_
     simp only [put, ↓reduceIte, reduceCtorEq, Nat.reduceEqDiff]
     refine pw_region 0 ?_
     simp [h8, hfin, h17]
     apply hK22; try clear hK22 K22
     refine pw_block ?_
     refine pw_loopF (α := Nat × Nat × (List NFilter)) [2, 3, 41, 42] (fun s => [(43, .int .i64 (s.1 : Nat))]) (fun s => [(3, ⟨0, true, .arr 3 [.agg [.sl 26 (a.fronts.map NFront.pv), .sl 8 (a.groups.map NGroup.pv), .bsl 51 s.2.1 3 0 s.2.2.length]]⟩), (51, ⟨s.2.1, true, .arr 3 (s.2.2.map NFilter.pv)⟩)]) (fun m s => s.1 + m = a.filters.length ∧ s.2.2 = a.filters.take s.1) (a.filters.length) (0, 0, []) ?_ ?_ ?_
     ·(try dsimp only) <;> (simp)
     ·refine Wk.trans (Wk.virt 51 0 3 (by simp)) ?_
      refine Wk.toF ?_ ?_ ?_ ?_ ?_
      ·try simp only [keepL, memL, cond_true, cond_false, ↓reduceIte, reduceCtorEq, Nat.reduceEqDiff, List.cons_append, List.nil_append, puts, put]
       repeat (first | exact trivial | (refine FLt.cons ?_ ?_; focus (first | exact Lt.refl _ | exact Lt.any _ | (refine Lt.nilb ?_; simp; done) | exact Lt.nilsl _ | (refine lt_frozB rfl rfl rfl rfl ?_ ?_ ?_ <;> (first | rfl | (simp [h8, hfin, h17]; done) | (simp [h8, hfin, h17] <;> omega)); done) | (refine lt_eq (congrArg (PV.int .i64) ?_); omega) | (refine lt_eq ?_; simp [h8, hfin, h17]; done) | (refine lt_eq ?_; simp [h8, hfin, h17] <;> omega))))
      ·try simp only [puts, put, ↓reduceIte, reduceCtorEq, Nat.reduceEqDiff]
       repeat (first | exact trivial | (refine ⟨⟨_, rfl, ?_⟩, ?_⟩; focus (first | exact BLt.refl _ | (refine BLt.of_eq ?_; simp [h8, hfin, h17]; done) | (refine BLt.of_eq ?_; simp [h8, hfin, h17] <;> omega) | (refine BLt.one ?_; (repeat (first | exact LtL.nil | (refine LtL.cons ?_ ?_; focus (first | exact Lt.refl _ | exact Lt.any _ | (refine Lt.nilb ?_; simp; done) | exact Lt.nilsl _ | (refine lt_frozB rfl rfl rfl rfl ?_ ?_ ?_ <;> (first | rfl | (simp [h8, hfin, h17]; done) | (simp [h8, hfin, h17] <;> omega)); done) | (refine lt_eq (congrArg (PV.int .i64) ?_); omega) | (refine lt_eq ?_; simp [h8, hfin, h17]; done) | (refine lt_eq ?_; simp [h8, hfin, h17] <;> omega))))); done))))
      ·simp
      ·simp
      ·simp
     ·intro m s hinv KL23 hKL23
      obtain ⟨i, g, acc⟩ := s
      try dsimp only at hinv
      obtain ⟨hk, hacc⟩ := hinv
      have hal : acc.length ≤ 1000000 := by rw [hacc, List.length_take]; omega
      simp only [keepL, memL, cond_true, cond_false, ↓reduceIte, reduceCtorEq, Nat.reduceEqDiff, List.cons_append, List.nil_append, puts, put]
      refine pw_seq_k fun K24 hK24 => ?_
      refine pw_region 0 ?_
      simp [sBinH, sBin, binop, h8, hfin, h17]
      apply hK24; try clear hK24 K24
      refine pw_seq_k fun K25 hK25 => ?_
      refine pw_cond _ rfl (fun h26 => ?_) (fun h26 => ?_)
      ·try simp at h26
       obtain ⟨x, hx, hX⟩ := getN2 (l := a.filters) (k := i) (by omega)
       have hw := wrap_i64 (n := (i : Int) + 1) (by omega) (by omega)
       have hdr := drop_get hx
       have htk := take_get hx
       have hbz : (acc.length + 1) * 56 ≤ 140737488355328 := by omega
       have hbm : acc.length + 1 ≤ 9223372036854775807 := by omega
       refine pw_skip ?_
       try simp only [thenP, inBlockP]
       apply hK25; try clear hK25 K25
       refine pw_seq_k fun K27 hK27 => ?_
       refine pw_block ?_
       refine pw_seq_k fun K28 hK28 => ?_
       refine pw_region 0 ?_
       simp [h8, hfin, h17, h26, hx, hX, hw, htk, hbz, hbm]
       apply hK28; try clear hK28 K28
       refine pw_region 0 ?_
       refine pEv0_split 4 fun Kr29 hKr29 => ?_
       simp [h8, hfin, h17, h26, hx, hX, hw, htk, hbz, hbm]
       apply hKr29; clear hKr29 Kr29
       simp [h8, hfin, h17, h26, hx, hX, hw, htk, hbz, hbm]
       apply hK27; try clear hK27 K27
       refine pw_keep [2, 3, 41, 42, 43] ?_
       simp only [keepL, memL, cond_true, cond_false, ↓reduceIte, reduceCtorEq, Nat.reduceEqDiff]
       refine pw_region 0 ?_
       simp [sBinH, sBin, binop, h8, hfin, h17, h26, hx, hX, hw, htk, hbz, hbm]
       refine hKL23 _ (m - 1) (i + 1, g + 1, acc ++ [x]) ?_ ?_ ?_
       ·omega
       ·(try dsimp only) <;> (exact ⟨by omega, by rw [htk, hacc]⟩)
       ·refine Wk.toF ?_ ?_ ?_ ?_ ?_
        ·try simp only [keepL, memL, cond_true, cond_false, ↓reduceIte, reduceCtorEq, Nat.reduceEqDiff, List.cons_append, List.nil_append, puts, put]
         repeat (first | exact trivial | (refine FLt.cons ?_ ?_; focus (first | exact Lt.refl _ | exact Lt.any _ | exact Lt.nilsl _ | (refine lt_frozB rfl rfl rfl rfl ?_ ?_ ?_ <;> (first | rfl | (simp [h8, hfin, h17, h26, htk]; done) | (simp [h8, hfin, h17, h26, htk] <;> omega)); done) | (refine lt_eq (congrArg (PV.int .i64) ?_); omega) | (refine lt_eq ?_; simp [h8, hfin, h17, h26, htk]; done) | (refine lt_eq ?_; simp [h8, hfin, h17, h26, htk] <;> omega))))
        ·try simp only [puts, put, ↓reduceIte, reduceCtorEq, Nat.reduceEqDiff]
         repeat (first | exact trivial | (refine ⟨⟨_, rfl, ?_⟩, ?_⟩; focus (first | exact BLt.refl _ | (refine BLt.of_eq ?_; simp [h8, hfin, h17, h26, htk]; done) | (refine BLt.of_eq ?_; simp [h8, hfin, h17, h26, htk] <;> omega) | (refine BLt.one ?_; (repeat (first | exact LtL.nil | (refine LtL.cons ?_ ?_; focus (first | exact Lt.refl _ | exact Lt.any _ | exact Lt.nilsl _ | (refine lt_frozB rfl rfl rfl rfl ?_ ?_ ?_ <;> (first | rfl | (simp [h8, hfin, h17, h26, htk]; done) | (simp [h8, hfin, h17, h26, htk] <;> omega)); done) | (refine lt_eq (congrArg (PV.int .i64) ?_); omega) | (refine lt_eq ?_; simp [h8, hfin, h17, h26, htk]; done) | (refine lt_eq ?_; simp [h8, hfin, h17, h26, htk] <;> omega))))); done))))
        ·simp
        ·simp
        ·simp
      ·try simp at h26
       have hfin : acc = a.filters := by rw [hacc, List.take_of_length_le (by omega)]
       refine pw_exit ?_
       simp [thenP, inBlockP]
       apply hK21; try clear hK21 K21
       refine pw_keep [2, 3] ?_
       simp only [keepL, memL, cond_true, cond_false, ↓reduceIte, reduceCtorEq, Nat.reduceEqDiff]
       refine pw_seq_k fun K30 hK30 => ?_
       refine pw_region 0 ?_
       simp [h8, hfin, h17, h26]
       apply hK30; try clear hK30 K30
       refine pw_ret ?_
       try simp only [thenP, inBlockP]
       refine bodyQ_ex (by first | exact .inl rfl | exact .inr rfl) ?_
       simp only [resL, resVL, lk, sLoad, boxArr, find_cons, Try.func16, Try.results16, ty56, ↓reduceIte, reduceCtorEq, Nat.reduceLT, Nat.reduceEqDiff, Option.map_some, Option.bind_some, Option.some.injEq, exists_eq_left', List.getElem?_cons_zero, ld_agg_t, ld_int, ld_bool, ld_str, ld_sl, ld_bsl, ld_nils, List.length_cons, List.length_nil, Nat.reduceAdd, Nat.reduceLeDiff, List.take_succ_cons, List.take_zero, List.drop_zero, and_self, true_and, Nat.le_refl, Nat.zero_add, NAddr.ld, NCidr.ld, NPoint.ld, NKey.ld, NFront.ld, NId.ld, NFilter.ld, NTable.ld, NGroup.ld, NRows.ld]
       refine ⟨[51], a.pv, ?_, PV.le_refl _⟩
       simp [view, viewL, boxArr, find_cons, El_filter.all, List.take_of_length_le, NRows.pv, NRows.cs]

end Pv
