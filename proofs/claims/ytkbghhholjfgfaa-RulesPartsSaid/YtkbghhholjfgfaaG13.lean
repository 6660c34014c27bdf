import Derived.Test.YtkbghhholjfgfaaG5b
import Derived.Test.YtkbghhholjfgfaaG6
import Derived.Test.YtkbghhholjfgfaaG8
import Derived.Test.YtkbghhholjfgfaaG9
import Derived.Test.YtkbghhholjfgfaaG10
import Derived.Test.YtkbghhholjfgfaaB2
set_option linter.unusedSimpArgs false
set_option linter.unusedVariables false
namespace Pv
open Go Go.Proofs
attribute [local simp] Body.ren Body.withinB Box.ren List.drop_succ_cons List.map_set List.take_succ_cons PV.ren PV.within PV.within.go boxArr co28 co30 co50 co60 co69 cur el46 el47 el48 el81 el82 ev_const ev_fr ev_func ev_glob find_cons find_nil fl30_2 fl32_0 fl50_0 fl50_1 fl50_2 fl60_0 fl69_0 fr_get' fstep genOf guardDec inBlockP inH keepL keys layParts lk maxLen memL newBox ofConst ofScalar pEv pEv0 part' put puts renL sAlloc sAppend sAppend.srcOf sBox sBuildSlice sFieldAddr sIndexAddr sLen sLoad sStore setD_fr setD_none setc_agg shR_d shR_r splice take_map_len thenP ty28 ty30 ty46 ty47 ty48 ty50 ty60 ty69 upF withinB_arr
set_option maxRecDepth 100000 in
set_option maxHeartbeats 4000000 in
theorem partsLaw_pf (a : NRows) : PFun Try.prog 5 [a.pv] (.bool true) := by
 refine PFun.of_bodyF (by simp) Try.func5 rfl 79 rfl (by simp) fun c0 => ?_
 simp only [argL, Nat.reduceAdd]
 refine pw_seq_k fun K1 hK1 => ?_
 refine pw_region 0 ?_
 simp [frzW, upd]
 apply hK1; try clear hK1 K1
 refine pw_seq_k fun K2 hK2 => ?_
 refine pw_seq_k fun K3 hK3 => ?_
 refine pw_region 0 ?_
 refine pEv0_call' rfl rfl rfl ((call_pure alive_pf.1 alive_pf.2 rfl _)) ?_
 simp [frzW, upd]
 apply hK3; try clear hK3 K3
 refine pw_cond _ rfl (fun h4 => ?_) (fun h4 => ?_)
 ·simp at h4
 ·clear h4
  refine pw_skip ?_
  try simp only [thenP, inBlockP]
  apply hK2; try clear hK2 K2
  refine pw_keep [1] ?_
  simp only [keepL, memL, cond_true, cond_false, ↓reduceIte, reduceCtorEq, Nat.reduceEqDiff]
  refine pw_seq_k fun K5 hK5 => ?_
  refine pw_seq_k fun K6 hK6 => ?_
  refine pw_region 0 ?_
  refine pEv0_split 1 fun Kr7 hKr7 => ?_
  simp [frzW, upd]
  apply hKr7; clear hKr7 Kr7
  refine pEv0_call' rfl rfl rfl ((call_pure (long_pf _ _ (by omega)) en15 (by simp) _)) ?_
  simp [frzW, upd]
  apply hK6; try clear hK6 K6
  refine pw_cond _ rfl (fun h8 => ?_) (fun h8 => ?_)
  ·try simp at h8
   refine pw_seq_k fun K9 hK9 => ?_
   refine pw_region 0 ?_
   simp [frzW, upd, h8]
   apply hK9; try clear hK9 K9
   refine pw_ret ?_
   try simp only [thenP, inBlockP]
   refine bodyQ_fr (by first | exact .inl rfl | exact .inr rfl) _ rfl ?_
   first | rfl | (simp [lk]; done) | (simp [lk, hlaw]; done)
  ·try simp at h8
   have hla : longR a 40 = false := by first | exact h8 | simpa using h8
   have hla2 := longR_le (most := 40) hla (by omega)
   have fa1 := hla2.f
   have fa2 := hla2.g
   have fa3 := hla2.l
   refine pw_skip ?_
   try simp only [thenP, inBlockP]
   apply hK5; try clear hK5 K5
   refine pw_seq_k fun K10 hK10 => ?_
   refine pw_region 0 ?_
   simp [frzW, upd, h8]
   apply hK10; try clear hK10 K10
   refine pw_seq_k fun K11 hK11 => ?_
   refine pw_seq_k fun K12 hK12 => ?_
   refine pw_region 0 ?_
   simp [frzW, upd, h8]
   apply hK12; try clear hK12 K12
   refine pw_keep [1, 3, 19, 20, 21] ?_
   simp only [keepL, memL, cond_true, cond_false, ↓reduceIte, reduceCtorEq, Nat.reduceEqDiff]
   refine pw_block ?_
   refine pw_loopF (α := Nat × Nat × (List NKey)) [1, 19, 20] (fun s => [(21, .int .i64 (s.1 : Nat)), (3, .bsl 17 s.2.1 2 0 s.2.2.length)]) (fun s => [(17, ⟨s.2.1, true, .arr 2 (s.2.2.map NKey.pv)⟩)]) (fun m s => s.1 + m = a.fronts.length ∧ s.2.2 = (a.fronts.take s.1).map (fun x => x.service)) (a.fronts.length) (0, 0, []) ?_ ?_ ?_
   ·(try dsimp only) <;> (simp)
   ·refine Wk.toF ?_ ?_ ?_ ?_ ?_
    ·try simp only [keepL, memL, cond_true, cond_false, ↓reduceIte, reduceCtorEq, Nat.reduceEqDiff, List.cons_append, List.nil_append, puts, put]
     repeat (first | exact trivial | (refine FLt.cons ?_ ?_; focus (first | exact Lt.refl _ | exact Lt.any _ | (refine lt_eq (congrArg (PV.int .i64) ?_); omega) | (refine lt_eq ?_; simp [h8]; done) | (refine lt_eq ?_; simp [h8] <;> omega))))
    ·try simp only [puts, put, ↓reduceIte, reduceCtorEq, Nat.reduceEqDiff]
     repeat (first | exact trivial | (refine ⟨⟨_, rfl, ?_⟩, ?_⟩; focus (first | exact BLt.refl _ | (refine BLt.of_eq ?_; simp [h8]; done) | (refine BLt.of_eq ?_; simp [h8] <;> omega))))
    ·simp
    ·simp
    ·simp
   ·intro m s hinv KL13 hKL13
    obtain ⟨i, g, acc⟩ := s
    try dsimp only at hinv
    obtain ⟨hk, hacc⟩ := hinv
    have hal : acc.length ≤ 1000 := by rw [hacc]; simp; omega
    simp only [keepL, memL, cond_true, cond_false, ↓reduceIte, reduceCtorEq, Nat.reduceEqDiff, List.cons_append, List.nil_append, puts, put]
    refine pw_seq_k fun K14 hK14 => ?_
    refine pw_region 0 ?_
    simp [sBinH, sBin, binop, frzW, upd, h8]
    apply hK14; try clear hK14 K14
    refine pw_seq_k fun K15 hK15 => ?_
    refine pw_cond _ rfl (fun h16 => ?_) (fun h16 => ?_)
    ·try simp at h16
     obtain ⟨x, hx, hX⟩ := getN2 (l := a.fronts) (k := i) (by omega)
     have hw := wrap_i64 (n := (i : Int) + 1) (by omega) (by omega)
     have hdr := drop_get hx
     have htk := take_get hx
     have hbz : (acc.length + 1) * 32 ≤ 140737488355328 := by omega
     have hbm : acc.length + 1 ≤ 9223372036854775807 := by omega
     refine pw_skip ?_
     try simp only [thenP, inBlockP]
     apply hK15; try clear hK15 K15
     refine pw_seq_k fun K17 hK17 => ?_
     refine pw_block ?_
     refine pw_seq_k fun K18 hK18 => ?_
     refine pw_region 0 ?_
     simp [frzW, upd, h8, h16, hx, hX, hw, htk, hbz, hbm]
     apply hK18; try clear hK18 K18
     refine pw_region 0 ?_
     refine pEv0_split 4 fun Kr19 hKr19 => ?_
     simp [frzW, upd, h8, h16, hx, hX, hw, htk, hbz, hbm]
     apply hKr19; clear hKr19 Kr19
     simp [frzW, upd, h8, h16, hx, hX, hw, htk, hbz, hbm]
     apply hK17; try clear hK17 K17
     refine pw_keep [1, 3, 19, 20, 21] ?_
     simp only [keepL, memL, cond_true, cond_false, ↓reduceIte, reduceCtorEq, Nat.reduceEqDiff]
     refine pw_region 0 ?_
     simp [sBinH, sBin, binop, frzW, upd, h8, h16, hx, hX, hw, htk, hbz, hbm]
     refine hKL13 _ (m - 1) (i + 1, g + 1, acc ++ [x.service]) ?_ ?_ ?_
     ·omega
     ·(try dsimp only) <;> (exact ⟨by omega, by rw [hacc, htk]; simp⟩)
     ·refine Wk.toF ?_ ?_ ?_ ?_ ?_
      ·try simp only [keepL, memL, cond_true, cond_false, ↓reduceIte, reduceCtorEq, Nat.reduceEqDiff, List.cons_append, List.nil_append, puts, put]
       repeat (first | exact trivial | (refine FLt.cons ?_ ?_; focus (first | exact Lt.refl _ | exact Lt.any _ | (refine lt_eq (congrArg (PV.int .i64) ?_); omega) | (refine lt_eq ?_; simp [h8, h16, htk]; done) | (refine lt_eq ?_; simp [h8, h16, htk] <;> omega))))
      ·try simp only [puts, put, ↓reduceIte, reduceCtorEq, Nat.reduceEqDiff]
       repeat (first | exact trivial | (refine ⟨⟨_, rfl, ?_⟩, ?_⟩; focus (first | exact BLt.refl _ | (refine BLt.of_eq ?_; simp [h8, h16, htk]; done) | (refine BLt.of_eq ?_; simp [h8, h16, htk] <;> omega))))
      ·simp
      ·simp
      ·simp
    ·try simp at h16
     have hK1 : acc = a.fronts.map (fun x => x.service) := by rw [hacc, List.take_of_length_le (by omega)]
     refine pw_exit ?_
     simp [thenP, inBlockP]
     apply hK11; try clear hK11 K11
     refine pw_keep [1, 3] ?_
     simp only [keepL, memL, cond_true, cond_false, ↓reduceIte, reduceCtorEq, Nat.reduceEqDiff]
     refine pw_seq_k fun K20 hK20 => ?_
     refine pw_seq_k fun K21 hK21 => ?_
     refine pw_region 0 ?_
     simp [frzW, upd, h8, h16]
     apply hK21; try clear hK21 K21
     refine pw_block ?_
     refine pw_loopF (α := Nat × Nat × (List NKey)) [1, 32, 33] (fun s => [(34, .int .i64 (s.1 : Nat)), (3, .bsl 17 s.2.1 2 0 s.2.2.length)]) (fun s => [(17, ⟨s.2.1, true, .arr 2 (s.2.2.map NKey.pv)⟩)]) (fun m s => s.1 + m = a.groups.length ∧ s.2.2 = a.fronts.map (fun x => x.service) ++ (a.groups.take s.1).map (fun x => x.id.service)) (a.groups.length) (0, g, acc) ?_ ?_ ?_
     ·(try dsimp only) <;> (simp [hK1])
     ·refine Wk.toF ?_ ?_ ?_ ?_ ?_
      ·try simp only [keepL, memL, cond_true, cond_false, ↓reduceIte, reduceCtorEq, Nat.reduceEqDiff, List.cons_append, List.nil_append, puts, put]
       repeat (first | exact trivial | (refine FLt.cons ?_ ?_; focus (first | exact Lt.refl _ | exact Lt.any _ | (refine lt_eq (congrArg (PV.int .i64) ?_); omega) | (refine lt_eq ?_; simp [h8, h16]; done) | (refine lt_eq ?_; simp [h8, h16] <;> omega))))
      ·try simp only [puts, put, ↓reduceIte, reduceCtorEq, Nat.reduceEqDiff]
       repeat (first | exact trivial | (refine ⟨⟨_, rfl, ?_⟩, ?_⟩; focus (first | exact BLt.refl _ | (refine BLt.of_eq ?_; simp [h8, h16]; done) | (refine BLt.of_eq ?_; simp [h8, h16] <;> omega))))
      ·simp
      ·simp
      ·simp
     ·intro m s hinv KL22 hKL22
      obtain ⟨i, g, acc⟩ := s
      try dsimp only at hinv
      obtain ⟨hk, hacc⟩ := hinv
      have hal : acc.length ≤ 1000 := by rw [hacc]; simp; omega
      simp only [keepL, memL, cond_true, cond_false, ↓reduceIte, reduceCtorEq, Nat.reduceEqDiff, List.cons_append, List.nil_append, puts, put]
      refine pw_seq_k fun K23 hK23 => ?_
      refine pw_region 0 ?_
      simp [sBinH, sBin, binop, frzW, upd, h8, h16]
      apply hK23; try clear hK23 K23
      refine pw_seq_k fun K24 hK24 => ?_
      refine pw_cond _ rfl (fun h25 => ?_) (fun h25 => ?_)
      ·try simp at h25
       obtain ⟨x, hx, hX⟩ := getN2 (l := a.groups) (k := i) (by omega)
       have hw := wrap_i64 (n := (i : Int) + 1) (by omega) (by omega)
       have hdr := drop_get hx
       have htk := take_get hx
       have hbz : (acc.length + 1) * 32 ≤ 140737488355328 := by omega
       have hbm : acc.length + 1 ≤ 9223372036854775807 := by omega
       refine pw_skip ?_
       try simp only [thenP, inBlockP]
       apply hK24; try clear hK24 K24
       refine pw_seq_k fun K26 hK26 => ?_
       refine pw_block ?_
       refine pw_seq_k fun K27 hK27 => ?_
       refine pw_region 0 ?_
       simp [frzW, upd, h8, h16, h25, hx, hX, hw, htk, hbz, hbm]
       apply hK27; try clear hK27 K27
       refine pw_region 0 ?_
       refine pEv0_split 4 fun Kr28 hKr28 => ?_
       simp [frzW, upd, h8, h16, h25, hx, hX, hw, htk, hbz, hbm]
       apply hKr28; clear hKr28 Kr28
       simp [frzW, upd, h8, h16, h25, hx, hX, hw, htk, hbz, hbm]
       apply hK26; try clear hK26 K26
       refine pw_keep [1, 3, 32, 33, 34] ?_
       simp only [keepL, memL, cond_true, cond_false, ↓reduceIte, reduceCtorEq, Nat.reduceEqDiff]
       refine pw_region 0 ?_
       simp [sBinH, sBin, binop, frzW, upd, h8, h16, h25, hx, hX, hw, htk, hbz, hbm]
       refine hKL22 _ (m - 1) (i + 1, g + 1, acc ++ [x.id.service]) ?_ ?_ ?_
       ·omega
       ·(try dsimp only) <;> (exact ⟨by omega, by rw [hacc, htk]; simp⟩)
       ·refine Wk.toF ?_ ?_ ?_ ?_ ?_
        ·try simp only [keepL, memL, cond_true, cond_false, ↓reduceIte, reduceCtorEq, Nat.reduceEqDiff, List.cons_append, List.nil_append, puts, put]
         repeat (first | exact trivial | (refine FLt.cons ?_ ?_; focus (first | exact Lt.refl _ | exact Lt.any _ | (refine lt_eq (congrArg (PV.int .i64) ?_); omega) | (refine lt_eq ?_; simp [h8, h16, h25, htk]; done) | (refine lt_eq ?_; simp [h8, h16, h25, htk] <;> omega))))
        ·try simp only [puts, put, ↓reduceIte, reduceCtorEq, Nat.reduceEqDiff]
         repeat (first | exact trivial | (refine ⟨⟨_, rfl, ?_⟩, ?_⟩; focus (first | exact BLt.refl _ | (refine BLt.of_eq ?_; simp [h8, h16, h25, htk]; done) | (refine BLt.of_eq ?_; simp [h8, h16, h25, htk] <;> omega))))
        ·simp
        ·simp
        ·simp
      ·try simp at h25
       have hK2 : acc = a.fronts.map (fun x => x.service) ++ a.groups.map (fun x => x.id.service) := by rw [hacc, List.take_of_length_le (by omega)]
       refine pw_exit ?_
       simp [thenP, inBlockP]
       apply hK20; try clear hK20 K20
       refine pw_keep [1, 3] ?_
       simp only [keepL, memL, cond_true, cond_false, ↓reduceIte, reduceCtorEq, Nat.reduceEqDiff]
       refine pw_seq_k fun K29 hK29 => ?_
       refine pw_seq_k fun K30 hK30 => ?_
       refine pw_region 0 ?_
       simp [frzW, upd, h8, h16, h25]
       apply hK30; try clear hK30 K30
       refine pw_block ?_
       refine pw_loopF (α := Nat × Nat × (List NKey)) [1, 46, 47] (fun s => [(48, .int .i64 (s.1 : Nat)), (3, .bsl 17 s.2.1 2 0 s.2.2.length)]) (fun s => [(17, ⟨s.2.1, true, .arr 2 (s.2.2.map NKey.pv)⟩)]) (fun m s => s.1 + m = a.filters.length ∧ s.2.2 = a.fronts.map (fun x => x.service) ++ (a.groups.map (fun x => x.id.service) ++ (a.filters.take s.1).map (fun x => x.service))) (a.filters.length) (0, g, acc) ?_ ?_ ?_
       ·(try dsimp only) <;> (simp [hK2])
       ·refine Wk.toF ?_ ?_ ?_ ?_ ?_
        ·try simp only [keepL, memL, cond_true, cond_false, ↓reduceIte, reduceCtorEq, Nat.reduceEqDiff, List.cons_append, List.nil_append, puts, put]
         repeat (first | exact trivial | (refine FLt.cons ?_ ?_; focus (first | exact Lt.refl _ | exact Lt.any _ | (refine lt_eq (congrArg (PV.int .i64) ?_); omega) | (refine lt_eq ?_; simp [h8, h16, h25]; done) | (refine lt_eq ?_; simp [h8, h16, h25] <;> omega))))
        ·try simp only [puts, put, ↓reduceIte, reduceCtorEq, Nat.reduceEqDiff]
         repeat (first | exact trivial | (refine ⟨⟨_, rfl, ?_⟩, ?_⟩; focus (first | exact BLt.refl _ | (refine BLt.of_eq ?_; simp [h8, h16, h25]; done) | (refine BLt.of_eq ?_; simp [h8, h16, h25] <;> omega))))
        ·simp
        ·simp
        ·simp
       ·intro m s hinv KL31 hKL31
        obtain ⟨i, g, acc⟩ := s
        try dsimp only at hinv
        obtain ⟨hk, hacc⟩ := hinv
        have hal : acc.length ≤ 1000 := by rw [hacc]; simp; omega
        simp only [keepL, memL, cond_true, cond_false, ↓reduceIte, reduceCtorEq, Nat.reduceEqDiff, List.cons_append, List.nil_append, puts, put]
        refine pw_seq_k fun K32 hK32 => ?_
        refine pw_region 0 ?_
        simp [sBinH, sBin, binop, frzW, upd, h8, h16, h25]
        apply hK32; try clear hK32 K32
        refine pw_seq_k fun K33 hK33 => ?_
        refine pw_cond _ rfl (fun h34 => ?_) (fun h34 => ?_)
        ·try simp at h34
         obtain ⟨x, hx, hX⟩ := getN2 (l := a.filters) (k := i) (by omega)
         have hw := wrap_i64 (n := (i : Int) + 1) (by omega) (by omega)
         have hdr := drop_get hx
         have htk := take_get hx
         have hbz : (acc.length + 1) * 32 ≤ 140737488355328 := by omega
         have hbm : acc.length + 1 ≤ 9223372036854775807 := by omega
         refine pw_skip ?_
         try simp only [thenP, inBlockP]
         apply hK33; try clear hK33 K33
         refine pw_seq_k fun K35 hK35 => ?_
         refine pw_block ?_
         refine pw_seq_k fun K36 hK36 => ?_
         refine pw_region 0 ?_
         simp [frzW, upd, h8, h16, h25, h34, hx, hX, hw, htk, hbz, hbm]
         apply hK36; try clear hK36 K36
         refine pw_region 0 ?_
         refine pEv0_split 4 fun Kr37 hKr37 => ?_
         simp [frzW, upd, h8, h16, h25, h34, hx, hX, hw, htk, hbz, hbm]
         apply hKr37; clear hKr37 Kr37
         simp [frzW, upd, h8, h16, h25, h34, hx, hX, hw, htk, hbz, hbm]
         apply hK35; try clear hK35 K35
         refine pw_keep [1, 3, 46, 47, 48] ?_
         simp only [keepL, memL, cond_true, cond_false, ↓reduceIte, reduceCtorEq, Nat.reduceEqDiff]
         refine pw_region 0 ?_
         simp [sBinH, sBin, binop, frzW, upd, h8, h16, h25, h34, hx, hX, hw, htk, hbz, hbm]
         refine hKL31 _ (m - 1) (i + 1, g + 1, acc ++ [x.service]) ?_ ?_ ?_
         ·omega
         ·(try dsimp only) <;> (exact ⟨by omega, by rw [hacc, htk]; simp⟩)
         ·refine Wk.toF ?_ ?_ ?_ ?_ ?_
          ·try simp only [keepL, memL, cond_true, cond_false, ↓reduceIte, reduceCtorEq, Nat.reduceEqDiff, List.cons_append, List.nil_append, puts, put]
           repeat (first | exact trivial | (refine FLt.cons ?_ ?_; focus (first | exact Lt.refl _ | exact Lt.any _ | (refine lt_eq (congrArg (PV.int .i64) ?_); omega) | (refine lt_eq ?_; simp [h8, h16, h25, h34, htk]; done) | (refine lt_eq ?_; simp [h8, h16, h25, h34, htk] <;> omega))))
          ·try simp only [puts, put, ↓reduceIte, reduceCtorEq, Nat.reduceEqDiff]
           repeat (first | exact trivial | (refine ⟨⟨_, rfl, ?_⟩, ?_⟩; focus (first | exact BLt.refl _ | (refine BLt.of_eq ?_; simp [h8, h16, h25, h34, htk]; done) | (refine BLt.of_eq ?_; simp [h8, h16, h25, h34, htk] <;> omega))))
          ·simp
          ·simp
          ·simp
        ·try simp at h34
         have hK3 : acc = a.fronts.map (fun x => x.service) ++ (a.groups.map (fun x => x.id.service) ++ a.filters.map (fun x => x.service)) := by rw [hacc, List.take_of_length_le (by omega)]
         obtain ⟨ks, hks⟩ : ∃ ks, ks = acc.foldl putU [] := ⟨_, rfl⟩
         have hkl : ks.length ≤ 1000 := by have := foldU_len acc []; rw [hks]; simp at this; omega
         refine pw_exit ?_
         simp [thenP, inBlockP]
         apply hK29; try clear hK29 K29
         refine pw_keep [1, 3] ?_
         simp only [keepL, memL, cond_true, cond_false, ↓reduceIte, reduceCtorEq, Nat.reduceEqDiff]
         refine pw_seq_k fun K38 hK38 => ?_
         refine pw_region 0 ?_
         simp [frzW, upd, h8, h16, h25, h34]
         apply hK38; try clear hK38 K38
         refine pw_seq_k fun K39 hK39 => ?_
         refine pw_seq_k fun K40 hK40 => ?_
         refine pw_region 0 ?_
         refine pEv0_split 1 fun Kr41 hKr41 => ?_
         simp [frzW, upd, h8, h16, h25, h34]
         apply hKr41; clear hKr41 Kr41
         refine pEv0_call' rfl rfl rfl ((call_frz (M := fun _ => false) (VwL.cons (VwA.rowB rfl rfl rfl (by simp) (El_key.all _) (by simp [take_map_len])) VwL.nil) (hks ▸ call_pure (rsort_pf acc (by omega)) en26 rfl _))) ?_
         simp [frzW, upd, h8, h16, h25, h34]
         apply hK40; try clear hK40 K40
         refine pw_block ?_
         refine pw_loopF (α := Nat × Nat × (List NRows)) [1, 60, 61] (fun s => [(62, .int .i64 (s.1 : Nat)), (10, .bsl 58 s.2.1 3 0 s.2.2.length)]) (fun s => [(58, ⟨s.2.1, true, .arr 3 (s.2.2.map NRows.pv)⟩)]) (fun m s => s.1 + m = ks.length ∧ s.2.2 = (ks.take s.1).map (fun k => ofRows (sortRows a) k)) (ks.length) (0, 0, []) ?_ ?_ ?_
         ·(try dsimp only) <;> (simp)
         ·refine Wk.toF ?_ ?_ ?_ ?_ ?_
          ·try simp only [keepL, memL, cond_true, cond_false, ↓reduceIte, reduceCtorEq, Nat.reduceEqDiff, List.cons_append, List.nil_append, puts, put]
           repeat (first | exact trivial | (refine FLt.cons ?_ ?_; focus (first | exact Lt.refl _ | exact Lt.any _ | (refine lt_eq (congrArg (PV.int .i64) ?_); omega) | (refine lt_eq ?_; simp [h8, h16, h25, h34]; done) | (refine lt_eq ?_; simp [h8, h16, h25, h34] <;> omega))))
          ·try simp only [puts, put, ↓reduceIte, reduceCtorEq, Nat.reduceEqDiff]
           repeat (first | exact trivial | (refine ⟨⟨_, rfl, ?_⟩, ?_⟩; focus (first | exact BLt.refl _ | (refine BLt.of_eq ?_; simp [h8, h16, h25, h34]; done) | (refine BLt.of_eq ?_; simp [h8, h16, h25, h34] <;> omega))))
          ·simp
          ·simp
          ·simp
         ·intro m s hinv KL42 hKL42
          obtain ⟨i, g2, ps⟩ := s
          try dsimp only at hinv
          obtain ⟨hk, hps⟩ := hinv
          have hpl : ps.length ≤ 1000 := by rw [hps]; simp; omega
          simp only [keepL, memL, cond_true, cond_false, ↓reduceIte, reduceCtorEq, Nat.reduceEqDiff, List.cons_append, List.nil_append, puts, put]
          refine pw_seq_k fun K43 hK43 => ?_
          refine pw_region 0 ?_
          simp [sBinH, sBin, binop, frzW, upd, h8, h16, h25, h34]
          apply hK43; try clear hK43 K43
          refine pw_seq_k fun K44 hK44 => ?_
          refine pw_cond _ rfl (fun h45 => ?_) (fun h45 => ?_)
          ·try simp at h45
           obtain ⟨x, hx, hX⟩ := getN2 (l := ks) (k := i) (by omega)
           have hw := wrap_i64 (n := (i : Int) + 1) (by omega) (by omega)
           have hdr := drop_get hx
           have htk := take_get hx
           have hbz : (ps.length + 1) * 72 ≤ 140737488355328 := by omega
           have hbm : ps.length + 1 ≤ 9223372036854775807 := by omega
           refine pw_skip ?_
           try simp only [thenP, inBlockP]
           apply hK44; try clear hK44 K44
           refine pw_seq_k fun K46 hK46 => ?_
           refine pw_block ?_
           refine pw_seq_k fun K47 hK47 => ?_
           refine pw_region 0 ?_
           simp [frzW, upd, h8, h16, h25, h34, h45, hx, hX, hw, htk, hbz, hbm]
           apply hK47; try clear hK47 K47
           refine pw_region_draw mix 0 ?_
           refine pEv_split 2 fun Kr48 hKr48 => ?_
           simp [frzW, upd, h8, h16, h25, h34, h45, hx, hX, hw, htk, hbz, hbm]
           apply hKr48; clear hKr48 Kr48
           refine pEv_call' rfl rfl rfl ((call_pure (sort_pf a (hla2.mono (by omega))) en28 (by simp) _)) ?_
           refine pEv_split 1 fun Kr49 hKr49 => ?_
           simp [frzW, upd, h8, h16, h25, h34, h45, hx, hX, hw, htk, hbz, hbm]
           apply hKr49; clear hKr49 Kr49
           refine pEv_call' rfl rfl rfl ((call_pure (ofR_pf (sortRows a) x ((sortRows_le hla2).mono (by omega))) en27 (by simp) _)) ?_
           simp [frzW, upd, h8, h16, h25, h34, h45, hx, hX, hw, htk, hbz, hbm]
           refine ⟨by decide +kernel, ?_⟩
           apply hK46; try clear hK46 K46
           refine pw_keep [1, 10, 60, 61, 62] ?_
           simp only [keepL, memL, cond_true, cond_false, ↓reduceIte, reduceCtorEq, Nat.reduceEqDiff]
           refine pw_region 0 ?_
           simp [sBinH, sBin, binop, frzW, upd, h8, h16, h25, h34, h45, hx, hX, hw, htk, hbz, hbm]
           refine hKL42 _ (m - 1) (i + 1, g2 + 1, ps ++ [ofRows (sortRows a) x]) ?_ ?_ ?_
           ·omega
           ·(try dsimp only) <;> (exact ⟨by omega, by rw [hps, htk]; simp⟩)
           ·refine Wk.toF ?_ ?_ ?_ ?_ ?_
            ·try simp only [keepL, memL, cond_true, cond_false, ↓reduceIte, reduceCtorEq, Nat.reduceEqDiff, List.cons_append, List.nil_append, puts, put]
             repeat (first | exact trivial | (refine FLt.cons ?_ ?_; focus (first | exact Lt.refl _ | exact Lt.any _ | (refine lt_eq (congrArg (PV.int .i64) ?_); omega) | (refine lt_eq ?_; simp [h8, h16, h25, h34, h45, htk]; done) | (refine lt_eq ?_; simp [h8, h16, h25, h34, h45, htk] <;> omega))))
            ·try simp only [puts, put, ↓reduceIte, reduceCtorEq, Nat.reduceEqDiff]
             repeat (first | exact trivial | (refine ⟨⟨_, rfl, ?_⟩, ?_⟩; focus (first | exact BLt.refl _ | (refine BLt.of_eq ?_; simp [h8, h16, h25, h34, h45, htk]; done) | (refine BLt.of_eq ?_; simp [h8, h16, h25, h34, h45, htk] <;> omega))))
            ·simp
            ·simp
            ·simp
          ·try simp at h45
           have hP : ps = ks.map (fun k => ofRows (sortRows a) k) := by rw [hps, List.take_of_length_le (by omega)]
           have hlaw : joinRows ps = sortRows a := by rw [hP, hks, hK3]; exact parts_law a _ (fun x hx => by simp; exact .inl ⟨x, hx, rfl⟩) (fun x hx => by simp; exact .inr (.inl ⟨x, hx, rfl⟩)) (fun x hx => by simp; exact .inr (.inr ⟨x, hx, rfl⟩))
           have hcat : (catRows ps).le 260000 := by rw [hP]; exact catRows_le (k := 1000) (n := 260) _ (fun r hr => by obtain ⟨k, _, rfl⟩ := List.mem_map.1 hr; exact ofRows_le (sortRows_le hla2)) (by simp; omega) (by omega)
           have hjl : (joinRows ps).le 260000 := sortRows_le hcat
           refine pw_exit ?_
           simp [thenP, inBlockP]
           apply hK39; try clear hK39 K39
           refine pw_keep [1, 10] ?_
           simp only [keepL, memL, cond_true, cond_false, ↓reduceIte, reduceCtorEq, Nat.reduceEqDiff]
           refine pw_seq_k fun K50 hK50 => ?_
           refine pw_region_draw mix 0 ?_
           refine pEv_split 1 fun Kr51 hKr51 => ?_
           simp [frzW, upd, h8, h16, h25, h34, h45]
           apply hKr51; clear hKr51 Kr51
           refine pEv_call' rfl rfl rfl ((call_frz (M := fun _ => false) (VwL.cons (VwA.rowB rfl rfl rfl (by simp) (El_rows.all _) (by simp [take_map_len])) VwL.nil) (call_pure (join_pf ps (by omega) (hcat.mono (by omega))) en22 rfl _))) ?_
           refine pEv_split 1 fun Kr52 hKr52 => ?_
           simp [frzW, upd, h8, h16, h25, h34, h45]
           apply hKr52; clear hKr52 Kr52
           refine pEv_call' rfl rfl rfl ((call_pure (sort_pf a (hla2.mono (by omega))) en28 (by simp) _)) ?_
           refine pEv_call' rfl rfl rfl ((call_pure (same_pf (joinRows ps) (sortRows a) (hjl.mono (by omega))) en24 (by simp) _)) ?_
           simp [frzW, upd, h8, h16, h25, h34, h45]
           refine ⟨by decide +kernel, ?_⟩
           apply hK50; try clear hK50 K50
           refine pw_keep [2] ?_
           simp only [keepL, memL, cond_true, cond_false, ↓reduceIte, reduceCtorEq, Nat.reduceEqDiff]
           refine pw_ret ?_
           try simp only [thenP, inBlockP]
           refine bodyQ_fr (by first | exact .inl rfl | exact .inr rfl) _ rfl ?_
           first | rfl | (simp [lk]; done) | (simp [lk, hlaw]; done)

end Pv
