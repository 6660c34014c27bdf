import Derived.Test.YtkbghhholjfgfaaGF
set_option linter.unusedSimpArgs false
set_option linter.unusedVariables false
namespace Pv
open Go Go.Proofs
attribute [local simp] Body.ren Body.withinB Box.ren List.drop_succ_cons List.map_set List.take_succ_cons PV.ren PV.within PV.within.go Try.underlying140 Try.underlying3 boxArr co60 cur el48 ev_const ev_fr ev_func ev_glob find_cons find_nil fr_get' fstep guardDec inBlockP inH keepL keys lk memL ofConst ofScalar pEv pEv0 part' put puts renL sConvert sIndexAddr sLen sLoad sStore setD_fr setD_none shR_d shR_r take_map_len thenP ty60 upF withinB_arr
set_option maxRecDepth 100000 in
set_option maxHeartbeats 4000000 in
theorem swapR0_L {X : Type} {pv : X → PV} (E : El true 3 pv) (clo : PV) (hclo : clo.closed = true) (xs : List X) (a b n : Nat) (ha : a + n ≤ xs.length) (hb : b + n ≤ xs.length) (hl : xs.length < 2 ^ 31) : PBox Try.prog 96 [.bsl 0 0 3 0 xs.length, .int .i64 (a : Nat), .int .i64 (b : Nat), .int .i64 (n : Nat), clo] [(0, ⟨0, true, .arr 3 (xs.map pv)⟩)] (.tup []) [(0, ⟨0, true, .arr 3 ((swapN n xs a b).map pv)⟩)] := by
 refine PBox.of_bodyF Try.func96 rfl 38 rfl (by simp) fun c0 => ?_
 simp only [argL, Nat.reduceAdd]
 refine pw_seq_k fun K1 hK1 => ?_
 refine pw_region 0 ?_
 simp [E.ld, E.ok, E.set, E.len, toNat_add, List.getElem?_map]
 apply hK1; try clear hK1 K1
 refine pw_block ?_
 refine pw_loopF (α := Nat × (List X)) [0, 1, 2, 3] (fun s => [(10, .int .i64 (s.1 : Nat))]) (fun s => [(0, ⟨0, true, .arr 3 (s.2.map pv)⟩)]) (fun m s => s.1 + m = n ∧ s.2.length = xs.length ∧ swapN (n - s.1) s.2 (a + s.1) (b + s.1) = swapN n xs a b) (n) (0, xs) ?_ ?_ ?_
 ·(try dsimp only) <;> (exact ⟨by omega, rfl, rfl⟩)
 ·refine Wk.toF ?_ ?_ ?_ ?_ ?_
  ·try simp only [keepL, memL, cond_true, cond_false, ↓reduceIte, reduceCtorEq, Nat.reduceEqDiff, List.cons_append, List.nil_append, puts, put]
   repeat (first | exact trivial | (refine FLt.cons ?_ ?_; focus (first | exact Lt.refl _ | exact Lt.any _ | (refine lt_eq (congrArg (PV.int .i64) ?_); omega) | (refine lt_eq ?_; simp; done) | (refine lt_eq ?_; simp <;> omega))))
  ·try simp only [puts, put, ↓reduceIte, reduceCtorEq, Nat.reduceEqDiff]
   repeat (first | exact trivial | (refine ⟨⟨_, rfl, ?_⟩, ?_⟩; focus (first | exact BLt.refl _ | (refine BLt.of_eq ?_; simp; done) | (refine BLt.of_eq ?_; simp <;> omega))))
  ·simp
  ·simp [E.within, within_closed hclo]
  ·simp [E.within, within_closed hclo]
 ·intro m s hinv KL2 hKL2
  obtain ⟨i, c⟩ := s
  try dsimp only at hinv
  obtain ⟨hk, hcl, hf⟩ := hinv
  simp only [keepL, memL, cond_true, cond_false, ↓reduceIte, reduceCtorEq, Nat.reduceEqDiff, List.cons_append, List.nil_append, puts, put]
  refine pw_seq_k fun K3 hK3 => ?_
  refine pw_seq_k fun K4 hK4 => ?_
  refine pw_region 0 ?_
  simp [sBinH, sBin, binop, E.ld, E.ok, E.set, E.len, toNat_add, List.getElem?_map]
  apply hK4; try clear hK4 K4
  refine pw_cond _ rfl (fun h5 => ?_) (fun h5 => ?_)
  ·try simp at h5
   obtain ⟨x, hx⟩ := getN (l := c) (k := a + i) (by omega)
   obtain ⟨y, hy⟩ := getN (l := c) (k := b + i) (by omega)
   obtain ⟨z, hz⟩ := getN (l := c.set (a + i) y) (k := b + i) (by simp; omega)
   have hz2 : ((c.map pv).set (a + i) (pv y))[b + i]? = some (pv z) := by rw [← List.map_set]; exact map_get hz
   have hw1 := wrap_i64 (n := (a : Int) + i) (by omega) (by omega)
   have hw2 := wrap_i64 (n := (b : Int) + i) (by omega) (by omega)
   have hw3 := wrap_i64 (n := (i : Int) + 1) (by omega) (by omega)
   have hb1 : (0 : Int) ≤ (a : Int) + i := by omega
   have hb2 : (a : Int) + i < (xs.length : Int) := by omega
   have hb3 : (0 : Int) ≤ (b : Int) + i := by omega
   have hb4 : (b : Int) + i < (xs.length : Int) := by omega
   have hms := map_swp (pv := pv) hx hy
   refine pw_skip ?_
   try simp only [thenP, inBlockP]
   apply hK3; try clear hK3 K3
   refine pw_seq_k fun K6 hK6 => ?_
   refine pw_block ?_
   refine pw_region_draw mix 0 ?_
   refine pEv_split 4 fun Kr7 hKr7 => ?_
   simp [sBinH, sBin, binop, E.ld, E.ok, E.set, E.len, toNat_add, List.getElem?_map, h5, hx, hy, hz2, hw1, hw2, hw3, hb1, hb2, hb3, hb4, hms]
   apply hKr7; clear hKr7 Kr7
   refine pEv_split 4 fun Kr8 hKr8 => ?_
   simp [sBinH, sBin, binop, E.ld, E.ok, E.set, E.len, toNat_add, List.getElem?_map, h5, hx, hy, hz2, hw1, hw2, hw3, hb1, hb2, hb3, hb4, hms]
   apply hKr8; clear hKr8 Kr8
   refine pEv_split 4 fun Kr9 hKr9 => ?_
   simp [sBinH, sBin, binop, E.ld, E.ok, E.set, E.len, toNat_add, List.getElem?_map, h5, hx, hy, hz2, hw1, hw2, hw3, hb1, hb2, hb3, hb4, hms]
   apply hKr9; clear hKr9 Kr9
   refine pEv_split 4 fun Kr10 hKr10 => ?_
   simp [E.ld, E.ok, E.set, E.len, toNat_add, List.getElem?_map, h5, hx, hy, hz2, hw1, hw2, hw3, hb1, hb2, hb3, hb4, hms]
   apply hKr10; clear hKr10 Kr10
   refine pEv_split 4 fun Kr11 hKr11 => ?_
   simp [sBinH, sBin, binop, E.ld, E.ok, E.set, E.len, toNat_add, List.getElem?_map, h5, hx, hy, hz2, hw1, hw2, hw3, hb1, hb2, hb3, hb4, hms]
   apply hKr11; clear hKr11 Kr11
   simp [E.ld, E.ok, E.set, E.len, toNat_add, List.getElem?_map, h5, hx, hy, hz2, hw1, hw2, hw3, hb1, hb2, hb3, hb4, hms]
   refine ⟨by decide +kernel, ?_⟩
   apply hK6; try clear hK6 K6
   refine pw_keep [0, 1, 2, 3, 10] ?_
   simp only [keepL, memL, cond_true, cond_false, ↓reduceIte, reduceCtorEq, Nat.reduceEqDiff]
   refine pw_region 0 ?_
   simp [sBinH, sBin, binop, E.ld, E.ok, E.set, E.len, toNat_add, List.getElem?_map, h5, hx, hy, hz2, hw1, hw2, hw3, hb1, hb2, hb3, hb4, hms]
   refine hKL2 _ (m - 1) (i + 1, swp c (a + i) (b + i)) ?_ ?_ ?_
   ·omega
   ·(try dsimp only) <;> (exact ⟨by omega, by rw [swp_len]; exact hcl, by rw [← hf, show n - i = (n - (i + 1)) + 1 by omega]; rfl⟩)
   ·refine Wk.toF ?_ ?_ ?_ ?_ ?_
    ·try simp only [keepL, memL, cond_true, cond_false, ↓reduceIte, reduceCtorEq, Nat.reduceEqDiff, List.cons_append, List.nil_append, puts, put]
     repeat (first | exact trivial | (refine FLt.cons ?_ ?_; focus (first | exact Lt.refl _ | exact Lt.any _ | (refine lt_eq (congrArg (PV.int .i64) ?_); omega) | (refine lt_eq ?_; simp [h5, hz2, hms]; done) | (refine lt_eq ?_; simp [h5, hz2, hms] <;> omega))))
    ·try simp only [puts, put, ↓reduceIte, reduceCtorEq, Nat.reduceEqDiff]
     repeat (first | exact trivial | (refine ⟨⟨_, rfl, ?_⟩, ?_⟩; focus (first | exact BLt.refl _ | (refine BLt.of_eq ?_; simp [h5, hz2, hms]; done) | (refine BLt.of_eq ?_; simp [h5, hz2, hms] <;> omega))))
    ·simp
    ·simp [E.within, within_closed hclo]
    ·simp [E.within, within_closed hclo]
  ·try simp at h5
   have hfin : c = swapN n xs a b := by rw [← hf, show n - i = 0 by omega]; rfl
   refine pw_exit ?_
   simp [thenP, inBlockP]
   try simp only [thenP, inBlockP]
   refine bodyW_fr (by first | exact .inl rfl | exact .inr rfl) _ rfl ?_
   refine Wk.to ?_ ?_ ?_ ?_ ?_
   ·try simp only [keepL, memL, cond_true, cond_false, ↓reduceIte, reduceCtorEq, Nat.reduceEqDiff, List.cons_append, List.nil_append, puts, put]
    (repeat (first | exact LtL.nil | (refine LtL.cons ?_ ?_; focus (first | exact Lt.refl _ | exact Lt.any _ | (refine Lt.nilb ?_; simp; done) | exact Lt.nilsl _ | (refine lt_frozB rfl rfl rfl rfl ?_ ?_ ?_ <;> (first | rfl | (simp [h5, hfin]; done) | (simp [h5, hfin] <;> omega)); done) | (refine lt_eq (congrArg (PV.int .i64) ?_); omega) | (refine lt_eq ?_; simp [h5, hfin]; done) | (refine lt_eq ?_; simp [h5, hfin] <;> omega)))))
   ·try simp only [puts, put, ↓reduceIte, reduceCtorEq, Nat.reduceEqDiff]
    repeat (first | exact trivial | (refine ⟨⟨_, rfl, ?_⟩, ?_⟩; focus (first | exact BLt.refl _ | (refine BLt.of_eq ?_; simp [h5, hfin]; done) | (refine BLt.of_eq ?_; simp [h5, hfin] <;> omega) | (refine BLt.pre ?_; simp [h5, hfin]; done) | (refine BLt.one ?_; (repeat (first | exact LtL.nil | (refine LtL.cons ?_ ?_; focus (first | exact Lt.refl _ | exact Lt.any _ | (refine Lt.nilb ?_; simp; done) | exact Lt.nilsl _ | (refine lt_frozB rfl rfl rfl rfl ?_ ?_ ?_ <;> (first | rfl | (simp [h5, hfin]; done) | (simp [h5, hfin] <;> omega)); done) | (refine lt_eq (congrArg (PV.int .i64) ?_); omega) | (refine lt_eq ?_; simp [h5, hfin]; done) | (refine lt_eq ?_; simp [h5, hfin] <;> omega))))); done) | (refine BLt.cell ?_ rfl rfl; (first | exact Lt.refl _ | exact Lt.any _ | (refine Lt.nilb ?_; simp; done) | exact Lt.nilsl _ | (refine lt_frozB rfl rfl rfl rfl ?_ ?_ ?_ <;> (first | rfl | (simp [h5, hfin]; done) | (simp [h5, hfin] <;> omega)); done) | (refine lt_eq (congrArg (PV.int .i64) ?_); omega) | (refine lt_eq ?_; simp [h5, hfin]; done) | (refine lt_eq ?_; simp [h5, hfin] <;> omega))))))
   ·simp
   ·simp [E.within, within_closed hclo]
   ·simp [E.within, within_closed hclo]
theorem swapR_L {X : Type} {pv : X → PV} (E : El true 3 pv) {clo : PV} (hclo : clo.closed = true) (A U M V B c c' : List X) (hc : c = A ++ (U ++ (M ++ (V ++ B)))) (hc' : c' = A ++ (V ++ (M ++ (U ++ B)))) (N : Nat) (hN : N = c.length) (a b n : Int) (ha : a = A.length) (hb : b = A.length + U.length + M.length) (hn : n = U.length) (hv : V.length = U.length) (hl : c.length < 2 ^ 31) :
    PBox Try.prog 96 [.bsl 0 0 3 0 N, .int .i64 a, .int .i64 b, .int .i64 n, clo] [(0, ⟨0, true, .arr 3 (c.map pv)⟩)] (.tup []) [(0, ⟨0, true, .arr 3 (c'.map pv)⟩)] := by
  have := swapR0_L E clo hclo c A.length (A.length + U.length + M.length) U.length (by rw [hc]; simp) (by rw [hc]; simp; omega) hl
  rw [show swapN U.length c A.length (A.length + U.length + M.length) = c' by rw [hc, hc']; exact swapN_blocks _ A U M V B _ _ rfl hv rfl rfl] at this
  subst hN ha hn
  rw [show b = ((A.length + U.length + M.length : Nat) : Int) by omega]
  exact this

set_option maxRecDepth 100000 in
set_option maxHeartbeats 4000000 in
theorem insS0_L {X : Type} {pv : X → PV} (E : El true 3 pv) {cmp : X → X → Int} {fc : FuncId} {cap : List PV} (he : Enters Try.prog fc) (hc : ∀ x y, PFun Try.prog fc (pv x :: pv y :: cap) (.int .i64 (cmp x y))) (hcap : (cap.all PV.closed) = true) (xs : List X) (a b : Nat) (ha : a ≤ xs.length) (hb : b ≤ xs.length) (hl : xs.length < 2 ^ 31) : PBox Try.prog 87 [.bsl 0 0 3 0 xs.length, .int .i64 (a : Nat), .int .i64 (b : Nat), .clo fc [] cap] [(0, ⟨0, true, .arr 3 (xs.map pv)⟩)] (.tup []) [(0, ⟨0, true, .arr 3 ((insI cmp a (b - (a + 1)) (a + 1) xs).map pv)⟩)] := by
 have hclo : (PV.clo fc [] cap).closed = true := by simp only [PV.closed, PV.within, PV.within.go, Bool.true_and]; exact withinL_of hcap
 have hw0 := wrap_i64 (n := (a : Int) + 1) (by omega) (by omega)
 refine PBox.of_bodyF Try.func87 rfl 53 rfl (by simp) fun c0 => ?_
 simp only [argL, Nat.reduceAdd]
 refine pw_seq_k fun K1 hK1 => ?_
 refine pw_region 0 ?_
 simp [sBinH, sBin, binop, E.ld, E.ok, E.set, E.len, toNat_add, List.getElem?_map, hw0]
 apply hK1; try clear hK1 K1
 refine pw_block ?_
 refine pw_loopF (α := Nat × (List X)) [0, 1, 2, 3] (fun s => [(8, .int .i64 (s.1 : Nat))]) (fun s => [(0, ⟨0, true, .arr 3 (s.2.map pv)⟩)]) (fun m s => m = b - s.1 ∧ a + 1 ≤ s.1 ∧ s.2.length = xs.length ∧ insI cmp a m s.1 s.2 = insI cmp a (b - (a + 1)) (a + 1) xs) (b - (a + 1)) (a + 1, xs) ?_ ?_ ?_
 ·(try dsimp only) <;> (exact ⟨rfl, Nat.le_refl _, rfl, rfl⟩)
 ·refine Wk.toF ?_ ?_ ?_ ?_ ?_
  ·try simp only [keepL, memL, cond_true, cond_false, ↓reduceIte, reduceCtorEq, Nat.reduceEqDiff, List.cons_append, List.nil_append, puts, put]
   repeat (first | exact trivial | (refine FLt.cons ?_ ?_; focus (first | exact Lt.refl _ | exact Lt.any _ | (refine lt_eq (congrArg (PV.int .i64) ?_); omega) | (refine lt_eq ?_; simp; done) | (refine lt_eq ?_; simp <;> omega))))
  ·try simp only [puts, put, ↓reduceIte, reduceCtorEq, Nat.reduceEqDiff]
   repeat (first | exact trivial | (refine ⟨⟨_, rfl, ?_⟩, ?_⟩; focus (first | exact BLt.refl _ | (refine BLt.of_eq ?_; simp; done) | (refine BLt.of_eq ?_; simp <;> omega))))
  ·simp
  ·simp [E.within, withinL_of hcap]
  ·simp [E.within, withinL_of hcap]
 ·intro m s hinv KL2 hKL2
  obtain ⟨i, ci⟩ := s
  try dsimp only at hinv
  obtain ⟨hk, hai, hcl, hf⟩ := hinv
  simp only [keepL, memL, cond_true, cond_false, ↓reduceIte, reduceCtorEq, Nat.reduceEqDiff, List.cons_append, List.nil_append, puts, put]
  refine pw_seq_k fun K3 hK3 => ?_
  refine pw_seq_k fun K4 hK4 => ?_
  refine pw_region 0 ?_
  simp [sBinH, sBin, binop, E.ld, E.ok, E.set, E.len, toNat_add, List.getElem?_map, hw0]
  apply hK4; try clear hK4 K4
  refine pw_cond _ rfl (fun h5 => ?_) (fun h5 => ?_)
  ·try simp at h5
   have hw3 := wrap_i64 (n := (i : Int) + 1) (by omega) (by omega)
   refine pw_skip ?_
   try simp only [thenP, inBlockP]
   apply hK3; try clear hK3 K3
   refine pw_seq_k fun K6 hK6 => ?_
   refine pw_block ?_
   refine pw_seq_k fun K7 hK7 => ?_
   refine pw_region 0 ?_
   simp [E.ld, E.ok, E.set, E.len, toNat_add, List.getElem?_map, hw0, h5, hw3]
   apply hK7; try clear hK7 K7
   refine pw_keep [0, 1, 2, 3, 8, 9] ?_
   simp only [keepL, memL, cond_true, cond_false, ↓reduceIte, reduceCtorEq, Nat.reduceEqDiff]
   refine pw_block ?_
   refine pw_loopF (α := Nat × (List X)) [0, 1, 2, 3, 8] (fun s => [(9, .int .i64 (s.1 : Nat))]) (fun s => [(0, ⟨0, true, .arr 3 (s.2.map pv)⟩)]) (fun m2 s => s.1 = m2 ∧ a ≤ s.1 ∧ s.1 < xs.length ∧ s.2.length = xs.length ∧ insJ cmp a s.1 s.2 = insJ cmp a i ci) (i) (i, ci) ?_ ?_ ?_
   ·(try dsimp only) <;> (exact ⟨rfl, by omega, by omega, hcl, rfl⟩)
   ·refine Wk.toF ?_ ?_ ?_ ?_ ?_
    ·try simp only [keepL, memL, cond_true, cond_false, ↓reduceIte, reduceCtorEq, Nat.reduceEqDiff, List.cons_append, List.nil_append, puts, put]
     repeat (first | exact trivial | (refine FLt.cons ?_ ?_; focus (first | exact Lt.refl _ | exact Lt.any _ | (refine lt_eq (congrArg (PV.int .i64) ?_); omega) | (refine lt_eq ?_; simp [h5]; done) | (refine lt_eq ?_; simp [h5] <;> omega))))
    ·try simp only [puts, put, ↓reduceIte, reduceCtorEq, Nat.reduceEqDiff]
     repeat (first | exact trivial | (refine ⟨⟨_, rfl, ?_⟩, ?_⟩; focus (first | exact BLt.refl _ | (refine BLt.of_eq ?_; simp [h5]; done) | (refine BLt.of_eq ?_; simp [h5] <;> omega))))
    ·simp
    ·simp [E.within, withinL_of hcap]
    ·simp [E.within, withinL_of hcap]
   ·intro m2 s hinv KL8 hKL8
    obtain ⟨j, c⟩ := s
    try dsimp only at hinv
    obtain ⟨hk2, haj, hj, hcl2, hf2⟩ := hinv
    simp only [keepL, memL, cond_true, cond_false, ↓reduceIte, reduceCtorEq, Nat.reduceEqDiff, List.cons_append, List.nil_append, puts, put]
    refine pw_seq_k fun K9 hK9 => ?_
    refine pw_seq_k fun K10 hK10 => ?_
    refine pw_region_draw mix 0 ?_
    refine pEv_split 4 fun Kr11 hKr11 => ?_
    simp [sBinH, sBin, binop, E.ld, E.ok, E.set, E.len, toNat_add, List.getElem?_map, hw0, h5, hw3]
    apply hKr11; clear hKr11 Kr11
    refine pEv_guard _ rfl (fun hg12 => ?_) (fun hg12 => ?_)
    ·have hgb12 := eq_of_beq hg12
     try simp only [Bool.not_true, Bool.not_false] at hgb12
     try simp at hg12
     obtain ⟨x, hx⟩ := getN (l := c) (k := j) (by omega)
     obtain ⟨y, hy⟩ := getN (l := c) (k := j - 1) (by omega)
     have hw1 := wrap_i64 (n := (j : Int) - 1) (by omega) (by omega)
     have ht1 : ((j : Int) - 1).toNat = j - 1 := by omega
     have hb1 : (1 : Int) ≤ (j : Int) := by omega
     have hb2 : 1 ≤ j := by omega
     have hb3 : (j : Int) - 1 < (xs.length : Int) := by omega
     refine pEv_split 4 fun Kr13 hKr13 => ?_
     simp [E.ld, E.ok, E.set, E.len, toNat_add, List.getElem?_map, hw0, h5, hw3, hg12, hgb12, hx, hy, hw1, ht1, hb1, hb2, hb3, hj]
     apply hKr13; clear hKr13 Kr13
     refine pEv_split 4 fun Kr14 hKr14 => ?_
     simp [sBinH, sBin, binop, E.ld, E.ok, E.set, E.len, toNat_add, List.getElem?_map, hw0, h5, hw3, hg12, hgb12, hx, hy, hw1, ht1, hb1, hb2, hb3, hj]
     apply hKr14; clear hKr14 Kr14
     refine pEv_split 2 fun Kr15 hKr15 => ?_
     simp [E.ld, E.ok, E.set, E.len, toNat_add, List.getElem?_map, hw0, h5, hw3, hg12, hgb12, hx, hy, hw1, ht1, hb1, hb2, hb3, hj]
     apply hKr15; clear hKr15 Kr15
     refine pEv_call' rfl rfl rfl (call_pure (hc _ _) he (by simp [E.cl, List.all_eq_true.1 hcap]; exact fun x hx => List.all_eq_true.1 hcap x hx) _) ?_
     simp [sBinH, sBin, binop, E.ld, E.ok, E.set, E.len, toNat_add, List.getElem?_map, hw0, h5, hw3, hg12, hgb12, hx, hy, hw1, ht1, hb1, hb2, hb3, hj]
     refine ⟨by decide +kernel, ?_⟩
     apply hK10; try clear hK10 K10
     refine pw_keep [0, 1, 2, 3, 8, 9, 34] ?_
     simp only [keepL, memL, cond_true, cond_false, ↓reduceIte, reduceCtorEq, Nat.reduceEqDiff]
     refine pw_cond _ rfl (fun h16 => ?_) (fun h16 => ?_)
     ·try simp at h16
      have hlt := h16
      obtain ⟨z, hz⟩ := getN (l := c.set j y) (k := j - 1) (by simp; omega)
      have hz2 : ((c.map pv).set j (pv y))[j - 1]? = some (pv z) := by rw [← List.map_set]; exact map_get hz
      have hms := map_swp (pv := pv) hx hy
      refine pw_skip ?_
      try simp only [thenP, inBlockP]
      apply hK9; try clear hK9 K9
      refine pw_seq_k fun K17 hK17 => ?_
      refine pw_block ?_
      refine pw_region_draw mix 0 ?_
      refine pEv_split 4 fun Kr18 hKr18 => ?_
      simp [E.ld, E.ok, E.set, E.len, toNat_add, List.getElem?_map, hw0, h5, hw3, hg12, hgb12, hx, hy, hw1, ht1, hb1, hb2, hb3, hj, h16, hz2, hms]
      apply hKr18; clear hKr18 Kr18
      refine pEv_split 4 fun Kr19 hKr19 => ?_
      simp [sBinH, sBin, binop, E.ld, E.ok, E.set, E.len, toNat_add, List.getElem?_map, hw0, h5, hw3, hg12, hgb12, hx, hy, hw1, ht1, hb1, hb2, hb3, hj, h16, hz2, hms]
      apply hKr19; clear hKr19 Kr19
      refine pEv_split 4 fun Kr20 hKr20 => ?_
      simp [E.ld, E.ok, E.set, E.len, toNat_add, List.getElem?_map, hw0, h5, hw3, hg12, hgb12, hx, hy, hw1, ht1, hb1, hb2, hb3, hj, h16, hz2, hms]
      apply hKr20; clear hKr20 Kr20
      refine pEv_split 4 fun Kr21 hKr21 => ?_
      simp [E.ld, E.ok, E.set, E.len, toNat_add, List.getElem?_map, hw0, h5, hw3, hg12, hgb12, hx, hy, hw1, ht1, hb1, hb2, hb3, hj, h16, hz2, hms]
      apply hKr21; clear hKr21 Kr21
      simp [E.ld, E.ok, E.set, E.len, toNat_add, List.getElem?_map, hw0, h5, hw3, hg12, hgb12, hx, hy, hw1, ht1, hb1, hb2, hb3, hj, h16, hz2, hms]
      refine ⟨by decide +kernel, ?_⟩
      apply hK17; try clear hK17 K17
      refine pw_keep [0, 1, 2, 3, 8, 9] ?_
      simp only [keepL, memL, cond_true, cond_false, ↓reduceIte, reduceCtorEq, Nat.reduceEqDiff]
      refine pw_region 0 ?_
      simp [sBinH, sBin, binop, E.ld, E.ok, E.set, E.len, toNat_add, List.getElem?_map, hw0, h5, hw3, hg12, hgb12, hx, hy, hw1, ht1, hb1, hb2, hb3, hj, h16, hz2, hms]
      refine hKL8 _ (m2 - 1) (j - 1, swp c j (j - 1)) ?_ ?_ ?_
      ·omega
      ·(try dsimp only) <;> (exact ⟨by omega, by omega, by omega, by rw [swp_len]; exact hcl2, by rw [← hf2, insJ_step (by omega) hx hy hlt]⟩)
      ·refine Wk.toF ?_ ?_ ?_ ?_ ?_
       ·try simp only [keepL, memL, cond_true, cond_false, ↓reduceIte, reduceCtorEq, Nat.reduceEqDiff, List.cons_append, List.nil_append, puts, put]
        repeat (first | exact trivial | (refine FLt.cons ?_ ?_; focus (first | exact Lt.refl _ | exact Lt.any _ | (refine lt_eq (congrArg (PV.int .i64) ?_); omega) | (refine lt_eq ?_; simp [h5, hg12, hgb12, hj, h16, hz2, hms]; done) | (refine lt_eq ?_; simp [h5, hg12, hgb12, hj, h16, hz2, hms] <;> omega))))
       ·try simp only [puts, put, ↓reduceIte, reduceCtorEq, Nat.reduceEqDiff]
        repeat (first | exact trivial | (refine ⟨⟨_, rfl, ?_⟩, ?_⟩; focus (first | exact BLt.refl _ | (refine BLt.of_eq ?_; simp [h5, hg12, hgb12, hj, h16, hz2, hms]; done) | (refine BLt.of_eq ?_; simp [h5, hg12, hgb12, hj, h16, hz2, hms] <;> omega))))
       ·simp
       ·simp [E.within, withinL_of hcap]
       ·simp [E.within, withinL_of hcap]
     ·try simp at h16
      have hfin : insJ cmp a i ci = c := by rw [← hf2]; exact insJ_stop2 hx hy (by omega)
      refine pw_exit ?_
      simp [thenP, inBlockP]
      apply hK6; try clear hK6 K6
      refine pw_region 0 ?_
      simp [sBinH, sBin, binop, E.ld, E.ok, E.set, E.len, toNat_add, List.getElem?_map, hw0, h5, hw3, hg12, hgb12, hx, hy, hw1, ht1, hb1, hb2, hb3, hj, h16]
      refine hKL2 _ (m - 1) (i + 1, c) ?_ ?_ ?_
      ·omega
      ·(try dsimp only) <;> (exact ⟨by omega, by omega, by rw [hcl2], by rw [← hf, show m = (m - 1) + 1 by omega, insI, hfin]; simp⟩)
      ·refine Wk.toF ?_ ?_ ?_ ?_ ?_
       ·try simp only [keepL, memL, cond_true, cond_false, ↓reduceIte, reduceCtorEq, Nat.reduceEqDiff, List.cons_append, List.nil_append, puts, put]
        repeat (first | exact trivial | (refine FLt.cons ?_ ?_; focus (first | exact Lt.refl _ | exact Lt.any _ | (refine lt_eq (congrArg (PV.int .i64) ?_); omega) | (refine lt_eq ?_; simp [h5, hg12, hgb12, hj, h16]; done) | (refine lt_eq ?_; simp [h5, hg12, hgb12, hj, h16] <;> omega))))
       ·try simp only [puts, put, ↓reduceIte, reduceCtorEq, Nat.reduceEqDiff]
        repeat (first | exact trivial | (refine ⟨⟨_, rfl, ?_⟩, ?_⟩; focus (first | exact BLt.refl _ | (refine BLt.of_eq ?_; simp [h5, hg12, hgb12, hj, h16]; done) | (refine BLt.of_eq ?_; simp [h5, hg12, hgb12, hj, h16] <;> omega))))
       ·simp
       ·simp [E.within, withinL_of hcap]
       ·simp [E.within, withinL_of hcap]
    ·have hgb12 := beq_off hg12
     try simp only [Bool.not_true, Bool.not_false] at hgb12
     try simp at hg12
     have hfin : insJ cmp a i ci = c := by rw [← hf2]; exact insJ_stop1 (by omega)
     refine pEv_split 4 fun Kr22 hKr22 => ?_
     simp [E.ld, E.ok, E.set, E.len, toNat_add, List.getElem?_map, hw0, h5, hw3, hg12, hgb12]
     apply hKr22; clear hKr22 Kr22
     refine pEv_split 4 fun Kr23 hKr23 => ?_
     simp [sBinH, sBin, binop, E.ld, E.ok, E.set, E.len, toNat_add, List.getElem?_map, hw0, h5, hw3, hg12, hgb12]
     apply hKr23; clear hKr23 Kr23
     refine pEv_split 4 fun Kr24 hKr24 => ?_
     simp [sBinH, sBin, binop, E.ld, E.ok, E.set, E.len, toNat_add, List.getElem?_map, hw0, h5, hw3, hg12, hgb12]
     apply hKr24; clear hKr24 Kr24
     simp [E.ld, E.ok, E.set, E.len, toNat_add, List.getElem?_map, hw0, h5, hw3, hg12, hgb12]
     refine ⟨by decide +kernel, ?_⟩
     apply hK10; try clear hK10 K10
     refine pw_keep [0, 1, 2, 3, 8, 9, 34] ?_
     simp only [keepL, memL, cond_true, cond_false, ↓reduceIte, reduceCtorEq, Nat.reduceEqDiff]
     refine pw_cond _ rfl (fun h25 => ?_) (fun h25 => ?_)
     ·simp at h25
     ·clear h25
      refine pw_exit ?_
      simp [thenP, inBlockP]
      apply hK6; try clear hK6 K6
      refine pw_region 0 ?_
      simp [sBinH, sBin, binop, E.ld, E.ok, E.set, E.len, toNat_add, List.getElem?_map, hw0, h5, hw3, hg12, hgb12]
      refine hKL2 _ (m - 1) (i + 1, c) ?_ ?_ ?_
      ·omega
      ·(try dsimp only) <;> (exact ⟨by omega, by omega, by rw [hcl2], by rw [← hf, show m = (m - 1) + 1 by omega, insI, hfin]; simp⟩)
      ·refine Wk.toF ?_ ?_ ?_ ?_ ?_
       ·try simp only [keepL, memL, cond_true, cond_false, ↓reduceIte, reduceCtorEq, Nat.reduceEqDiff, List.cons_append, List.nil_append, puts, put]
        repeat (first | exact trivial | (refine FLt.cons ?_ ?_; focus (first | exact Lt.refl _ | exact Lt.any _ | (refine lt_eq (congrArg (PV.int .i64) ?_); omega) | (refine lt_eq ?_; simp [h5, hg12, hgb12]; done) | (refine lt_eq ?_; simp [h5, hg12, hgb12] <;> omega))))
       ·try simp only [puts, put, ↓reduceIte, reduceCtorEq, Nat.reduceEqDiff]
        repeat (first | exact trivial | (refine ⟨⟨_, rfl, ?_⟩, ?_⟩; focus (first | exact BLt.refl _ | (refine BLt.of_eq ?_; simp [h5, hg12, hgb12]; done) | (refine BLt.of_eq ?_; simp [h5, hg12, hgb12] <;> omega))))
       ·simp
       ·simp [E.within, withinL_of hcap]
       ·simp [E.within, withinL_of hcap]
  ·try simp at h5
   have hfin0 : ci = insI cmp a (b - (a + 1)) (a + 1) xs := by rw [← hf, show m = 0 by omega]; rfl
   refine pw_exit ?_
   simp [thenP, inBlockP]
   try simp only [thenP, inBlockP]
   refine bodyW_fr (by first | exact .inl rfl | exact .inr rfl) _ rfl ?_
   refine Wk.to ?_ ?_ ?_ ?_ ?_
   ·try simp only [keepL, memL, cond_true, cond_false, ↓reduceIte, reduceCtorEq, Nat.reduceEqDiff, List.cons_append, List.nil_append, puts, put]
    (repeat (first | exact LtL.nil | (refine LtL.cons ?_ ?_; focus (first | exact Lt.refl _ | exact Lt.any _ | (refine Lt.nilb ?_; simp; done) | exact Lt.nilsl _ | (refine lt_frozB rfl rfl rfl rfl ?_ ?_ ?_ <;> (first | rfl | (simp [h5, hfin0]; done) | (simp [h5, hfin0] <;> omega)); done) | (refine lt_eq (congrArg (PV.int .i64) ?_); omega) | (refine lt_eq ?_; simp [h5, hfin0]; done) | (refine lt_eq ?_; simp [h5, hfin0] <;> omega)))))
   ·try simp only [puts, put, ↓reduceIte, reduceCtorEq, Nat.reduceEqDiff]
    repeat (first | exact trivial | (refine ⟨⟨_, rfl, ?_⟩, ?_⟩; focus (first | exact BLt.refl _ | (refine BLt.of_eq ?_; simp [h5, hfin0]; done) | (refine BLt.of_eq ?_; simp [h5, hfin0] <;> omega) | (refine BLt.pre ?_; simp [h5, hfin0]; done) | (refine BLt.one ?_; (repeat (first | exact LtL.nil | (refine LtL.cons ?_ ?_; focus (first | exact Lt.refl _ | exact Lt.any _ | (refine Lt.nilb ?_; simp; done) | exact Lt.nilsl _ | (refine lt_frozB rfl rfl rfl rfl ?_ ?_ ?_ <;> (first | rfl | (simp [h5, hfin0]; done) | (simp [h5, hfin0] <;> omega)); done) | (refine lt_eq (congrArg (PV.int .i64) ?_); omega) | (refine lt_eq ?_; simp [h5, hfin0]; done) | (refine lt_eq ?_; simp [h5, hfin0] <;> omega))))); done) | (refine BLt.cell ?_ rfl rfl; (first | exact Lt.refl _ | exact Lt.any _ | (refine Lt.nilb ?_; simp; done) | exact Lt.nilsl _ | (refine lt_frozB rfl rfl rfl rfl ?_ ?_ ?_ <;> (first | rfl | (simp [h5, hfin0]; done) | (simp [h5, hfin0] <;> omega)); done) | (refine lt_eq (congrArg (PV.int .i64) ?_); omega) | (refine lt_eq ?_; simp [h5, hfin0]; done) | (refine lt_eq ?_; simp [h5, hfin0] <;> omega))))))
   ·simp
   ·simp [E.within, withinL_of hcap]
   ·simp [E.within, withinL_of hcap]
theorem insS_L {X : Type} {pv : X → PV} (E : El true 3 pv) {cmp : X → X → Int} {fc : FuncId} {cap : List PV} (he : Enters Try.prog fc) (hc : ∀ x y, PFun Try.prog fc (pv x :: pv y :: cap) (.int .i64 (cmp x y))) (hcap : (cap.all PV.closed) = true) (A U B c c' : List X) (hcc : c = A ++ (U ++ B)) (hcc' : c' = A ++ (sortBy cmp U ++ B)) (N : Nat) (hN : N = c.length) (a b : Int) (ha : a = A.length) (hb : b = A.length + U.length) (hl : c.length < 2 ^ 31) :
    PBox Try.prog 87 [.bsl 0 0 3 0 N, .int .i64 a, .int .i64 b, .clo fc [] cap] [(0, ⟨0, true, .arr 3 (c.map pv)⟩)] (.tup []) [(0, ⟨0, true, .arr 3 (c'.map pv)⟩)] := by
  have := insS0_L E he hc hcap c A.length (A.length + U.length) (by rw [hcc]; simp) (by rw [hcc]; simp [← Nat.add_assoc]) hl
  rw [show insI cmp A.length (A.length + U.length - (A.length + 1)) (A.length + 1) c = c' by rw [hcc, hcc', show A.length + U.length - (A.length + 1) = U.length - 1 by omega]; exact insI_all cmp A U B] at this
  subst hN ha
  rw [show b = ((A.length + U.length : Nat) : Int) by omega]
  exact this

set_option maxRecDepth 100000 in
set_option maxHeartbeats 4000000 in
theorem rot0_L {X : Type} {pv : X → PV} (E : El true 3 pv) (clo : PV) (hclo : clo.closed = true) (A U0 V0 B xs ys : List X) (hxs : xs = A ++ (U0 ++ (V0 ++ B))) (hys : ys = A ++ (V0 ++ (U0 ++ B))) (a m b : Nat) (ha : A.length = a) (hm : a + U0.length = m) (hb : m + V0.length = b) (hu0 : 0 < U0.length) (hv0 : 0 < V0.length) (hl : xs.length < 2 ^ 31) : PBox Try.prog 92 [.bsl 0 0 3 0 xs.length, .int .i64 (a : Nat), .int .i64 (m : Nat), .int .i64 (b : Nat), clo] [(0, ⟨0, true, .arr 3 (xs.map pv)⟩)] (.tup []) [(0, ⟨0, true, .arr 3 (ys.map pv)⟩)] := by
 have hxl : xs.length = a + U0.length + V0.length + B.length := by rw [hxs]; simp; omega
 have hw1 := wrap_i64 (n := (m : Int) - a) (by omega) (by omega)
 have hw2 := wrap_i64 (n := (b : Int) - m) (by omega) (by omega)
 have hw3 : (m : Int) - a = (U0.length : Int) := by omega
 have hw4 : (b : Int) - m = (V0.length : Int) := by omega
 refine PBox.of_bodyF Try.func92 rfl 58 rfl (by simp) fun c0 => ?_
 simp only [argL, Nat.reduceAdd]
 refine pw_seq_k fun K1 hK1 => ?_
 refine pw_region 0 ?_
 simp [sBinH, sBin, binop, E.ld, E.ok, E.set, E.len, toNat_add, List.getElem?_map, hw1, hw2]
 apply hK1; try clear hK1 K1
 refine pw_keep [0, 2, 3, 4, 10] ?_
 simp only [keepL, memL, cond_true, cond_false, ↓reduceIte, reduceCtorEq, Nat.reduceEqDiff]
 refine pw_seq_k fun K2 hK2 => ?_
 refine pw_region 0 ?_
 simp [sBinH, sBin, binop, E.ld, E.ok, E.set, E.len, toNat_add, List.getElem?_map, hw1, hw2]
 apply hK2; try clear hK2 K2
 refine pw_keep [0, 2, 4, 10, 11] ?_
 simp only [keepL, memL, cond_true, cond_false, ↓reduceIte, reduceCtorEq, Nat.reduceEqDiff]
 refine pw_seq_k fun K3 hK3 => ?_
 refine pw_block ?_
 refine pw_loopF (α := Nat × Nat × (List X) × (List X) × (List X) × (List X) × (List X)) [0, 2, 4] (fun s => [(10, .int .i64 (s.1 : Nat)), (11, .int .i64 (s.2.1 : Nat))]) (fun s => [(0, ⟨0, true, .arr 3 (s.2.2.1.map pv)⟩)]) (fun m0 s => m0 = s.1 + s.2.1 ∧ 0 < s.1 ∧ 0 < s.2.1 ∧ s.2.2.1 = s.2.2.2.1 ++ (s.2.2.2.2.1 ++ (s.2.2.2.2.2.1 ++ s.2.2.2.2.2.2)) ∧ s.2.2.1.length = xs.length ∧ s.2.2.2.1.length + s.1 = m ∧ s.2.2.2.2.1.length = s.1 ∧ s.2.2.2.2.2.1.length = s.2.1 ∧ ys = s.2.2.2.1 ++ (s.2.2.2.2.2.1 ++ (s.2.2.2.2.1 ++ s.2.2.2.2.2.2))) (U0.length + V0.length) (U0.length, V0.length, xs, A, U0, V0, B) ?_ ?_ ?_
 ·(try dsimp only) <;> (exact ⟨rfl, hu0, hv0, hxs, rfl, by omega, rfl, rfl, hys⟩)
 ·refine Wk.toF ?_ ?_ ?_ ?_ ?_
  ·try simp only [keepL, memL, cond_true, cond_false, ↓reduceIte, reduceCtorEq, Nat.reduceEqDiff, List.cons_append, List.nil_append, puts, put]
   repeat (first | exact trivial | (refine FLt.cons ?_ ?_; focus (first | exact Lt.refl _ | exact Lt.any _ | (refine lt_eq (congrArg (PV.int .i64) ?_); omega) | (refine lt_eq ?_; simp; done) | (refine lt_eq ?_; simp <;> omega))))
  ·try simp only [puts, put, ↓reduceIte, reduceCtorEq, Nat.reduceEqDiff]
   repeat (first | exact trivial | (refine ⟨⟨_, rfl, ?_⟩, ?_⟩; focus (first | exact BLt.refl _ | (refine BLt.of_eq ?_; simp; done) | (refine BLt.of_eq ?_; simp <;> omega))))
  ·simp
  ·simp [E.within, within_closed hclo]
  ·simp [E.within, within_closed hclo]
 ·intro m0 s hinv KL4 hKL4
  obtain ⟨i, j, c, P, U, V, R⟩ := s
  try dsimp only at hinv
  obtain ⟨hk, hi0, hj0, hcc, hcl, hP, hU, hV, hT⟩ := hinv
  have hmm : m + V.length ≤ xs.length := by rw [← hcl, hcc]; simp; omega
  simp only [keepL, memL, cond_true, cond_false, ↓reduceIte, reduceCtorEq, Nat.reduceEqDiff, List.cons_append, List.nil_append, puts, put]
  refine pw_seq_k fun K5 hK5 => ?_
  refine pw_seq_k fun K6 hK6 => ?_
  refine pw_region 0 ?_
  simp [sBinH, sBin, binop, E.ld, E.ok, E.set, E.len, toNat_add, List.getElem?_map, hw1, hw2]
  apply hK6; try clear hK6 K6
  refine pw_cond _ rfl (fun h7 => ?_) (fun h7 => ?_)
  ·try simp at h7
   have hwa := wrap_i64 (n := (m : Int) - i) (by omega) (by omega)
   have hne : i ≠ j := by omega
   refine pw_skip ?_
   try simp only [thenP, inBlockP]
   apply hK5; try clear hK5 K5
   refine pw_block ?_
   refine pw_seq_k fun K8 hK8 => ?_
   refine pw_region 0 ?_
   simp [sBinH, sBin, binop, E.ld, E.ok, E.set, E.len, toNat_add, List.getElem?_map, hw1, hw2, h7, hwa]
   apply hK8; try clear hK8 K8
   refine pw_keep [0, 2, 4, 10, 11, 23] ?_
   simp only [keepL, memL, cond_true, cond_false, ↓reduceIte, reduceCtorEq, Nat.reduceEqDiff]
   refine pw_cond _ rfl (fun h9 => ?_) (fun h9 => ?_)
   ·try simp at h9
    obtain ⟨U1, U2, rfl, hU1⟩ : ∃ U1 U2, U = U1 ++ U2 ∧ U1.length = j := ⟨U.take j, U.drop j, by simp, by simp; omega⟩
    simp only [List.length_append] at hU
    have hwb := wrap_i64 (n := (i : Int) - j) (by omega) (by omega)
    obtain ⟨c', hc'⟩ : ∃ c', c' = P ++ (V ++ (U2 ++ (U1 ++ R))) := ⟨_, rfl⟩
    refine pw_seq_k fun K10 hK10 => ?_
    refine pw_region 0 ?_
    refine pEv0_split 4 fun Kr11 hKr11 => ?_
    simp [sBinH, sBin, binop, E.ld, E.ok, E.set, E.len, toNat_add, List.getElem?_map, hw1, hw2, h7, hwa, h9, hwb]
    apply hKr11; clear hKr11 Kr11
    refine pEv0_split 3 fun Kr12 hKr12 => ?_
    simp [E.ld, E.ok, E.set, E.len, toNat_add, List.getElem?_map, hw1, hw2, h7, hwa, h9, hwb]
    apply hKr12; clear hKr12 Kr12
    refine pEv0_call' rfl rfl rfl ((call_row (swapR_L E hclo P U1 U2 V R c c' (by rw [hcc]; simp) hc' _ (by rw [hcl]) _ _ _ (by omega) (by omega) (by omega) (by omega) (by omega)) en96 (by simp [hclo]) rfl (E.all _) (E.all _) rfl)) ?_
    simp [E.ld, E.ok, E.set, E.len, toNat_add, List.getElem?_map, hw1, hw2, h7, hwa, h9, hwb]
    apply hK10; try clear hK10 K10
    refine pw_keep [0, 2, 4, 10, 11] ?_
    simp only [keepL, memL, cond_true, cond_false, ↓reduceIte, reduceCtorEq, Nat.reduceEqDiff]
    refine pw_region 0 ?_
    simp [sBinH, sBin, binop, E.ld, E.ok, E.set, E.len, toNat_add, List.getElem?_map, hw1, hw2, h7, hwa, h9, hwb]
    refine hKL4 _ (i) (i - j, j, c', P ++ V, U2, U1, R) ?_ ?_ ?_
    ·omega
    ·(try dsimp only) <;> (exact ⟨by omega, by omega, hj0, by rw [hc']; simp, by rw [← hcl, hcc, hc']; simp; omega, by simp; omega, by omega, hU1, by rw [hT]; simp⟩)
    ·refine Wk.toF ?_ ?_ ?_ ?_ ?_
     ·try simp only [keepL, memL, cond_true, cond_false, ↓reduceIte, reduceCtorEq, Nat.reduceEqDiff, List.cons_append, List.nil_append, puts, put]
      repeat (first | exact trivial | (refine FLt.cons ?_ ?_; focus (first | exact Lt.refl _ | exact Lt.any _ | (refine lt_eq (congrArg (PV.int .i64) ?_); omega) | (refine lt_eq ?_; simp [h7, h9]; done) | (refine lt_eq ?_; simp [h7, h9] <;> omega))))
     ·try simp only [puts, put, ↓reduceIte, reduceCtorEq, Nat.reduceEqDiff]
      repeat (first | exact trivial | (refine ⟨⟨_, rfl, ?_⟩, ?_⟩; focus (first | exact BLt.refl _ | (refine BLt.of_eq ?_; simp [h7, h9]; done) | (refine BLt.of_eq ?_; simp [h7, h9] <;> omega))))
     ·simp
     ·simp [E.within, within_closed hclo]
     ·simp [E.within, within_closed hclo]
   ·try simp at h9
    obtain ⟨V1, V2, rfl, hV2⟩ : ∃ V1 V2, V = V1 ++ V2 ∧ V2.length = i := ⟨V.take (j - i), V.drop (j - i), by simp, by simp; omega⟩
    simp only [List.length_append] at hV hmm
    have hwb := wrap_i64 (n := (j : Int) - i) (by omega) (by omega)
    have hwc := wrap_i64 (n := (m : Int) + j) (by omega) (by omega)
    have hwd := wrap_i64 (n := (m : Int) + j - i) (by omega) (by omega)
    obtain ⟨c', hc'⟩ : ∃ c', c' = P ++ (V2 ++ (V1 ++ (U ++ R))) := ⟨_, rfl⟩
    refine pw_seq_k fun K13 hK13 => ?_
    refine pw_region 0 ?_
    refine pEv0_split 4 fun Kr14 hKr14 => ?_
    simp [sBinH, sBin, binop, E.ld, E.ok, E.set, E.len, toNat_add, List.getElem?_map, hw1, hw2, h7, hwa, h9, hwb, hwc, hwd]
    apply hKr14; clear hKr14 Kr14
    refine pEv0_split 4 fun Kr15 hKr15 => ?_
    simp [sBinH, sBin, binop, E.ld, E.ok, E.set, E.len, toNat_add, List.getElem?_map, hw1, hw2, h7, hwa, h9, hwb, hwc, hwd]
    apply hKr15; clear hKr15 Kr15
    refine pEv0_split 3 fun Kr16 hKr16 => ?_
    simp [sBinH, sBin, binop, E.ld, E.ok, E.set, E.len, toNat_add, List.getElem?_map, hw1, hw2, h7, hwa, h9, hwb, hwc, hwd]
    apply hKr16; clear hKr16 Kr16
    refine pEv0_call' rfl rfl rfl ((call_row (swapR_L E hclo P U V1 V2 R c c' (by rw [hcc]; simp) hc' _ (by rw [hcl]) _ _ _ (by omega) (by omega) (by omega) (by omega) (by omega)) en96 (by simp [hclo]) rfl (E.all _) (E.all _) rfl)) ?_
    simp [E.ld, E.ok, E.set, E.len, toNat_add, List.getElem?_map, hw1, hw2, h7, hwa, h9, hwb, hwc, hwd]
    apply hK13; try clear hK13 K13
    refine pw_keep [0, 2, 4, 10, 11] ?_
    simp only [keepL, memL, cond_true, cond_false, ↓reduceIte, reduceCtorEq, Nat.reduceEqDiff]
    refine pw_region 0 ?_
    simp [sBinH, sBin, binop, E.ld, E.ok, E.set, E.len, toNat_add, List.getElem?_map, hw1, hw2, h7, hwa, h9, hwb, hwc, hwd]
    refine hKL4 _ (j) (i, j - i, c', P, V2, V1, U ++ R) ?_ ?_ ?_
    ·omega
    ·(try dsimp only) <;> (exact ⟨by omega, hi0, by omega, by rw [hc'], by rw [← hcl, hcc, hc']; simp; omega, hP, hV2, by omega, by rw [hT]; simp⟩)
    ·refine Wk.toF ?_ ?_ ?_ ?_ ?_
     ·try simp only [keepL, memL, cond_true, cond_false, ↓reduceIte, reduceCtorEq, Nat.reduceEqDiff, List.cons_append, List.nil_append, puts, put]
      repeat (first | exact trivial | (refine FLt.cons ?_ ?_; focus (first | exact Lt.refl _ | exact Lt.any _ | (refine lt_eq (congrArg (PV.int .i64) ?_); omega) | (refine lt_eq ?_; simp [h7, h9]; done) | (refine lt_eq ?_; simp [h7, h9] <;> omega))))
     ·try simp only [puts, put, ↓reduceIte, reduceCtorEq, Nat.reduceEqDiff]
      repeat (first | exact trivial | (refine ⟨⟨_, rfl, ?_⟩, ?_⟩; focus (first | exact BLt.refl _ | (refine BLt.of_eq ?_; simp [h7, h9]; done) | (refine BLt.of_eq ?_; simp [h7, h9] <;> omega))))
     ·simp
     ·simp [E.within, within_closed hclo]
     ·simp [E.within, within_closed hclo]
  ·try simp at h7
   have hwa := wrap_i64 (n := (m : Int) - i) (by omega) (by omega)
   have hwb := wrap_i64 (n := (m : Int) - j) (by omega) (by omega)
   have hij : i = j := by omega
   obtain ⟨c', hc'⟩ : ∃ c', c' = P ++ (V ++ (U ++ R)) := ⟨_, rfl⟩
   have hfin : c' = ys := by rw [hc', hT]
   refine pw_exit ?_
   simp [thenP, inBlockP]
   apply hK3; try clear hK3 K3
   refine pw_keep [0, 2, 4, 10] ?_
   simp only [keepL, memL, cond_true, cond_false, ↓reduceIte, reduceCtorEq, Nat.reduceEqDiff]
   refine pw_region 0 ?_
   refine pEv0_split 4 fun Kr17 hKr17 => ?_
   simp [sBinH, sBin, binop, E.ld, E.ok, E.set, E.len, toNat_add, List.getElem?_map, hw1, hw2, h7, hwa, hwb, hfin]
   apply hKr17; clear hKr17 Kr17
   refine pEv0_split 3 fun Kr18 hKr18 => ?_
   simp [E.ld, E.ok, E.set, E.len, toNat_add, List.getElem?_map, hw1, hw2, h7, hwa, hwb, hfin]
   apply hKr18; clear hKr18 Kr18
   refine pEv0_call' rfl rfl rfl ((call_row (swapR_L E hclo P U [] V R c c' (by rw [hcc]; simp) hc' _ (by rw [hcl]) _ _ _ (by omega) (by simp; omega) (by omega) (by omega) (by omega)) en96 (by simp [hclo]) rfl (E.all _) (E.all _) rfl)) ?_
   simp [E.ld, E.ok, E.set, E.len, toNat_add, List.getElem?_map, hw1, hw2, h7, hwa, hwb, hfin]
   try simp only [thenP, inBlockP]
   refine bodyW_fr (by first | exact .inl rfl | exact .inr rfl) _ rfl ?_
   refine Wk.to ?_ ?_ ?_ ?_ ?_
   ·try simp only [keepL, memL, cond_true, cond_false, ↓reduceIte, reduceCtorEq, Nat.reduceEqDiff, List.cons_append, List.nil_append, puts, put]
    (repeat (first | exact LtL.nil | (refine LtL.cons ?_ ?_; focus (first | exact Lt.refl _ | exact Lt.any _ | (refine Lt.nilb ?_; simp; done) | exact Lt.nilsl _ | (refine lt_frozB rfl rfl rfl rfl ?_ ?_ ?_ <;> (first | rfl | (simp [h7, hfin]; done) | (simp [h7, hfin] <;> omega)); done) | (refine lt_eq (congrArg (PV.int .i64) ?_); omega) | (refine lt_eq ?_; simp [h7, hfin]; done) | (refine lt_eq ?_; simp [h7, hfin] <;> omega)))))
   ·try simp only [puts, put, ↓reduceIte, reduceCtorEq, Nat.reduceEqDiff]
    repeat (first | exact trivial | (refine ⟨⟨_, rfl, ?_⟩, ?_⟩; focus (first | exact BLt.refl _ | (refine BLt.of_eq ?_; simp [h7, hfin]; done) | (refine BLt.of_eq ?_; simp [h7, hfin] <;> omega) | (refine BLt.pre ?_; simp [h7, hfin]; done) | (refine BLt.one ?_; (repeat (first | exact LtL.nil | (refine LtL.cons ?_ ?_; focus (first | exact Lt.refl _ | exact Lt.any _ | (refine Lt.nilb ?_; simp; done) | exact Lt.nilsl _ | (refine lt_frozB rfl rfl rfl rfl ?_ ?_ ?_ <;> (first | rfl | (simp [h7, hfin]; done) | (simp [h7, hfin] <;> omega)); done) | (refine lt_eq (congrArg (PV.int .i64) ?_); omega) | (refine lt_eq ?_; simp [h7, hfin]; done) | (refine lt_eq ?_; simp [h7, hfin] <;> omega))))); done) | (refine BLt.cell ?_ rfl rfl; (first | exact Lt.refl _ | exact Lt.any _ | (refine Lt.nilb ?_; simp; done) | exact Lt.nilsl _ | (refine lt_frozB rfl rfl rfl rfl ?_ ?_ ?_ <;> (first | rfl | (simp [h7, hfin]; done) | (simp [h7, hfin] <;> omega)); done) | (refine lt_eq (congrArg (PV.int .i64) ?_); omega) | (refine lt_eq ?_; simp [h7, hfin]; done) | (refine lt_eq ?_; simp [h7, hfin] <;> omega))))))
   ·simp
   ·simp [E.within, within_closed hclo]
   ·simp [E.within, within_closed hclo]
theorem rot_L {X : Type} {pv : X → PV} (E : El true 3 pv) {clo : PV} (hclo : clo.closed = true) (A U V B c c' : List X) (hcc : c = A ++ (U ++ (V ++ B))) (hcc' : c' = A ++ (V ++ (U ++ B))) (N : Nat) (hN : N = c.length) (a m b : Int) (ha : a = A.length) (hm : m = A.length + U.length) (hb : b = A.length + U.length + V.length) (hu : 0 < U.length) (hv : 0 < V.length) (hl : c.length < 2 ^ 31) :
    PBox Try.prog 92 [.bsl 0 0 3 0 N, .int .i64 a, .int .i64 m, .int .i64 b, clo] [(0, ⟨0, true, .arr 3 (c.map pv)⟩)] (.tup []) [(0, ⟨0, true, .arr 3 (c'.map pv)⟩)] := by
  have := rot0_L E clo hclo A U V B c c' hcc hcc' A.length (A.length + U.length) (A.length + U.length + V.length) rfl rfl rfl hu hv hl
  subst hN ha
  rw [show m = ((A.length + U.length : Nat) : Int) by omega, show b = ((A.length + U.length + V.length : Nat) : Int) by omega]
  exact this

set_option maxRecDepth 100000 in
set_option maxHeartbeats 4000000 in
theorem symM0_L {X : Type} {pv : X → PV} (E : El true 3 pv) {cmp : X → X → Int} {fc : FuncId} {cap : List PV} (he : Enters Try.prog fc) (hc : ∀ x y, PFun Try.prog fc (pv x :: pv y :: cap) (.int .i64 (cmp x y))) (hcap : (cap.all PV.closed) = true) (h : TP cmp) (N : Nat) : ∀ (A U V B xs ys : List X) (a m b : Nat), U.length + V.length ≤ N → Sorted cmp U → Sorted cmp V → 0 < U.length → 0 < V.length → xs = A ++ (U ++ (V ++ B)) → ys = A ++ (sortBy cmp (U ++ V) ++ B) → A.length = a → a + U.length = m → m + V.length = b → xs.length < 2 ^ 31 → PBox Try.prog 88 [.bsl 0 0 3 0 xs.length, .int .i64 (a : Nat), .int .i64 (m : Nat), .int .i64 (b : Nat), .clo fc [] cap] [(0, ⟨0, true, .arr 3 (xs.map pv)⟩)] (.tup []) [(0, ⟨0, true, .arr 3 (ys.map pv)⟩)] := by
 refine Nat.strongRecOn N ?_
 clear N
 intro N ih A U V B xs ys a m b hN hsu hsv hu0 hv0 hxs hys ha hm hb hl
 have hclo : (PV.clo fc [] cap).closed = true := by simp only [PV.closed, PV.within, PV.within.go, Bool.true_and]; exact withinL_of hcap
 have hxl : xs.length = a + U.length + V.length + B.length := by rw [hxs]; simp; omega
 have hw1 := wrap_i64 (n := (m : Int) - a) (by omega) (by omega)
 have hw2 := wrap_i64 (n := (b : Int) - m) (by omega) (by omega)
 have hw3 := wrap_i64 (n := (a : Int) + b) (by omega) (by omega)
 refine PBox.of_bodyF Try.func88 rfl 220 rfl (by simp) fun c0 => ?_
 simp only [argL, Nat.reduceAdd]
 refine pw_seq_k fun K1 hK1 => ?_
 refine pw_seq_k fun K2 hK2 => ?_
 refine pw_region 0 ?_
 simp [sBinH, sBin, binop, E.ld, E.ok, E.set, E.len, toNat_add, List.getElem?_map, hw1, hw2, IntKind.bits]
 apply hK2; try clear hK2 K2
 refine pw_cond _ rfl (fun h3 => ?_) (fun h3 => ?_)
 ·try simp at h3
  obtain ⟨x, rfl⟩ : ∃ x, U = [x] := List.length_eq_one_iff.1 (by omega)
  simp only [List.length_singleton] at hm hxl
  have hx : xs[a]? = some x := by rw [hxs]; exact get_mid A _ x ha.symm
  have hab : a < xs.length := by omega
  have hX := gE hx
  refine pw_seq_k fun K4 hK4 => ?_
  refine pw_region 0 ?_
  simp [E.ld, E.ok, E.set, E.len, toNat_add, List.getElem?_map, hw1, hw2, IntKind.bits, h3, hx, hab, hX]
  apply hK4; try clear hK4 K4
  refine pw_keep [0, 1, 3, 4, 10] ?_
  simp only [keepL, memL, cond_true, cond_false, ↓reduceIte, reduceCtorEq, Nat.reduceEqDiff]
  refine pw_seq_k fun K5 hK5 => ?_
  refine pw_region 0 ?_
  simp [E.ld, E.ok, E.set, E.len, toNat_add, List.getElem?_map, hw1, hw2, IntKind.bits, h3, hx, hab, hX]
  apply hK5; try clear hK5 K5
  refine pw_seq_k fun K6 hK6 => ?_
  refine pw_block ?_
  refine pw_loopF (α := Nat × Nat) [0, 1, 4] (fun s => [(10, .int .i64 (s.1 : Nat)), (11, .int .i64 (s.2 : Nat))]) (fun s => []) (fun m0 s => s.1 + m0 = s.2 ∧ m ≤ s.1 ∧ s.2 ≤ b ∧ OrO (s.1 = m) (At xs (s.1 - 1) fun y => cmp y x < 0) ∧ OrO (s.2 = b) (At xs s.2 fun y => ¬ cmp y x < 0)) (b - m) (m, b) ?_ ?_ ?_
  ·(try dsimp only) <;> (exact ⟨by omega, by omega, by omega, .inl rfl, .inl rfl⟩)
  ·refine Wk.toF ?_ ?_ ?_ ?_ ?_
   ·try simp only [keepL, memL, cond_true, cond_false, ↓reduceIte, reduceCtorEq, Nat.reduceEqDiff, List.cons_append, List.nil_append, puts, put]
    repeat (first | exact trivial | (refine FLt.cons ?_ ?_; focus (first | exact Lt.refl _ | exact Lt.any _ | (refine lt_eq (congrArg (PV.int .i64) ?_); omega) | (refine lt_eq ?_; simp [h3, hab]; done) | (refine lt_eq ?_; simp [h3, hab] <;> omega))))
   ·try simp only [puts, put, ↓reduceIte, reduceCtorEq, Nat.reduceEqDiff]
    repeat (first | exact trivial | (refine ⟨⟨_, rfl, ?_⟩, ?_⟩; focus (first | exact BLt.refl _)))
   ·simp
   ·simp [E.within, withinL_of hcap]
   ·simp [E.within, withinL_of hcap]
  ·intro m0 s hinv KL7 hKL7
   obtain ⟨i, j⟩ := s
   try dsimp only at hinv
   obtain ⟨hk, hmi, hjb, hlo, hhi⟩ := hinv
   simp only [keepL, memL, cond_true, cond_false, ↓reduceIte, reduceCtorEq, Nat.reduceEqDiff, List.cons_append, List.nil_append, puts, put]
   refine pw_seq_k fun K8 hK8 => ?_
   refine pw_seq_k fun K9 hK9 => ?_
   refine pw_region 0 ?_
   simp [sBinH, sBin, binop, E.ld, E.ok, E.set, E.len, toNat_add, List.getElem?_map, hw1, hw2, IntKind.bits, h3, hx, hab, hX]
   apply hK9; try clear hK9 K9
   refine pw_cond _ rfl (fun h10 => ?_) (fun h10 => ?_)
   ·try simp at h10
    obtain ⟨k, hk2⟩ : ∃ k, k = (i + j) / 2 := ⟨_, rfl⟩
    have hx5 := wrap_i64 (n := (i : Int) + (j : Int)) (by omega) (by omega)
    have hx6 := wrap_u64 (n := (i : Int) + (j : Int)) (by omega) (by omega)
    have hx7 := half i j k hk2
    have hx8 := wrap_i64 (n := (k : Int)) (by omega) (by omega)
    have hx9 := wrap_i64 (n := (k : Int) + 1) (by omega) (by omega)
    have hkr1 : i ≤ k := by omega
    have hkr2 : k < j := by omega
    clear hk2
    obtain ⟨y, hy⟩ := getN (l := xs) (k := k) (by omega)
    have hkb : k < xs.length := by omega
    have hY := gE hy
    refine pw_skip ?_
    try simp only [thenP, inBlockP]
    apply hK8; try clear hK8 K8
    refine pw_block ?_
    refine pw_seq_k fun K11 hK11 => ?_
    refine pw_region 0 ?_
    refine pEv0_split 4 fun Kr12 hKr12 => ?_
    simp [sBinH, sBin, binop, E.ld, E.ok, E.set, E.len, toNat_add, List.getElem?_map, hw1, hw2, IntKind.bits, h3, hx, hab, hX, h10, hx5, hx6, hx7, hx8, hx9, hy, hkb, hY]
    apply hKr12; clear hKr12 Kr12
    simp [sBinH, sBin, binop, E.ld, E.ok, E.set, E.len, toNat_add, List.getElem?_map, hw1, hw2, IntKind.bits, h3, hx, hab, hX, h10, hx5, hx6, hx7, hx8, hx9, hy, hkb, hY]
    apply hK11; try clear hK11 K11
    refine pw_keep [0, 1, 4, 10, 11, 12] ?_
    simp only [keepL, memL, cond_true, cond_false, ↓reduceIte, reduceCtorEq, Nat.reduceEqDiff]
    refine pw_seq_k fun K13 hK13 => ?_
    refine pw_region_draw mix 0 ?_
    refine pEv_split 4 fun Kr14 hKr14 => ?_
    simp [E.ld, E.ok, E.set, E.len, toNat_add, List.getElem?_map, hw1, hw2, IntKind.bits, h3, hx, hab, hX, h10, hx5, hx6, hx7, hx8, hx9, hy, hkb, hY]
    apply hKr14; clear hKr14 Kr14
    refine pEv_split 4 fun Kr15 hKr15 => ?_
    simp [E.ld, E.ok, E.set, E.len, toNat_add, List.getElem?_map, hw1, hw2, IntKind.bits, h3, hx, hab, hX, h10, hx5, hx6, hx7, hx8, hx9, hy, hkb, hY]
    apply hKr15; clear hKr15 Kr15
    refine pEv_split 1 fun Kr16 hKr16 => ?_
    simp [E.ld, E.ok, E.set, E.len, toNat_add, List.getElem?_map, hw1, hw2, IntKind.bits, h3, hx, hab, hX, h10, hx5, hx6, hx7, hx8, hx9, hy, hkb, hY]
    apply hKr16; clear hKr16 Kr16
    refine pEv_call' rfl rfl rfl (call_pure (hc _ _) he (by simp [E.cl, List.all_eq_true.1 hcap]; exact fun x hx => List.all_eq_true.1 hcap x hx) _) ?_
    simp [sBinH, sBin, binop, E.ld, E.ok, E.set, E.len, toNat_add, List.getElem?_map, hw1, hw2, IntKind.bits, h3, hx, hab, hX, h10, hx5, hx6, hx7, hx8, hx9, hy, hkb, hY]
    refine ⟨by decide +kernel, ?_⟩
    apply hK13; try clear hK13 K13
    refine pw_keep [0, 1, 4, 10, 11, 12, 50] ?_
    simp only [keepL, memL, cond_true, cond_false, ↓reduceIte, reduceCtorEq, Nat.reduceEqDiff]
    refine pw_cond _ rfl (fun h17 => ?_) (fun h17 => ?_)
    ·try simp at h17
     have hlt := h17
     refine pw_region 0 ?_
     simp [sBinH, sBin, binop, E.ld, E.ok, E.set, E.len, toNat_add, List.getElem?_map, hw1, hw2, IntKind.bits, h3, hx, hab, hX, h10, hx5, hx6, hx7, hx8, hx9, hy, hkb, hY, h17]
     refine hKL7 _ (j - (k + 1)) (k + 1, j) ?_ ?_ ?_
     ·omega
     ·(try dsimp only) <;> (exact ⟨by omega, by omega, hjb, .inr ⟨y, by simpa using hy, hlt⟩, hhi⟩)
     ·refine Wk.toF ?_ ?_ ?_ ?_ ?_
      ·try simp only [keepL, memL, cond_true, cond_false, ↓reduceIte, reduceCtorEq, Nat.reduceEqDiff, List.cons_append, List.nil_append, puts, put]
       repeat (first | exact trivial | (refine FLt.cons ?_ ?_; focus (first | exact Lt.refl _ | exact Lt.any _ | (refine lt_eq (congrArg (PV.int .i64) ?_); omega) | (refine lt_eq ?_; simp [h3, hab, h10, hkb, h17]; done) | (refine lt_eq ?_; simp [h3, hab, h10, hkb, h17] <;> omega))))
      ·try simp only [puts, put, ↓reduceIte, reduceCtorEq, Nat.reduceEqDiff]
       repeat (first | exact trivial | (refine ⟨⟨_, rfl, ?_⟩, ?_⟩; focus (first | exact BLt.refl _)))
      ·simp
      ·simp [E.within, withinL_of hcap]
      ·simp [E.within, withinL_of hcap]
    ·try simp at h17
     refine pw_region 0 ?_
     simp [E.ld, E.ok, E.set, E.len, toNat_add, List.getElem?_map, hw1, hw2, IntKind.bits, h3, hx, hab, hX, h10, hx5, hx6, hx7, hx8, hx9, hy, hkb, hY, h17]
     refine hKL7 _ (k - i) (i, k) ?_ ?_ ?_
     ·omega
     ·(try dsimp only) <;> (exact ⟨by omega, hmi, by omega, hlo, .inr ⟨y, hy, by omega⟩⟩)
     ·refine Wk.toF ?_ ?_ ?_ ?_ ?_
      ·try simp only [keepL, memL, cond_true, cond_false, ↓reduceIte, reduceCtorEq, Nat.reduceEqDiff, List.cons_append, List.nil_append, puts, put]
       repeat (first | exact trivial | (refine FLt.cons ?_ ?_; focus (first | exact Lt.refl _ | exact Lt.any _ | (refine lt_eq (congrArg (PV.int .i64) ?_); omega) | (refine lt_eq ?_; simp [h3, hab, h10, hkb, h17]; done) | (refine lt_eq ?_; simp [h3, hab, h10, hkb, h17] <;> omega))))
      ·try simp only [puts, put, ↓reduceIte, reduceCtorEq, Nat.reduceEqDiff]
       repeat (first | exact trivial | (refine ⟨⟨_, rfl, ?_⟩, ?_⟩; focus (first | exact BLt.refl _)))
      ·simp
      ·simp [E.within, withinL_of hcap]
      ·simp [E.within, withinL_of hcap]
   ·try simp at h10
    have hij2 : i = j := by omega
    have hsort := one_left h hsv hxs ha (i := i) (by omega) (by omega) (Or.imp (by omega) id hlo) (Or.imp (by omega) id (hij2 ▸ hhi))
    have hwi := wrap_i64 (n := (i : Int) - 1) (by omega) (by omega)
    refine pw_exit ?_
    simp [thenP, inBlockP]
    apply hK6; try clear hK6 K6
    refine pw_keep [0, 1, 10] ?_
    simp only [keepL, memL, cond_true, cond_false, ↓reduceIte, reduceCtorEq, Nat.reduceEqDiff]
    refine pw_seq_k fun K18 hK18 => ?_
    refine pw_seq_k fun K19 hK19 => ?_
    refine pw_region 0 ?_
    simp [E.ld, E.ok, E.set, E.len, toNat_add, List.getElem?_map, hw1, hw2, IntKind.bits, h3, hx, hab, hX, h10, hwi]
    apply hK19; try clear hK19 K19
    refine pw_block ?_
    refine pw_loopF (α := Nat × (List X)) [0, 10] (fun s => [(13, .int .i64 (s.1 : Nat))]) (fun s => [(0, ⟨0, true, .arr 3 (s.2.map pv)⟩)]) (fun m1 s => s.1 + m1 = i - 1 ∧ a ≤ s.1 ∧ s.2.length = xs.length ∧ s.2 = A ++ (V.take (s.1 - a) ++ x :: (V.drop (s.1 - a) ++ B))) (i - 1 - a) (a, xs) ?_ ?_ ?_
    ·(try dsimp only) <;> (exact ⟨by omega, Nat.le_refl _, rfl, by rw [hxs]; simp⟩)
    ·refine Wk.toF ?_ ?_ ?_ ?_ ?_
     ·try simp only [keepL, memL, cond_true, cond_false, ↓reduceIte, reduceCtorEq, Nat.reduceEqDiff, List.cons_append, List.nil_append, puts, put]
      repeat (first | exact trivial | (refine FLt.cons ?_ ?_; focus (first | exact Lt.refl _ | exact Lt.any _ | (refine lt_eq (congrArg (PV.int .i64) ?_); omega) | (refine lt_eq ?_; simp [h3, hab, h10]; done) | (refine lt_eq ?_; simp [h3, hab, h10] <;> omega))))
     ·try simp only [puts, put, ↓reduceIte, reduceCtorEq, Nat.reduceEqDiff]
      repeat (first | exact trivial | (refine ⟨⟨_, rfl, ?_⟩, ?_⟩; focus (first | exact BLt.refl _ | (refine BLt.of_eq ?_; simp [h3, hab, h10]; done) | (refine BLt.of_eq ?_; simp [h3, hab, h10] <;> omega))))
     ·simp
     ·simp [E.within, withinL_of hcap]
     ·simp [E.within, withinL_of hcap]
    ·intro m1 s hinv KL20 hKL20
     obtain ⟨k, c⟩ := s
     try dsimp only at hinv
     obtain ⟨hk3, hak, hcl, hcc⟩ := hinv
     simp only [keepL, memL, cond_true, cond_false, ↓reduceIte, reduceCtorEq, Nat.reduceEqDiff, List.cons_append, List.nil_append, puts, put]
     refine pw_seq_k fun K21 hK21 => ?_
     refine pw_seq_k fun K22 hK22 => ?_
     refine pw_region 0 ?_
     simp [sBinH, sBin, binop, E.ld, E.ok, E.set, E.len, toNat_add, List.getElem?_map, hw1, hw2, IntKind.bits, h3, hx, hab, hX, h10, hwi]
     apply hK22; try clear hK22 K22
     refine pw_cond _ rfl (fun h23 => ?_) (fun h23 => ?_)
     ·try simp at h23
      obtain ⟨v, hv⟩ := getN (l := V) (k := k - a) (by omega)
      obtain ⟨hx1, hx2, hmv⟩ := mv_right hcc ha hak hv
      have hx9 := wrap_i64 (n := (k : Int) + 1) (by omega) (by omega)
      have hms := map_swp (pv := pv) hx1 hx2
      obtain ⟨z, hz⟩ := getN (l := c.set k v) (k := k + 1) (by simp; omega)
      have hz2 : ((c.map pv).set k (pv v))[k + 1]? = some (pv z) := by rw [← List.map_set]; exact map_get hz
      have hb1 : k < xs.length := by omega
      have hb2 : (k : Int) + 1 < (xs.length : Int) := by omega
      have hb3 : (0 : Int) ≤ (k : Int) + 1 := by omega
      have hb4 : ((k : Int) + 1).toNat = k + 1 := by omega
      refine pw_skip ?_
      try simp only [thenP, inBlockP]
      apply hK21; try clear hK21 K21
      refine pw_keep [0, 10, 13] ?_
      simp only [keepL, memL, cond_true, cond_false, ↓reduceIte, reduceCtorEq, Nat.reduceEqDiff]
      refine pw_seq_k fun K24 hK24 => ?_
      refine pw_block ?_
      refine pw_region_draw mix 0 ?_
      refine pEv_split 4 fun Kr25 hKr25 => ?_
      simp [E.ld, E.ok, E.set, E.len, toNat_add, List.getElem?_map, hw1, hw2, IntKind.bits, h3, hx, hab, hX, h10, hwi, h23, hx1, hx2, hx9, hms, hz2, hb1, hb2, hb3, hb4]
      apply hKr25; clear hKr25 Kr25
      refine pEv_split 4 fun Kr26 hKr26 => ?_
      simp [sBinH, sBin, binop, E.ld, E.ok, E.set, E.len, toNat_add, List.getElem?_map, hw1, hw2, IntKind.bits, h3, hx, hab, hX, h10, hwi, h23, hx1, hx2, hx9, hms, hz2, hb1, hb2, hb3, hb4]
      apply hKr26; clear hKr26 Kr26
      refine pEv_split 4 fun Kr27 hKr27 => ?_
      simp [E.ld, E.ok, E.set, E.len, toNat_add, List.getElem?_map, hw1, hw2, IntKind.bits, h3, hx, hab, hX, h10, hwi, h23, hx1, hx2, hx9, hms, hz2, hb1, hb2, hb3, hb4]
      apply hKr27; clear hKr27 Kr27
      refine pEv_split 4 fun Kr28 hKr28 => ?_
      simp [E.ld, E.ok, E.set, E.len, toNat_add, List.getElem?_map, hw1, hw2, IntKind.bits, h3, hx, hab, hX, h10, hwi, h23, hx1, hx2, hx9, hms, hz2, hb1, hb2, hb3, hb4]
      apply hKr28; clear hKr28 Kr28
      simp [E.ld, E.ok, E.set, E.len, toNat_add, List.getElem?_map, hw1, hw2, IntKind.bits, h3, hx, hab, hX, h10, hwi, h23, hx1, hx2, hx9, hms, hz2, hb1, hb2, hb3, hb4]
      refine ⟨by decide +kernel, ?_⟩
      apply hK24; try clear hK24 K24
      refine pw_keep [0, 10, 13] ?_
      simp only [keepL, memL, cond_true, cond_false, ↓reduceIte, reduceCtorEq, Nat.reduceEqDiff]
      refine pw_region 0 ?_
      simp [sBinH, sBin, binop, E.ld, E.ok, E.set, E.len, toNat_add, List.getElem?_map, hw1, hw2, IntKind.bits, h3, hx, hab, hX, h10, hwi, h23, hx1, hx2, hx9, hms, hz2, hb1, hb2, hb3, hb4]
      refine hKL20 _ (m1 - 1) (k + 1, swp c k (k + 1)) ?_ ?_ ?_
      ·omega
      ·(try dsimp only) <;> (exact ⟨by omega, by omega, by rw [swp_len]; exact hcl, hmv⟩)
      ·refine Wk.toF ?_ ?_ ?_ ?_ ?_
       ·try simp only [keepL, memL, cond_true, cond_false, ↓reduceIte, reduceCtorEq, Nat.reduceEqDiff, List.cons_append, List.nil_append, puts, put]
        repeat (first | exact trivial | (refine FLt.cons ?_ ?_; focus (first | exact Lt.refl _ | exact Lt.any _ | (refine lt_eq (congrArg (PV.int .i64) ?_); omega) | (refine lt_eq ?_; simp [h3, hab, h10, h23, hms, hz2]; done) | (refine lt_eq ?_; simp [h3, hab, h10, h23, hms, hz2] <;> omega))))
       ·try simp only [puts, put, ↓reduceIte, reduceCtorEq, Nat.reduceEqDiff]
        repeat (first | exact trivial | (refine ⟨⟨_, rfl, ?_⟩, ?_⟩; focus (first | exact BLt.refl _ | (refine BLt.of_eq ?_; simp [h3, hab, h10, h23, hms, hz2]; done) | (refine BLt.of_eq ?_; simp [h3, hab, h10, h23, hms, hz2] <;> omega))))
       ·simp
       ·simp [E.within, withinL_of hcap]
       ·simp [E.within, withinL_of hcap]
     ·try simp at h23
      have hfin : c = ys := by rw [hcc, hys, hsort, show i - a - 1 = k - a by omega]; simp
      refine pw_exit ?_
      simp [thenP, inBlockP]
      apply hK18; try clear hK18 K18
      refine pw_keep [] ?_
      simp only [keepL, memL, cond_true, cond_false, ↓reduceIte, reduceCtorEq, Nat.reduceEqDiff]
      refine pw_ret ?_
      try simp only [thenP, inBlockP]
      refine bodyW_fr (by first | exact .inl rfl | exact .inr rfl) _ rfl ?_
      refine Wk.to ?_ ?_ ?_ ?_ ?_
      ·try simp only [keepL, memL, cond_true, cond_false, ↓reduceIte, reduceCtorEq, Nat.reduceEqDiff, List.cons_append, List.nil_append, puts, put]
       (repeat (first | exact LtL.nil | (refine LtL.cons ?_ ?_; focus (first | exact Lt.refl _ | exact Lt.any _ | (refine Lt.nilb ?_; simp; done) | exact Lt.nilsl _ | (refine lt_frozB rfl rfl rfl rfl ?_ ?_ ?_ <;> (first | rfl | (simp [h3, hab, h10, h23, hfin]; done) | (simp [h3, hab, h10, h23, hfin] <;> omega)); done) | (refine lt_eq (congrArg (PV.int .i64) ?_); omega) | (refine lt_eq ?_; simp [h3, hab, h10, h23, hfin]; done) | (refine lt_eq ?_; simp [h3, hab, h10, h23, hfin] <;> omega)))))
      ·try simp only [puts, put, ↓reduceIte, reduceCtorEq, Nat.reduceEqDiff]
       repeat (first | exact trivial | (refine ⟨⟨_, rfl, ?_⟩, ?_⟩; focus (first | exact BLt.refl _ | (refine BLt.of_eq ?_; simp [h3, hab, h10, h23, hfin]; done) | (refine BLt.of_eq ?_; simp [h3, hab, h10, h23, hfin] <;> omega) | (refine BLt.pre ?_; simp [h3, hab, h10, h23, hfin]; done) | (refine BLt.one ?_; (repeat (first | exact LtL.nil | (refine LtL.cons ?_ ?_; focus (first | exact Lt.refl _ | exact Lt.any _ | (refine Lt.nilb ?_; simp; done) | exact Lt.nilsl _ | (refine lt_frozB rfl rfl rfl rfl ?_ ?_ ?_ <;> (first | rfl | (simp [h3, hab, h10, h23, hfin]; done) | (simp [h3, hab, h10, h23, hfin] <;> omega)); done) | (refine lt_eq (congrArg (PV.int .i64) ?_); omega) | (refine lt_eq ?_; simp [h3, hab, h10, h23, hfin]; done) | (refine lt_eq ?_; simp [h3, hab, h10, h23, hfin] <;> omega))))); done) | (refine BLt.cell ?_ rfl rfl; (first | exact Lt.refl _ | exact Lt.any _ | (refine Lt.nilb ?_; simp; done) | exact Lt.nilsl _ | (refine lt_frozB rfl rfl rfl rfl ?_ ?_ ?_ <;> (first | rfl | (simp [h3, hab, h10, h23, hfin]; done) | (simp [h3, hab, h10, h23, hfin] <;> omega)); done) | (refine lt_eq (congrArg (PV.int .i64) ?_); omega) | (refine lt_eq ?_; simp [h3, hab, h10, h23, hfin]; done) | (refine lt_eq ?_; simp [h3, hab, h10, h23, hfin] <;> omega))))))
      ·simp
      ·simp [E.within, withinL_of hcap]
      ·simp [E.within, withinL_of hcap]
 ·try simp at h3
  refine pw_skip ?_
  try simp only [thenP, inBlockP]
  apply hK1; try clear hK1 K1
  refine pw_keep [0, 1, 2, 3, 4] ?_
  simp only [keepL, memL, cond_true, cond_false, ↓reduceIte, reduceCtorEq, Nat.reduceEqDiff]
  refine pw_seq_k fun K29 hK29 => ?_
  refine pw_seq_k fun K30 hK30 => ?_
  refine pw_region 0 ?_
  simp [sBinH, sBin, binop, E.ld, E.ok, E.set, E.len, toNat_add, List.getElem?_map, hw1, hw2, IntKind.bits, h3]
  apply hK30; try clear hK30 K30
  refine pw_cond _ rfl (fun h31 => ?_) (fun h31 => ?_)
  ·try simp at h31
   obtain ⟨y, rfl⟩ : ∃ y, V = [y] := List.length_eq_one_iff.1 (by omega)
   simp only [List.length_singleton] at hb hxl
   have hy : xs[m]? = some y := by rw [hxs, ← List.append_assoc]; exact get_mid (A ++ U) B y (by simp; omega)
   have hab : m < xs.length := by omega
   have hY := gE hy
   refine pw_seq_k fun K32 hK32 => ?_
   refine pw_region 0 ?_
   simp [E.ld, E.ok, E.set, E.len, toNat_add, List.getElem?_map, hw1, hw2, IntKind.bits, h3, h31, hy, hab, hY]
   apply hK32; try clear hK32 K32
   refine pw_keep [0, 2, 4, 14] ?_
   simp only [keepL, memL, cond_true, cond_false, ↓reduceIte, reduceCtorEq, Nat.reduceEqDiff]
   refine pw_seq_k fun K33 hK33 => ?_
   refine pw_region 0 ?_
   simp [E.ld, E.ok, E.set, E.len, toNat_add, List.getElem?_map, hw1, hw2, IntKind.bits, h3, h31, hy, hab, hY]
   apply hK33; try clear hK33 K33
   refine pw_seq_k fun K34 hK34 => ?_
   refine pw_block ?_
   refine pw_loopF (α := Nat × Nat) [0, 2, 4] (fun s => [(14, .int .i64 (s.1 : Nat)), (15, .int .i64 (s.2 : Nat))]) (fun s => []) (fun m0 s => s.1 + m0 = s.2 ∧ a ≤ s.1 ∧ s.2 ≤ m ∧ OrO (s.1 = a) (At xs (s.1 - 1) fun x => ¬ cmp y x < 0) ∧ OrO (s.2 = m) (At xs s.2 fun x => cmp y x < 0)) (m - a) (a, m) ?_ ?_ ?_
   ·(try dsimp only) <;> (exact ⟨by omega, by omega, by omega, .inl rfl, .inl rfl⟩)
   ·refine Wk.toF ?_ ?_ ?_ ?_ ?_
    ·try simp only [keepL, memL, cond_true, cond_false, ↓reduceIte, reduceCtorEq, Nat.reduceEqDiff, List.cons_append, List.nil_append, puts, put]
     repeat (first | exact trivial | (refine FLt.cons ?_ ?_; focus (first | exact Lt.refl _ | exact Lt.any _ | (refine lt_eq (congrArg (PV.int .i64) ?_); omega) | (refine lt_eq ?_; simp [h3, h31, hab]; done) | (refine lt_eq ?_; simp [h3, h31, hab] <;> omega))))
    ·try simp only [puts, put, ↓reduceIte, reduceCtorEq, Nat.reduceEqDiff]
     repeat (first | exact trivial | (refine ⟨⟨_, rfl, ?_⟩, ?_⟩; focus (first | exact BLt.refl _)))
    ·simp
    ·simp [E.within, withinL_of hcap]
    ·simp [E.within, withinL_of hcap]
   ·intro m0 s hinv KL35 hKL35
    obtain ⟨i, j⟩ := s
    try dsimp only at hinv
    obtain ⟨hk, hmi, hjb, hlo, hhi⟩ := hinv
    simp only [keepL, memL, cond_true, cond_false, ↓reduceIte, reduceCtorEq, Nat.reduceEqDiff, List.cons_append, List.nil_append, puts, put]
    refine pw_seq_k fun K36 hK36 => ?_
    refine pw_seq_k fun K37 hK37 => ?_
    refine pw_region 0 ?_
    simp [sBinH, sBin, binop, E.ld, E.ok, E.set, E.len, toNat_add, List.getElem?_map, hw1, hw2, IntKind.bits, h3, h31, hy, hab, hY]
    apply hK37; try clear hK37 K37
    refine pw_cond _ rfl (fun h38 => ?_) (fun h38 => ?_)
    ·try simp at h38
     obtain ⟨k, hk2⟩ : ∃ k, k = (i + j) / 2 := ⟨_, rfl⟩
     have hx5 := wrap_i64 (n := (i : Int) + (j : Int)) (by omega) (by omega)
     have hx6 := wrap_u64 (n := (i : Int) + (j : Int)) (by omega) (by omega)
     have hx7 := half i j k hk2
     have hx8 := wrap_i64 (n := (k : Int)) (by omega) (by omega)
     have hx9 := wrap_i64 (n := (k : Int) + 1) (by omega) (by omega)
     have hkr1 : i ≤ k := by omega
     have hkr2 : k < j := by omega
     clear hk2
     obtain ⟨x, hx⟩ := getN (l := xs) (k := k) (by omega)
     have hkb : k < xs.length := by omega
     have hX := gE hx
     refine pw_skip ?_
     try simp only [thenP, inBlockP]
     apply hK36; try clear hK36 K36
     refine pw_block ?_
     refine pw_seq_k fun K39 hK39 => ?_
     refine pw_region 0 ?_
     refine pEv0_split 4 fun Kr40 hKr40 => ?_
     simp [sBinH, sBin, binop, E.ld, E.ok, E.set, E.len, toNat_add, List.getElem?_map, hw1, hw2, IntKind.bits, h3, h31, hy, hab, hY, h38, hx5, hx6, hx7, hx8, hx9, hx, hkb, hX]
     apply hKr40; clear hKr40 Kr40
     simp [sBinH, sBin, binop, E.ld, E.ok, E.set, E.len, toNat_add, List.getElem?_map, hw1, hw2, IntKind.bits, h3, h31, hy, hab, hY, h38, hx5, hx6, hx7, hx8, hx9, hx, hkb, hX]
     apply hK39; try clear hK39 K39
     refine pw_keep [0, 2, 4, 14, 15, 16] ?_
     simp only [keepL, memL, cond_true, cond_false, ↓reduceIte, reduceCtorEq, Nat.reduceEqDiff]
     refine pw_seq_k fun K41 hK41 => ?_
     refine pw_region_draw mix 0 ?_
     refine pEv_split 4 fun Kr42 hKr42 => ?_
     simp [E.ld, E.ok, E.set, E.len, toNat_add, List.getElem?_map, hw1, hw2, IntKind.bits, h3, h31, hy, hab, hY, h38, hx5, hx6, hx7, hx8, hx9, hx, hkb, hX]
     apply hKr42; clear hKr42 Kr42
     refine pEv_split 4 fun Kr43 hKr43 => ?_
     simp [E.ld, E.ok, E.set, E.len, toNat_add, List.getElem?_map, hw1, hw2, IntKind.bits, h3, h31, hy, hab, hY, h38, hx5, hx6, hx7, hx8, hx9, hx, hkb, hX]
     apply hKr43; clear hKr43 Kr43
     refine pEv_split 1 fun Kr44 hKr44 => ?_
     simp [E.ld, E.ok, E.set, E.len, toNat_add, List.getElem?_map, hw1, hw2, IntKind.bits, h3, h31, hy, hab, hY, h38, hx5, hx6, hx7, hx8, hx9, hx, hkb, hX]
     apply hKr44; clear hKr44 Kr44
     refine pEv_call' rfl rfl rfl (call_pure (hc _ _) he (by simp [E.cl, List.all_eq_true.1 hcap]; exact fun x hx => List.all_eq_true.1 hcap x hx) _) ?_
     simp [sBinH, sBin, binop, E.ld, E.ok, E.set, E.len, toNat_add, List.getElem?_map, hw1, hw2, IntKind.bits, h3, h31, hy, hab, hY, h38, hx5, hx6, hx7, hx8, hx9, hx, hkb, hX]
     refine ⟨by decide +kernel, ?_⟩
     apply hK41; try clear hK41 K41
     refine pw_keep [0, 2, 4, 14, 15, 16, 103] ?_
     simp only [keepL, memL, cond_true, cond_false, ↓reduceIte, reduceCtorEq, Nat.reduceEqDiff]
     refine pw_cond _ rfl (fun h45 => ?_) (fun h45 => ?_)
     ·try simp at h45
      have hlt := h45
      refine pw_region 0 ?_
      simp [sBinH, sBin, binop, E.ld, E.ok, E.set, E.len, toNat_add, List.getElem?_map, hw1, hw2, IntKind.bits, h3, h31, hy, hab, hY, h38, hx5, hx6, hx7, hx8, hx9, hx, hkb, hX, h45]
      refine hKL35 _ (j - (k + 1)) (k + 1, j) ?_ ?_ ?_
      ·omega
      ·(try dsimp only) <;> (exact ⟨by omega, by omega, hjb, .inr ⟨x, by simpa using hx, by omega⟩, hhi⟩)
      ·refine Wk.toF ?_ ?_ ?_ ?_ ?_
       ·try simp only [keepL, memL, cond_true, cond_false, ↓reduceIte, reduceCtorEq, Nat.reduceEqDiff, List.cons_append, List.nil_append, puts, put]
        repeat (first | exact trivial | (refine FLt.cons ?_ ?_; focus (first | exact Lt.refl _ | exact Lt.any _ | (refine lt_eq (congrArg (PV.int .i64) ?_); omega) | (refine lt_eq ?_; simp [h3, h31, hab, h38, hkb, h45]; done) | (refine lt_eq ?_; simp [h3, h31, hab, h38, hkb, h45] <;> omega))))
       ·try simp only [puts, put, ↓reduceIte, reduceCtorEq, Nat.reduceEqDiff]
        repeat (first | exact trivial | (refine ⟨⟨_, rfl, ?_⟩, ?_⟩; focus (first | exact BLt.refl _)))
       ·simp
       ·simp [E.within, withinL_of hcap]
       ·simp [E.within, withinL_of hcap]
     ·try simp at h45
      have hlt : cmp y x < 0 := by first | exact h45 | omega
      refine pw_region 0 ?_
      simp [E.ld, E.ok, E.set, E.len, toNat_add, List.getElem?_map, hw1, hw2, IntKind.bits, h3, h31, hy, hab, hY, h38, hx5, hx6, hx7, hx8, hx9, hx, hkb, hX, h45]
      refine hKL35 _ (k - i) (i, k) ?_ ?_ ?_
      ·omega
      ·(try dsimp only) <;> (exact ⟨by omega, hmi, by omega, hlo, .inr ⟨x, hx, hlt⟩⟩)
      ·refine Wk.toF ?_ ?_ ?_ ?_ ?_
       ·try simp only [keepL, memL, cond_true, cond_false, ↓reduceIte, reduceCtorEq, Nat.reduceEqDiff, List.cons_append, List.nil_append, puts, put]
        repeat (first | exact trivial | (refine FLt.cons ?_ ?_; focus (first | exact Lt.refl _ | exact Lt.any _ | (refine lt_eq (congrArg (PV.int .i64) ?_); omega) | (refine lt_eq ?_; simp [h3, h31, hab, h38, hkb, h45]; done) | (refine lt_eq ?_; simp [h3, h31, hab, h38, hkb, h45] <;> omega))))
       ·try simp only [puts, put, ↓reduceIte, reduceCtorEq, Nat.reduceEqDiff]
        repeat (first | exact trivial | (refine ⟨⟨_, rfl, ?_⟩, ?_⟩; focus (first | exact BLt.refl _)))
       ·simp
       ·simp [E.within, withinL_of hcap]
       ·simp [E.within, withinL_of hcap]
    ·try simp at h38
     have hij2 : i = j := by omega
     have hsort := one_right h hsu hxs ha (i := i) (by omega) (by omega) (Or.imp (by omega) id hlo) (Or.imp (by omega) id (hij2 ▸ hhi))
     refine pw_exit ?_
     simp [thenP, inBlockP]
     apply hK34; try clear hK34 K34
     refine pw_keep [0, 2, 14] ?_
     simp only [keepL, memL, cond_true, cond_false, ↓reduceIte, reduceCtorEq, Nat.reduceEqDiff]
     refine pw_seq_k fun K46 hK46 => ?_
     refine pw_seq_k fun K47 hK47 => ?_
     refine pw_region 0 ?_
     simp [E.ld, E.ok, E.set, E.len, toNat_add, List.getElem?_map, hw1, hw2, IntKind.bits, h3, h31, hy, hab, hY, h38]
     apply hK47; try clear hK47 K47
     refine pw_block ?_
     refine pw_loopF (α := Nat × (List X)) [0, 14] (fun s => [(17, .int .i64 (s.1 : Nat))]) (fun s => [(0, ⟨0, true, .arr 3 (s.2.map pv)⟩)]) (fun m1 s => s.1 = i + m1 ∧ s.1 ≤ m ∧ s.2.length = xs.length ∧ s.2 = A ++ (U.take (s.1 - a) ++ y :: (U.drop (s.1 - a) ++ B))) (m - i) (m, xs) ?_ ?_ ?_
     ·(try dsimp only) <;> (exact ⟨by omega, Nat.le_refl _, rfl, by rw [hxs, show m - a = U.length by omega]; simp⟩)
     ·refine Wk.toF ?_ ?_ ?_ ?_ ?_
      ·try simp only [keepL, memL, cond_true, cond_false, ↓reduceIte, reduceCtorEq, Nat.reduceEqDiff, List.cons_append, List.nil_append, puts, put]
       repeat (first | exact trivial | (refine FLt.cons ?_ ?_; focus (first | exact Lt.refl _ | exact Lt.any _ | (refine lt_eq (congrArg (PV.int .i64) ?_); omega) | (refine lt_eq ?_; simp [h3, h31, hab, h38]; done) | (refine lt_eq ?_; simp [h3, h31, hab, h38] <;> omega))))
      ·try simp only [puts, put, ↓reduceIte, reduceCtorEq, Nat.reduceEqDiff]
       repeat (first | exact trivial | (refine ⟨⟨_, rfl, ?_⟩, ?_⟩; focus (first | exact BLt.refl _ | (refine BLt.of_eq ?_; simp [h3, h31, hab, h38]; done) | (refine BLt.of_eq ?_; simp [h3, h31, hab, h38] <;> omega))))
      ·simp
      ·simp [E.within, withinL_of hcap]
      ·simp [E.within, withinL_of hcap]
     ·intro m1 s hinv KL48 hKL48
      obtain ⟨k, c⟩ := s
      try dsimp only at hinv
      obtain ⟨hk3, hak, hcl, hcc⟩ := hinv
      simp only [keepL, memL, cond_true, cond_false, ↓reduceIte, reduceCtorEq, Nat.reduceEqDiff, List.cons_append, List.nil_append, puts, put]
      refine pw_seq_k fun K49 hK49 => ?_
      refine pw_seq_k fun K50 hK50 => ?_
      refine pw_region 0 ?_
      simp [sBinH, sBin, binop, E.ld, E.ok, E.set, E.len, toNat_add, List.getElem?_map, hw1, hw2, IntKind.bits, h3, h31, hy, hab, hY, h38]
      apply hK50; try clear hK50 K50
      refine pw_cond _ rfl (fun h51 => ?_) (fun h51 => ?_)
      ·try simp at h51
       obtain ⟨u, hu⟩ := getN (l := U) (k := k - 1 - a) (by omega)
       obtain ⟨hx1, hx2, hmv⟩ := mv_left hcc ha (by omega) (by omega) hu
       have hx9 := wrap_i64 (n := (k : Int) - 1) (by omega) (by omega)
       have hms := map_swp (pv := pv) hx1 hx2
       obtain ⟨z, hz⟩ := getN (l := c.set k u) (k := k - 1) (by simp; omega)
       have hz2 : ((c.map pv).set k (pv u))[k - 1]? = some (pv z) := by rw [← List.map_set]; exact map_get hz
       have hb1 : k < xs.length := by omega
       have hb2 : (k : Int) - 1 < (xs.length : Int) := by omega
       have hb3 : (1 : Int) ≤ (k : Int) := by omega
       have hb5 : 1 ≤ k := by omega
       have hb4 : ((k : Int) - 1).toNat = k - 1 := by omega
       refine pw_skip ?_
       try simp only [thenP, inBlockP]
       apply hK49; try clear hK49 K49
       refine pw_seq_k fun K52 hK52 => ?_
       refine pw_block ?_
       refine pw_region_draw mix 0 ?_
       refine pEv_split 4 fun Kr53 hKr53 => ?_
       simp [E.ld, E.ok, E.set, E.len, toNat_add, List.getElem?_map, hw1, hw2, IntKind.bits, h3, h31, hy, hab, hY, h38, h51, hx1, hx2, hx9, hms, hz2, hb1, hb2, hb3, hb5, hb4]
       apply hKr53; clear hKr53 Kr53
       refine pEv_split 4 fun Kr54 hKr54 => ?_
       simp [sBinH, sBin, binop, E.ld, E.ok, E.set, E.len, toNat_add, List.getElem?_map, hw1, hw2, IntKind.bits, h3, h31, hy, hab, hY, h38, h51, hx1, hx2, hx9, hms, hz2, hb1, hb2, hb3, hb5, hb4]
       apply hKr54; clear hKr54 Kr54
       refine pEv_split 4 fun Kr55 hKr55 => ?_
       simp [E.ld, E.ok, E.set, E.len, toNat_add, List.getElem?_map, hw1, hw2, IntKind.bits, h3, h31, hy, hab, hY, h38, h51, hx1, hx2, hx9, hms, hz2, hb1, hb2, hb3, hb5, hb4]
       apply hKr55; clear hKr55 Kr55
       refine pEv_split 4 fun Kr56 hKr56 => ?_
       simp [E.ld, E.ok, E.set, E.len, toNat_add, List.getElem?_map, hw1, hw2, IntKind.bits, h3, h31, hy, hab, hY, h38, h51, hx1, hx2, hx9, hms, hz2, hb1, hb2, hb3, hb5, hb4]
       apply hKr56; clear hKr56 Kr56
       simp [E.ld, E.ok, E.set, E.len, toNat_add, List.getElem?_map, hw1, hw2, IntKind.bits, h3, h31, hy, hab, hY, h38, h51, hx1, hx2, hx9, hms, hz2, hb1, hb2, hb3, hb5, hb4]
       refine ⟨by decide +kernel, ?_⟩
       apply hK52; try clear hK52 K52
       refine pw_keep [0, 14, 17] ?_
       simp only [keepL, memL, cond_true, cond_false, ↓reduceIte, reduceCtorEq, Nat.reduceEqDiff]
       refine pw_region 0 ?_
       simp [sBinH, sBin, binop, E.ld, E.ok, E.set, E.len, toNat_add, List.getElem?_map, hw1, hw2, IntKind.bits, h3, h31, hy, hab, hY, h38, h51, hx1, hx2, hx9, hms, hz2, hb1, hb2, hb3, hb5, hb4]
       refine hKL48 _ (m1 - 1) (k - 1, swp c k (k - 1)) ?_ ?_ ?_
       ·omega
       ·(try dsimp only) <;> (exact ⟨by omega, by omega, by rw [swp_len]; exact hcl, hmv⟩)
       ·refine Wk.toF ?_ ?_ ?_ ?_ ?_
        ·try simp only [keepL, memL, cond_true, cond_false, ↓reduceIte, reduceCtorEq, Nat.reduceEqDiff, List.cons_append, List.nil_append, puts, put]
         repeat (first | exact trivial | (refine FLt.cons ?_ ?_; focus (first | exact Lt.refl _ | exact Lt.any _ | (refine lt_eq (congrArg (PV.int .i64) ?_); omega) | (refine lt_eq ?_; simp [h3, h31, hab, h38, h51, hms, hz2]; done) | (refine lt_eq ?_; simp [h3, h31, hab, h38, h51, hms, hz2] <;> omega))))
        ·try simp only [puts, put, ↓reduceIte, reduceCtorEq, Nat.reduceEqDiff]
         repeat (first | exact trivial | (refine ⟨⟨_, rfl, ?_⟩, ?_⟩; focus (first | exact BLt.refl _ | (refine BLt.of_eq ?_; simp [h3, h31, hab, h38, h51, hms, hz2]; done) | (refine BLt.of_eq ?_; simp [h3, h31, hab, h38, h51, hms, hz2] <;> omega))))
        ·simp
        ·simp [E.within, withinL_of hcap]
        ·simp [E.within, withinL_of hcap]
      ·try simp at h51
       have hfin : c = ys := by rw [hcc, hys, hsort, show i = k by omega]; simp
       refine pw_exit ?_
       simp [thenP, inBlockP]
       apply hK46; try clear hK46 K46
       refine pw_keep [] ?_
       simp only [keepL, memL, cond_true, cond_false, ↓reduceIte, reduceCtorEq, Nat.reduceEqDiff]
       refine pw_ret ?_
       try simp only [thenP, inBlockP]
       refine bodyW_fr (by first | exact .inl rfl | exact .inr rfl) _ rfl ?_
       refine Wk.to ?_ ?_ ?_ ?_ ?_
       ·try simp only [keepL, memL, cond_true, cond_false, ↓reduceIte, reduceCtorEq, Nat.reduceEqDiff, List.cons_append, List.nil_append, puts, put]
        (repeat (first | exact LtL.nil | (refine LtL.cons ?_ ?_; focus (first | exact Lt.refl _ | exact Lt.any _ | (refine Lt.nilb ?_; simp; done) | exact Lt.nilsl _ | (refine lt_frozB rfl rfl rfl rfl ?_ ?_ ?_ <;> (first | rfl | (simp [h3, h31, hab, h38, h51, hfin]; done) | (simp [h3, h31, hab, h38, h51, hfin] <;> omega)); done) | (refine lt_eq (congrArg (PV.int .i64) ?_); omega) | (refine lt_eq ?_; simp [h3, h31, hab, h38, h51, hfin]; done) | (refine lt_eq ?_; simp [h3, h31, hab, h38, h51, hfin] <;> omega)))))
       ·try simp only [puts, put, ↓reduceIte, reduceCtorEq, Nat.reduceEqDiff]
        repeat (first | exact trivial | (refine ⟨⟨_, rfl, ?_⟩, ?_⟩; focus (first | exact BLt.refl _ | (refine BLt.of_eq ?_; simp [h3, h31, hab, h38, h51, hfin]; done) | (refine BLt.of_eq ?_; simp [h3, h31, hab, h38, h51, hfin] <;> omega) | (refine BLt.pre ?_; simp [h3, h31, hab, h38, h51, hfin]; done) | (refine BLt.one ?_; (repeat (first | exact LtL.nil | (refine LtL.cons ?_ ?_; focus (first | exact Lt.refl _ | exact Lt.any _ | (refine Lt.nilb ?_; simp; done) | exact Lt.nilsl _ | (refine lt_frozB rfl rfl rfl rfl ?_ ?_ ?_ <;> (first | rfl | (simp [h3, h31, hab, h38, h51, hfin]; done) | (simp [h3, h31, hab, h38, h51, hfin] <;> omega)); done) | (refine lt_eq (congrArg (PV.int .i64) ?_); omega) | (refine lt_eq ?_; simp [h3, h31, hab, h38, h51, hfin]; done) | (refine lt_eq ?_; simp [h3, h31, hab, h38, h51, hfin] <;> omega))))); done) | (refine BLt.cell ?_ rfl rfl; (first | exact Lt.refl _ | exact Lt.any _ | (refine Lt.nilb ?_; simp; done) | exact Lt.nilsl _ | (refine lt_frozB rfl rfl rfl rfl ?_ ?_ ?_ <;> (first | rfl | (simp [h3, h31, hab, h38, h51, hfin]; done) | (simp [h3, h31, hab, h38, h51, hfin] <;> omega)); done) | (refine lt_eq (congrArg (PV.int .i64) ?_); omega) | (refine lt_eq ?_; simp [h3, h31, hab, h38, h51, hfin]; done) | (refine lt_eq ?_; simp [h3, h31, hab, h38, h51, hfin] <;> omega))))))
       ·simp
       ·simp [E.within, withinL_of hcap]
       ·simp [E.within, withinL_of hcap]
  ·try simp at h31
   have hu1 : 1 < U.length := by omega
   have hv1 : 1 < V.length := by omega
   obtain ⟨mid, hmid⟩ : ∃ k, k = (a + b) / 2 := ⟨_, rfl⟩
   have hx6 := wrap_u64 (n := (a : Int) + (b : Int)) (by omega) (by omega)
   have hx7 := half a b mid hmid
   have hx8 := wrap_i64 (n := (mid : Int)) (by omega) (by omega)
   obtain ⟨nn, hnn⟩ : ∃ k, k = mid + m := ⟨_, rfl⟩
   have hx9 : IntKind.i64.wrap ((mid : Int) + m) = (nn : Int) := by rw [wrap_i64 (by omega) (by omega)]; omega
   obtain ⟨lo, hlo⟩ : ∃ x, x = if m ≤ mid then a else nn - b := ⟨_, rfl⟩
   obtain ⟨hi, hhi⟩ : ∃ x, x = if m ≤ mid then m else mid := ⟨_, rfl⟩
   have hw4 := wrap_i64 (n := (nn : Int) - b) (by omega) (by omega)
   have hw5 := wrap_i64 (n := (nn : Int) - 1) (by omega) (by omega)
   have hmid1 : a + b ≤ 2 * mid + 1 := by omega
   have hmid2 : 2 * mid ≤ a + b := by omega
   clear hmid
   refine pw_skip ?_
   try simp only [thenP, inBlockP]
   apply hK29; try clear hK29 K29
   refine pw_keep [0, 1, 2, 3, 4] ?_
   simp only [keepL, memL, cond_true, cond_false, ↓reduceIte, reduceCtorEq, Nat.reduceEqDiff]
   refine pw_seq_k fun K57 hK57 => ?_
   refine pw_region 0 ?_
   refine pEv0_split 4 fun Kr58 hKr58 => ?_
   simp [sBinH, sBin, binop, E.ld, E.ok, E.set, E.len, toNat_add, List.getElem?_map, hw1, hw2, IntKind.bits, h3, h31, hw3, hx6, hx7, hx8, hx9, hw4, hw5]
   apply hKr58; clear hKr58 Kr58
   simp [sBinH, sBin, binop, E.ld, E.ok, E.set, E.len, toNat_add, List.getElem?_map, hw1, hw2, IntKind.bits, h3, h31, hw3, hx6, hx7, hx8, hx9, hw4, hw5]
   apply hK57; try clear hK57 K57
   refine pw_keep [0, 1, 2, 3, 4, 18] ?_
   simp only [keepL, memL, cond_true, cond_false, ↓reduceIte, reduceCtorEq, Nat.reduceEqDiff]
   refine pw_seq_k fun K59 hK59 => ?_
   refine pw_region 0 ?_
   simp [sBinH, sBin, binop, E.ld, E.ok, E.set, E.len, toNat_add, List.getElem?_map, hw1, hw2, IntKind.bits, h3, h31, hw3, hx6, hx7, hx8, hx9, hw4, hw5]
   apply hK59; try clear hK59 K59
   refine pw_seq_k fun K60 hK60 => ?_
   refine pw_region 0 ?_
   simp [E.ld, E.ok, E.set, E.len, toNat_add, List.getElem?_map, hw1, hw2, IntKind.bits, h3, h31, hw3, hx6, hx7, hx8, hx9, hw4, hw5]
   apply hK60; try clear hK60 K60
   refine pw_keep [0, 1, 2, 3, 4, 18, 19] ?_
   simp only [keepL, memL, cond_true, cond_false, ↓reduceIte, reduceCtorEq, Nat.reduceEqDiff]
   refine pw_cutF [0, 1, 2, 3, 4, 18, 19] [(20, .int .i64 (lo : Nat)), (21, .int .i64 (hi : Nat))] [] (fun K61 hK61 => ?_) ?_
   ·refine pw_seq_k fun K62 hK62 => ?_
    refine pw_region 0 ?_
    simp [sBinH, sBin, binop, E.ld, E.ok, E.set, E.len, toNat_add, List.getElem?_map, hw1, hw2, IntKind.bits, h3, h31, hw3, hx6, hx7, hx8, hx9, hw4, hw5]
    apply hK62; try clear hK62 K62
    refine pw_cond _ rfl (fun h63 => ?_) (fun h63 => ?_)
    ·try simp at h63
     have hlo2 : lo = nn - b := by rw [hlo, if_neg (by omega)]
     have hhi2 : hi = mid := by rw [hhi, if_neg (by omega)]
     refine pw_seq_k fun K64 hK64 => ?_
     refine pw_region 0 ?_
     simp [sBinH, sBin, binop, E.ld, E.ok, E.set, E.len, toNat_add, List.getElem?_map, hw1, hw2, IntKind.bits, h3, h31, hw3, hx6, hx7, hx8, hx9, hw4, hw5, h63]
     apply hK64; try clear hK64 K64
     refine pw_keep [0, 1, 2, 3, 4, 18, 19, 20] ?_
     simp only [keepL, memL, cond_true, cond_false, ↓reduceIte, reduceCtorEq, Nat.reduceEqDiff]
     refine pw_region 0 ?_
     simp [E.ld, E.ok, E.set, E.len, toNat_add, List.getElem?_map, hw1, hw2, IntKind.bits, h3, h31, hw3, hx6, hx7, hx8, hx9, hw4, hw5, h63]
     apply hK61; try clear hK61 K61
     refine Wk.toF ?_ ?_ ?_ ?_ ?_
     ·try simp only [keepL, memL, cond_true, cond_false, ↓reduceIte, reduceCtorEq, Nat.reduceEqDiff, List.cons_append, List.nil_append, puts, put]
      repeat (first | exact trivial | (refine FLt.cons ?_ ?_; focus (first | exact Lt.refl _ | exact Lt.any _ | (refine lt_eq (congrArg (PV.int .i64) ?_); omega) | (refine lt_eq ?_; simp [h3, h31, h63]; done) | (refine lt_eq ?_; simp [h3, h31, h63] <;> omega))))
     ·try simp only [puts, put, ↓reduceIte, reduceCtorEq, Nat.reduceEqDiff]
      repeat (first | exact trivial | (refine ⟨⟨_, rfl, ?_⟩, ?_⟩; focus (first | exact BLt.refl _)))
     ·simp
     ·simp [E.within, withinL_of hcap]
     ·simp [E.within, withinL_of hcap]
    ·try simp at h63
     have hlo2 : lo = a := by rw [hlo, if_pos (by omega)]
     have hhi2 : hi = m := by rw [hhi, if_pos (by omega)]
     refine pw_seq_k fun K65 hK65 => ?_
     refine pw_region 0 ?_
     simp [E.ld, E.ok, E.set, E.len, toNat_add, List.getElem?_map, hw1, hw2, IntKind.bits, h3, h31, hw3, hx6, hx7, hx8, hx9, hw4, hw5, h63]
     apply hK65; try clear hK65 K65
     refine pw_keep [0, 1, 2, 3, 4, 18, 19, 20] ?_
     simp only [keepL, memL, cond_true, cond_false, ↓reduceIte, reduceCtorEq, Nat.reduceEqDiff]
     refine pw_region 0 ?_
     simp [E.ld, E.ok, E.set, E.len, toNat_add, List.getElem?_map, hw1, hw2, IntKind.bits, h3, h31, hw3, hx6, hx7, hx8, hx9, hw4, hw5, h63]
     apply hK61; try clear hK61 K61
     refine Wk.toF ?_ ?_ ?_ ?_ ?_
     ·try simp only [keepL, memL, cond_true, cond_false, ↓reduceIte, reduceCtorEq, Nat.reduceEqDiff, List.cons_append, List.nil_append, puts, put]
      repeat (first | exact trivial | (refine FLt.cons ?_ ?_; focus (first | exact Lt.refl _ | exact Lt.any _ | (refine lt_eq (congrArg (PV.int .i64) ?_); omega) | (refine lt_eq ?_; simp [h3, h31, h63]; done) | (refine lt_eq ?_; simp [h3, h31, h63] <;> omega))))
     ·try simp only [puts, put, ↓reduceIte, reduceCtorEq, Nat.reduceEqDiff]
      repeat (first | exact trivial | (refine ⟨⟨_, rfl, ?_⟩, ?_⟩; focus (first | exact BLt.refl _)))
     ·simp
     ·simp [E.within, withinL_of hcap]
     ·simp [E.within, withinL_of hcap]
   ·simp only [keepL, memL, cond_true, cond_false, ↓reduceIte, reduceCtorEq, Nat.reduceEqDiff, List.cons_append, List.nil_append, puts, put]
    obtain ⟨hf1, hf2, hf3, hf4, hf5, hf6, hf7⟩ : a ≤ lo ∧ lo ≤ hi ∧ hi ≤ m ∧ nn ≤ b + lo ∧ m + hi ≤ nn ∧ OrO (lo = a) (nn = b + lo) ∧ OrO (hi = m) (nn = m + hi) := by unfold OrO; rw [hlo, hhi]; clear hw1 hw2 hw3 hw4 hw5 hx6 hx7 hx8 hx9; split <;> omega
    clear hlo hhi
    refine pw_seq_k fun K66 hK66 => ?_
    refine pw_region 0 ?_
    simp [sBinH, sBin, binop, E.ld, E.ok, E.set, E.len, toNat_add, List.getElem?_map, hw1, hw2, IntKind.bits, h3, h31, hw3, hx6, hx7, hx8, hx9, hw4, hw5]
    apply hK66; try clear hK66 K66
    refine pw_seq_k fun K67 hK67 => ?_
    refine pw_block ?_
    refine pw_loopF (α := Nat × Nat) [0, 1, 2, 3, 4, 18, 19, 22] (fun s => [(20, .int .i64 (s.1 : Nat)), (21, .int .i64 (s.2 : Nat))]) (fun s => []) (fun m0 s => s.1 + m0 = s.2 ∧ lo ≤ s.1 ∧ s.2 ≤ hi ∧ OrO (s.1 = lo) (At2 xs (s.1 - 1) (nn - s.1) fun x y => ¬ cmp y x < 0) ∧ OrO (s.2 = hi) (At2 xs s.2 (nn - s.2 - 1) fun x y => cmp y x < 0)) (hi - lo) (lo, hi) ?_ ?_ ?_
    ·(try dsimp only) <;> (exact ⟨by omega, by omega, by omega, .inl rfl, .inl rfl⟩)
    ·refine Wk.toF ?_ ?_ ?_ ?_ ?_
     ·try simp only [keepL, memL, cond_true, cond_false, ↓reduceIte, reduceCtorEq, Nat.reduceEqDiff, List.cons_append, List.nil_append, puts, put]
      repeat (first | exact trivial | (refine FLt.cons ?_ ?_; focus (first | exact Lt.refl _ | exact Lt.any _ | (refine lt_eq (congrArg (PV.int .i64) ?_); omega) | (refine lt_eq ?_; simp [h3, h31]; done) | (refine lt_eq ?_; simp [h3, h31] <;> omega))))
     ·try simp only [puts, put, ↓reduceIte, reduceCtorEq, Nat.reduceEqDiff]
      repeat (first | exact trivial | (refine ⟨⟨_, rfl, ?_⟩, ?_⟩; focus (first | exact BLt.refl _)))
     ·simp
     ·simp [E.within, withinL_of hcap]
     ·simp [E.within, withinL_of hcap]
    ·intro m0 s hinv KL68 hKL68
     obtain ⟨st, r⟩ := s
     try dsimp only at hinv
     obtain ⟨hk, hmi, hjb, hLo, hHi⟩ := hinv
     simp only [keepL, memL, cond_true, cond_false, ↓reduceIte, reduceCtorEq, Nat.reduceEqDiff, List.cons_append, List.nil_append, puts, put]
     refine pw_seq_k fun K69 hK69 => ?_
     refine pw_seq_k fun K70 hK70 => ?_
     refine pw_region 0 ?_
     simp [sBinH, sBin, binop, E.ld, E.ok, E.set, E.len, toNat_add, List.getElem?_map, hw1, hw2, IntKind.bits, h3, h31, hw3, hx6, hx7, hx8, hx9, hw4, hw5]
     apply hK70; try clear hK70 K70
     refine pw_cond _ rfl (fun h71 => ?_) (fun h71 => ?_)
     ·try simp at h71
      obtain ⟨k, hk2⟩ : ∃ k, k = (st + r) / 2 := ⟨_, rfl⟩
      have hx5 := wrap_i64 (n := (st : Int) + (r : Int)) (by omega) (by omega)
      have hx6 := wrap_u64 (n := (st : Int) + (r : Int)) (by omega) (by omega)
      have hx7 := half st r k hk2
      have hx8 := wrap_i64 (n := (k : Int)) (by omega) (by omega)
      have hx9 := wrap_i64 (n := (k : Int) + 1) (by omega) (by omega)
      have hkr1 : st ≤ k := by omega
      have hkr2 : k < r := by omega
      clear hk2
      have hw6 := wrap_i64 (n := (nn : Int) - 1 - k) (by omega) (by omega)
      have hw7 : ((nn : Int) - 1 - k).toNat = nn - k - 1 := by omega
      have hb1 : (k : Int) ≤ (nn : Int) - 1 := by omega
      have hb2 : (nn : Int) - 1 - k < (xs.length : Int) := by omega
      have hb3 : k < xs.length := by omega
      have hb4 : (0 : Int) ≤ (nn : Int) - 1 - k := by omega
      obtain ⟨x, hx⟩ := getN (l := xs) (k := k) (by omega)
      obtain ⟨y, hy⟩ := getN (l := xs) (k := nn - k - 1) (by omega)
      have hX := gE hx
      have hY := gE hy
      refine pw_skip ?_
      try simp only [thenP, inBlockP]
      apply hK69; try clear hK69 K69
      refine pw_block ?_
      refine pw_seq_k fun K72 hK72 => ?_
      refine pw_region 0 ?_
      refine pEv0_split 4 fun Kr73 hKr73 => ?_
      simp [sBinH, sBin, binop, E.ld, E.ok, E.set, E.len, toNat_add, List.getElem?_map, hw1, hw2, IntKind.bits, h3, h31, hw3, hx6, hx7, hx8, hx9, hw4, hw5, h71, hx5, hw6, hw7, hb1, hb2, hb3, hb4, hx, hy, hX, hY]
      apply hKr73; clear hKr73 Kr73
      simp [sBinH, sBin, binop, E.ld, E.ok, E.set, E.len, toNat_add, List.getElem?_map, hw1, hw2, IntKind.bits, h3, h31, hw3, hx6, hx7, hx8, hx9, hw4, hw5, h71, hx5, hw6, hw7, hb1, hb2, hb3, hb4, hx, hy, hX, hY]
      apply hK72; try clear hK72 K72
      refine pw_keep [0, 1, 2, 3, 4, 18, 19, 20, 21, 22, 23] ?_
      simp only [keepL, memL, cond_true, cond_false, ↓reduceIte, reduceCtorEq, Nat.reduceEqDiff]
      refine pw_seq_k fun K74 hK74 => ?_
      refine pw_region_draw mix 0 ?_
      refine pEv_split 4 fun Kr75 hKr75 => ?_
      simp [E.ld, E.ok, E.set, E.len, toNat_add, List.getElem?_map, hw1, hw2, IntKind.bits, h3, h31, hw3, hx6, hx7, hx8, hx9, hw4, hw5, h71, hx5, hw6, hw7, hb1, hb2, hb3, hb4, hx, hy, hX, hY]
      apply hKr75; clear hKr75 Kr75
      refine pEv_split 4 fun Kr76 hKr76 => ?_
      simp [sBinH, sBin, binop, E.ld, E.ok, E.set, E.len, toNat_add, List.getElem?_map, hw1, hw2, IntKind.bits, h3, h31, hw3, hx6, hx7, hx8, hx9, hw4, hw5, h71, hx5, hw6, hw7, hb1, hb2, hb3, hb4, hx, hy, hX, hY]
      apply hKr76; clear hKr76 Kr76
      refine pEv_split 3 fun Kr77 hKr77 => ?_
      simp [E.ld, E.ok, E.set, E.len, toNat_add, List.getElem?_map, hw1, hw2, IntKind.bits, h3, h31, hw3, hx6, hx7, hx8, hx9, hw4, hw5, h71, hx5, hw6, hw7, hb1, hb2, hb3, hb4, hx, hy, hX, hY]
      apply hKr77; clear hKr77 Kr77
      refine pEv_call' rfl rfl rfl (call_pure (hc _ _) he (by simp [E.cl, List.all_eq_true.1 hcap]; exact fun x hx => List.all_eq_true.1 hcap x hx) _) ?_
      simp [sBinH, sBin, binop, E.ld, E.ok, E.set, E.len, toNat_add, List.getElem?_map, hw1, hw2, IntKind.bits, h3, h31, hw3, hx6, hx7, hx8, hx9, hw4, hw5, h71, hx5, hw6, hw7, hb1, hb2, hb3, hb4, hx, hy, hX, hY]
      refine ⟨by decide +kernel, ?_⟩
      apply hK74; try clear hK74 K74
      refine pw_keep [0, 1, 2, 3, 4, 18, 19, 20, 21, 22, 23, 171] ?_
      simp only [keepL, memL, cond_true, cond_false, ↓reduceIte, reduceCtorEq, Nat.reduceEqDiff]
      refine pw_cond _ rfl (fun h78 => ?_) (fun h78 => ?_)
      ·try simp at h78
       have hlt := h78
       refine pw_region 0 ?_
       simp [sBinH, sBin, binop, E.ld, E.ok, E.set, E.len, toNat_add, List.getElem?_map, hw1, hw2, IntKind.bits, h3, h31, hw3, hx6, hx7, hx8, hx9, hw4, hw5, h71, hx5, hw6, hw7, hb1, hb2, hb3, hb4, hx, hy, hX, hY, h78]
       refine hKL68 _ (r - (k + 1)) (k + 1, r) ?_ ?_ ?_
       ·omega
       ·(try dsimp only) <;> (exact ⟨by omega, by omega, hjb, .inr ⟨x, y, by simpa using hx, by rw [show nn - (k + 1) = nn - k - 1 by omega]; exact hy, by omega⟩, hHi⟩)
       ·refine Wk.toF ?_ ?_ ?_ ?_ ?_
        ·try simp only [keepL, memL, cond_true, cond_false, ↓reduceIte, reduceCtorEq, Nat.reduceEqDiff, List.cons_append, List.nil_append, puts, put]
         repeat (first | exact trivial | (refine FLt.cons ?_ ?_; focus (first | exact Lt.refl _ | exact Lt.any _ | (refine lt_eq (congrArg (PV.int .i64) ?_); omega) | (refine lt_eq ?_; simp [h3, h31, h71, h78]; done) | (refine lt_eq ?_; simp [h3, h31, h71, h78] <;> omega))))
        ·try simp only [puts, put, ↓reduceIte, reduceCtorEq, Nat.reduceEqDiff]
         repeat (first | exact trivial | (refine ⟨⟨_, rfl, ?_⟩, ?_⟩; focus (first | exact BLt.refl _)))
        ·simp
        ·simp [E.within, withinL_of hcap]
        ·simp [E.within, withinL_of hcap]
      ·try simp at h78
       have hlt : cmp y x < 0 := by first | exact h78 | omega
       refine pw_region 0 ?_
       simp [E.ld, E.ok, E.set, E.len, toNat_add, List.getElem?_map, hw1, hw2, IntKind.bits, h3, h31, hw3, hx6, hx7, hx8, hx9, hw4, hw5, h71, hx5, hw6, hw7, hb1, hb2, hb3, hb4, hx, hy, hX, hY, h78]
       refine hKL68 _ (k - st) (st, k) ?_ ?_ ?_
       ·omega
       ·(try dsimp only) <;> (exact ⟨by omega, hmi, by omega, hLo, .inr ⟨x, y, hx, hy, hlt⟩⟩)
       ·refine Wk.toF ?_ ?_ ?_ ?_ ?_
        ·try simp only [keepL, memL, cond_true, cond_false, ↓reduceIte, reduceCtorEq, Nat.reduceEqDiff, List.cons_append, List.nil_append, puts, put]
         repeat (first | exact trivial | (refine FLt.cons ?_ ?_; focus (first | exact Lt.refl _ | exact Lt.any _ | (refine lt_eq (congrArg (PV.int .i64) ?_); omega) | (refine lt_eq ?_; simp [h3, h31, h71, h78]; done) | (refine lt_eq ?_; simp [h3, h31, h71, h78] <;> omega))))
        ·try simp only [puts, put, ↓reduceIte, reduceCtorEq, Nat.reduceEqDiff]
         repeat (first | exact trivial | (refine ⟨⟨_, rfl, ?_⟩, ?_⟩; focus (first | exact BLt.refl _)))
        ·simp
        ·simp [E.within, withinL_of hcap]
        ·simp [E.within, withinL_of hcap]
     ·try simp at h71
      obtain rfl : st = r := by omega
      obtain ⟨e, he2⟩ : ∃ e, st + e = nn := ⟨nn - st, by omega⟩
      have he3 : nn - st = e := by omega
      have hw6 : IntKind.i64.wrap ((nn : Int) - st) = (e : Int) := by rw [wrap_i64 (by omega) (by omega)]; omega
      have hLo2 : st = a ∨ e = b ∨ At2 xs (st - 1) e (fun x y => ¬ cmp y x < 0) := Or.elim hLo (fun e1 => Or.elim hf6 (fun e2 => .inl (by omega)) fun e2 => .inr (.inl (by omega))) fun e1 => .inr (.inr (by rw [← he3]; exact e1))
      have hHi2 : st = m ∨ e = m ∨ At2 xs st (e - 1) (fun x y => cmp y x < 0) := Or.elim hHi (fun e1 => Or.elim hf7 (fun e2 => .inl (by omega)) fun e2 => .inr (.inl (by omega))) fun e1 => .inr (.inr (by rw [← he3]; exact e1))
      obtain ⟨U1, U2, V1, V2, rfl, rfl, hU1, hV1, s1, s2, s3, s4, hsort⟩ := sym_split' h hsu hsv hxs ha hm hb (st := st) (e := e) (by omega) (by omega) (by omega) (by omega) hLo2 hHi2
      simp only [List.length_append] at hm hb hxl hN hu0 hv0 hu1 hv1
      obtain ⟨c1, hc1⟩ : ∃ c, c = A ++ (U1 ++ (V1 ++ (U2 ++ (V2 ++ B)))) := ⟨_, rfl⟩
      obtain ⟨c2, hc2⟩ : ∃ c, c = A ++ (sortBy cmp (U1 ++ V1) ++ (U2 ++ (V2 ++ B))) := ⟨_, rfl⟩
      have hcl1 : c1.length = xs.length := by rw [hc1, hxs]; simp; omega
      have hcl2 : c2.length = xs.length := by rw [hc2, hxs]; simp [sortBy_len]; omega
      have hys2 : ys = (A ++ sortBy cmp (U1 ++ V1)) ++ (sortBy cmp (U2 ++ V2) ++ B) := by rw [hys, hsort]; simp
      refine pw_exit ?_
      simp [thenP, inBlockP]
      apply hK67; try clear hK67 K67
      refine pw_keep [0, 1, 2, 3, 4, 18, 19, 20] ?_
      simp only [keepL, memL, cond_true, cond_false, ↓reduceIte, reduceCtorEq, Nat.reduceEqDiff]
      refine pw_seq_k fun K79 hK79 => ?_
      refine pw_region 0 ?_
      simp [sBinH, sBin, binop, E.ld, E.ok, E.set, E.len, toNat_add, List.getElem?_map, hw1, hw2, IntKind.bits, h3, h31, hw3, hx6, hx7, hx8, hx9, hw4, hw5, h71, hw6]
      apply hK79; try clear hK79 K79
      refine pw_keep [0, 1, 2, 3, 4, 18, 20, 24] ?_
      simp only [keepL, memL, cond_true, cond_false, ↓reduceIte, reduceCtorEq, Nat.reduceEqDiff]
      refine pw_cutF [0, 1, 3, 4, 18, 20, 24] [] [(0, ⟨0, true, .arr 3 (c1.map pv)⟩)] (fun K80 hK80 => ?_) ?_
      ·refine pw_seq_k fun K81 hK81 => ?_
       refine pw_region 0 ?_
       refine pEv0_split 4 fun Kr82 hKr82 => ?_
       simp [sBinH, sBin, binop, E.ld, E.ok, E.set, E.len, toNat_add, List.getElem?_map, hw1, hw2, IntKind.bits, h3, h31, hw3, hx6, hx7, hx8, hx9, hw4, hw5, h71, hw6]
       apply hKr82; clear hKr82 Kr82
       refine pEv0_guard _ rfl (fun hg83 => ?_) (fun hg83 => ?_)
       ·have hgb83 := eq_of_beq hg83
        try simp only [Bool.not_true, Bool.not_false] at hgb83
        try simp at hg83
        simp [sBinH, sBin, binop, E.ld, E.ok, E.set, E.len, toNat_add, List.getElem?_map, hw1, hw2, IntKind.bits, h3, h31, hw3, hx6, hx7, hx8, hx9, hw4, hw5, h71, hw6, hg83, hgb83]
        apply hK81; try clear hK81 K81
        refine pw_keep [0, 1, 2, 3, 4, 18, 20, 24, 185] ?_
        simp only [keepL, memL, cond_true, cond_false, ↓reduceIte, reduceCtorEq, Nat.reduceEqDiff]
        refine pw_cond _ rfl (fun h84 => ?_) (fun h84 => ?_)
        ·try simp at h84
         refine pw_region 0 ?_
         refine pEv0_split 4 fun Kr85 hKr85 => ?_
         simp [E.ld, E.ok, E.set, E.len, toNat_add, List.getElem?_map, hw1, hw2, IntKind.bits, h3, h31, hw3, hx6, hx7, hx8, hx9, hw4, hw5, h71, hw6, hg83, hgb83, h84]
         apply hKr85; clear hKr85 Kr85
         refine pEv0_split 1 fun Kr86 hKr86 => ?_
         simp [E.ld, E.ok, E.set, E.len, toNat_add, List.getElem?_map, hw1, hw2, IntKind.bits, h3, h31, hw3, hx6, hx7, hx8, hx9, hw4, hw5, h71, hw6, hg83, hgb83, h84]
         apply hKr86; clear hKr86 Kr86
         refine pEv0_call' rfl rfl rfl ((call_row (rot_L E hclo (A ++ U1) U2 V1 (V2 ++ B) xs c1 (by rw [hxs]; simp) (by rw [hc1]; simp) _ rfl _ _ _ (by simp; omega) (by simp; omega) (by simp; omega) (by omega) (by omega) (by omega)) en92 (by simp [List.map, ev_fr, ev_const, lk, hclo]) rfl (E.all _) (E.all _) rfl)) ?_
         simp [E.ld, E.ok, E.set, E.len, toNat_add, List.getElem?_map, hw1, hw2, IntKind.bits, h3, h31, hw3, hx6, hx7, hx8, hx9, hw4, hw5, h71, hw6, hg83, hgb83, h84]
         apply hK80; try clear hK80 K80
         refine Wk.toF ?_ ?_ ?_ ?_ ?_
         ·try simp only [keepL, memL, cond_true, cond_false, ↓reduceIte, reduceCtorEq, Nat.reduceEqDiff, List.cons_append, List.nil_append, puts, put]
          repeat (first | exact trivial | (refine FLt.cons ?_ ?_; focus (first | exact Lt.refl _ | exact Lt.any _ | (refine lt_eq (congrArg (PV.int .i64) ?_); omega) | (refine lt_eq ?_; simp [h3, h31, h71, hg83, hgb83, h84]; done) | (refine lt_eq ?_; simp [h3, h31, h71, hg83, hgb83, h84] <;> omega))))
         ·try simp only [puts, put, ↓reduceIte, reduceCtorEq, Nat.reduceEqDiff]
          repeat (first | exact trivial | (refine ⟨⟨_, rfl, ?_⟩, ?_⟩; focus (first | exact BLt.refl _ | (refine BLt.of_eq ?_; simp [h3, h31, h71, hg83, hgb83, h84]; done) | (refine BLt.of_eq ?_; simp [h3, h31, h71, hg83, hgb83, h84] <;> omega))))
         ·simp
         ·simp [E.within, withinL_of hcap]
         ·simp [E.within, withinL_of hcap]
        ·try simp at h84
         have hcx : xs = c1 := by rw [hxs, hc1, List.length_eq_zero_iff.1 (show V1.length = 0 by omega)]; simp
         refine pw_skip ?_
         try simp only [thenP, inBlockP]
         apply hK80; try clear hK80 K80
         refine Wk.toF ?_ ?_ ?_ ?_ ?_
         ·try simp only [keepL, memL, cond_true, cond_false, ↓reduceIte, reduceCtorEq, Nat.reduceEqDiff, List.cons_append, List.nil_append, puts, put]
          repeat (first | exact trivial | (refine FLt.cons ?_ ?_; focus (first | exact Lt.refl _ | exact Lt.any _ | (refine lt_eq (congrArg (PV.int .i64) ?_); omega) | (refine lt_eq ?_; simp [h3, h31, h71, hg83, hgb83, h84, hcx]; done) | (refine lt_eq ?_; simp [h3, h31, h71, hg83, hgb83, h84, hcx] <;> omega))))
         ·try simp only [puts, put, ↓reduceIte, reduceCtorEq, Nat.reduceEqDiff]
          repeat (first | exact trivial | (refine ⟨⟨_, rfl, ?_⟩, ?_⟩; focus (first | exact BLt.refl _ | (refine BLt.of_eq ?_; simp [h3, h31, h71, hg83, hgb83, h84, hcx]; done) | (refine BLt.of_eq ?_; simp [h3, h31, h71, hg83, hgb83, h84, hcx] <;> omega))))
         ·simp
         ·simp [E.within, withinL_of hcap]
         ·simp [E.within, withinL_of hcap]
       ·have hgb83 := beq_off hg83
        try simp only [Bool.not_true, Bool.not_false] at hgb83
        try simp at hg83
        have hcx : xs = c1 := by rw [hxs, hc1, List.length_eq_zero_iff.1 (show U2.length = 0 by omega)]; simp
        simp [sBinH, sBin, binop, E.ld, E.ok, E.set, E.len, toNat_add, List.getElem?_map, hw1, hw2, IntKind.bits, h3, h31, hw3, hx6, hx7, hx8, hx9, hw4, hw5, h71, hw6, hg83, hgb83, hcx]
        apply hK81; try clear hK81 K81
        refine pw_keep [0, 1, 2, 3, 4, 18, 20, 24, 185] ?_
        simp only [keepL, memL, cond_true, cond_false, ↓reduceIte, reduceCtorEq, Nat.reduceEqDiff]
        refine pw_cond _ rfl (fun h87 => ?_) (fun h87 => ?_)
        ·simp at h87
        ·clear h87
         refine pw_skip ?_
         try simp only [thenP, inBlockP]
         apply hK80; try clear hK80 K80
         refine Wk.toF ?_ ?_ ?_ ?_ ?_
         ·try simp only [keepL, memL, cond_true, cond_false, ↓reduceIte, reduceCtorEq, Nat.reduceEqDiff, List.cons_append, List.nil_append, puts, put]
          repeat (first | exact trivial | (refine FLt.cons ?_ ?_; focus (first | exact Lt.refl _ | exact Lt.any _ | (refine lt_eq (congrArg (PV.int .i64) ?_); omega) | (refine lt_eq ?_; simp [h3, h31, h71, hg83, hgb83, hcx]; done) | (refine lt_eq ?_; simp [h3, h31, h71, hg83, hgb83, hcx] <;> omega))))
         ·try simp only [puts, put, ↓reduceIte, reduceCtorEq, Nat.reduceEqDiff]
          repeat (first | exact trivial | (refine ⟨⟨_, rfl, ?_⟩, ?_⟩; focus (first | exact BLt.refl _ | (refine BLt.of_eq ?_; simp [h3, h31, h71, hg83, hgb83, hcx]; done) | (refine BLt.of_eq ?_; simp [h3, h31, h71, hg83, hgb83, hcx] <;> omega))))
         ·simp
         ·simp [E.within, withinL_of hcap]
         ·simp [E.within, withinL_of hcap]
      ·simp only [keepL, memL, cond_true, cond_false, ↓reduceIte, reduceCtorEq, Nat.reduceEqDiff, List.cons_append, List.nil_append, puts, put]
       refine pw_cutF [0, 3, 4, 18, 24] [] [(0, ⟨0, true, .arr 3 (c2.map pv)⟩)] (fun K88 hK88 => ?_) ?_
       ·refine pw_seq_k fun K89 hK89 => ?_
        refine pw_region 0 ?_
        refine pEv0_split 4 fun Kr90 hKr90 => ?_
        simp [sBinH, sBin, binop, E.ld, E.ok, E.set, E.len, toNat_add, List.getElem?_map, hw1, hw2, IntKind.bits, h3, h31, hw3, hx6, hx7, hx8, hx9, hw4, hw5, h71, hw6]
        apply hKr90; clear hKr90 Kr90
        refine pEv0_guard _ rfl (fun hg91 => ?_) (fun hg91 => ?_)
        ·have hgb91 := eq_of_beq hg91
         try simp only [Bool.not_true, Bool.not_false] at hgb91
         try simp at hg91
         simp [sBinH, sBin, binop, E.ld, E.ok, E.set, E.len, toNat_add, List.getElem?_map, hw1, hw2, IntKind.bits, h3, h31, hw3, hx6, hx7, hx8, hx9, hw4, hw5, h71, hw6, hg91, hgb91]
         apply hK89; try clear hK89 K89
         refine pw_keep [0, 1, 3, 4, 18, 20, 24, 199] ?_
         simp only [keepL, memL, cond_true, cond_false, ↓reduceIte, reduceCtorEq, Nat.reduceEqDiff]
         refine pw_cond _ rfl (fun h92 => ?_) (fun h92 => ?_)
         ·try simp at h92
          refine pw_region 0 ?_
          refine pEv0_split 4 fun Kr93 hKr93 => ?_
          simp [E.ld, E.ok, E.set, E.len, toNat_add, List.getElem?_map, hw1, hw2, IntKind.bits, h3, h31, hw3, hx6, hx7, hx8, hx9, hw4, hw5, h71, hw6, hg91, hgb91, h92]
          apply hKr93; clear hKr93 Kr93
          refine pEv0_split 1 fun Kr94 hKr94 => ?_
          simp [E.ld, E.ok, E.set, E.len, toNat_add, List.getElem?_map, hw1, hw2, IntKind.bits, h3, h31, hw3, hx6, hx7, hx8, hx9, hw4, hw5, h71, hw6, hg91, hgb91, h92]
          apply hKr94; clear hKr94 Kr94
          refine pEv0_call' rfl rfl rfl ((call_row (hcl1 ▸ ih (U1.length + V1.length) (by omega) A U1 V1 (U2 ++ (V2 ++ B)) c1 c2 _ _ _ (Nat.le_refl _) s1 s3 (by omega) (by omega) hc1 hc2 ha (by omega) (by omega) (by omega)) en88 (by simp [List.map, ev_fr, ev_const, lk, hclo]) rfl (E.all _) (E.all _) rfl)) ?_
          simp [E.ld, E.ok, E.set, E.len, toNat_add, List.getElem?_map, hw1, hw2, IntKind.bits, h3, h31, hw3, hx6, hx7, hx8, hx9, hw4, hw5, h71, hw6, hg91, hgb91, h92]
          apply hK88; try clear hK88 K88
          refine Wk.toF ?_ ?_ ?_ ?_ ?_
          ·try simp only [keepL, memL, cond_true, cond_false, ↓reduceIte, reduceCtorEq, Nat.reduceEqDiff, List.cons_append, List.nil_append, puts, put]
           repeat (first | exact trivial | (refine FLt.cons ?_ ?_; focus (first | exact Lt.refl _ | exact Lt.any _ | (refine lt_eq (congrArg (PV.int .i64) ?_); omega) | (refine lt_eq ?_; simp [h3, h31, h71, hg91, hgb91, h92]; done) | (refine lt_eq ?_; simp [h3, h31, h71, hg91, hgb91, h92] <;> omega))))
          ·try simp only [puts, put, ↓reduceIte, reduceCtorEq, Nat.reduceEqDiff]
           repeat (first | exact trivial | (refine ⟨⟨_, rfl, ?_⟩, ?_⟩; focus (first | exact BLt.refl _ | (refine BLt.of_eq ?_; simp [h3, h31, h71, hg91, hgb91, h92]; done) | (refine BLt.of_eq ?_; simp [h3, h31, h71, hg91, hgb91, h92] <;> omega))))
          ·simp
          ·simp [E.within, withinL_of hcap]
          ·simp [E.within, withinL_of hcap]
         ·try simp at h92
          have hcx : c1 = c2 := by rw [hc1, hc2, List.length_eq_zero_iff.1 (show V1.length = 0 by omega)]; simp [sortBy_self h s1]
          refine pw_skip ?_
          try simp only [thenP, inBlockP]
          apply hK88; try clear hK88 K88
          refine Wk.toF ?_ ?_ ?_ ?_ ?_
          ·try simp only [keepL, memL, cond_true, cond_false, ↓reduceIte, reduceCtorEq, Nat.reduceEqDiff, List.cons_append, List.nil_append, puts, put]
           repeat (first | exact trivial | (refine FLt.cons ?_ ?_; focus (first | exact Lt.refl _ | exact Lt.any _ | (refine lt_eq (congrArg (PV.int .i64) ?_); omega) | (refine lt_eq ?_; simp [h3, h31, h71, hg91, hgb91, h92, hcx]; done) | (refine lt_eq ?_; simp [h3, h31, h71, hg91, hgb91, h92, hcx] <;> omega))))
          ·try simp only [puts, put, ↓reduceIte, reduceCtorEq, Nat.reduceEqDiff]
           repeat (first | exact trivial | (refine ⟨⟨_, rfl, ?_⟩, ?_⟩; focus (first | exact BLt.refl _ | (refine BLt.of_eq ?_; simp [h3, h31, h71, hg91, hgb91, h92, hcx]; done) | (refine BLt.of_eq ?_; simp [h3, h31, h71, hg91, hgb91, h92, hcx] <;> omega))))
          ·simp
          ·simp [E.within, withinL_of hcap]
          ·simp [E.within, withinL_of hcap]
        ·have hgb91 := beq_off hg91
         try simp only [Bool.not_true, Bool.not_false] at hgb91
         try simp at hg91
         have hcx : c1 = c2 := by rw [hc1, hc2, List.length_eq_zero_iff.1 (show U1.length = 0 by omega)]; simp [sortBy_self h s3]
         simp [sBinH, sBin, binop, E.ld, E.ok, E.set, E.len, toNat_add, List.getElem?_map, hw1, hw2, IntKind.bits, h3, h31, hw3, hx6, hx7, hx8, hx9, hw4, hw5, h71, hw6, hg91, hgb91, hcx]
         apply hK89; try clear hK89 K89
         refine pw_keep [0, 1, 3, 4, 18, 20, 24, 199] ?_
         simp only [keepL, memL, cond_true, cond_false, ↓reduceIte, reduceCtorEq, Nat.reduceEqDiff]
         refine pw_cond _ rfl (fun h95 => ?_) (fun h95 => ?_)
         ·simp at h95
         ·clear h95
          refine pw_skip ?_
          try simp only [thenP, inBlockP]
          apply hK88; try clear hK88 K88
          refine Wk.toF ?_ ?_ ?_ ?_ ?_
          ·try simp only [keepL, memL, cond_true, cond_false, ↓reduceIte, reduceCtorEq, Nat.reduceEqDiff, List.cons_append, List.nil_append, puts, put]
           repeat (first | exact trivial | (refine FLt.cons ?_ ?_; focus (first | exact Lt.refl _ | exact Lt.any _ | (refine lt_eq (congrArg (PV.int .i64) ?_); omega) | (refine lt_eq ?_; simp [h3, h31, h71, hg91, hgb91, hcx]; done) | (refine lt_eq ?_; simp [h3, h31, h71, hg91, hgb91, hcx] <;> omega))))
          ·try simp only [puts, put, ↓reduceIte, reduceCtorEq, Nat.reduceEqDiff]
           repeat (first | exact trivial | (refine ⟨⟨_, rfl, ?_⟩, ?_⟩; focus (first | exact BLt.refl _ | (refine BLt.of_eq ?_; simp [h3, h31, h71, hg91, hgb91, hcx]; done) | (refine BLt.of_eq ?_; simp [h3, h31, h71, hg91, hgb91, hcx] <;> omega))))
          ·simp
          ·simp [E.within, withinL_of hcap]
          ·simp [E.within, withinL_of hcap]
       ·simp only [keepL, memL, cond_true, cond_false, ↓reduceIte, reduceCtorEq, Nat.reduceEqDiff, List.cons_append, List.nil_append, puts, put]
        refine pw_seq_k fun K96 hK96 => ?_
        refine pw_region 0 ?_
        refine pEv0_split 4 fun Kr97 hKr97 => ?_
        simp [sBinH, sBin, binop, E.ld, E.ok, E.set, E.len, toNat_add, List.getElem?_map, hw1, hw2, IntKind.bits, h3, h31, hw3, hx6, hx7, hx8, hx9, hw4, hw5, h71, hw6]
        apply hKr97; clear hKr97 Kr97
        refine pEv0_guard _ rfl (fun hg98 => ?_) (fun hg98 => ?_)
        ·have hgb98 := eq_of_beq hg98
         try simp only [Bool.not_true, Bool.not_false] at hgb98
         try simp at hg98
         simp [sBinH, sBin, binop, E.ld, E.ok, E.set, E.len, toNat_add, List.getElem?_map, hw1, hw2, IntKind.bits, h3, h31, hw3, hx6, hx7, hx8, hx9, hw4, hw5, h71, hw6, hg98, hgb98]
         apply hK96; try clear hK96 K96
         refine pw_keep [0, 3, 4, 18, 24, 213] ?_
         simp only [keepL, memL, cond_true, cond_false, ↓reduceIte, reduceCtorEq, Nat.reduceEqDiff]
         refine pw_cond _ rfl (fun h99 => ?_) (fun h99 => ?_)
         ·try simp at h99
          refine pw_region 0 ?_
          refine pEv0_split 4 fun Kr100 hKr100 => ?_
          simp [E.ld, E.ok, E.set, E.len, toNat_add, List.getElem?_map, hw1, hw2, IntKind.bits, h3, h31, hw3, hx6, hx7, hx8, hx9, hw4, hw5, h71, hw6, hg98, hgb98, h99]
          apply hKr100; clear hKr100 Kr100
          refine pEv0_split 1 fun Kr101 hKr101 => ?_
          simp [E.ld, E.ok, E.set, E.len, toNat_add, List.getElem?_map, hw1, hw2, IntKind.bits, h3, h31, hw3, hx6, hx7, hx8, hx9, hw4, hw5, h71, hw6, hg98, hgb98, h99]
          apply hKr101; clear hKr101 Kr101
          refine pEv0_call' rfl rfl rfl ((call_row (hcl2 ▸ ih (U2.length + V2.length) (by omega) (A ++ sortBy cmp (U1 ++ V1)) U2 V2 B c2 ys _ _ _ (Nat.le_refl _) s2 s4 (by omega) (by omega) (by rw [hc2]; simp) hys2 (by simp [sortBy_len]; omega) (by omega) (by omega) (by omega)) en88 (by simp [List.map, ev_fr, ev_const, lk, hclo]) rfl (E.all _) (E.all _) rfl)) ?_
          simp [E.ld, E.ok, E.set, E.len, toNat_add, List.getElem?_map, hw1, hw2, IntKind.bits, h3, h31, hw3, hx6, hx7, hx8, hx9, hw4, hw5, h71, hw6, hg98, hgb98, h99]
          try simp only [thenP, inBlockP]
          refine bodyW_fr (by first | exact .inl rfl | exact .inr rfl) _ rfl ?_
          refine Wk.to ?_ ?_ ?_ ?_ ?_
          ·try simp only [keepL, memL, cond_true, cond_false, ↓reduceIte, reduceCtorEq, Nat.reduceEqDiff, List.cons_append, List.nil_append, puts, put]
           (repeat (first | exact LtL.nil | (refine LtL.cons ?_ ?_; focus (first | exact Lt.refl _ | exact Lt.any _ | (refine Lt.nilb ?_; simp; done) | exact Lt.nilsl _ | (refine lt_frozB rfl rfl rfl rfl ?_ ?_ ?_ <;> (first | rfl | (simp [h3, h31, h71, hg98, hgb98, h99]; done) | (simp [h3, h31, h71, hg98, hgb98, h99] <;> omega)); done) | (refine lt_eq (congrArg (PV.int .i64) ?_); omega) | (refine lt_eq ?_; simp [h3, h31, h71, hg98, hgb98, h99]; done) | (refine lt_eq ?_; simp [h3, h31, h71, hg98, hgb98, h99] <;> omega)))))
          ·try simp only [puts, put, ↓reduceIte, reduceCtorEq, Nat.reduceEqDiff]
           repeat (first | exact trivial | (refine ⟨⟨_, rfl, ?_⟩, ?_⟩; focus (first | exact BLt.refl _ | (refine BLt.of_eq ?_; simp [h3, h31, h71, hg98, hgb98, h99]; done) | (refine BLt.of_eq ?_; simp [h3, h31, h71, hg98, hgb98, h99] <;> omega) | (refine BLt.pre ?_; simp [h3, h31, h71, hg98, hgb98, h99]; done) | (refine BLt.one ?_; (repeat (first | exact LtL.nil | (refine LtL.cons ?_ ?_; focus (first | exact Lt.refl _ | exact Lt.any _ | (refine Lt.nilb ?_; simp; done) | exact Lt.nilsl _ | (refine lt_frozB rfl rfl rfl rfl ?_ ?_ ?_ <;> (first | rfl | (simp [h3, h31, h71, hg98, hgb98, h99]; done) | (simp [h3, h31, h71, hg98, hgb98, h99] <;> omega)); done) | (refine lt_eq (congrArg (PV.int .i64) ?_); omega) | (refine lt_eq ?_; simp [h3, h31, h71, hg98, hgb98, h99]; done) | (refine lt_eq ?_; simp [h3, h31, h71, hg98, hgb98, h99] <;> omega))))); done) | (refine BLt.cell ?_ rfl rfl; (first | exact Lt.refl _ | exact Lt.any _ | (refine Lt.nilb ?_; simp; done) | exact Lt.nilsl _ | (refine lt_frozB rfl rfl rfl rfl ?_ ?_ ?_ <;> (first | rfl | (simp [h3, h31, h71, hg98, hgb98, h99]; done) | (simp [h3, h31, h71, hg98, hgb98, h99] <;> omega)); done) | (refine lt_eq (congrArg (PV.int .i64) ?_); omega) | (refine lt_eq ?_; simp [h3, h31, h71, hg98, hgb98, h99]; done) | (refine lt_eq ?_; simp [h3, h31, h71, hg98, hgb98, h99] <;> omega))))))
          ·simp
          ·simp [E.within, withinL_of hcap]
          ·simp [E.within, withinL_of hcap]
         ·try simp at h99
          have hcx : c2 = ys := by rw [hc2, hys2, List.length_eq_zero_iff.1 (show V2.length = 0 by omega)]; simp [sortBy_self h s2]
          refine pw_skip ?_
          try simp only [thenP, inBlockP]
          try simp only [thenP, inBlockP]
          refine bodyW_fr (by first | exact .inl rfl | exact .inr rfl) _ rfl ?_
          refine Wk.to ?_ ?_ ?_ ?_ ?_
          ·try simp only [keepL, memL, cond_true, cond_false, ↓reduceIte, reduceCtorEq, Nat.reduceEqDiff, List.cons_append, List.nil_append, puts, put]
           (repeat (first | exact LtL.nil | (refine LtL.cons ?_ ?_; focus (first | exact Lt.refl _ | exact Lt.any _ | (refine Lt.nilb ?_; simp; done) | exact Lt.nilsl _ | (refine lt_frozB rfl rfl rfl rfl ?_ ?_ ?_ <;> (first | rfl | (simp [h3, h31, h71, hg98, hgb98, h99, hcx]; done) | (simp [h3, h31, h71, hg98, hgb98, h99, hcx] <;> omega)); done) | (refine lt_eq (congrArg (PV.int .i64) ?_); omega) | (refine lt_eq ?_; simp [h3, h31, h71, hg98, hgb98, h99, hcx]; done) | (refine lt_eq ?_; simp [h3, h31, h71, hg98, hgb98, h99, hcx] <;> omega)))))
          ·try simp only [puts, put, ↓reduceIte, reduceCtorEq, Nat.reduceEqDiff]
           repeat (first | exact trivial | (refine ⟨⟨_, rfl, ?_⟩, ?_⟩; focus (first | exact BLt.refl _ | (refine BLt.of_eq ?_; simp [h3, h31, h71, hg98, hgb98, h99, hcx]; done) | (refine BLt.of_eq ?_; simp [h3, h31, h71, hg98, hgb98, h99, hcx] <;> omega) | (refine BLt.pre ?_; simp [h3, h31, h71, hg98, hgb98, h99, hcx]; done) | (refine BLt.one ?_; (repeat (first | exact LtL.nil | (refine LtL.cons ?_ ?_; focus (first | exact Lt.refl _ | exact Lt.any _ | (refine Lt.nilb ?_; simp; done) | exact Lt.nilsl _ | (refine lt_frozB rfl rfl rfl rfl ?_ ?_ ?_ <;> (first | rfl | (simp [h3, h31, h71, hg98, hgb98, h99, hcx]; done) | (simp [h3, h31, h71, hg98, hgb98, h99, hcx] <;> omega)); done) | (refine lt_eq (congrArg (PV.int .i64) ?_); omega) | (refine lt_eq ?_; simp [h3, h31, h71, hg98, hgb98, h99, hcx]; done) | (refine lt_eq ?_; simp [h3, h31, h71, hg98, hgb98, h99, hcx] <;> omega))))); done) | (refine BLt.cell ?_ rfl rfl; (first | exact Lt.refl _ | exact Lt.any _ | (refine Lt.nilb ?_; simp; done) | exact Lt.nilsl _ | (refine lt_frozB rfl rfl rfl rfl ?_ ?_ ?_ <;> (first | rfl | (simp [h3, h31, h71, hg98, hgb98, h99, hcx]; done) | (simp [h3, h31, h71, hg98, hgb98, h99, hcx] <;> omega)); done) | (refine lt_eq (congrArg (PV.int .i64) ?_); omega) | (refine lt_eq ?_; simp [h3, h31, h71, hg98, hgb98, h99, hcx]; done) | (refine lt_eq ?_; simp [h3, h31, h71, hg98, hgb98, h99, hcx] <;> omega))))))
          ·simp
          ·simp [E.within, withinL_of hcap]
          ·simp [E.within, withinL_of hcap]
        ·have hgb98 := beq_off hg98
         try simp only [Bool.not_true, Bool.not_false] at hgb98
         try simp at hg98
         have hcx : c2 = ys := by rw [hc2, hys2, List.length_eq_zero_iff.1 (show U2.length = 0 by omega)]; simp [sortBy_self h s4]
         simp [sBinH, sBin, binop, E.ld, E.ok, E.set, E.len, toNat_add, List.getElem?_map, hw1, hw2, IntKind.bits, h3, h31, hw3, hx6, hx7, hx8, hx9, hw4, hw5, h71, hw6, hg98, hgb98, hcx]
         apply hK96; try clear hK96 K96
         refine pw_keep [0, 3, 4, 18, 24, 213] ?_
         simp only [keepL, memL, cond_true, cond_false, ↓reduceIte, reduceCtorEq, Nat.reduceEqDiff]
         refine pw_cond _ rfl (fun h102 => ?_) (fun h102 => ?_)
         ·simp at h102
         ·clear h102
          refine pw_skip ?_
          try simp only [thenP, inBlockP]
          try simp only [thenP, inBlockP]
          refine bodyW_fr (by first | exact .inl rfl | exact .inr rfl) _ rfl ?_
          refine Wk.to ?_ ?_ ?_ ?_ ?_
          ·try simp only [keepL, memL, cond_true, cond_false, ↓reduceIte, reduceCtorEq, Nat.reduceEqDiff, List.cons_append, List.nil_append, puts, put]
           (repeat (first | exact LtL.nil | (refine LtL.cons ?_ ?_; focus (first | exact Lt.refl _ | exact Lt.any _ | (refine Lt.nilb ?_; simp; done) | exact Lt.nilsl _ | (refine lt_frozB rfl rfl rfl rfl ?_ ?_ ?_ <;> (first | rfl | (simp [h3, h31, h71, hg98, hgb98, hcx]; done) | (simp [h3, h31, h71, hg98, hgb98, hcx] <;> omega)); done) | (refine lt_eq (congrArg (PV.int .i64) ?_); omega) | (refine lt_eq ?_; simp [h3, h31, h71, hg98, hgb98, hcx]; done) | (refine lt_eq ?_; simp [h3, h31, h71, hg98, hgb98, hcx] <;> omega)))))
          ·try simp only [puts, put, ↓reduceIte, reduceCtorEq, Nat.reduceEqDiff]
           repeat (first | exact trivial | (refine ⟨⟨_, rfl, ?_⟩, ?_⟩; focus (first | exact BLt.refl _ | (refine BLt.of_eq ?_; simp [h3, h31, h71, hg98, hgb98, hcx]; done) | (refine BLt.of_eq ?_; simp [h3, h31, h71, hg98, hgb98, hcx] <;> omega) | (refine BLt.pre ?_; simp [h3, h31, h71, hg98, hgb98, hcx]; done) | (refine BLt.one ?_; (repeat (first | exact LtL.nil | (refine LtL.cons ?_ ?_; focus (first | exact Lt.refl _ | exact Lt.any _ | (refine Lt.nilb ?_; simp; done) | exact Lt.nilsl _ | (refine lt_frozB rfl rfl rfl rfl ?_ ?_ ?_ <;> (first | rfl | (simp [h3, h31, h71, hg98, hgb98, hcx]; done) | (simp [h3, h31, h71, hg98, hgb98, hcx] <;> omega)); done) | (refine lt_eq (congrArg (PV.int .i64) ?_); omega) | (refine lt_eq ?_; simp [h3, h31, h71, hg98, hgb98, hcx]; done) | (refine lt_eq ?_; simp [h3, h31, h71, hg98, hgb98, hcx] <;> omega))))); done) | (refine BLt.cell ?_ rfl rfl; (first | exact Lt.refl _ | exact Lt.any _ | (refine Lt.nilb ?_; simp; done) | exact Lt.nilsl _ | (refine lt_frozB rfl rfl rfl rfl ?_ ?_ ?_ <;> (first | rfl | (simp [h3, h31, h71, hg98, hgb98, hcx]; done) | (simp [h3, h31, h71, hg98, hgb98, hcx] <;> omega)); done) | (refine lt_eq (congrArg (PV.int .i64) ?_); omega) | (refine lt_eq ?_; simp [h3, h31, h71, hg98, hgb98, hcx]; done) | (refine lt_eq ?_; simp [h3, h31, h71, hg98, hgb98, hcx] <;> omega))))))
          ·simp
          ·simp [E.within, withinL_of hcap]
          ·simp [E.within, withinL_of hcap]
theorem symM_L {X : Type} {pv : X → PV} (E : El true 3 pv) {cmp : X → X → Int} {fc : FuncId} {cap : List PV} (he : Enters Try.prog fc) (hc : ∀ x y, PFun Try.prog fc (pv x :: pv y :: cap) (.int .i64 (cmp x y))) (hcap : (cap.all PV.closed) = true) (h : TP cmp) (A U V B c c' : List X) (hsu : Sorted cmp U) (hsv : Sorted cmp V) (hu0 : 0 < U.length) (hv0 : 0 < V.length) (hcc : c = A ++ (U ++ (V ++ B))) (hcc' : c' = A ++ (sortBy cmp (U ++ V) ++ B)) (N : Nat) (hN : N = c.length) (a m b : Int) (ha : a = A.length) (hm : m = A.length + U.length) (hb : b = A.length + U.length + V.length) (hl : c.length < 2 ^ 31) :
    PBox Try.prog 88 [.bsl 0 0 3 0 N, .int .i64 a, .int .i64 m, .int .i64 b, .clo fc [] cap] [(0, ⟨0, true, .arr 3 (c.map pv)⟩)] (.tup []) [(0, ⟨0, true, .arr 3 (c'.map pv)⟩)] := by
  have := symM0_L E he hc hcap h _ A U V B c c' A.length (A.length + U.length) (A.length + U.length + V.length) (Nat.le_refl _) hsu hsv hu0 hv0 hcc hcc' rfl rfl rfl hl
  subst hN ha
  rw [show m = ((A.length + U.length : Nat) : Int) by omega, show b = ((A.length + U.length + V.length : Nat) : Int) by omega]
  exact this

set_option maxRecDepth 100000 in
set_option maxHeartbeats 4000000 in
theorem stable0_L {X : Type} {pv : X → PV} (E : El true 3 pv) {cmp : X → X → Int} {fc : FuncId} {cap : List PV} (he : Enters Try.prog fc) (hc : ∀ x y, PFun Try.prog fc (pv x :: pv y :: cap) (.int .i64 (cmp x y))) (hcap : (cap.all PV.closed) = true) (h : TP cmp) (xs : List X) (n : Nat) (hn : n = xs.length) (hl : n < 2 ^ 31) : PBox Try.prog 79 [.bsl 0 0 3 0 n, .int .i64 (n : Nat), .clo fc [] cap] [(0, ⟨0, true, .arr 3 (xs.map pv)⟩)] (.tup []) [(0, ⟨0, true, .arr 3 ((sortBy cmp xs).map pv)⟩)] := by
 have hclo : (PV.clo fc [] cap).closed = true := by simp only [PV.closed, PV.within, PV.within.go, Bool.true_and]; exact withinL_of hcap
 refine PBox.of_bodyF Try.func79 rfl 63 rfl (by simp) fun c0 => ?_
 simp only [argL, Nat.reduceAdd]
 refine pw_seq_k fun K1 hK1 => ?_
 refine pw_region 0 ?_
 simp [E.ld, E.ok, E.set, E.len, toNat_add, List.getElem?_map]
 apply hK1; try clear hK1 K1
 refine pw_seq_k fun K2 hK2 => ?_
 refine pw_region 0 ?_
 simp [E.ld, E.ok, E.set, E.len, toNat_add, List.getElem?_map]
 apply hK2; try clear hK2 K2
 refine pw_seq_k fun K3 hK3 => ?_
 refine pw_block ?_
 refine pw_loopF (α := Nat × Nat × (List X)) [0, 1, 2, 6] (fun s => [(7, .int .i64 (s.1 : Nat)), (8, .int .i64 (s.2.1 : Nat))]) (fun s => [(0, ⟨0, true, .arr 3 (s.2.2.map pv)⟩)]) (fun m0 s => s.1 + m0 = n ∧ s.2.1 = s.1 + 20 ∧ s.2.2.length = n ∧ BlkI cmp 20 s.1 s.2.2 xs) (n) (0, 20, xs) ?_ ?_ ?_
 ·(try dsimp only) <;> (exact ⟨by omega, rfl, hn.symm, BlkI.start 20 xs⟩)
 ·refine Wk.toF ?_ ?_ ?_ ?_ ?_
  ·try simp only [keepL, memL, cond_true, cond_false, ↓reduceIte, reduceCtorEq, Nat.reduceEqDiff, List.cons_append, List.nil_append, puts, put]
   repeat (first | exact trivial | (refine FLt.cons ?_ ?_; focus (first | exact Lt.refl _ | exact Lt.any _ | (refine lt_eq (congrArg (PV.int .i64) ?_); omega) | (refine lt_eq ?_; simp; done) | (refine lt_eq ?_; simp <;> omega))))
  ·try simp only [puts, put, ↓reduceIte, reduceCtorEq, Nat.reduceEqDiff]
   repeat (first | exact trivial | (refine ⟨⟨_, rfl, ?_⟩, ?_⟩; focus (first | exact BLt.refl _ | (refine BLt.of_eq ?_; simp; done) | (refine BLt.of_eq ?_; simp <;> omega))))
  ·simp
  ·simp [E.within, withinL_of hcap]
  ·simp [E.within, withinL_of hcap]
 ·intro m0 s hinv KL4 hKL4
  obtain ⟨a, b, c⟩ := s
  try dsimp only at hinv
  obtain ⟨hk, hba, hcl, hI⟩ := hinv
  simp only [keepL, memL, cond_true, cond_false, ↓reduceIte, reduceCtorEq, Nat.reduceEqDiff, List.cons_append, List.nil_append, puts, put]
  refine pw_seq_k fun K5 hK5 => ?_
  refine pw_seq_k fun K6 hK6 => ?_
  refine pw_region 0 ?_
  simp [sBinH, sBin, binop, E.ld, E.ok, E.set, E.len, toNat_add, List.getElem?_map]
  apply hK6; try clear hK6 K6
  refine pw_cond _ rfl (fun h7 => ?_) (fun h7 => ?_)
  ·try simp at h7
   obtain ⟨P, U, R, hcc, hP, hU, hI'⟩ := hI.step h (by omega) (by omega)
   obtain ⟨c', hc'⟩ : ∃ c', c' = P ++ (sortBy cmp U ++ R) := ⟨_, rfl⟩
   have hw1 := wrap_i64 (n := (b : Int) + 20) (by omega) (by omega)
   refine pw_skip ?_
   try simp only [thenP, inBlockP]
   apply hK5; try clear hK5 K5
   refine pw_block ?_
   refine pw_seq_k fun K8 hK8 => ?_
   refine pw_region 0 ?_
   refine pEv0_split 4 fun Kr9 hKr9 => ?_
   simp [E.ld, E.ok, E.set, E.len, toNat_add, List.getElem?_map, h7, hw1]
   apply hKr9; clear hKr9 Kr9
   refine pEv0_call' rfl rfl rfl ((call_row (insS_L E he hc hcap P U R c c' hcc hc' _ hcl.symm _ _ (by omega) (by omega) (by omega)) en87 (by simp [List.map, ev_fr, ev_const, lk, hclo]) rfl (E.all _) (E.all _) rfl)) ?_
   simp [E.ld, E.ok, E.set, E.len, toNat_add, List.getElem?_map, h7, hw1]
   apply hK8; try clear hK8 K8
   refine pw_keep [0, 1, 2, 6, 8] ?_
   simp only [keepL, memL, cond_true, cond_false, ↓reduceIte, reduceCtorEq, Nat.reduceEqDiff]
   refine pw_seq_k fun K10 hK10 => ?_
   refine pw_region 0 ?_
   simp [E.ld, E.ok, E.set, E.len, toNat_add, List.getElem?_map, h7, hw1]
   apply hK10; try clear hK10 K10
   refine pw_region 0 ?_
   simp [sBinH, sBin, binop, E.ld, E.ok, E.set, E.len, toNat_add, List.getElem?_map, h7, hw1]
   refine hKL4 _ (m0 - 20) (b, b + 20, c') ?_ ?_ ?_
   ·omega
   ·(try dsimp only) <;> (exact ⟨by omega, rfl, by rw [hc', ← hcl, hcc]; simp [sortBy_len, Nat.add_assoc], hba ▸ hI' c' hc'⟩)
   ·refine Wk.toF ?_ ?_ ?_ ?_ ?_
    ·try simp only [keepL, memL, cond_true, cond_false, ↓reduceIte, reduceCtorEq, Nat.reduceEqDiff, List.cons_append, List.nil_append, puts, put]
     repeat (first | exact trivial | (refine FLt.cons ?_ ?_; focus (first | exact Lt.refl _ | exact Lt.any _ | (refine lt_eq (congrArg (PV.int .i64) ?_); omega) | (refine lt_eq ?_; simp [h7]; done) | (refine lt_eq ?_; simp [h7] <;> omega))))
    ·try simp only [puts, put, ↓reduceIte, reduceCtorEq, Nat.reduceEqDiff]
     repeat (first | exact trivial | (refine ⟨⟨_, rfl, ?_⟩, ?_⟩; focus (first | exact BLt.refl _ | (refine BLt.of_eq ?_; simp [h7]; done) | (refine BLt.of_eq ?_; simp [h7] <;> omega))))
    ·simp
    ·simp [E.within, withinL_of hcap]
    ·simp [E.within, withinL_of hcap]
  ·try simp at h7
   obtain ⟨P, U, hcc, hP, hU, hI'⟩ := hI.last h (by omega) (by omega) (by omega)
   obtain ⟨c', hc'⟩ : ∃ c', c' = P ++ (sortBy cmp U ++ []) := ⟨_, rfl⟩
   have hI' := hI' c' hc'
   refine pw_exit ?_
   simp [thenP, inBlockP]
   apply hK3; try clear hK3 K3
   refine pw_keep [0, 1, 2, 6, 7] ?_
   simp only [keepL, memL, cond_true, cond_false, ↓reduceIte, reduceCtorEq, Nat.reduceEqDiff]
   refine pw_seq_k fun K11 hK11 => ?_
   refine pw_region 0 ?_
   refine pEv0_split 4 fun Kr12 hKr12 => ?_
   simp [E.ld, E.ok, E.set, E.len, toNat_add, List.getElem?_map, h7]
   apply hKr12; clear hKr12 Kr12
   refine pEv0_call' rfl rfl rfl ((call_row (insS_L E he hc hcap P U [] c c' hcc hc' _ hcl.symm _ _ (by omega) (by omega) (by omega)) en87 (by simp [List.map, ev_fr, ev_const, lk, hclo]) rfl (E.all _) (E.all _) rfl)) ?_
   simp [E.ld, E.ok, E.set, E.len, toNat_add, List.getElem?_map, h7]
   apply hK11; try clear hK11 K11
   refine pw_keep [0, 1, 2, 6] ?_
   simp only [keepL, memL, cond_true, cond_false, ↓reduceIte, reduceCtorEq, Nat.reduceEqDiff]
   refine pw_block ?_
   refine pw_loopF (α := Nat × (List X)) [0, 1, 2] (fun s => [(6, .int .i64 (s.1 : Nat))]) (fun s => [(0, ⟨0, true, .arr 3 (s.2.map pv)⟩)]) (fun m1 s => m1 = n - s.1 ∧ 20 ≤ s.1 ∧ s.1 ≤ 2 * n + 20 ∧ s.2.length = n ∧ BS cmp s.1 s.2 ∧ StEq cmp s.2 xs) (n - 20) (20, c') ?_ ?_ ?_
   ·(try dsimp only) <;> (exact ⟨rfl, by omega, by omega, by rw [hc', ← hcl, hcc]; simp [sortBy_len], hI'.1, hI'.2⟩)
   ·refine Wk.toF ?_ ?_ ?_ ?_ ?_
    ·try simp only [keepL, memL, cond_true, cond_false, ↓reduceIte, reduceCtorEq, Nat.reduceEqDiff, List.cons_append, List.nil_append, puts, put]
     repeat (first | exact trivial | (refine FLt.cons ?_ ?_; focus (first | exact Lt.refl _ | exact Lt.any _ | (refine lt_eq (congrArg (PV.int .i64) ?_); omega) | (refine lt_eq ?_; simp [h7]; done) | (refine lt_eq ?_; simp [h7] <;> omega))))
    ·try simp only [puts, put, ↓reduceIte, reduceCtorEq, Nat.reduceEqDiff]
     repeat (first | exact trivial | (refine ⟨⟨_, rfl, ?_⟩, ?_⟩; focus (first | exact BLt.refl _ | (refine BLt.of_eq ?_; simp [h7]; done) | (refine BLt.of_eq ?_; simp [h7] <;> omega))))
    ·simp
    ·simp [E.within, withinL_of hcap]
    ·simp [E.within, withinL_of hcap]
   ·intro m1 s hinv KL13 hKL13
    obtain ⟨bs, c⟩ := s
    try dsimp only at hinv
    obtain ⟨hk, hb20, hb2, hcl, hBS, hSt⟩ := hinv
    simp only [keepL, memL, cond_true, cond_false, ↓reduceIte, reduceCtorEq, Nat.reduceEqDiff, List.cons_append, List.nil_append, puts, put]
    refine pw_seq_k fun K14 hK14 => ?_
    refine pw_seq_k fun K15 hK15 => ?_
    refine pw_region 0 ?_
    simp [sBinH, sBin, binop, E.ld, E.ok, E.set, E.len, toNat_add, List.getElem?_map, h7]
    apply hK15; try clear hK15 K15
    refine pw_cond _ rfl (fun h16 => ?_) (fun h16 => ?_)
    ·try simp at h16
     have hw2 := wrap_i64 (n := 2 * (bs : Int)) (by omega) (by omega)
     have hw3 := wrap_i64 (n := (bs : Int) * 2) (by omega) (by omega)
     refine pw_skip ?_
     try simp only [thenP, inBlockP]
     apply hK14; try clear hK14 K14
     refine pw_block ?_
     refine pw_seq_k fun K17 hK17 => ?_
     refine pw_region 0 ?_
     simp [sBinH, sBin, binop, E.ld, E.ok, E.set, E.len, toNat_add, List.getElem?_map, h7, h16, hw2, hw3]
     apply hK17; try clear hK17 K17
     refine pw_keep [0, 1, 2, 6, 7, 8] ?_
     simp only [keepL, memL, cond_true, cond_false, ↓reduceIte, reduceCtorEq, Nat.reduceEqDiff]
     refine pw_seq_k fun K18 hK18 => ?_
     refine pw_block ?_
     refine pw_loopF (α := Nat × Nat × (List X)) [0, 1, 2, 6] (fun s => [(7, .int .i64 (s.1 : Nat)), (8, .int .i64 (s.2.1 : Nat))]) (fun s => [(0, ⟨0, true, .arr 3 (s.2.2.map pv)⟩)]) (fun m2 s => s.1 + m2 = n ∧ s.2.1 = s.1 + 2 * bs ∧ s.2.2.length = n ∧ MrgI cmp bs s.1 s.2.2 xs) (n) (0, 2 * bs, c) ?_ ?_ ?_
     ·(try dsimp only) <;> (exact ⟨by omega, by omega, hcl, MrgI.start hBS hSt⟩)
     ·refine Wk.toF ?_ ?_ ?_ ?_ ?_
      ·try simp only [keepL, memL, cond_true, cond_false, ↓reduceIte, reduceCtorEq, Nat.reduceEqDiff, List.cons_append, List.nil_append, puts, put]
       repeat (first | exact trivial | (refine FLt.cons ?_ ?_; focus (first | exact Lt.refl _ | exact Lt.any _ | (refine lt_eq (congrArg (PV.int .i64) ?_); omega) | (refine lt_eq ?_; simp [h7, h16]; done) | (refine lt_eq ?_; simp [h7, h16] <;> omega))))
      ·try simp only [puts, put, ↓reduceIte, reduceCtorEq, Nat.reduceEqDiff]
       repeat (first | exact trivial | (refine ⟨⟨_, rfl, ?_⟩, ?_⟩; focus (first | exact BLt.refl _ | (refine BLt.of_eq ?_; simp [h7, h16]; done) | (refine BLt.of_eq ?_; simp [h7, h16] <;> omega))))
      ·simp
      ·simp [E.within, withinL_of hcap]
      ·simp [E.within, withinL_of hcap]
     ·intro m2 s hinv KL19 hKL19
      obtain ⟨a, b, c2⟩ := s
      try dsimp only at hinv
      obtain ⟨hk2, hba, hcl2, hI⟩ := hinv
      simp only [keepL, memL, cond_true, cond_false, ↓reduceIte, reduceCtorEq, Nat.reduceEqDiff, List.cons_append, List.nil_append, puts, put]
      refine pw_seq_k fun K20 hK20 => ?_
      refine pw_seq_k fun K21 hK21 => ?_
      refine pw_region 0 ?_
      simp [sBinH, sBin, binop, E.ld, E.ok, E.set, E.len, toNat_add, List.getElem?_map, h7, h16, hw2, hw3]
      apply hK21; try clear hK21 K21
      refine pw_cond _ rfl (fun h22 => ?_) (fun h22 => ?_)
      ·try simp at h22
       obtain ⟨P, U, V, R, hcc, hP, hU, hV, sU, sV, hI'⟩ := hI.step h (by omega) (by omega)
       obtain ⟨c', hc'⟩ : ∃ c', c' = P ++ (sortBy cmp (U ++ V) ++ R) := ⟨_, rfl⟩
       have hw4 := wrap_i64 (n := (a : Int) + bs) (by omega) (by omega)
       have hw5 := wrap_i64 (n := (b : Int) + 2 * bs) (by omega) (by omega)
       refine pw_skip ?_
       try simp only [thenP, inBlockP]
       apply hK20; try clear hK20 K20
       refine pw_block ?_
       refine pw_seq_k fun K23 hK23 => ?_
       refine pw_region 0 ?_
       refine pEv0_split 4 fun Kr24 hKr24 => ?_
       simp [E.ld, E.ok, E.set, E.len, toNat_add, List.getElem?_map, h7, h16, hw2, hw3, h22, hw4, hw5]
       apply hKr24; clear hKr24 Kr24
       refine pEv0_split 3 fun Kr25 hKr25 => ?_
       simp [sBinH, sBin, binop, E.ld, E.ok, E.set, E.len, toNat_add, List.getElem?_map, h7, h16, hw2, hw3, h22, hw4, hw5]
       apply hKr25; clear hKr25 Kr25
       refine pEv0_call' rfl rfl rfl ((call_row (symM_L E he hc hcap h P U V R c2 c' sU sV (by omega) (by omega) hcc hc' _ hcl2.symm _ _ _ (by omega) (by omega) (by omega) (by omega)) en88 (by simp [List.map, ev_fr, ev_const, lk, hclo]) rfl (E.all _) (E.all _) rfl)) ?_
       simp [E.ld, E.ok, E.set, E.len, toNat_add, List.getElem?_map, h7, h16, hw2, hw3, h22, hw4, hw5]
       apply hK23; try clear hK23 K23
       refine pw_keep [0, 1, 2, 6, 8] ?_
       simp only [keepL, memL, cond_true, cond_false, ↓reduceIte, reduceCtorEq, Nat.reduceEqDiff]
       refine pw_seq_k fun K26 hK26 => ?_
       refine pw_region 0 ?_
       simp [E.ld, E.ok, E.set, E.len, toNat_add, List.getElem?_map, h7, h16, hw2, hw3, h22, hw4, hw5]
       apply hK26; try clear hK26 K26
       refine pw_region 0 ?_
       refine pEv0_split 4 fun Kr27 hKr27 => ?_
       simp [sBinH, sBin, binop, E.ld, E.ok, E.set, E.len, toNat_add, List.getElem?_map, h7, h16, hw2, hw3, h22, hw4, hw5]
       apply hKr27; clear hKr27 Kr27
       simp [E.ld, E.ok, E.set, E.len, toNat_add, List.getElem?_map, h7, h16, hw2, hw3, h22, hw4, hw5]
       refine hKL19 _ (m2 - 2 * bs) (b, b + 2 * bs, c') ?_ ?_ ?_
       ·omega
       ·(try dsimp only) <;> (exact ⟨by omega, rfl, by rw [hc', ← hcl2, hcc]; simp [sortBy_len, Nat.add_assoc], hba ▸ hI' c' hc'⟩)
       ·refine Wk.toF ?_ ?_ ?_ ?_ ?_
        ·try simp only [keepL, memL, cond_true, cond_false, ↓reduceIte, reduceCtorEq, Nat.reduceEqDiff, List.cons_append, List.nil_append, puts, put]
         repeat (first | exact trivial | (refine FLt.cons ?_ ?_; focus (first | exact Lt.refl _ | exact Lt.any _ | (refine lt_eq (congrArg (PV.int .i64) ?_); omega) | (refine lt_eq ?_; simp [h7, h16, h22]; done) | (refine lt_eq ?_; simp [h7, h16, h22] <;> omega))))
        ·try simp only [puts, put, ↓reduceIte, reduceCtorEq, Nat.reduceEqDiff]
         repeat (first | exact trivial | (refine ⟨⟨_, rfl, ?_⟩, ?_⟩; focus (first | exact BLt.refl _ | (refine BLt.of_eq ?_; simp [h7, h16, h22]; done) | (refine BLt.of_eq ?_; simp [h7, h16, h22] <;> omega))))
        ·simp
        ·simp [E.within, withinL_of hcap]
        ·simp [E.within, withinL_of hcap]
      ·try simp at h22
       have hw4 := wrap_i64 (n := (a : Int) + bs) (by omega) (by omega)
       refine pw_exit ?_
       simp [thenP, inBlockP]
       apply hK18; try clear hK18 K18
       refine pw_keep [0, 1, 2, 6, 7] ?_
       simp only [keepL, memL, cond_true, cond_false, ↓reduceIte, reduceCtorEq, Nat.reduceEqDiff]
       refine pw_seq_k fun K28 hK28 => ?_
       refine pw_seq_k fun K29 hK29 => ?_
       refine pw_region 0 ?_
       simp [sBinH, sBin, binop, E.ld, E.ok, E.set, E.len, toNat_add, List.getElem?_map, h7, h16, hw2, hw3, h22, hw4]
       apply hK29; try clear hK29 K29
       refine pw_seq_k fun K30 hK30 => ?_
       refine pw_region 0 ?_
       simp [sBinH, sBin, binop, E.ld, E.ok, E.set, E.len, toNat_add, List.getElem?_map, h7, h16, hw2, hw3, h22, hw4]
       apply hK30; try clear hK30 K30
       refine pw_keep [0, 1, 2, 6, 7, 9, 54] ?_
       simp only [keepL, memL, cond_true, cond_false, ↓reduceIte, reduceCtorEq, Nat.reduceEqDiff]
       refine pw_cond _ rfl (fun h31 => ?_) (fun h31 => ?_)
       ·try simp at h31
        obtain ⟨P, U, V, hcc, hP, hU, hV, sU, sV, hI'⟩ := hI.last1 h (by omega) (by omega) (by omega)
        obtain ⟨c', hc'⟩ : ∃ c', c' = P ++ (sortBy cmp (U ++ V) ++ []) := ⟨_, rfl⟩
        have hI' := hI' c' hc'
        refine pw_region 0 ?_
        refine pEv0_split 4 fun Kr32 hKr32 => ?_
        simp [E.ld, E.ok, E.set, E.len, toNat_add, List.getElem?_map, h7, h16, hw2, hw3, h22, hw4, h31]
        apply hKr32; clear hKr32 Kr32
        refine pEv0_split 1 fun Kr33 hKr33 => ?_
        simp [E.ld, E.ok, E.set, E.len, toNat_add, List.getElem?_map, h7, h16, hw2, hw3, h22, hw4, h31]
        apply hKr33; clear hKr33 Kr33
        refine pEv0_call' rfl rfl rfl ((call_row (symM_L E he hc hcap h P U V [] c2 c' sU sV (by omega) (by omega) hcc hc' _ hcl2.symm _ _ _ (by omega) (by omega) (by omega) (by omega)) en88 (by simp [List.map, ev_fr, ev_const, lk, hclo]) rfl (E.all _) (E.all _) rfl)) ?_
        simp [E.ld, E.ok, E.set, E.len, toNat_add, List.getElem?_map, h7, h16, hw2, hw3, h22, hw4, h31]
        apply hK28; try clear hK28 K28
        refine pw_keep [0, 1, 2, 6] ?_
        simp only [keepL, memL, cond_true, cond_false, ↓reduceIte, reduceCtorEq, Nat.reduceEqDiff]
        refine pw_region 0 ?_
        simp [sBinH, sBin, binop, E.ld, E.ok, E.set, E.len, toNat_add, List.getElem?_map, h7, h16, hw2, hw3, h22, hw4, h31]
        refine hKL13 _ (n - 2 * bs) (2 * bs, c') ?_ ?_ ?_
        ·omega
        ·(try dsimp only) <;> (exact ⟨rfl, by omega, by omega, by rw [hc', ← hcl2, hcc]; simp [sortBy_len], hI'.1, hI'.2⟩)
        ·refine Wk.toF ?_ ?_ ?_ ?_ ?_
         ·try simp only [keepL, memL, cond_true, cond_false, ↓reduceIte, reduceCtorEq, Nat.reduceEqDiff, List.cons_append, List.nil_append, puts, put]
          repeat (first | exact trivial | (refine FLt.cons ?_ ?_; focus (first | exact Lt.refl _ | exact Lt.any _ | (refine lt_eq (congrArg (PV.int .i64) ?_); omega) | (refine lt_eq ?_; simp [h7, h16, h22, h31]; done) | (refine lt_eq ?_; simp [h7, h16, h22, h31] <;> omega))))
         ·try simp only [puts, put, ↓reduceIte, reduceCtorEq, Nat.reduceEqDiff]
          repeat (first | exact trivial | (refine ⟨⟨_, rfl, ?_⟩, ?_⟩; focus (first | exact BLt.refl _ | (refine BLt.of_eq ?_; simp [h7, h16, h22, h31]; done) | (refine BLt.of_eq ?_; simp [h7, h16, h22, h31] <;> omega))))
         ·simp
         ·simp [E.within, withinL_of hcap]
         ·simp [E.within, withinL_of hcap]
       ·try simp at h31
        have hI' := hI.last2 h (by omega) (by omega)
        refine pw_skip ?_
        try simp only [thenP, inBlockP]
        apply hK28; try clear hK28 K28
        refine pw_region 0 ?_
        simp [sBinH, sBin, binop, E.ld, E.ok, E.set, E.len, toNat_add, List.getElem?_map, h7, h16, hw2, hw3, h22, hw4, h31]
        refine hKL13 _ (n - 2 * bs) (2 * bs, c2) ?_ ?_ ?_
        ·omega
        ·(try dsimp only) <;> (exact ⟨rfl, by omega, by omega, hcl2, hI'.1, hI'.2⟩)
        ·refine Wk.toF ?_ ?_ ?_ ?_ ?_
         ·try simp only [keepL, memL, cond_true, cond_false, ↓reduceIte, reduceCtorEq, Nat.reduceEqDiff, List.cons_append, List.nil_append, puts, put]
          repeat (first | exact trivial | (refine FLt.cons ?_ ?_; focus (first | exact Lt.refl _ | exact Lt.any _ | (refine lt_eq (congrArg (PV.int .i64) ?_); omega) | (refine lt_eq ?_; simp [h7, h16, h22, h31]; done) | (refine lt_eq ?_; simp [h7, h16, h22, h31] <;> omega))))
         ·try simp only [puts, put, ↓reduceIte, reduceCtorEq, Nat.reduceEqDiff]
          repeat (first | exact trivial | (refine ⟨⟨_, rfl, ?_⟩, ?_⟩; focus (first | exact BLt.refl _ | (refine BLt.of_eq ?_; simp [h7, h16, h22, h31]; done) | (refine BLt.of_eq ?_; simp [h7, h16, h22, h31] <;> omega))))
         ·simp
         ·simp [E.within, withinL_of hcap]
         ·simp [E.within, withinL_of hcap]
    ·try simp at h16
     have hfin : c = sortBy cmp xs := (sortBy_eq h (hBS.sorted (by omega)) hSt).symm
     refine pw_exit ?_
     simp [thenP, inBlockP]
     try simp only [thenP, inBlockP]
     refine bodyW_fr (by first | exact .inl rfl | exact .inr rfl) _ rfl ?_
     refine Wk.to ?_ ?_ ?_ ?_ ?_
     ·try simp only [keepL, memL, cond_true, cond_false, ↓reduceIte, reduceCtorEq, Nat.reduceEqDiff, List.cons_append, List.nil_append, puts, put]
      (repeat (first | exact LtL.nil | (refine LtL.cons ?_ ?_; focus (first | exact Lt.refl _ | exact Lt.any _ | (refine Lt.nilb ?_; simp; done) | exact Lt.nilsl _ | (refine lt_frozB rfl rfl rfl rfl ?_ ?_ ?_ <;> (first | rfl | (simp [h7, h16, hfin]; done) | (simp [h7, h16, hfin] <;> omega)); done) | (refine lt_eq (congrArg (PV.int .i64) ?_); omega) | (refine lt_eq ?_; simp [h7, h16, hfin]; done) | (refine lt_eq ?_; simp [h7, h16, hfin] <;> omega)))))
     ·try simp only [puts, put, ↓reduceIte, reduceCtorEq, Nat.reduceEqDiff]
      repeat (first | exact trivial | (refine ⟨⟨_, rfl, ?_⟩, ?_⟩; focus (first | exact BLt.refl _ | (refine BLt.of_eq ?_; simp [h7, h16, hfin]; done) | (refine BLt.of_eq ?_; simp [h7, h16, hfin] <;> omega) | (refine BLt.pre ?_; simp [h7, h16, hfin]; done) | (refine BLt.one ?_; (repeat (first | exact LtL.nil | (refine LtL.cons ?_ ?_; focus (first | exact Lt.refl _ | exact Lt.any _ | (refine Lt.nilb ?_; simp; done) | exact Lt.nilsl _ | (refine lt_frozB rfl rfl rfl rfl ?_ ?_ ?_ <;> (first | rfl | (simp [h7, h16, hfin]; done) | (simp [h7, h16, hfin] <;> omega)); done) | (refine lt_eq (congrArg (PV.int .i64) ?_); omega) | (refine lt_eq ?_; simp [h7, h16, hfin]; done) | (refine lt_eq ?_; simp [h7, h16, hfin] <;> omega))))); done) | (refine BLt.cell ?_ rfl rfl; (first | exact Lt.refl _ | exact Lt.any _ | (refine Lt.nilb ?_; simp; done) | exact Lt.nilsl _ | (refine lt_frozB rfl rfl rfl rfl ?_ ?_ ?_ <;> (first | rfl | (simp [h7, h16, hfin]; done) | (simp [h7, h16, hfin] <;> omega)); done) | (refine lt_eq (congrArg (PV.int .i64) ?_); omega) | (refine lt_eq ?_; simp [h7, h16, hfin]; done) | (refine lt_eq ?_; simp [h7, h16, hfin] <;> omega))))))
     ·simp
     ·simp [E.within, withinL_of hcap]
     ·simp [E.within, withinL_of hcap]

set_option maxRecDepth 100000 in
set_option maxHeartbeats 4000000 in
theorem sortS_L {X : Type} {pv : X → PV} (E : El true 3 pv) {cmp : X → X → Int} {fc : FuncId} {cap : List PV} (he : Enters Try.prog fc) (hc : ∀ x y, PFun Try.prog fc (pv x :: pv y :: cap) (.int .i64 (cmp x y))) (hcap : (cap.all PV.closed) = true) (h : TP cmp) (xs : List X) (n : Nat) (hn : n = xs.length) (hl : n < 2 ^ 31) : PBox Try.prog 60 [.bsl 0 0 3 0 n, .clo fc [] cap] [(0, ⟨0, true, .arr 3 (xs.map pv)⟩)] (.tup []) [(0, ⟨0, true, .arr 3 ((sortBy cmp xs).map pv)⟩)] := by
 have hclo : (PV.clo fc [] cap).closed = true := by simp only [PV.closed, PV.within, PV.within.go, Bool.true_and]; exact withinL_of hcap
 refine PBox.of_bodyF Try.func60 rfl 9 rfl (by simp) fun c0 => ?_
 simp only [argL, Nat.reduceAdd]
 refine pw_region 0 ?_
 refine pEv0_split 4 fun Kr1 hKr1 => ?_
 simp [E.ld, E.ok, E.set, E.len, toNat_add, List.getElem?_map]
 apply hKr1; clear hKr1 Kr1
 refine pEv0_call' rfl rfl rfl ((call_row (stable0_L E he hc hcap h xs n hn hl) en79 (by simp [List.map, ev_fr, ev_const, lk, hclo]) rfl (E.all _) (E.all _) rfl)) ?_
 simp [E.ld, E.ok, E.set, E.len, toNat_add, List.getElem?_map]
 try simp only [thenP, inBlockP]
 refine bodyW_fr (by first | exact .inl rfl | exact .inr rfl) _ rfl ?_
 refine Wk.to ?_ ?_ ?_ ?_ ?_
 ·try simp only [keepL, memL, cond_true, cond_false, ↓reduceIte, reduceCtorEq, Nat.reduceEqDiff, List.cons_append, List.nil_append, puts, put]
  (repeat (first | exact LtL.nil | (refine LtL.cons ?_ ?_; focus (first | exact Lt.refl _ | exact Lt.any _ | (refine Lt.nilb ?_; simp; done) | exact Lt.nilsl _ | (refine lt_frozB rfl rfl rfl rfl ?_ ?_ ?_ <;> (first | rfl | (simp; done) | (simp <;> omega)); done) | (refine lt_eq (congrArg (PV.int .i64) ?_); omega) | (refine lt_eq ?_; simp; done) | (refine lt_eq ?_; simp <;> omega)))))
 ·try simp only [puts, put, ↓reduceIte, reduceCtorEq, Nat.reduceEqDiff]
  repeat (first | exact trivial | (refine ⟨⟨_, rfl, ?_⟩, ?_⟩; focus (first | exact BLt.refl _ | (refine BLt.of_eq ?_; simp; done) | (refine BLt.of_eq ?_; simp <;> omega) | (refine BLt.pre ?_; simp; done) | (refine BLt.one ?_; (repeat (first | exact LtL.nil | (refine LtL.cons ?_ ?_; focus (first | exact Lt.refl _ | exact Lt.any _ | (refine Lt.nilb ?_; simp; done) | exact Lt.nilsl _ | (refine lt_frozB rfl rfl rfl rfl ?_ ?_ ?_ <;> (first | rfl | (simp; done) | (simp <;> omega)); done) | (refine lt_eq (congrArg (PV.int .i64) ?_); omega) | (refine lt_eq ?_; simp; done) | (refine lt_eq ?_; simp <;> omega))))); done) | (refine BLt.cell ?_ rfl rfl; (first | exact Lt.refl _ | exact Lt.any _ | (refine Lt.nilb ?_; simp; done) | exact Lt.nilsl _ | (refine lt_frozB rfl rfl rfl rfl ?_ ?_ ?_ <;> (first | rfl | (simp; done) | (simp <;> omega)); done) | (refine lt_eq (congrArg (PV.int .i64) ?_); omega) | (refine lt_eq ?_; simp; done) | (refine lt_eq ?_; simp <;> omega))))))
 ·simp
 ·simp [E.within, withinL_of hcap]
 ·simp [E.within, withinL_of hcap]

end Pv
