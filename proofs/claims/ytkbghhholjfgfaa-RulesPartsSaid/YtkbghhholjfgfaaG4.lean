import Derived.Test.YtkbghhholjfgfaaGF
set_option linter.unusedSimpArgs false
set_option linter.unusedVariables false
namespace Pv
open Go Go.Proofs
attribute [local simp] Body.ren Body.withinB Box.ren List.drop_succ_cons List.map_set List.take_succ_cons PV.ren PV.within PV.within.go boundOf boxArr co30 co60 co69 cur el46 el47 el48 ev_const ev_fr ev_func ev_glob find_cons find_nil fr_get' fstep genOf guardDec inBlockP inH keepL keys lk memL newBox ofConst ofScalar pEv pEv0 part' put puts renL sAlloc sClear sIndexAddr sLen sLoad sSlice sStore setD_fr setD_none shR_d shR_r take_map_len thenP ty30 ty60 ty69 upF withinB_arr
set_option maxRecDepth 100000 in
set_option maxHeartbeats 4000000 in
theorem idx_F {X : Type} {pv : X → PV} (E : El true 26 pv) {p : X → Bool} {fd : FuncId} {cap : List PV} (he : Enters Try.prog fd) (hc : ∀ x, PFun Try.prog fd (pv x :: cap) (.bool (p x))) (hcap : (cap.all PV.closed) = true) (l : List X) (hl : l.length < 2 ^ 31) : PFun Try.prog 74 [.sl 26 (l.map pv), .clo fd [] cap] (.int .i64 (idxF p 0 l)) := by
 refine PFun.of_bodyF (by simp) Try.func74 rfl 19 rfl (by simp) fun c0 => ?_
 simp only [argL, Nat.reduceAdd]
 refine pw_seq_k fun K1 hK1 => ?_
 refine pw_region 0 ?_
 simp [E.ld, E.ok, E.set, E.setz, E.len, List.getElem?_map]
 apply hK1; try clear hK1 K1
 refine pw_seq_k fun K2 hK2 => ?_
 refine pw_seq_k fun K3 hK3 => ?_
 refine pw_region 0 ?_
 simp [E.ld, E.ok, E.set, E.setz, E.len, List.getElem?_map]
 apply hK3; try clear hK3 K3
 refine pw_block ?_
 refine pw_loopF (α := Nat) [0, 1, 7] (fun s => [(8, .int .i64 (s : Nat))]) (fun s => []) (fun m s => s + m = l.length ∧ idxF p s (l.drop s) = idxF p 0 l) (l.length) (0) ?_ ?_ ?_
 ·(try dsimp only) <;> (simp)
 ·refine Wk.toF ?_ ?_ ?_ ?_ ?_
  ·try simp only [keepL, memL, cond_true, cond_false, ↓reduceIte, reduceCtorEq, Nat.reduceEqDiff, List.cons_append, List.nil_append, puts, put]
   repeat (first | exact trivial | (refine FLt.cons ?_ ?_; focus (first | exact Lt.refl _ | exact Lt.any _ | (refine lt_eq (congrArg (PV.int .i64) ?_); omega) | (refine lt_eq ?_; simp; done) | (refine lt_eq ?_; simp <;> omega))))
  ·try simp only [puts, put, ↓reduceIte, reduceCtorEq, Nat.reduceEqDiff]
   repeat (first | exact trivial | (refine ⟨⟨_, rfl, ?_⟩, ?_⟩; focus (first | exact BLt.refl _)))
  ·simp
  ·simp [E.within, withinL_of hcap]
  ·simp [E.within, withinL_of hcap]
 ·intro m i hinv KL4 hKL4
  try dsimp only at hinv
  obtain ⟨hk, hf⟩ := hinv
  simp only [keepL, memL, cond_true, cond_false, ↓reduceIte, reduceCtorEq, Nat.reduceEqDiff, List.cons_append, List.nil_append, puts, put]
  refine pw_seq_k fun K5 hK5 => ?_
  refine pw_region 0 ?_
  simp [sBinH, sBin, binop, E.ld, E.ok, E.set, E.setz, E.len, List.getElem?_map]
  apply hK5; try clear hK5 K5
  refine pw_seq_k fun K6 hK6 => ?_
  refine pw_cond _ rfl (fun h7 => ?_) (fun h7 => ?_)
  ·try simp at h7
   obtain ⟨x, hx, hX⟩ := getN2 (l := l) (k := i) (by omega)
   have hw := wrap_i64 (n := (i : Int) + 1) (by omega) (by omega)
   have hdr := drop_get hx
   have htk := take_get hx
   refine pw_skip ?_
   try simp only [thenP, inBlockP]
   apply hK6; try clear hK6 K6
   refine pw_seq_k fun K8 hK8 => ?_
   refine pw_block ?_
   refine pw_seq_k fun K9 hK9 => ?_
   refine pw_region 0 ?_
   simp [E.ld, E.ok, E.set, E.setz, E.len, List.getElem?_map, h7, hx, hX, hw, htk]
   apply hK9; try clear hK9 K9
   refine pw_seq_k fun K10 hK10 => ?_
   refine pw_region 0 ?_
   refine pEv0_split 4 fun Kr11 hKr11 => ?_
   simp [E.ld, E.ok, E.set, E.setz, E.len, List.getElem?_map, h7, hx, hX, hw, htk]
   apply hKr11; clear hKr11 Kr11
   refine pEv0_split 1 fun Kr12 hKr12 => ?_
   simp [E.ld, E.ok, E.set, E.setz, E.len, List.getElem?_map, h7, hx, hX, hw, htk]
   apply hKr12; clear hKr12 Kr12
   refine pEv0_call' rfl rfl rfl (call_pure (hc _) he (by simp [E.cl, List.all_eq_true.1 hcap]; exact fun x hx => List.all_eq_true.1 hcap x hx) _) ?_
   simp [E.ld, E.ok, E.set, E.setz, E.len, List.getElem?_map, h7, hx, hX, hw, htk]
   apply hK10; try clear hK10 K10
   refine pw_keep [0, 1, 5, 7, 8, 16] ?_
   simp only [keepL, memL, cond_true, cond_false, ↓reduceIte, reduceCtorEq, Nat.reduceEqDiff]
   refine pw_cond _ rfl (fun h13 => ?_) (fun h13 => ?_)
   ·try simp at h13
    refine pw_seq_k fun K14 hK14 => ?_
    refine pw_region 0 ?_
    simp [E.ld, E.ok, E.set, E.setz, E.len, List.getElem?_map, h7, hx, hX, hw, htk, h13]
    apply hK14; try clear hK14 K14
    refine pw_keep [4] ?_
    simp only [keepL, memL, cond_true, cond_false, ↓reduceIte, reduceCtorEq, Nat.reduceEqDiff]
    refine pw_ret ?_
    try simp only [thenP, inBlockP]
    refine bodyQ_fr (by first | exact .inl rfl | exact .inr rfl) _ rfl ?_
    first | exact congrArg (PV.int .i64) (idxF_hit hf hx (by assumption)) | exact congrArg (PV.int .i64) (idxF_end hf (by omega))
   ·try simp at h13
    refine pw_skip ?_
    try simp only [thenP, inBlockP]
    apply hK8; try clear hK8 K8
    refine pw_region 0 ?_
    simp [sBinH, sBin, binop, E.ld, E.ok, E.set, E.setz, E.len, List.getElem?_map, h7, hx, hX, hw, htk, h13]
    refine hKL4 _ (m - 1) (i + 1) ?_ ?_ ?_
    ·omega
    ·(try dsimp only) <;> (exact ⟨by omega, idxF_next hf hx (by assumption)⟩)
    ·refine Wk.toF ?_ ?_ ?_ ?_ ?_
     ·try simp only [keepL, memL, cond_true, cond_false, ↓reduceIte, reduceCtorEq, Nat.reduceEqDiff, List.cons_append, List.nil_append, puts, put]
      repeat (first | exact trivial | (refine FLt.cons ?_ ?_; focus (first | exact Lt.refl _ | exact Lt.any _ | (refine lt_eq (congrArg (PV.int .i64) ?_); omega) | (refine lt_eq ?_; simp [h7, htk, h13]; done) | (refine lt_eq ?_; simp [h7, htk, h13] <;> omega))))
     ·try simp only [puts, put, ↓reduceIte, reduceCtorEq, Nat.reduceEqDiff]
      repeat (first | exact trivial | (refine ⟨⟨_, rfl, ?_⟩, ?_⟩; focus (first | exact BLt.refl _)))
     ·simp
     ·simp [E.within, withinL_of hcap]
     ·simp [E.within, withinL_of hcap]
  ·try simp at h7
   refine pw_exit ?_
   simp [thenP, inBlockP]
   apply hK2; try clear hK2 K2
   refine pw_keep [] ?_
   simp only [keepL, memL, cond_true, cond_false, ↓reduceIte, reduceCtorEq, Nat.reduceEqDiff]
   refine pw_seq_k fun K15 hK15 => ?_
   refine pw_region 0 ?_
   simp [E.ld, E.ok, E.set, E.setz, E.len, List.getElem?_map, h7]
   apply hK15; try clear hK15 K15
   refine pw_ret ?_
   try simp only [thenP, inBlockP]
   refine bodyQ_fr (by first | exact .inl rfl | exact .inr rfl) _ rfl ?_
   first | exact congrArg (PV.int .i64) (idxF_hit hf hx (by assumption)) | exact congrArg (PV.int .i64) (idxF_end hf (by omega))

set_option maxRecDepth 100000 in
set_option maxHeartbeats 4000000 in
theorem del_F {X : Type} {pv : X → PV} (E : El true 26 pv) {p : X → Bool} {fd : FuncId} {cap : List PV} (he : Enters Try.prog fd) (hc : ∀ x, PFun Try.prog fd (pv x :: cap) (.bool (p x))) (hcap : (cap.all PV.closed) = true) (l : List X) (hl : l.length < 2 ^ 31) (n : Nat) (hn : n = l.length) : PBox Try.prog 51 [.bsl 0 0 26 0 n, .clo fd [] cap] [(0, ⟨0, true, .arr 26 (l.map pv)⟩)] (.bsl 0 0 26 0 (l.filter fun x => !p x).length) [(0, ⟨0, true, .arr 26 ((l.filter fun x => !p x).map pv)⟩)] := by
 subst hn
 refine PBox.of_bodyF Try.func51 rfl 42 rfl (by simp) fun c0 => ?_
 simp only [argL, Nat.reduceAdd]
 refine pw_seq_k fun K1 hK1 => ?_
 refine pw_region 0 ?_
 simp [E.ld, E.ok, E.set, E.setz, E.len, List.getElem?_map]
 apply hK1; try clear hK1 K1
 refine pw_seq_k fun K2 hK2 => ?_
 refine pw_region 0 ?_
 refine pEv0_split 2 fun Kr3 hKr3 => ?_
 simp [E.ld, E.ok, E.set, E.setz, E.len, List.getElem?_map]
 apply hKr3; clear hKr3 Kr3
 refine pEv0_call' rfl rfl rfl ((call_lent (idx_F E he hc hcap l hl) en74 (VwL.cons (VwA.row' rfl (by simp) (E.all _) (by simp [take_map_len])) (VwL.keep (by simp only [PV.within, PV.within.go, Bool.true_and]; exact withinL_of hcap) VwL.nil)) rfl)) ?_
 simp [E.ld, E.ok, E.set, E.setz, E.len, List.getElem?_map]
 apply hK2; try clear hK2 K2
 refine pw_keep [0, 1, 5] ?_
 simp only [keepL, memL, cond_true, cond_false, ↓reduceIte, reduceCtorEq, Nat.reduceEqDiff]
 refine pw_seq_k fun K4 hK4 => ?_
 refine pw_seq_k fun K5 hK5 => ?_
 refine pw_region 0 ?_
 simp [sBinH, sBin, binop, E.ld, E.ok, E.set, E.setz, E.len, List.getElem?_map]
 apply hK5; try clear hK5 K5
 refine pw_cond _ rfl (fun h6 => ?_) (fun h6 => ?_)
 ·try simp at h6
  have hall := idx_none (p := p) h6
  refine pw_seq_k fun K7 hK7 => ?_
  refine pw_region 0 ?_
  simp [E.ld, E.ok, E.set, E.setz, E.len, List.getElem?_map, h6, hall]
  apply hK7; try clear hK7 K7
  refine pw_keep [4] ?_
  simp only [keepL, memL, cond_true, cond_false, ↓reduceIte, reduceCtorEq, Nat.reduceEqDiff]
  refine pw_ret ?_
  try simp only [thenP, inBlockP]
  refine bodyW_fr (by first | exact .inl rfl | exact .inr rfl) _ rfl ?_
  refine Wk.to ?_ ?_ ?_ ?_ ?_
  ·try simp only [keepL, memL, cond_true, cond_false, ↓reduceIte, reduceCtorEq, Nat.reduceEqDiff, List.cons_append, List.nil_append, puts, put]
   (repeat (first | exact LtL.nil | (refine LtL.cons ?_ ?_; focus (first | exact Lt.refl _ | exact Lt.any _ | (refine Lt.nilb ?_; simp; done) | exact Lt.nilsl _ | (refine lt_frozB rfl rfl rfl rfl ?_ ?_ ?_ <;> (first | rfl | (simp [h6, hall]; done) | (simp [h6, hall] <;> omega)); done) | (refine lt_eq (congrArg (PV.int .i64) ?_); omega) | (refine lt_eq ?_; simp [h6, hall]; done) | (refine lt_eq ?_; simp [h6, hall] <;> omega)))))
  ·try simp only [puts, put, ↓reduceIte, reduceCtorEq, Nat.reduceEqDiff]
   repeat (first | exact trivial | (refine ⟨⟨_, rfl, ?_⟩, ?_⟩; focus (first | exact BLt.refl _ | (refine BLt.of_eq ?_; simp [h6, hall]; done) | (refine BLt.of_eq ?_; simp [h6, hall] <;> omega) | (refine BLt.pre ?_; simp [h6, hall]; done) | (refine BLt.one ?_; (repeat (first | exact LtL.nil | (refine LtL.cons ?_ ?_; focus (first | exact Lt.refl _ | exact Lt.any _ | (refine Lt.nilb ?_; simp; done) | exact Lt.nilsl _ | (refine lt_frozB rfl rfl rfl rfl ?_ ?_ ?_ <;> (first | rfl | (simp [h6, hall]; done) | (simp [h6, hall] <;> omega)); done) | (refine lt_eq (congrArg (PV.int .i64) ?_); omega) | (refine lt_eq ?_; simp [h6, hall]; done) | (refine lt_eq ?_; simp [h6, hall] <;> omega))))); done) | (refine BLt.cell ?_ rfl rfl; (first | exact Lt.refl _ | exact Lt.any _ | (refine Lt.nilb ?_; simp; done) | exact Lt.nilsl _ | (refine lt_frozB rfl rfl rfl rfl ?_ ?_ ?_ <;> (first | rfl | (simp [h6, hall]; done) | (simp [h6, hall] <;> omega)); done) | (refine lt_eq (congrArg (PV.int .i64) ?_); omega) | (refine lt_eq ?_; simp [h6, hall]; done) | (refine lt_eq ?_; simp [h6, hall] <;> omega))))))
  ·simp
  ·simp [E.within, withinL_of hcap]
  ·simp [E.within, withinL_of hcap]
 ·try simp at h6
  obtain ⟨k, hk0, hk1, hk2⟩ := idx_some (p := p) h6
  have hw0 := wrap_i64 (n := (k : Int) + 1) (by omega) (by omega)
  refine pw_skip ?_
  try simp only [thenP, inBlockP]
  apply hK4; try clear hK4 K4
  refine pw_seq_k fun K8 hK8 => ?_
  refine pw_seq_k fun K9 hK9 => ?_
  refine pw_region 0 ?_
  simp [sBinH, sBin, binop, E.ld, E.ok, E.set, E.setz, E.len, List.getElem?_map, h6, hk0, hw0]
  apply hK9; try clear hK9 K9
  refine pw_keep [0, 1, 5, 6] ?_
  simp only [keepL, memL, cond_true, cond_false, ↓reduceIte, reduceCtorEq, Nat.reduceEqDiff]
  refine pw_block ?_
  refine pw_loopF (α := Nat × Nat × (List X)) [0, 1] (fun s => [(5, .int .i64 (s.1 : Nat)), (6, .int .i64 (s.2.1 : Nat))]) (fun s => [(0, ⟨0, true, .arr 26 (s.2.2.map pv)⟩)]) (fun m s => s.2.1 + m = l.length ∧ Del p l s.2.2 s.1 s.2.1) (l.length - (k + 1)) (k, k + 1, l) ?_ ?_ ?_
  ·(try dsimp only) <;> (exact ⟨by omega, Del.start hk1 hk2⟩)
  ·refine Wk.toF ?_ ?_ ?_ ?_ ?_
   ·try simp only [keepL, memL, cond_true, cond_false, ↓reduceIte, reduceCtorEq, Nat.reduceEqDiff, List.cons_append, List.nil_append, puts, put]
    repeat (first | exact trivial | (refine FLt.cons ?_ ?_; focus (first | exact Lt.refl _ | exact Lt.any _ | (refine lt_eq (congrArg (PV.int .i64) ?_); omega) | (refine lt_eq ?_; simp [h6, hk0]; done) | (refine lt_eq ?_; simp [h6, hk0] <;> omega))))
   ·try simp only [puts, put, ↓reduceIte, reduceCtorEq, Nat.reduceEqDiff]
    repeat (first | exact trivial | (refine ⟨⟨_, rfl, ?_⟩, ?_⟩; focus (first | exact BLt.refl _ | (refine BLt.of_eq ?_; simp [h6, hk0]; done) | (refine BLt.of_eq ?_; simp [h6, hk0] <;> omega))))
   ·simp
   ·simp [E.within, withinL_of hcap]
   ·simp [E.within, withinL_of hcap]
  ·intro m s hinv KL10 hKL10
   obtain ⟨i, j, c⟩ := s
   try dsimp only at hinv
   obtain ⟨hk, hD⟩ := hinv
   have hDlt := hD.lt
   have hDlen := hD.len
   simp only [keepL, memL, cond_true, cond_false, ↓reduceIte, reduceCtorEq, Nat.reduceEqDiff, List.cons_append, List.nil_append, puts, put]
   refine pw_seq_k fun K11 hK11 => ?_
   refine pw_seq_k fun K12 hK12 => ?_
   refine pw_region 0 ?_
   simp [sBinH, sBin, binop, E.ld, E.ok, E.set, E.setz, E.len, List.getElem?_map, h6, hk0, hw0]
   apply hK12; try clear hK12 K12
   refine pw_cond _ rfl (fun h13 => ?_) (fun h13 => ?_)
   ·try simp at h13
    obtain ⟨x, hx, hx2⟩ := hD.get (by omega)
    have hX := gE hx
    obtain ⟨y, hy⟩ := getN (l := c) (k := i) (by omega)
    have hY := gE hy
    have hw1 := wrap_i64 (n := (i : Int) + 1) (by omega) (by omega)
    have hw2 := wrap_i64 (n := (j : Int) + 1) (by omega) (by omega)
    have hb1 : i < l.length := by omega
    obtain ⟨c2, hc2⟩ : ∃ c2, c2 = c.set i x := ⟨_, rfl⟩
    have hms : (c.map pv).set i (pv x) = c2.map pv := by rw [hc2, List.map_set]
    refine pw_skip ?_
    try simp only [thenP, inBlockP]
    apply hK11; try clear hK11 K11
    refine pw_keep [0, 1, 5, 6] ?_
    simp only [keepL, memL, cond_true, cond_false, ↓reduceIte, reduceCtorEq, Nat.reduceEqDiff]
    refine pw_seq_k fun K14 hK14 => ?_
    refine pw_block ?_
    refine pw_seq_k fun K15 hK15 => ?_
    refine pw_region 0 ?_
    refine pEv0_split 4 fun Kr16 hKr16 => ?_
    simp [E.ld, E.ok, E.set, E.setz, E.len, List.getElem?_map, h6, hk0, hw0, h13, hx, hX, hy, hY, hw1, hw2, hb1, hDlen, hms]
    apply hKr16; clear hKr16 Kr16
    simp [E.ld, E.ok, E.set, E.setz, E.len, List.getElem?_map, h6, hk0, hw0, h13, hx, hX, hy, hY, hw1, hw2, hb1, hDlen, hms]
    apply hK15; try clear hK15 K15
    refine pw_keep [0, 1, 5, 6, 7] ?_
    simp only [keepL, memL, cond_true, cond_false, ↓reduceIte, reduceCtorEq, Nat.reduceEqDiff]
    refine pw_seq_k fun K17 hK17 => ?_
    refine pw_region 0 ?_
    refine pEv0_split 2 fun Kr18 hKr18 => ?_
    simp [E.ld, E.ok, E.set, E.setz, E.len, List.getElem?_map, h6, hk0, hw0, h13, hx, hX, hy, hY, hw1, hw2, hb1, hDlen, hms]
    apply hKr18; clear hKr18 Kr18
    refine pEv0_call' rfl rfl rfl (call_pure (hc _) he (by simp [E.cl, List.all_eq_true.1 hcap]; exact fun x hx => List.all_eq_true.1 hcap x hx) _) ?_
    simp [E.ld, E.ok, E.set, E.setz, E.len, List.getElem?_map, h6, hk0, hw0, h13, hx, hX, hy, hY, hw1, hw2, hb1, hDlen, hms]
    apply hK17; try clear hK17 K17
    refine pw_cond _ rfl (fun h19 => ?_) (fun h19 => ?_)
    ·try simp at h19
     refine pw_seq_k fun K20 hK20 => ?_
     refine pw_region 0 ?_
     refine pEv0_split 4 fun Kr21 hKr21 => ?_
     simp [E.ld, E.ok, E.set, E.setz, E.len, List.getElem?_map, h6, hk0, hw0, h13, hx, hX, hy, hY, hw1, hw2, hb1, hDlen, hms, h19]
     apply hKr21; clear hKr21 Kr21
     simp [E.ld, E.ok, E.set, E.setz, E.len, List.getElem?_map, h6, hk0, hw0, h13, hx, hX, hy, hY, hw1, hw2, hb1, hDlen, hms, h19]
     apply hK20; try clear hK20 K20
     refine pw_keep [0, 1, 5, 6] ?_
     simp only [keepL, memL, cond_true, cond_false, ↓reduceIte, reduceCtorEq, Nat.reduceEqDiff]
     refine pw_region 0 ?_
     simp [sBinH, sBin, binop, E.ld, E.ok, E.set, E.setz, E.len, List.getElem?_map, h6, hk0, hw0, h13, hx, hX, hy, hY, hw1, hw2, hb1, hDlen, hms, h19]
     apply hK14; try clear hK14 K14
     refine pw_region 0 ?_
     simp [sBinH, sBin, binop, E.ld, E.ok, E.set, E.setz, E.len, List.getElem?_map, h6, hk0, hw0, h13, hx, hX, hy, hY, hw1, hw2, hb1, hDlen, hms, h19]
     refine hKL10 _ (m - 1) (i + 1, j + 1, c2) ?_ ?_ ?_
     ·omega
     ·(try dsimp only) <;> (exact ⟨by omega, hc2 ▸ hD.keep hx2 (by assumption)⟩)
     ·refine Wk.toF ?_ ?_ ?_ ?_ ?_
      ·try simp only [keepL, memL, cond_true, cond_false, ↓reduceIte, reduceCtorEq, Nat.reduceEqDiff, List.cons_append, List.nil_append, puts, put]
       repeat (first | exact trivial | (refine FLt.cons ?_ ?_; focus (first | exact Lt.refl _ | exact Lt.any _ | (refine lt_eq (congrArg (PV.int .i64) ?_); omega) | (refine lt_eq ?_; simp [h6, hk0, h13, hDlen, hms, h19]; done) | (refine lt_eq ?_; simp [h6, hk0, h13, hDlen, hms, h19] <;> omega))))
      ·try simp only [puts, put, ↓reduceIte, reduceCtorEq, Nat.reduceEqDiff]
       repeat (first | exact trivial | (refine ⟨⟨_, rfl, ?_⟩, ?_⟩; focus (first | exact BLt.refl _ | (refine BLt.of_eq ?_; simp [h6, hk0, h13, hDlen, hms, h19]; done) | (refine BLt.of_eq ?_; simp [h6, hk0, h13, hDlen, hms, h19] <;> omega))))
      ·simp
      ·simp [E.within, withinL_of hcap]
      ·simp [E.within, withinL_of hcap]
    ·try simp at h19
     refine pw_skip ?_
     try simp only [thenP, inBlockP]
     apply hK14; try clear hK14 K14
     refine pw_keep [0, 1, 5, 6] ?_
     simp only [keepL, memL, cond_true, cond_false, ↓reduceIte, reduceCtorEq, Nat.reduceEqDiff]
     refine pw_region 0 ?_
     simp [sBinH, sBin, binop, E.ld, E.ok, E.set, E.setz, E.len, List.getElem?_map, h6, hk0, hw0, h13, hx, hX, hy, hY, hw1, hw2, hb1, hDlen, hms, h19]
     refine hKL10 _ (m - 1) (i, j + 1, c) ?_ ?_ ?_
     ·omega
     ·(try dsimp only) <;> (exact ⟨by omega, hD.skip hx2 (by assumption)⟩)
     ·refine Wk.toF ?_ ?_ ?_ ?_ ?_
      ·try simp only [keepL, memL, cond_true, cond_false, ↓reduceIte, reduceCtorEq, Nat.reduceEqDiff, List.cons_append, List.nil_append, puts, put]
       repeat (first | exact trivial | (refine FLt.cons ?_ ?_; focus (first | exact Lt.refl _ | exact Lt.any _ | (refine lt_eq (congrArg (PV.int .i64) ?_); omega) | (refine lt_eq ?_; simp [h6, hk0, h13, hDlen, hms, h19]; done) | (refine lt_eq ?_; simp [h6, hk0, h13, hDlen, hms, h19] <;> omega))))
      ·try simp only [puts, put, ↓reduceIte, reduceCtorEq, Nat.reduceEqDiff]
       repeat (first | exact trivial | (refine ⟨⟨_, rfl, ?_⟩, ?_⟩; focus (first | exact BLt.refl _ | (refine BLt.of_eq ?_; simp [h6, hk0, h13, hDlen, hms, h19]; done) | (refine BLt.of_eq ?_; simp [h6, hk0, h13, hDlen, hms, h19] <;> omega))))
      ·simp
      ·simp [E.within, withinL_of hcap]
      ·simp [E.within, withinL_of hcap]
   ·try simp at h13
    have hrow := hD.row (pv := pv) (by omega)
    obtain ⟨hd1, hd2⟩ := hD.done (by omega)
    have hb1 : i ≤ l.length := by omega
    have hb2 : i + (l.length - i) = l.length := by omega
    refine pw_exit ?_
    simp [thenP, inBlockP]
    apply hK8; try clear hK8 K8
    refine pw_keep [0, 5] ?_
    simp only [keepL, memL, cond_true, cond_false, ↓reduceIte, reduceCtorEq, Nat.reduceEqDiff]
    refine pw_seq_k fun K22 hK22 => ?_
    refine pw_region 0 ?_
    simp [E.ld, E.ok, E.set, E.setz, E.len, List.getElem?_map, h6, hk0, hw0, h13, hd2, hb1, hb2, hDlen]
    apply hK22; try clear hK22 K22
    refine pw_seq_k fun K23 hK23 => ?_
    refine pw_region 0 ?_
    simp [E.ld, E.ok, E.set, E.setz, E.len, List.getElem?_map, h6, hk0, hw0, h13, hd2, hb1, hb2, hDlen]
    apply hK23; try clear hK23 K23
    refine pw_keep [4] ?_
    simp only [keepL, memL, cond_true, cond_false, ↓reduceIte, reduceCtorEq, Nat.reduceEqDiff]
    refine pw_ret ?_
    try simp only [thenP, inBlockP]
    refine bodyW_fr (by first | exact .inl rfl | exact .inr rfl) _ rfl ?_
    refine Wk.to (LtL.cons (lt_eq (show PV.bsl 0 0 26 0 i = _ by rw [hd2])) LtL.nil) ⟨⟨_, rfl, BLt.pre (hrow _ _)⟩, trivial⟩ (by simp [keys, inH, find, put]) (by simp [PV.within, inH, find]) (by simp [withinB_arr, E.within])

set_option maxRecDepth 100000 in
set_option maxHeartbeats 4000000 in
theorem idx_G {X : Type} {pv : X → PV} (E : El true 8 pv) {p : X → Bool} {fd : FuncId} {cap : List PV} (he : Enters Try.prog fd) (hc : ∀ x, PFun Try.prog fd (pv x :: cap) (.bool (p x))) (hcap : (cap.all PV.closed) = true) (l : List X) (hl : l.length < 2 ^ 31) : PFun Try.prog 75 [.sl 8 (l.map pv), .clo fd [] cap] (.int .i64 (idxF p 0 l)) := by
 refine PFun.of_bodyF (by simp) Try.func75 rfl 19 rfl (by simp) fun c0 => ?_
 simp only [argL, Nat.reduceAdd]
 refine pw_seq_k fun K1 hK1 => ?_
 refine pw_region 0 ?_
 simp [E.ld, E.ok, E.set, E.setz, E.len, List.getElem?_map]
 apply hK1; try clear hK1 K1
 refine pw_seq_k fun K2 hK2 => ?_
 refine pw_seq_k fun K3 hK3 => ?_
 refine pw_region 0 ?_
 simp [E.ld, E.ok, E.set, E.setz, E.len, List.getElem?_map]
 apply hK3; try clear hK3 K3
 refine pw_block ?_
 refine pw_loopF (α := Nat) [0, 1, 7] (fun s => [(8, .int .i64 (s : Nat))]) (fun s => []) (fun m s => s + m = l.length ∧ idxF p s (l.drop s) = idxF p 0 l) (l.length) (0) ?_ ?_ ?_
 ·(try dsimp only) <;> (simp)
 ·refine Wk.toF ?_ ?_ ?_ ?_ ?_
  ·try simp only [keepL, memL, cond_true, cond_false, ↓reduceIte, reduceCtorEq, Nat.reduceEqDiff, List.cons_append, List.nil_append, puts, put]
   repeat (first | exact trivial | (refine FLt.cons ?_ ?_; focus (first | exact Lt.refl _ | exact Lt.any _ | (refine lt_eq (congrArg (PV.int .i64) ?_); omega) | (refine lt_eq ?_; simp; done) | (refine lt_eq ?_; simp <;> omega))))
  ·try simp only [puts, put, ↓reduceIte, reduceCtorEq, Nat.reduceEqDiff]
   repeat (first | exact trivial | (refine ⟨⟨_, rfl, ?_⟩, ?_⟩; focus (first | exact BLt.refl _)))
  ·simp
  ·simp [E.within, withinL_of hcap]
  ·simp [E.within, withinL_of hcap]
 ·intro m i hinv KL4 hKL4
  try dsimp only at hinv
  obtain ⟨hk, hf⟩ := hinv
  simp only [keepL, memL, cond_true, cond_false, ↓reduceIte, reduceCtorEq, Nat.reduceEqDiff, List.cons_append, List.nil_append, puts, put]
  refine pw_seq_k fun K5 hK5 => ?_
  refine pw_region 0 ?_
  simp [sBinH, sBin, binop, E.ld, E.ok, E.set, E.setz, E.len, List.getElem?_map]
  apply hK5; try clear hK5 K5
  refine pw_seq_k fun K6 hK6 => ?_
  refine pw_cond _ rfl (fun h7 => ?_) (fun h7 => ?_)
  ·try simp at h7
   obtain ⟨x, hx, hX⟩ := getN2 (l := l) (k := i) (by omega)
   have hw := wrap_i64 (n := (i : Int) + 1) (by omega) (by omega)
   have hdr := drop_get hx
   have htk := take_get hx
   refine pw_skip ?_
   try simp only [thenP, inBlockP]
   apply hK6; try clear hK6 K6
   refine pw_seq_k fun K8 hK8 => ?_
   refine pw_block ?_
   refine pw_seq_k fun K9 hK9 => ?_
   refine pw_region 0 ?_
   simp [E.ld, E.ok, E.set, E.setz, E.len, List.getElem?_map, h7, hx, hX, hw, htk]
   apply hK9; try clear hK9 K9
   refine pw_seq_k fun K10 hK10 => ?_
   refine pw_region 0 ?_
   refine pEv0_split 4 fun Kr11 hKr11 => ?_
   simp [E.ld, E.ok, E.set, E.setz, E.len, List.getElem?_map, h7, hx, hX, hw, htk]
   apply hKr11; clear hKr11 Kr11
   refine pEv0_split 1 fun Kr12 hKr12 => ?_
   simp [E.ld, E.ok, E.set, E.setz, E.len, List.getElem?_map, h7, hx, hX, hw, htk]
   apply hKr12; clear hKr12 Kr12
   refine pEv0_call' rfl rfl rfl (call_pure (hc _) he (by simp [E.cl, List.all_eq_true.1 hcap]; exact fun x hx => List.all_eq_true.1 hcap x hx) _) ?_
   simp [E.ld, E.ok, E.set, E.setz, E.len, List.getElem?_map, h7, hx, hX, hw, htk]
   apply hK10; try clear hK10 K10
   refine pw_keep [0, 1, 5, 7, 8, 16] ?_
   simp only [keepL, memL, cond_true, cond_false, ↓reduceIte, reduceCtorEq, Nat.reduceEqDiff]
   refine pw_cond _ rfl (fun h13 => ?_) (fun h13 => ?_)
   ·try simp at h13
    refine pw_seq_k fun K14 hK14 => ?_
    refine pw_region 0 ?_
    simp [E.ld, E.ok, E.set, E.setz, E.len, List.getElem?_map, h7, hx, hX, hw, htk, h13]
    apply hK14; try clear hK14 K14
    refine pw_keep [4] ?_
    simp only [keepL, memL, cond_true, cond_false, ↓reduceIte, reduceCtorEq, Nat.reduceEqDiff]
    refine pw_ret ?_
    try simp only [thenP, inBlockP]
    refine bodyQ_fr (by first | exact .inl rfl | exact .inr rfl) _ rfl ?_
    first | exact congrArg (PV.int .i64) (idxF_hit hf hx (by assumption)) | exact congrArg (PV.int .i64) (idxF_end hf (by omega))
   ·try simp at h13
    refine pw_skip ?_
    try simp only [thenP, inBlockP]
    apply hK8; try clear hK8 K8
    refine pw_region 0 ?_
    simp [sBinH, sBin, binop, E.ld, E.ok, E.set, E.setz, E.len, List.getElem?_map, h7, hx, hX, hw, htk, h13]
    refine hKL4 _ (m - 1) (i + 1) ?_ ?_ ?_
    ·omega
    ·(try dsimp only) <;> (exact ⟨by omega, idxF_next hf hx (by assumption)⟩)
    ·refine Wk.toF ?_ ?_ ?_ ?_ ?_
     ·try simp only [keepL, memL, cond_true, cond_false, ↓reduceIte, reduceCtorEq, Nat.reduceEqDiff, List.cons_append, List.nil_append, puts, put]
      repeat (first | exact trivial | (refine FLt.cons ?_ ?_; focus (first | exact Lt.refl _ | exact Lt.any _ | (refine lt_eq (congrArg (PV.int .i64) ?_); omega) | (refine lt_eq ?_; simp [h7, htk, h13]; done) | (refine lt_eq ?_; simp [h7, htk, h13] <;> omega))))
     ·try simp only [puts, put, ↓reduceIte, reduceCtorEq, Nat.reduceEqDiff]
      repeat (first | exact trivial | (refine ⟨⟨_, rfl, ?_⟩, ?_⟩; focus (first | exact BLt.refl _)))
     ·simp
     ·simp [E.within, withinL_of hcap]
     ·simp [E.within, withinL_of hcap]
  ·try simp at h7
   refine pw_exit ?_
   simp [thenP, inBlockP]
   apply hK2; try clear hK2 K2
   refine pw_keep [] ?_
   simp only [keepL, memL, cond_true, cond_false, ↓reduceIte, reduceCtorEq, Nat.reduceEqDiff]
   refine pw_seq_k fun K15 hK15 => ?_
   refine pw_region 0 ?_
   simp [E.ld, E.ok, E.set, E.setz, E.len, List.getElem?_map, h7]
   apply hK15; try clear hK15 K15
   refine pw_ret ?_
   try simp only [thenP, inBlockP]
   refine bodyQ_fr (by first | exact .inl rfl | exact .inr rfl) _ rfl ?_
   first | exact congrArg (PV.int .i64) (idxF_hit hf hx (by assumption)) | exact congrArg (PV.int .i64) (idxF_end hf (by omega))

set_option maxRecDepth 100000 in
set_option maxHeartbeats 4000000 in
theorem del_G {X : Type} {pv : X → PV} (E : El true 8 pv) {p : X → Bool} {fd : FuncId} {cap : List PV} (he : Enters Try.prog fd) (hc : ∀ x, PFun Try.prog fd (pv x :: cap) (.bool (p x))) (hcap : (cap.all PV.closed) = true) (l : List X) (hl : l.length < 2 ^ 31) (n : Nat) (hn : n = l.length) : PBox Try.prog 53 [.bsl 0 0 8 0 n, .clo fd [] cap] [(0, ⟨0, true, .arr 8 (l.map pv)⟩)] (.bsl 0 0 8 0 (l.filter fun x => !p x).length) [(0, ⟨0, true, .arr 8 ((l.filter fun x => !p x).map pv)⟩)] := by
 subst hn
 refine PBox.of_bodyF Try.func53 rfl 42 rfl (by simp) fun c0 => ?_
 simp only [argL, Nat.reduceAdd]
 refine pw_seq_k fun K1 hK1 => ?_
 refine pw_region 0 ?_
 simp [E.ld, E.ok, E.set, E.setz, E.len, List.getElem?_map]
 apply hK1; try clear hK1 K1
 refine pw_seq_k fun K2 hK2 => ?_
 refine pw_region 0 ?_
 refine pEv0_split 2 fun Kr3 hKr3 => ?_
 simp [E.ld, E.ok, E.set, E.setz, E.len, List.getElem?_map]
 apply hKr3; clear hKr3 Kr3
 refine pEv0_call' rfl rfl rfl ((call_lent (idx_G E he hc hcap l hl) en75 (VwL.cons (VwA.row' rfl (by simp) (E.all _) (by simp [take_map_len])) (VwL.keep (by simp only [PV.within, PV.within.go, Bool.true_and]; exact withinL_of hcap) VwL.nil)) rfl)) ?_
 simp [E.ld, E.ok, E.set, E.setz, E.len, List.getElem?_map]
 apply hK2; try clear hK2 K2
 refine pw_keep [0, 1, 5] ?_
 simp only [keepL, memL, cond_true, cond_false, ↓reduceIte, reduceCtorEq, Nat.reduceEqDiff]
 refine pw_seq_k fun K4 hK4 => ?_
 refine pw_seq_k fun K5 hK5 => ?_
 refine pw_region 0 ?_
 simp [sBinH, sBin, binop, E.ld, E.ok, E.set, E.setz, E.len, List.getElem?_map]
 apply hK5; try clear hK5 K5
 refine pw_cond _ rfl (fun h6 => ?_) (fun h6 => ?_)
 ·try simp at h6
  have hall := idx_none (p := p) h6
  refine pw_seq_k fun K7 hK7 => ?_
  refine pw_region 0 ?_
  simp [E.ld, E.ok, E.set, E.setz, E.len, List.getElem?_map, h6, hall]
  apply hK7; try clear hK7 K7
  refine pw_keep [4] ?_
  simp only [keepL, memL, cond_true, cond_false, ↓reduceIte, reduceCtorEq, Nat.reduceEqDiff]
  refine pw_ret ?_
  try simp only [thenP, inBlockP]
  refine bodyW_fr (by first | exact .inl rfl | exact .inr rfl) _ rfl ?_
  refine Wk.to ?_ ?_ ?_ ?_ ?_
  ·try simp only [keepL, memL, cond_true, cond_false, ↓reduceIte, reduceCtorEq, Nat.reduceEqDiff, List.cons_append, List.nil_append, puts, put]
   (repeat (first | exact LtL.nil | (refine LtL.cons ?_ ?_; focus (first | exact Lt.refl _ | exact Lt.any _ | (refine Lt.nilb ?_; simp; done) | exact Lt.nilsl _ | (refine lt_frozB rfl rfl rfl rfl ?_ ?_ ?_ <;> (first | rfl | (simp [h6, hall]; done) | (simp [h6, hall] <;> omega)); done) | (refine lt_eq (congrArg (PV.int .i64) ?_); omega) | (refine lt_eq ?_; simp [h6, hall]; done) | (refine lt_eq ?_; simp [h6, hall] <;> omega)))))
  ·try simp only [puts, put, ↓reduceIte, reduceCtorEq, Nat.reduceEqDiff]
   repeat (first | exact trivial | (refine ⟨⟨_, rfl, ?_⟩, ?_⟩; focus (first | exact BLt.refl _ | (refine BLt.of_eq ?_; simp [h6, hall]; done) | (refine BLt.of_eq ?_; simp [h6, hall] <;> omega) | (refine BLt.pre ?_; simp [h6, hall]; done) | (refine BLt.one ?_; (repeat (first | exact LtL.nil | (refine LtL.cons ?_ ?_; focus (first | exact Lt.refl _ | exact Lt.any _ | (refine Lt.nilb ?_; simp; done) | exact Lt.nilsl _ | (refine lt_frozB rfl rfl rfl rfl ?_ ?_ ?_ <;> (first | rfl | (simp [h6, hall]; done) | (simp [h6, hall] <;> omega)); done) | (refine lt_eq (congrArg (PV.int .i64) ?_); omega) | (refine lt_eq ?_; simp [h6, hall]; done) | (refine lt_eq ?_; simp [h6, hall] <;> omega))))); done) | (refine BLt.cell ?_ rfl rfl; (first | exact Lt.refl _ | exact Lt.any _ | (refine Lt.nilb ?_; simp; done) | exact Lt.nilsl _ | (refine lt_frozB rfl rfl rfl rfl ?_ ?_ ?_ <;> (first | rfl | (simp [h6, hall]; done) | (simp [h6, hall] <;> omega)); done) | (refine lt_eq (congrArg (PV.int .i64) ?_); omega) | (refine lt_eq ?_; simp [h6, hall]; done) | (refine lt_eq ?_; simp [h6, hall] <;> omega))))))
  ·simp
  ·simp [E.within, withinL_of hcap]
  ·simp [E.within, withinL_of hcap]
 ·try simp at h6
  obtain ⟨k, hk0, hk1, hk2⟩ := idx_some (p := p) h6
  have hw0 := wrap_i64 (n := (k : Int) + 1) (by omega) (by omega)
  refine pw_skip ?_
  try simp only [thenP, inBlockP]
  apply hK4; try clear hK4 K4
  refine pw_seq_k fun K8 hK8 => ?_
  refine pw_seq_k fun K9 hK9 => ?_
  refine pw_region 0 ?_
  simp [sBinH, sBin, binop, E.ld, E.ok, E.set, E.setz, E.len, List.getElem?_map, h6, hk0, hw0]
  apply hK9; try clear hK9 K9
  refine pw_keep [0, 1, 5, 6] ?_
  simp only [keepL, memL, cond_true, cond_false, ↓reduceIte, reduceCtorEq, Nat.reduceEqDiff]
  refine pw_block ?_
  refine pw_loopF (α := Nat × Nat × (List X)) [0, 1] (fun s => [(5, .int .i64 (s.1 : Nat)), (6, .int .i64 (s.2.1 : Nat))]) (fun s => [(0, ⟨0, true, .arr 8 (s.2.2.map pv)⟩)]) (fun m s => s.2.1 + m = l.length ∧ Del p l s.2.2 s.1 s.2.1) (l.length - (k + 1)) (k, k + 1, l) ?_ ?_ ?_
  ·(try dsimp only) <;> (exact ⟨by omega, Del.start hk1 hk2⟩)
  ·refine Wk.toF ?_ ?_ ?_ ?_ ?_
   ·try simp only [keepL, memL, cond_true, cond_false, ↓reduceIte, reduceCtorEq, Nat.reduceEqDiff, List.cons_append, List.nil_append, puts, put]
    repeat (first | exact trivial | (refine FLt.cons ?_ ?_; focus (first | exact Lt.refl _ | exact Lt.any _ | (refine lt_eq (congrArg (PV.int .i64) ?_); omega) | (refine lt_eq ?_; simp [h6, hk0]; done) | (refine lt_eq ?_; simp [h6, hk0] <;> omega))))
   ·try simp only [puts, put, ↓reduceIte, reduceCtorEq, Nat.reduceEqDiff]
    repeat (first | exact trivial | (refine ⟨⟨_, rfl, ?_⟩, ?_⟩; focus (first | exact BLt.refl _ | (refine BLt.of_eq ?_; simp [h6, hk0]; done) | (refine BLt.of_eq ?_; simp [h6, hk0] <;> omega))))
   ·simp
   ·simp [E.within, withinL_of hcap]
   ·simp [E.within, withinL_of hcap]
  ·intro m s hinv KL10 hKL10
   obtain ⟨i, j, c⟩ := s
   try dsimp only at hinv
   obtain ⟨hk, hD⟩ := hinv
   have hDlt := hD.lt
   have hDlen := hD.len
   simp only [keepL, memL, cond_true, cond_false, ↓reduceIte, reduceCtorEq, Nat.reduceEqDiff, List.cons_append, List.nil_append, puts, put]
   refine pw_seq_k fun K11 hK11 => ?_
   refine pw_seq_k fun K12 hK12 => ?_
   refine pw_region 0 ?_
   simp [sBinH, sBin, binop, E.ld, E.ok, E.set, E.setz, E.len, List.getElem?_map, h6, hk0, hw0]
   apply hK12; try clear hK12 K12
   refine pw_cond _ rfl (fun h13 => ?_) (fun h13 => ?_)
   ·try simp at h13
    obtain ⟨x, hx, hx2⟩ := hD.get (by omega)
    have hX := gE hx
    obtain ⟨y, hy⟩ := getN (l := c) (k := i) (by omega)
    have hY := gE hy
    have hw1 := wrap_i64 (n := (i : Int) + 1) (by omega) (by omega)
    have hw2 := wrap_i64 (n := (j : Int) + 1) (by omega) (by omega)
    have hb1 : i < l.length := by omega
    obtain ⟨c2, hc2⟩ : ∃ c2, c2 = c.set i x := ⟨_, rfl⟩
    have hms : (c.map pv).set i (pv x) = c2.map pv := by rw [hc2, List.map_set]
    refine pw_skip ?_
    try simp only [thenP, inBlockP]
    apply hK11; try clear hK11 K11
    refine pw_keep [0, 1, 5, 6] ?_
    simp only [keepL, memL, cond_true, cond_false, ↓reduceIte, reduceCtorEq, Nat.reduceEqDiff]
    refine pw_seq_k fun K14 hK14 => ?_
    refine pw_block ?_
    refine pw_seq_k fun K15 hK15 => ?_
    refine pw_region 0 ?_
    refine pEv0_split 4 fun Kr16 hKr16 => ?_
    simp [E.ld, E.ok, E.set, E.setz, E.len, List.getElem?_map, h6, hk0, hw0, h13, hx, hX, hy, hY, hw1, hw2, hb1, hDlen, hms]
    apply hKr16; clear hKr16 Kr16
    simp [E.ld, E.ok, E.set, E.setz, E.len, List.getElem?_map, h6, hk0, hw0, h13, hx, hX, hy, hY, hw1, hw2, hb1, hDlen, hms]
    apply hK15; try clear hK15 K15
    refine pw_keep [0, 1, 5, 6, 7] ?_
    simp only [keepL, memL, cond_true, cond_false, ↓reduceIte, reduceCtorEq, Nat.reduceEqDiff]
    refine pw_seq_k fun K17 hK17 => ?_
    refine pw_region 0 ?_
    refine pEv0_split 2 fun Kr18 hKr18 => ?_
    simp [E.ld, E.ok, E.set, E.setz, E.len, List.getElem?_map, h6, hk0, hw0, h13, hx, hX, hy, hY, hw1, hw2, hb1, hDlen, hms]
    apply hKr18; clear hKr18 Kr18
    refine pEv0_call' rfl rfl rfl (call_pure (hc _) he (by simp [E.cl, List.all_eq_true.1 hcap]; exact fun x hx => List.all_eq_true.1 hcap x hx) _) ?_
    simp [E.ld, E.ok, E.set, E.setz, E.len, List.getElem?_map, h6, hk0, hw0, h13, hx, hX, hy, hY, hw1, hw2, hb1, hDlen, hms]
    apply hK17; try clear hK17 K17
    refine pw_cond _ rfl (fun h19 => ?_) (fun h19 => ?_)
    ·try simp at h19
     refine pw_seq_k fun K20 hK20 => ?_
     refine pw_region 0 ?_
     refine pEv0_split 4 fun Kr21 hKr21 => ?_
     simp [E.ld, E.ok, E.set, E.setz, E.len, List.getElem?_map, h6, hk0, hw0, h13, hx, hX, hy, hY, hw1, hw2, hb1, hDlen, hms, h19]
     apply hKr21; clear hKr21 Kr21
     simp [E.ld, E.ok, E.set, E.setz, E.len, List.getElem?_map, h6, hk0, hw0, h13, hx, hX, hy, hY, hw1, hw2, hb1, hDlen, hms, h19]
     apply hK20; try clear hK20 K20
     refine pw_keep [0, 1, 5, 6] ?_
     simp only [keepL, memL, cond_true, cond_false, ↓reduceIte, reduceCtorEq, Nat.reduceEqDiff]
     refine pw_region 0 ?_
     simp [sBinH, sBin, binop, E.ld, E.ok, E.set, E.setz, E.len, List.getElem?_map, h6, hk0, hw0, h13, hx, hX, hy, hY, hw1, hw2, hb1, hDlen, hms, h19]
     apply hK14; try clear hK14 K14
     refine pw_region 0 ?_
     simp [sBinH, sBin, binop, E.ld, E.ok, E.set, E.setz, E.len, List.getElem?_map, h6, hk0, hw0, h13, hx, hX, hy, hY, hw1, hw2, hb1, hDlen, hms, h19]
     refine hKL10 _ (m - 1) (i + 1, j + 1, c2) ?_ ?_ ?_
     ·omega
     ·(try dsimp only) <;> (exact ⟨by omega, hc2 ▸ hD.keep hx2 (by assumption)⟩)
     ·refine Wk.toF ?_ ?_ ?_ ?_ ?_
      ·try simp only [keepL, memL, cond_true, cond_false, ↓reduceIte, reduceCtorEq, Nat.reduceEqDiff, List.cons_append, List.nil_append, puts, put]
       repeat (first | exact trivial | (refine FLt.cons ?_ ?_; focus (first | exact Lt.refl _ | exact Lt.any _ | (refine lt_eq (congrArg (PV.int .i64) ?_); omega) | (refine lt_eq ?_; simp [h6, hk0, h13, hDlen, hms, h19]; done) | (refine lt_eq ?_; simp [h6, hk0, h13, hDlen, hms, h19] <;> omega))))
      ·try simp only [puts, put, ↓reduceIte, reduceCtorEq, Nat.reduceEqDiff]
       repeat (first | exact trivial | (refine ⟨⟨_, rfl, ?_⟩, ?_⟩; focus (first | exact BLt.refl _ | (refine BLt.of_eq ?_; simp [h6, hk0, h13, hDlen, hms, h19]; done) | (refine BLt.of_eq ?_; simp [h6, hk0, h13, hDlen, hms, h19] <;> omega))))
      ·simp
      ·simp [E.within, withinL_of hcap]
      ·simp [E.within, withinL_of hcap]
    ·try simp at h19
     refine pw_skip ?_
     try simp only [thenP, inBlockP]
     apply hK14; try clear hK14 K14
     refine pw_keep [0, 1, 5, 6] ?_
     simp only [keepL, memL, cond_true, cond_false, ↓reduceIte, reduceCtorEq, Nat.reduceEqDiff]
     refine pw_region 0 ?_
     simp [sBinH, sBin, binop, E.ld, E.ok, E.set, E.setz, E.len, List.getElem?_map, h6, hk0, hw0, h13, hx, hX, hy, hY, hw1, hw2, hb1, hDlen, hms, h19]
     refine hKL10 _ (m - 1) (i, j + 1, c) ?_ ?_ ?_
     ·omega
     ·(try dsimp only) <;> (exact ⟨by omega, hD.skip hx2 (by assumption)⟩)
     ·refine Wk.toF ?_ ?_ ?_ ?_ ?_
      ·try simp only [keepL, memL, cond_true, cond_false, ↓reduceIte, reduceCtorEq, Nat.reduceEqDiff, List.cons_append, List.nil_append, puts, put]
       repeat (first | exact trivial | (refine FLt.cons ?_ ?_; focus (first | exact Lt.refl _ | exact Lt.any _ | (refine lt_eq (congrArg (PV.int .i64) ?_); omega) | (refine lt_eq ?_; simp [h6, hk0, h13, hDlen, hms, h19]; done) | (refine lt_eq ?_; simp [h6, hk0, h13, hDlen, hms, h19] <;> omega))))
      ·try simp only [puts, put, ↓reduceIte, reduceCtorEq, Nat.reduceEqDiff]
       repeat (first | exact trivial | (refine ⟨⟨_, rfl, ?_⟩, ?_⟩; focus (first | exact BLt.refl _ | (refine BLt.of_eq ?_; simp [h6, hk0, h13, hDlen, hms, h19]; done) | (refine BLt.of_eq ?_; simp [h6, hk0, h13, hDlen, hms, h19] <;> omega))))
      ·simp
      ·simp [E.within, withinL_of hcap]
      ·simp [E.within, withinL_of hcap]
   ·try simp at h13
    have hrow := hD.row (pv := pv) (by omega)
    obtain ⟨hd1, hd2⟩ := hD.done (by omega)
    have hb1 : i ≤ l.length := by omega
    have hb2 : i + (l.length - i) = l.length := by omega
    refine pw_exit ?_
    simp [thenP, inBlockP]
    apply hK8; try clear hK8 K8
    refine pw_keep [0, 5] ?_
    simp only [keepL, memL, cond_true, cond_false, ↓reduceIte, reduceCtorEq, Nat.reduceEqDiff]
    refine pw_seq_k fun K22 hK22 => ?_
    refine pw_region 0 ?_
    simp [E.ld, E.ok, E.set, E.setz, E.len, List.getElem?_map, h6, hk0, hw0, h13, hd2, hb1, hb2, hDlen]
    apply hK22; try clear hK22 K22
    refine pw_seq_k fun K23 hK23 => ?_
    refine pw_region 0 ?_
    simp [E.ld, E.ok, E.set, E.setz, E.len, List.getElem?_map, h6, hk0, hw0, h13, hd2, hb1, hb2, hDlen]
    apply hK23; try clear hK23 K23
    refine pw_keep [4] ?_
    simp only [keepL, memL, cond_true, cond_false, ↓reduceIte, reduceCtorEq, Nat.reduceEqDiff]
    refine pw_ret ?_
    try simp only [thenP, inBlockP]
    refine bodyW_fr (by first | exact .inl rfl | exact .inr rfl) _ rfl ?_
    refine Wk.to (LtL.cons (lt_eq (show PV.bsl 0 0 8 0 i = _ by rw [hd2])) LtL.nil) ⟨⟨_, rfl, BLt.pre (hrow _ _)⟩, trivial⟩ (by simp [keys, inH, find, put]) (by simp [PV.within, inH, find]) (by simp [withinB_arr, E.within])

set_option maxRecDepth 100000 in
set_option maxHeartbeats 4000000 in
theorem idx_L {X : Type} {pv : X → PV} (E : El true 3 pv) {p : X → Bool} {fd : FuncId} {cap : List PV} (he : Enters Try.prog fd) (hc : ∀ x, PFun Try.prog fd (pv x :: cap) (.bool (p x))) (hcap : (cap.all PV.closed) = true) (l : List X) (hl : l.length < 2 ^ 31) : PFun Try.prog 76 [.sl 3 (l.map pv), .clo fd [] cap] (.int .i64 (idxF p 0 l)) := by
 refine PFun.of_bodyF (by simp) Try.func76 rfl 19 rfl (by simp) fun c0 => ?_
 simp only [argL, Nat.reduceAdd]
 refine pw_seq_k fun K1 hK1 => ?_
 refine pw_region 0 ?_
 simp [E.ld, E.ok, E.set, E.setz, E.len, List.getElem?_map]
 apply hK1; try clear hK1 K1
 refine pw_seq_k fun K2 hK2 => ?_
 refine pw_seq_k fun K3 hK3 => ?_
 refine pw_region 0 ?_
 simp [E.ld, E.ok, E.set, E.setz, E.len, List.getElem?_map]
 apply hK3; try clear hK3 K3
 refine pw_block ?_
 refine pw_loopF (α := Nat) [0, 1, 7] (fun s => [(8, .int .i64 (s : Nat))]) (fun s => []) (fun m s => s + m = l.length ∧ idxF p s (l.drop s) = idxF p 0 l) (l.length) (0) ?_ ?_ ?_
 ·(try dsimp only) <;> (simp)
 ·refine Wk.toF ?_ ?_ ?_ ?_ ?_
  ·try simp only [keepL, memL, cond_true, cond_false, ↓reduceIte, reduceCtorEq, Nat.reduceEqDiff, List.cons_append, List.nil_append, puts, put]
   repeat (first | exact trivial | (refine FLt.cons ?_ ?_; focus (first | exact Lt.refl _ | exact Lt.any _ | (refine lt_eq (congrArg (PV.int .i64) ?_); omega) | (refine lt_eq ?_; simp; done) | (refine lt_eq ?_; simp <;> omega))))
  ·try simp only [puts, put, ↓reduceIte, reduceCtorEq, Nat.reduceEqDiff]
   repeat (first | exact trivial | (refine ⟨⟨_, rfl, ?_⟩, ?_⟩; focus (first | exact BLt.refl _)))
  ·simp
  ·simp [E.within, withinL_of hcap]
  ·simp [E.within, withinL_of hcap]
 ·intro m i hinv KL4 hKL4
  try dsimp only at hinv
  obtain ⟨hk, hf⟩ := hinv
  simp only [keepL, memL, cond_true, cond_false, ↓reduceIte, reduceCtorEq, Nat.reduceEqDiff, List.cons_append, List.nil_append, puts, put]
  refine pw_seq_k fun K5 hK5 => ?_
  refine pw_region 0 ?_
  simp [sBinH, sBin, binop, E.ld, E.ok, E.set, E.setz, E.len, List.getElem?_map]
  apply hK5; try clear hK5 K5
  refine pw_seq_k fun K6 hK6 => ?_
  refine pw_cond _ rfl (fun h7 => ?_) (fun h7 => ?_)
  ·try simp at h7
   obtain ⟨x, hx, hX⟩ := getN2 (l := l) (k := i) (by omega)
   have hw := wrap_i64 (n := (i : Int) + 1) (by omega) (by omega)
   have hdr := drop_get hx
   have htk := take_get hx
   refine pw_skip ?_
   try simp only [thenP, inBlockP]
   apply hK6; try clear hK6 K6
   refine pw_seq_k fun K8 hK8 => ?_
   refine pw_block ?_
   refine pw_seq_k fun K9 hK9 => ?_
   refine pw_region 0 ?_
   simp [E.ld, E.ok, E.set, E.setz, E.len, List.getElem?_map, h7, hx, hX, hw, htk]
   apply hK9; try clear hK9 K9
   refine pw_seq_k fun K10 hK10 => ?_
   refine pw_region 0 ?_
   refine pEv0_split 4 fun Kr11 hKr11 => ?_
   simp [E.ld, E.ok, E.set, E.setz, E.len, List.getElem?_map, h7, hx, hX, hw, htk]
   apply hKr11; clear hKr11 Kr11
   refine pEv0_split 1 fun Kr12 hKr12 => ?_
   simp [E.ld, E.ok, E.set, E.setz, E.len, List.getElem?_map, h7, hx, hX, hw, htk]
   apply hKr12; clear hKr12 Kr12
   refine pEv0_call' rfl rfl rfl (call_pure (hc _) he (by simp [E.cl, List.all_eq_true.1 hcap]; exact fun x hx => List.all_eq_true.1 hcap x hx) _) ?_
   simp [E.ld, E.ok, E.set, E.setz, E.len, List.getElem?_map, h7, hx, hX, hw, htk]
   apply hK10; try clear hK10 K10
   refine pw_keep [0, 1, 5, 7, 8, 16] ?_
   simp only [keepL, memL, cond_true, cond_false, ↓reduceIte, reduceCtorEq, Nat.reduceEqDiff]
   refine pw_cond _ rfl (fun h13 => ?_) (fun h13 => ?_)
   ·try simp at h13
    refine pw_seq_k fun K14 hK14 => ?_
    refine pw_region 0 ?_
    simp [E.ld, E.ok, E.set, E.setz, E.len, List.getElem?_map, h7, hx, hX, hw, htk, h13]
    apply hK14; try clear hK14 K14
    refine pw_keep [4] ?_
    simp only [keepL, memL, cond_true, cond_false, ↓reduceIte, reduceCtorEq, Nat.reduceEqDiff]
    refine pw_ret ?_
    try simp only [thenP, inBlockP]
    refine bodyQ_fr (by first | exact .inl rfl | exact .inr rfl) _ rfl ?_
    first | exact congrArg (PV.int .i64) (idxF_hit hf hx (by assumption)) | exact congrArg (PV.int .i64) (idxF_end hf (by omega))
   ·try simp at h13
    refine pw_skip ?_
    try simp only [thenP, inBlockP]
    apply hK8; try clear hK8 K8
    refine pw_region 0 ?_
    simp [sBinH, sBin, binop, E.ld, E.ok, E.set, E.setz, E.len, List.getElem?_map, h7, hx, hX, hw, htk, h13]
    refine hKL4 _ (m - 1) (i + 1) ?_ ?_ ?_
    ·omega
    ·(try dsimp only) <;> (exact ⟨by omega, idxF_next hf hx (by assumption)⟩)
    ·refine Wk.toF ?_ ?_ ?_ ?_ ?_
     ·try simp only [keepL, memL, cond_true, cond_false, ↓reduceIte, reduceCtorEq, Nat.reduceEqDiff, List.cons_append, List.nil_append, puts, put]
      repeat (first | exact trivial | (refine FLt.cons ?_ ?_; focus (first | exact Lt.refl _ | exact Lt.any _ | (refine lt_eq (congrArg (PV.int .i64) ?_); omega) | (refine lt_eq ?_; simp [h7, htk, h13]; done) | (refine lt_eq ?_; simp [h7, htk, h13] <;> omega))))
     ·try simp only [puts, put, ↓reduceIte, reduceCtorEq, Nat.reduceEqDiff]
      repeat (first | exact trivial | (refine ⟨⟨_, rfl, ?_⟩, ?_⟩; focus (first | exact BLt.refl _)))
     ·simp
     ·simp [E.within, withinL_of hcap]
     ·simp [E.within, withinL_of hcap]
  ·try simp at h7
   refine pw_exit ?_
   simp [thenP, inBlockP]
   apply hK2; try clear hK2 K2
   refine pw_keep [] ?_
   simp only [keepL, memL, cond_true, cond_false, ↓reduceIte, reduceCtorEq, Nat.reduceEqDiff]
   refine pw_seq_k fun K15 hK15 => ?_
   refine pw_region 0 ?_
   simp [E.ld, E.ok, E.set, E.setz, E.len, List.getElem?_map, h7]
   apply hK15; try clear hK15 K15
   refine pw_ret ?_
   try simp only [thenP, inBlockP]
   refine bodyQ_fr (by first | exact .inl rfl | exact .inr rfl) _ rfl ?_
   first | exact congrArg (PV.int .i64) (idxF_hit hf hx (by assumption)) | exact congrArg (PV.int .i64) (idxF_end hf (by omega))

set_option maxRecDepth 100000 in
set_option maxHeartbeats 4000000 in
theorem del_L {X : Type} {pv : X → PV} (E : El true 3 pv) {p : X → Bool} {fd : FuncId} {cap : List PV} (he : Enters Try.prog fd) (hc : ∀ x, PFun Try.prog fd (pv x :: cap) (.bool (p x))) (hcap : (cap.all PV.closed) = true) (l : List X) (hl : l.length < 2 ^ 31) (n : Nat) (hn : n = l.length) : PBox Try.prog 55 [.bsl 0 0 3 0 n, .clo fd [] cap] [(0, ⟨0, true, .arr 3 (l.map pv)⟩)] (.bsl 0 0 3 0 (l.filter fun x => !p x).length) [(0, ⟨0, true, .arr 3 ((l.filter fun x => !p x).map pv)⟩)] := by
 subst hn
 refine PBox.of_bodyF Try.func55 rfl 42 rfl (by simp) fun c0 => ?_
 simp only [argL, Nat.reduceAdd]
 refine pw_seq_k fun K1 hK1 => ?_
 refine pw_region 0 ?_
 simp [E.ld, E.ok, E.set, E.setz, E.len, List.getElem?_map]
 apply hK1; try clear hK1 K1
 refine pw_seq_k fun K2 hK2 => ?_
 refine pw_region 0 ?_
 refine pEv0_split 2 fun Kr3 hKr3 => ?_
 simp [E.ld, E.ok, E.set, E.setz, E.len, List.getElem?_map]
 apply hKr3; clear hKr3 Kr3
 refine pEv0_call' rfl rfl rfl ((call_lent (idx_L E he hc hcap l hl) en76 (VwL.cons (VwA.row' rfl (by simp) (E.all _) (by simp [take_map_len])) (VwL.keep (by simp only [PV.within, PV.within.go, Bool.true_and]; exact withinL_of hcap) VwL.nil)) rfl)) ?_
 simp [E.ld, E.ok, E.set, E.setz, E.len, List.getElem?_map]
 apply hK2; try clear hK2 K2
 refine pw_keep [0, 1, 5] ?_
 simp only [keepL, memL, cond_true, cond_false, ↓reduceIte, reduceCtorEq, Nat.reduceEqDiff]
 refine pw_seq_k fun K4 hK4 => ?_
 refine pw_seq_k fun K5 hK5 => ?_
 refine pw_region 0 ?_
 simp [sBinH, sBin, binop, E.ld, E.ok, E.set, E.setz, E.len, List.getElem?_map]
 apply hK5; try clear hK5 K5
 refine pw_cond _ rfl (fun h6 => ?_) (fun h6 => ?_)
 ·try simp at h6
  have hall := idx_none (p := p) h6
  refine pw_seq_k fun K7 hK7 => ?_
  refine pw_region 0 ?_
  simp [E.ld, E.ok, E.set, E.setz, E.len, List.getElem?_map, h6, hall]
  apply hK7; try clear hK7 K7
  refine pw_keep [4] ?_
  simp only [keepL, memL, cond_true, cond_false, ↓reduceIte, reduceCtorEq, Nat.reduceEqDiff]
  refine pw_ret ?_
  try simp only [thenP, inBlockP]
  refine bodyW_fr (by first | exact .inl rfl | exact .inr rfl) _ rfl ?_
  refine Wk.to ?_ ?_ ?_ ?_ ?_
  ·try simp only [keepL, memL, cond_true, cond_false, ↓reduceIte, reduceCtorEq, Nat.reduceEqDiff, List.cons_append, List.nil_append, puts, put]
   (repeat (first | exact LtL.nil | (refine LtL.cons ?_ ?_; focus (first | exact Lt.refl _ | exact Lt.any _ | (refine Lt.nilb ?_; simp; done) | exact Lt.nilsl _ | (refine lt_frozB rfl rfl rfl rfl ?_ ?_ ?_ <;> (first | rfl | (simp [h6, hall]; done) | (simp [h6, hall] <;> omega)); done) | (refine lt_eq (congrArg (PV.int .i64) ?_); omega) | (refine lt_eq ?_; simp [h6, hall]; done) | (refine lt_eq ?_; simp [h6, hall] <;> omega)))))
  ·try simp only [puts, put, ↓reduceIte, reduceCtorEq, Nat.reduceEqDiff]
   repeat (first | exact trivial | (refine ⟨⟨_, rfl, ?_⟩, ?_⟩; focus (first | exact BLt.refl _ | (refine BLt.of_eq ?_; simp [h6, hall]; done) | (refine BLt.of_eq ?_; simp [h6, hall] <;> omega) | (refine BLt.pre ?_; simp [h6, hall]; done) | (refine BLt.one ?_; (repeat (first | exact LtL.nil | (refine LtL.cons ?_ ?_; focus (first | exact Lt.refl _ | exact Lt.any _ | (refine Lt.nilb ?_; simp; done) | exact Lt.nilsl _ | (refine lt_frozB rfl rfl rfl rfl ?_ ?_ ?_ <;> (first | rfl | (simp [h6, hall]; done) | (simp [h6, hall] <;> omega)); done) | (refine lt_eq (congrArg (PV.int .i64) ?_); omega) | (refine lt_eq ?_; simp [h6, hall]; done) | (refine lt_eq ?_; simp [h6, hall] <;> omega))))); done) | (refine BLt.cell ?_ rfl rfl; (first | exact Lt.refl _ | exact Lt.any _ | (refine Lt.nilb ?_; simp; done) | exact Lt.nilsl _ | (refine lt_frozB rfl rfl rfl rfl ?_ ?_ ?_ <;> (first | rfl | (simp [h6, hall]; done) | (simp [h6, hall] <;> omega)); done) | (refine lt_eq (congrArg (PV.int .i64) ?_); omega) | (refine lt_eq ?_; simp [h6, hall]; done) | (refine lt_eq ?_; simp [h6, hall] <;> omega))))))
  ·simp
  ·simp [E.within, withinL_of hcap]
  ·simp [E.within, withinL_of hcap]
 ·try simp at h6
  obtain ⟨k, hk0, hk1, hk2⟩ := idx_some (p := p) h6
  have hw0 := wrap_i64 (n := (k : Int) + 1) (by omega) (by omega)
  refine pw_skip ?_
  try simp only [thenP, inBlockP]
  apply hK4; try clear hK4 K4
  refine pw_seq_k fun K8 hK8 => ?_
  refine pw_seq_k fun K9 hK9 => ?_
  refine pw_region 0 ?_
  simp [sBinH, sBin, binop, E.ld, E.ok, E.set, E.setz, E.len, List.getElem?_map, h6, hk0, hw0]
  apply hK9; try clear hK9 K9
  refine pw_keep [0, 1, 5, 6] ?_
  simp only [keepL, memL, cond_true, cond_false, ↓reduceIte, reduceCtorEq, Nat.reduceEqDiff]
  refine pw_block ?_
  refine pw_loopF (α := Nat × Nat × (List X)) [0, 1] (fun s => [(5, .int .i64 (s.1 : Nat)), (6, .int .i64 (s.2.1 : Nat))]) (fun s => [(0, ⟨0, true, .arr 3 (s.2.2.map pv)⟩)]) (fun m s => s.2.1 + m = l.length ∧ Del p l s.2.2 s.1 s.2.1) (l.length - (k + 1)) (k, k + 1, l) ?_ ?_ ?_
  ·(try dsimp only) <;> (exact ⟨by omega, Del.start hk1 hk2⟩)
  ·refine Wk.toF ?_ ?_ ?_ ?_ ?_
   ·try simp only [keepL, memL, cond_true, cond_false, ↓reduceIte, reduceCtorEq, Nat.reduceEqDiff, List.cons_append, List.nil_append, puts, put]
    repeat (first | exact trivial | (refine FLt.cons ?_ ?_; focus (first | exact Lt.refl _ | exact Lt.any _ | (refine lt_eq (congrArg (PV.int .i64) ?_); omega) | (refine lt_eq ?_; simp [h6, hk0]; done) | (refine lt_eq ?_; simp [h6, hk0] <;> omega))))
   ·try simp only [puts, put, ↓reduceIte, reduceCtorEq, Nat.reduceEqDiff]
    repeat (first | exact trivial | (refine ⟨⟨_, rfl, ?_⟩, ?_⟩; focus (first | exact BLt.refl _ | (refine BLt.of_eq ?_; simp [h6, hk0]; done) | (refine BLt.of_eq ?_; simp [h6, hk0] <;> omega))))
   ·simp
   ·simp [E.within, withinL_of hcap]
   ·simp [E.within, withinL_of hcap]
  ·intro m s hinv KL10 hKL10
   obtain ⟨i, j, c⟩ := s
   try dsimp only at hinv
   obtain ⟨hk, hD⟩ := hinv
   have hDlt := hD.lt
   have hDlen := hD.len
   simp only [keepL, memL, cond_true, cond_false, ↓reduceIte, reduceCtorEq, Nat.reduceEqDiff, List.cons_append, List.nil_append, puts, put]
   refine pw_seq_k fun K11 hK11 => ?_
   refine pw_seq_k fun K12 hK12 => ?_
   refine pw_region 0 ?_
   simp [sBinH, sBin, binop, E.ld, E.ok, E.set, E.setz, E.len, List.getElem?_map, h6, hk0, hw0]
   apply hK12; try clear hK12 K12
   refine pw_cond _ rfl (fun h13 => ?_) (fun h13 => ?_)
   ·try simp at h13
    obtain ⟨x, hx, hx2⟩ := hD.get (by omega)
    have hX := gE hx
    obtain ⟨y, hy⟩ := getN (l := c) (k := i) (by omega)
    have hY := gE hy
    have hw1 := wrap_i64 (n := (i : Int) + 1) (by omega) (by omega)
    have hw2 := wrap_i64 (n := (j : Int) + 1) (by omega) (by omega)
    have hb1 : i < l.length := by omega
    obtain ⟨c2, hc2⟩ : ∃ c2, c2 = c.set i x := ⟨_, rfl⟩
    have hms : (c.map pv).set i (pv x) = c2.map pv := by rw [hc2, List.map_set]
    refine pw_skip ?_
    try simp only [thenP, inBlockP]
    apply hK11; try clear hK11 K11
    refine pw_keep [0, 1, 5, 6] ?_
    simp only [keepL, memL, cond_true, cond_false, ↓reduceIte, reduceCtorEq, Nat.reduceEqDiff]
    refine pw_seq_k fun K14 hK14 => ?_
    refine pw_block ?_
    refine pw_seq_k fun K15 hK15 => ?_
    refine pw_region 0 ?_
    refine pEv0_split 4 fun Kr16 hKr16 => ?_
    simp [E.ld, E.ok, E.set, E.setz, E.len, List.getElem?_map, h6, hk0, hw0, h13, hx, hX, hy, hY, hw1, hw2, hb1, hDlen, hms]
    apply hKr16; clear hKr16 Kr16
    simp [E.ld, E.ok, E.set, E.setz, E.len, List.getElem?_map, h6, hk0, hw0, h13, hx, hX, hy, hY, hw1, hw2, hb1, hDlen, hms]
    apply hK15; try clear hK15 K15
    refine pw_keep [0, 1, 5, 6, 7] ?_
    simp only [keepL, memL, cond_true, cond_false, ↓reduceIte, reduceCtorEq, Nat.reduceEqDiff]
    refine pw_seq_k fun K17 hK17 => ?_
    refine pw_region 0 ?_
    refine pEv0_split 2 fun Kr18 hKr18 => ?_
    simp [E.ld, E.ok, E.set, E.setz, E.len, List.getElem?_map, h6, hk0, hw0, h13, hx, hX, hy, hY, hw1, hw2, hb1, hDlen, hms]
    apply hKr18; clear hKr18 Kr18
    refine pEv0_call' rfl rfl rfl (call_pure (hc _) he (by simp [E.cl, List.all_eq_true.1 hcap]; exact fun x hx => List.all_eq_true.1 hcap x hx) _) ?_
    simp [E.ld, E.ok, E.set, E.setz, E.len, List.getElem?_map, h6, hk0, hw0, h13, hx, hX, hy, hY, hw1, hw2, hb1, hDlen, hms]
    apply hK17; try clear hK17 K17
    refine pw_cond _ rfl (fun h19 => ?_) (fun h19 => ?_)
    ·try simp at h19
     refine pw_seq_k fun K20 hK20 => ?_
     refine pw_region 0 ?_
     refine pEv0_split 4 fun Kr21 hKr21 => ?_
     simp [E.ld, E.ok, E.set, E.setz, E.len, List.getElem?_map, h6, hk0, hw0, h13, hx, hX, hy, hY, hw1, hw2, hb1, hDlen, hms, h19]
     apply hKr21; clear hKr21 Kr21
     simp [E.ld, E.ok, E.set, E.setz, E.len, List.getElem?_map, h6, hk0, hw0, h13, hx, hX, hy, hY, hw1, hw2, hb1, hDlen, hms, h19]
     apply hK20; try clear hK20 K20
     refine pw_keep [0, 1, 5, 6] ?_
     simp only [keepL, memL, cond_true, cond_false, ↓reduceIte, reduceCtorEq, Nat.reduceEqDiff]
     refine pw_region 0 ?_
     simp [sBinH, sBin, binop, E.ld, E.ok, E.set, E.setz, E.len, List.getElem?_map, h6, hk0, hw0, h13, hx, hX, hy, hY, hw1, hw2, hb1, hDlen, hms, h19]
     apply hK14; try clear hK14 K14
     refine pw_region 0 ?_
     simp [sBinH, sBin, binop, E.ld, E.ok, E.set, E.setz, E.len, List.getElem?_map, h6, hk0, hw0, h13, hx, hX, hy, hY, hw1, hw2, hb1, hDlen, hms, h19]
     refine hKL10 _ (m - 1) (i + 1, j + 1, c2) ?_ ?_ ?_
     ·omega
     ·(try dsimp only) <;> (exact ⟨by omega, hc2 ▸ hD.keep hx2 (by assumption)⟩)
     ·refine Wk.toF ?_ ?_ ?_ ?_ ?_
      ·try simp only [keepL, memL, cond_true, cond_false, ↓reduceIte, reduceCtorEq, Nat.reduceEqDiff, List.cons_append, List.nil_append, puts, put]
       repeat (first | exact trivial | (refine FLt.cons ?_ ?_; focus (first | exact Lt.refl _ | exact Lt.any _ | (refine lt_eq (congrArg (PV.int .i64) ?_); omega) | (refine lt_eq ?_; simp [h6, hk0, h13, hDlen, hms, h19]; done) | (refine lt_eq ?_; simp [h6, hk0, h13, hDlen, hms, h19] <;> omega))))
      ·try simp only [puts, put, ↓reduceIte, reduceCtorEq, Nat.reduceEqDiff]
       repeat (first | exact trivial | (refine ⟨⟨_, rfl, ?_⟩, ?_⟩; focus (first | exact BLt.refl _ | (refine BLt.of_eq ?_; simp [h6, hk0, h13, hDlen, hms, h19]; done) | (refine BLt.of_eq ?_; simp [h6, hk0, h13, hDlen, hms, h19] <;> omega))))
      ·simp
      ·simp [E.within, withinL_of hcap]
      ·simp [E.within, withinL_of hcap]
    ·try simp at h19
     refine pw_skip ?_
     try simp only [thenP, inBlockP]
     apply hK14; try clear hK14 K14
     refine pw_keep [0, 1, 5, 6] ?_
     simp only [keepL, memL, cond_true, cond_false, ↓reduceIte, reduceCtorEq, Nat.reduceEqDiff]
     refine pw_region 0 ?_
     simp [sBinH, sBin, binop, E.ld, E.ok, E.set, E.setz, E.len, List.getElem?_map, h6, hk0, hw0, h13, hx, hX, hy, hY, hw1, hw2, hb1, hDlen, hms, h19]
     refine hKL10 _ (m - 1) (i, j + 1, c) ?_ ?_ ?_
     ·omega
     ·(try dsimp only) <;> (exact ⟨by omega, hD.skip hx2 (by assumption)⟩)
     ·refine Wk.toF ?_ ?_ ?_ ?_ ?_
      ·try simp only [keepL, memL, cond_true, cond_false, ↓reduceIte, reduceCtorEq, Nat.reduceEqDiff, List.cons_append, List.nil_append, puts, put]
       repeat (first | exact trivial | (refine FLt.cons ?_ ?_; focus (first | exact Lt.refl _ | exact Lt.any _ | (refine lt_eq (congrArg (PV.int .i64) ?_); omega) | (refine lt_eq ?_; simp [h6, hk0, h13, hDlen, hms, h19]; done) | (refine lt_eq ?_; simp [h6, hk0, h13, hDlen, hms, h19] <;> omega))))
      ·try simp only [puts, put, ↓reduceIte, reduceCtorEq, Nat.reduceEqDiff]
       repeat (first | exact trivial | (refine ⟨⟨_, rfl, ?_⟩, ?_⟩; focus (first | exact BLt.refl _ | (refine BLt.of_eq ?_; simp [h6, hk0, h13, hDlen, hms, h19]; done) | (refine BLt.of_eq ?_; simp [h6, hk0, h13, hDlen, hms, h19] <;> omega))))
      ·simp
      ·simp [E.within, withinL_of hcap]
      ·simp [E.within, withinL_of hcap]
   ·try simp at h13
    have hrow := hD.row (pv := pv) (by omega)
    obtain ⟨hd1, hd2⟩ := hD.done (by omega)
    have hb1 : i ≤ l.length := by omega
    have hb2 : i + (l.length - i) = l.length := by omega
    refine pw_exit ?_
    simp [thenP, inBlockP]
    apply hK8; try clear hK8 K8
    refine pw_keep [0, 5] ?_
    simp only [keepL, memL, cond_true, cond_false, ↓reduceIte, reduceCtorEq, Nat.reduceEqDiff]
    refine pw_seq_k fun K22 hK22 => ?_
    refine pw_region 0 ?_
    simp [E.ld, E.ok, E.set, E.setz, E.len, List.getElem?_map, h6, hk0, hw0, h13, hd2, hb1, hb2, hDlen]
    apply hK22; try clear hK22 K22
    refine pw_seq_k fun K23 hK23 => ?_
    refine pw_region 0 ?_
    simp [E.ld, E.ok, E.set, E.setz, E.len, List.getElem?_map, h6, hk0, hw0, h13, hd2, hb1, hb2, hDlen]
    apply hK23; try clear hK23 K23
    refine pw_keep [4] ?_
    simp only [keepL, memL, cond_true, cond_false, ↓reduceIte, reduceCtorEq, Nat.reduceEqDiff]
    refine pw_ret ?_
    try simp only [thenP, inBlockP]
    refine bodyW_fr (by first | exact .inl rfl | exact .inr rfl) _ rfl ?_
    refine Wk.to (LtL.cons (lt_eq (show PV.bsl 0 0 3 0 i = _ by rw [hd2])) LtL.nil) ⟨⟨_, rfl, BLt.pre (hrow _ _)⟩, trivial⟩ (by simp [keys, inH, find, put]) (by simp [PV.within, inH, find]) (by simp [withinB_arr, E.within])

end Pv
