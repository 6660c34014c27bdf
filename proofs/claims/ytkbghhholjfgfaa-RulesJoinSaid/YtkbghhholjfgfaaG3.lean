import Derived.Test.YtkbghhholjfgfaaG1
set_option linter.unusedSimpArgs false
set_option linter.unusedVariables false
namespace Pv
open Go Go.Proofs
attribute [local simp] Body.ren Body.withinB Box.ren List.drop_succ_cons List.map_set List.take_succ_cons PV.ren PV.within PV.within.go Try.underlying46 Try.underlying47 Try.underlying48 boxArr co30 co37 co46 co47 co48 co60 co69 co72 cur el46 el47 el48 ev_const ev_fr ev_func ev_glob find_cons find_nil fl50_0 fl50_1 fl50_2 fl60_1 fl69_0 fl69_1 fl74_0 fl74_1 fr_get' fstep genOf guardDec inBlockP inH keepL keys layFields layParts lk maxLen memL newBox ofConst ofScalar pEv pEv0 part' put puts renL sAlloc sAppend sAppend.srcOf sBox sBuild sBuildSlice sFieldAddr sIndexAddr sLen sLoad sStore setD_fr setD_none setc_agg shR_d shR_r splice st50 st74 take_map_len thenP ty30 ty32 ty46 ty47 ty48 ty50 ty58 ty60 ty67 ty69 ty74 upF withinB_arr
set_option maxRecDepth 100000 in
set_option maxHeartbeats 4000000 in
theorem lgroup_pf (a : NGroup) : PFun Try.prog 41 [a.pv] (a.pv) := by
 refine PFun.of_bodyF (by simp) Try.func41 rfl 8 rfl (by simp) fun c0 => ?_
 simp only [argL, Nat.reduceAdd]
 refine pw_seq_k fun K1 hK1 => ?_
 refine pw_region 0 ?_
 simp
 apply hK1; try clear hK1 K1
 refine pw_seq_k fun K2 hK2 => ?_
 refine pw_region 0 ?_
 refine pEv0_split 4 fun Kr3 hKr3 => ?_
 simp
 apply hKr3; clear hKr3 Kr3
 simp
 apply hK2; try clear hK2 K2
 refine pw_keep [2] ?_
 simp only [keepL, memL, cond_true, cond_false, ↓reduceIte, reduceCtorEq, Nat.reduceEqDiff]
 refine pw_ret ?_
 try simp only [thenP, inBlockP]
 refine bodyQ_ex (by first | exact .inl rfl | exact .inr rfl) ?_
 simp only [resL, resVL, lk, sLoad, boxArr, find_cons, Try.func41, Try.results41, ty74, ↓reduceIte, reduceCtorEq, Nat.reduceLT, Nat.reduceEqDiff, Option.map_some, Option.bind_some, Option.some.injEq, exists_eq_left', List.getElem?_cons_zero, ld_agg_t, ld_int, ld_bool, ld_str, ld_sl, ld_bsl, ld_nils, List.length_cons, List.length_nil, Nat.reduceAdd, Nat.reduceLeDiff, List.take_succ_cons, List.take_zero, List.drop_zero, and_self, true_and, Nat.le_refl, Nat.zero_add, NAddr.ld, NCidr.ld, NPoint.ld, NKey.ld, NFront.ld, NId.ld, NFilter.ld, NTable.ld, NGroup.ld, NRows.ld]
 first | rfl | (simp [NGroup.pv, NGroup.cs, NTable.cs, NId.cs, NKey.cs]; done)

set_option maxRecDepth 100000 in
set_option maxHeartbeats 4000000 in
theorem len_pf (a : NRows) (h : a.le 1000000) : PFun Try.prog 25 [a.pv] (.int .i64 ((a.fronts.length + a.groups.length + a.filters.length : Nat) : Int)) := by
 refine PFun.of_bodyF (by simp) Try.func25 rfl 14 rfl (by simp) fun c0 => ?_
 simp only [argL, Nat.reduceAdd]
 have h1 := h.f
 have h2 := h.g
 have h3 := h.l
 have hw1 := wrap_i64 (n := (a.fronts.length : Int) + a.groups.length) (by omega) (by omega)
 have hw2 := wrap_i64 (n := (a.fronts.length : Int) + a.groups.length + a.filters.length) (by omega) (by omega)
 refine pw_seq_k fun K1 hK1 => ?_
 refine pw_region 0 ?_
 simp [hw1, hw2]
 apply hK1; try clear hK1 K1
 refine pw_seq_k fun K2 hK2 => ?_
 refine pw_region 0 ?_
 refine pEv0_split 4 fun Kr3 hKr3 => ?_
 simp [hw1, hw2]
 apply hKr3; clear hKr3 Kr3
 refine pEv0_split 4 fun Kr4 hKr4 => ?_
 simp [sBinH, sBin, binop, hw1, hw2]
 apply hKr4; clear hKr4 Kr4
 simp [sBinH, sBin, binop, hw1, hw2]
 apply hK2; try clear hK2 K2
 refine pw_keep [2] ?_
 simp only [keepL, memL, cond_true, cond_false, ↓reduceIte, reduceCtorEq, Nat.reduceEqDiff]
 refine pw_ret ?_
 try simp only [thenP, inBlockP]
 refine bodyQ_fr (by first | exact .inl rfl | exact .inr rfl) _ rfl ?_
 first | rfl | (simp; done)

set_option maxRecDepth 100000 in
set_option maxHeartbeats 4000000 in
theorem cloneB0_F  : PBox Try.prog 69 [.sl 26 []] [] (.bsl 5 1 26 0 0) [(5, ⟨1, true, .arr 26 []⟩)] := by
 refine PBox.of_bodyF Try.func69 rfl 8 rfl (by simp) fun c0 => ?_
 simp only [argL, Nat.reduceAdd]
 refine pw_seq_k fun K1 hK1 => ?_
 refine pw_region 0 ?_
 simp
 apply hK1; try clear hK1 K1
 refine pw_seq_k fun K2 hK2 => ?_
 refine pw_seq_k fun K3 hK3 => ?_
 refine pw_region 0 ?_
 simp [sBinH, sNil, sNil.curB]
 apply hK3; try clear hK3 K3
 refine pw_cond_u rfl ?_ ?_
 ·refine pw_seq_k fun K5 hK5 => ?_
  refine pw_region 0 ?_
  simp
  apply hK5; try clear hK5 K5
  refine pw_ret ?_
  try simp only [thenP, inBlockP]
  refine bodyW_fr (by first | exact .inl rfl | exact .inr rfl) _ rfl ?_
  refine Wk.trans (Wk.virt 5 1 26 (by simp)) ?_
  refine Wk.to ?_ ?_ ?_ ?_ ?_
  ·try simp only [keepL, memL, cond_true, cond_false, ↓reduceIte, reduceCtorEq, Nat.reduceEqDiff, List.cons_append, List.nil_append, puts, put]
   (repeat (first | exact LtL.nil | (refine LtL.cons ?_ ?_; focus (first | exact Lt.refl _ | exact Lt.any _ | (refine Lt.nilb ?_; simp; done) | exact Lt.nilsl _ | (refine lt_frozB rfl rfl rfl rfl ?_ ?_ ?_ <;> (first | rfl | (simp; done) | (simp <;> omega)); done) | (refine lt_eq (congrArg (PV.int .i64) ?_); omega) | (refine lt_eq ?_; simp; done) | (refine lt_eq ?_; simp <;> omega)))))
  ·try simp only [puts, put, ↓reduceIte, reduceCtorEq, Nat.reduceEqDiff]
   repeat (first | exact trivial | (refine ⟨⟨_, rfl, ?_⟩, ?_⟩; focus (first | exact BLt.refl _ | (refine BLt.of_eq ?_; simp; done) | (refine BLt.of_eq ?_; simp <;> omega) | (refine BLt.pre ?_; simp; done) | (refine BLt.one ?_; (repeat (first | exact LtL.nil | (refine LtL.cons ?_ ?_; focus (first | exact Lt.refl _ | exact Lt.any _ | (refine Lt.nilb ?_; simp; done) | exact Lt.nilsl _ | (refine lt_frozB rfl rfl rfl rfl ?_ ?_ ?_ <;> (first | rfl | (simp; done) | (simp <;> omega)); done) | (refine lt_eq (congrArg (PV.int .i64) ?_); omega) | (refine lt_eq ?_; simp; done) | (refine lt_eq ?_; simp <;> omega))))); done) | (refine BLt.cell ?_ rfl rfl; (first | exact Lt.refl _ | exact Lt.any _ | (refine Lt.nilb ?_; simp; done) | exact Lt.nilsl _ | (refine lt_frozB rfl rfl rfl rfl ?_ ?_ ?_ <;> (first | rfl | (simp; done) | (simp <;> omega)); done) | (refine lt_eq (congrArg (PV.int .i64) ?_); omega) | (refine lt_eq ?_; simp; done) | (refine lt_eq ?_; simp <;> omega))))))
  ·simp
  ·simp
  ·simp
 ·refine pw_skip ?_
  try simp only [thenP, inBlockP]
  apply hK2; try clear hK2 K2
  refine pw_seq_k fun K6 hK6 => ?_
  refine pw_region 0 ?_
  simp
  apply hK6; try clear hK6 K6
  refine pw_keep [2] ?_
  simp only [keepL, memL, cond_true, cond_false, ↓reduceIte, reduceCtorEq, Nat.reduceEqDiff]
  refine pw_ret ?_
  try simp only [thenP, inBlockP]
  refine bodyW_fr (by first | exact .inl rfl | exact .inr rfl) _ rfl ?_
  refine Wk.to ?_ ?_ ?_ ?_ ?_
  ·try simp only [keepL, memL, cond_true, cond_false, ↓reduceIte, reduceCtorEq, Nat.reduceEqDiff, List.cons_append, List.nil_append, puts, put]
   (repeat (first | exact LtL.nil | (refine LtL.cons ?_ ?_; focus (first | exact Lt.refl _ | exact Lt.any _ | (refine Lt.nilb ?_; simp; done) | exact Lt.nilsl _ | (refine lt_frozB rfl rfl rfl rfl ?_ ?_ ?_ <;> (first | rfl | (simp; done) | (simp <;> omega)); done) | (refine lt_eq (congrArg (PV.int .i64) ?_); omega) | (refine lt_eq ?_; simp; done) | (refine lt_eq ?_; simp <;> omega)))))
  ·try simp only [puts, put, ↓reduceIte, reduceCtorEq, Nat.reduceEqDiff]
   repeat (first | exact trivial | (refine ⟨⟨_, rfl, ?_⟩, ?_⟩; focus (first | exact BLt.refl _ | (refine BLt.of_eq ?_; simp; done) | (refine BLt.of_eq ?_; simp <;> omega) | (refine BLt.pre ?_; simp; done) | (refine BLt.one ?_; (repeat (first | exact LtL.nil | (refine LtL.cons ?_ ?_; focus (first | exact Lt.refl _ | exact Lt.any _ | (refine Lt.nilb ?_; simp; done) | exact Lt.nilsl _ | (refine lt_frozB rfl rfl rfl rfl ?_ ?_ ?_ <;> (first | rfl | (simp; done) | (simp <;> omega)); done) | (refine lt_eq (congrArg (PV.int .i64) ?_); omega) | (refine lt_eq ?_; simp; done) | (refine lt_eq ?_; simp <;> omega))))); done) | (refine BLt.cell ?_ rfl rfl; (first | exact Lt.refl _ | exact Lt.any _ | (refine Lt.nilb ?_; simp; done) | exact Lt.nilsl _ | (refine lt_frozB rfl rfl rfl rfl ?_ ?_ ?_ <;> (first | rfl | (simp; done) | (simp <;> omega)); done) | (refine lt_eq (congrArg (PV.int .i64) ?_); omega) | (refine lt_eq ?_; simp; done) | (refine lt_eq ?_; simp <;> omega))))))
  ·simp
  ·simp
  ·simp

set_option maxRecDepth 100000 in
set_option maxHeartbeats 4000000 in
theorem cloneB1_F (x : NFront) (l : List NFront) (hl : l.length < 2 ^ 31) : PBox Try.prog 69 [.sl 26 ((x :: l).map (NFront.pv))] [] (.bsl 5 1 26 0 (x :: l).length) [(5, ⟨1, true, .arr 26 ((x :: l).map (NFront.pv))⟩)] := by
 refine PBox.of_bodyF Try.func69 rfl 8 rfl (by simp) fun c0 => ?_
 simp only [argL, Nat.reduceAdd]
 have hb1 : (l.length + 1) * 112 ≤ 140737488355328 := by omega
 have hb2 : l.length ≤ 9223372036854775806 := by omega
 refine pw_seq_k fun K1 hK1 => ?_
 refine pw_region 0 ?_
 simp [hb1, hb2]
 apply hK1; try clear hK1 K1
 refine pw_seq_k fun K2 hK2 => ?_
 refine pw_seq_k fun K3 hK3 => ?_
 refine pw_region 0 ?_
 simp [sBinH, sNil, sNil.curB, hb1, hb2]
 apply hK3; try clear hK3 K3
 refine pw_cond _ rfl (fun h4 => ?_) (fun h4 => ?_)
 ·simp at h4
 ·clear h4
  refine pw_skip ?_
  try simp only [thenP, inBlockP]
  apply hK2; try clear hK2 K2
  refine pw_seq_k fun K5 hK5 => ?_
  refine pw_region 0 ?_
  simp [hb1, hb2]
  apply hK5; try clear hK5 K5
  refine pw_keep [2] ?_
  simp only [keepL, memL, cond_true, cond_false, ↓reduceIte, reduceCtorEq, Nat.reduceEqDiff]
  refine pw_ret ?_
  try simp only [thenP, inBlockP]
  refine bodyW_fr (by first | exact .inl rfl | exact .inr rfl) _ rfl ?_
  refine Wk.to ?_ ?_ ?_ ?_ ?_
  ·try simp only [keepL, memL, cond_true, cond_false, ↓reduceIte, reduceCtorEq, Nat.reduceEqDiff, List.cons_append, List.nil_append, puts, put]
   (repeat (first | exact LtL.nil | (refine LtL.cons ?_ ?_; focus (first | exact Lt.refl _ | exact Lt.any _ | (refine Lt.nilb ?_; simp; done) | exact Lt.nilsl _ | (refine lt_frozB rfl rfl rfl rfl ?_ ?_ ?_ <;> (first | rfl | (simp; done) | (simp <;> omega)); done) | (refine lt_eq (congrArg (PV.int .i64) ?_); omega) | (refine lt_eq ?_; simp; done) | (refine lt_eq ?_; simp <;> omega)))))
  ·try simp only [puts, put, ↓reduceIte, reduceCtorEq, Nat.reduceEqDiff]
   repeat (first | exact trivial | (refine ⟨⟨_, rfl, ?_⟩, ?_⟩; focus (first | exact BLt.refl _ | (refine BLt.of_eq ?_; simp; done) | (refine BLt.of_eq ?_; simp <;> omega) | (refine BLt.pre ?_; simp; done) | (refine BLt.one ?_; (repeat (first | exact LtL.nil | (refine LtL.cons ?_ ?_; focus (first | exact Lt.refl _ | exact Lt.any _ | (refine Lt.nilb ?_; simp; done) | exact Lt.nilsl _ | (refine lt_frozB rfl rfl rfl rfl ?_ ?_ ?_ <;> (first | rfl | (simp; done) | (simp <;> omega)); done) | (refine lt_eq (congrArg (PV.int .i64) ?_); omega) | (refine lt_eq ?_; simp; done) | (refine lt_eq ?_; simp <;> omega))))); done) | (refine BLt.cell ?_ rfl rfl; (first | exact Lt.refl _ | exact Lt.any _ | (refine Lt.nilb ?_; simp; done) | exact Lt.nilsl _ | (refine lt_frozB rfl rfl rfl rfl ?_ ?_ ?_ <;> (first | rfl | (simp; done) | (simp <;> omega)); done) | (refine lt_eq (congrArg (PV.int .i64) ?_); omega) | (refine lt_eq ?_; simp; done) | (refine lt_eq ?_; simp <;> omega))))))
  ·simp
  ·simp
  ·simp
theorem cloneB_F (l : List NFront) (hl : l.length < 2 ^ 31) : PBox Try.prog 69 [.sl 26 (l.map (NFront.pv))] [] (.bsl 5 1 26 0 l.length) [(5, ⟨1, true, .arr 26 (l.map (NFront.pv))⟩)] := by
  cases l with
  | nil => exact cloneB0_F
  | cons x l => exact cloneB1_F x l (by simp at hl; omega)

set_option maxRecDepth 100000 in
set_option maxHeartbeats 4000000 in
theorem cloneB0_G  : PBox Try.prog 70 [.sl 8 []] [] (.bsl 5 1 8 0 0) [(5, ⟨1, true, .arr 8 []⟩)] := by
 refine PBox.of_bodyF Try.func70 rfl 8 rfl (by simp) fun c0 => ?_
 simp only [argL, Nat.reduceAdd]
 refine pw_seq_k fun K1 hK1 => ?_
 refine pw_region 0 ?_
 simp
 apply hK1; try clear hK1 K1
 refine pw_seq_k fun K2 hK2 => ?_
 refine pw_seq_k fun K3 hK3 => ?_
 refine pw_region 0 ?_
 simp [sBinH, sNil, sNil.curB]
 apply hK3; try clear hK3 K3
 refine pw_cond_u rfl ?_ ?_
 ·refine pw_seq_k fun K5 hK5 => ?_
  refine pw_region 0 ?_
  simp
  apply hK5; try clear hK5 K5
  refine pw_ret ?_
  try simp only [thenP, inBlockP]
  refine bodyW_fr (by first | exact .inl rfl | exact .inr rfl) _ rfl ?_
  refine Wk.trans (Wk.virt 5 1 8 (by simp)) ?_
  refine Wk.to ?_ ?_ ?_ ?_ ?_
  ·try simp only [keepL, memL, cond_true, cond_false, ↓reduceIte, reduceCtorEq, Nat.reduceEqDiff, List.cons_append, List.nil_append, puts, put]
   (repeat (first | exact LtL.nil | (refine LtL.cons ?_ ?_; focus (first | exact Lt.refl _ | exact Lt.any _ | (refine Lt.nilb ?_; simp; done) | exact Lt.nilsl _ | (refine lt_frozB rfl rfl rfl rfl ?_ ?_ ?_ <;> (first | rfl | (simp; done) | (simp <;> omega)); done) | (refine lt_eq (congrArg (PV.int .i64) ?_); omega) | (refine lt_eq ?_; simp; done) | (refine lt_eq ?_; simp <;> omega)))))
  ·try simp only [puts, put, ↓reduceIte, reduceCtorEq, Nat.reduceEqDiff]
   repeat (first | exact trivial | (refine ⟨⟨_, rfl, ?_⟩, ?_⟩; focus (first | exact BLt.refl _ | (refine BLt.of_eq ?_; simp; done) | (refine BLt.of_eq ?_; simp <;> omega) | (refine BLt.pre ?_; simp; done) | (refine BLt.one ?_; (repeat (first | exact LtL.nil | (refine LtL.cons ?_ ?_; focus (first | exact Lt.refl _ | exact Lt.any _ | (refine Lt.nilb ?_; simp; done) | exact Lt.nilsl _ | (refine lt_frozB rfl rfl rfl rfl ?_ ?_ ?_ <;> (first | rfl | (simp; done) | (simp <;> omega)); done) | (refine lt_eq (congrArg (PV.int .i64) ?_); omega) | (refine lt_eq ?_; simp; done) | (refine lt_eq ?_; simp <;> omega))))); done) | (refine BLt.cell ?_ rfl rfl; (first | exact Lt.refl _ | exact Lt.any _ | (refine Lt.nilb ?_; simp; done) | exact Lt.nilsl _ | (refine lt_frozB rfl rfl rfl rfl ?_ ?_ ?_ <;> (first | rfl | (simp; done) | (simp <;> omega)); done) | (refine lt_eq (congrArg (PV.int .i64) ?_); omega) | (refine lt_eq ?_; simp; done) | (refine lt_eq ?_; simp <;> omega))))))
  ·simp
  ·simp
  ·simp
 ·refine pw_skip ?_
  try simp only [thenP, inBlockP]
  apply hK2; try clear hK2 K2
  refine pw_seq_k fun K6 hK6 => ?_
  refine pw_region 0 ?_
  simp
  apply hK6; try clear hK6 K6
  refine pw_keep [2] ?_
  simp only [keepL, memL, cond_true, cond_false, ↓reduceIte, reduceCtorEq, Nat.reduceEqDiff]
  refine pw_ret ?_
  try simp only [thenP, inBlockP]
  refine bodyW_fr (by first | exact .inl rfl | exact .inr rfl) _ rfl ?_
  refine Wk.to ?_ ?_ ?_ ?_ ?_
  ·try simp only [keepL, memL, cond_true, cond_false, ↓reduceIte, reduceCtorEq, Nat.reduceEqDiff, List.cons_append, List.nil_append, puts, put]
   (repeat (first | exact LtL.nil | (refine LtL.cons ?_ ?_; focus (first | exact Lt.refl _ | exact Lt.any _ | (refine Lt.nilb ?_; simp; done) | exact Lt.nilsl _ | (refine lt_frozB rfl rfl rfl rfl ?_ ?_ ?_ <;> (first | rfl | (simp; done) | (simp <;> omega)); done) | (refine lt_eq (congrArg (PV.int .i64) ?_); omega) | (refine lt_eq ?_; simp; done) | (refine lt_eq ?_; simp <;> omega)))))
  ·try simp only [puts, put, ↓reduceIte, reduceCtorEq, Nat.reduceEqDiff]
   repeat (first | exact trivial | (refine ⟨⟨_, rfl, ?_⟩, ?_⟩; focus (first | exact BLt.refl _ | (refine BLt.of_eq ?_; simp; done) | (refine BLt.of_eq ?_; simp <;> omega) | (refine BLt.pre ?_; simp; done) | (refine BLt.one ?_; (repeat (first | exact LtL.nil | (refine LtL.cons ?_ ?_; focus (first | exact Lt.refl _ | exact Lt.any _ | (refine Lt.nilb ?_; simp; done) | exact Lt.nilsl _ | (refine lt_frozB rfl rfl rfl rfl ?_ ?_ ?_ <;> (first | rfl | (simp; done) | (simp <;> omega)); done) | (refine lt_eq (congrArg (PV.int .i64) ?_); omega) | (refine lt_eq ?_; simp; done) | (refine lt_eq ?_; simp <;> omega))))); done) | (refine BLt.cell ?_ rfl rfl; (first | exact Lt.refl _ | exact Lt.any _ | (refine Lt.nilb ?_; simp; done) | exact Lt.nilsl _ | (refine lt_frozB rfl rfl rfl rfl ?_ ?_ ?_ <;> (first | rfl | (simp; done) | (simp <;> omega)); done) | (refine lt_eq (congrArg (PV.int .i64) ?_); omega) | (refine lt_eq ?_; simp; done) | (refine lt_eq ?_; simp <;> omega))))))
  ·simp
  ·simp
  ·simp

set_option maxRecDepth 100000 in
set_option maxHeartbeats 4000000 in
theorem cloneB1_G (x : NGroup) (l : List NGroup) (hl : l.length < 2 ^ 31) : PBox Try.prog 70 [.sl 8 ((x :: l).map (NGroup.pv))] [] (.bsl 5 1 8 0 (x :: l).length) [(5, ⟨1, true, .arr 8 ((x :: l).map (NGroup.pv))⟩)] := by
 refine PBox.of_bodyF Try.func70 rfl 8 rfl (by simp) fun c0 => ?_
 simp only [argL, Nat.reduceAdd]
 have hb1 : (l.length + 1) * 112 ≤ 140737488355328 := by omega
 have hb2 : l.length ≤ 9223372036854775806 := by omega
 refine pw_seq_k fun K1 hK1 => ?_
 refine pw_region 0 ?_
 simp [hb1, hb2]
 apply hK1; try clear hK1 K1
 refine pw_seq_k fun K2 hK2 => ?_
 refine pw_seq_k fun K3 hK3 => ?_
 refine pw_region 0 ?_
 simp [sBinH, sNil, sNil.curB, hb1, hb2]
 apply hK3; try clear hK3 K3
 refine pw_cond _ rfl (fun h4 => ?_) (fun h4 => ?_)
 ·simp at h4
 ·clear h4
  refine pw_skip ?_
  try simp only [thenP, inBlockP]
  apply hK2; try clear hK2 K2
  refine pw_seq_k fun K5 hK5 => ?_
  refine pw_region 0 ?_
  simp [hb1, hb2]
  apply hK5; try clear hK5 K5
  refine pw_keep [2] ?_
  simp only [keepL, memL, cond_true, cond_false, ↓reduceIte, reduceCtorEq, Nat.reduceEqDiff]
  refine pw_ret ?_
  try simp only [thenP, inBlockP]
  refine bodyW_fr (by first | exact .inl rfl | exact .inr rfl) _ rfl ?_
  refine Wk.to ?_ ?_ ?_ ?_ ?_
  ·try simp only [keepL, memL, cond_true, cond_false, ↓reduceIte, reduceCtorEq, Nat.reduceEqDiff, List.cons_append, List.nil_append, puts, put]
   (repeat (first | exact LtL.nil | (refine LtL.cons ?_ ?_; focus (first | exact Lt.refl _ | exact Lt.any _ | (refine Lt.nilb ?_; simp; done) | exact Lt.nilsl _ | (refine lt_frozB rfl rfl rfl rfl ?_ ?_ ?_ <;> (first | rfl | (simp; done) | (simp <;> omega)); done) | (refine lt_eq (congrArg (PV.int .i64) ?_); omega) | (refine lt_eq ?_; simp; done) | (refine lt_eq ?_; simp <;> omega)))))
  ·try simp only [puts, put, ↓reduceIte, reduceCtorEq, Nat.reduceEqDiff]
   repeat (first | exact trivial | (refine ⟨⟨_, rfl, ?_⟩, ?_⟩; focus (first | exact BLt.refl _ | (refine BLt.of_eq ?_; simp; done) | (refine BLt.of_eq ?_; simp <;> omega) | (refine BLt.pre ?_; simp; done) | (refine BLt.one ?_; (repeat (first | exact LtL.nil | (refine LtL.cons ?_ ?_; focus (first | exact Lt.refl _ | exact Lt.any _ | (refine Lt.nilb ?_; simp; done) | exact Lt.nilsl _ | (refine lt_frozB rfl rfl rfl rfl ?_ ?_ ?_ <;> (first | rfl | (simp; done) | (simp <;> omega)); done) | (refine lt_eq (congrArg (PV.int .i64) ?_); omega) | (refine lt_eq ?_; simp; done) | (refine lt_eq ?_; simp <;> omega))))); done) | (refine BLt.cell ?_ rfl rfl; (first | exact Lt.refl _ | exact Lt.any _ | (refine Lt.nilb ?_; simp; done) | exact Lt.nilsl _ | (refine lt_frozB rfl rfl rfl rfl ?_ ?_ ?_ <;> (first | rfl | (simp; done) | (simp <;> omega)); done) | (refine lt_eq (congrArg (PV.int .i64) ?_); omega) | (refine lt_eq ?_; simp; done) | (refine lt_eq ?_; simp <;> omega))))))
  ·simp
  ·simp
  ·simp
theorem cloneB_G (l : List NGroup) (hl : l.length < 2 ^ 31) : PBox Try.prog 70 [.sl 8 (l.map (NGroup.pv))] [] (.bsl 5 1 8 0 l.length) [(5, ⟨1, true, .arr 8 (l.map (NGroup.pv))⟩)] := by
  cases l with
  | nil => exact cloneB0_G
  | cons x l => exact cloneB1_G x l (by simp at hl; omega)

set_option maxRecDepth 100000 in
set_option maxHeartbeats 4000000 in
theorem cloneB0_L  : PBox Try.prog 71 [.sl 3 []] [] (.bsl 5 1 3 0 0) [(5, ⟨1, true, .arr 3 []⟩)] := by
 refine PBox.of_bodyF Try.func71 rfl 8 rfl (by simp) fun c0 => ?_
 simp only [argL, Nat.reduceAdd]
 refine pw_seq_k fun K1 hK1 => ?_
 refine pw_region 0 ?_
 simp
 apply hK1; try clear hK1 K1
 refine pw_seq_k fun K2 hK2 => ?_
 refine pw_seq_k fun K3 hK3 => ?_
 refine pw_region 0 ?_
 simp [sBinH, sNil, sNil.curB]
 apply hK3; try clear hK3 K3
 refine pw_cond_u rfl ?_ ?_
 ·refine pw_seq_k fun K5 hK5 => ?_
  refine pw_region 0 ?_
  simp
  apply hK5; try clear hK5 K5
  refine pw_ret ?_
  try simp only [thenP, inBlockP]
  refine bodyW_fr (by first | exact .inl rfl | exact .inr rfl) _ rfl ?_
  refine Wk.trans (Wk.virt 5 1 3 (by simp)) ?_
  refine Wk.to ?_ ?_ ?_ ?_ ?_
  ·try simp only [keepL, memL, cond_true, cond_false, ↓reduceIte, reduceCtorEq, Nat.reduceEqDiff, List.cons_append, List.nil_append, puts, put]
   (repeat (first | exact LtL.nil | (refine LtL.cons ?_ ?_; focus (first | exact Lt.refl _ | exact Lt.any _ | (refine Lt.nilb ?_; simp; done) | exact Lt.nilsl _ | (refine lt_frozB rfl rfl rfl rfl ?_ ?_ ?_ <;> (first | rfl | (simp; done) | (simp <;> omega)); done) | (refine lt_eq (congrArg (PV.int .i64) ?_); omega) | (refine lt_eq ?_; simp; done) | (refine lt_eq ?_; simp <;> omega)))))
  ·try simp only [puts, put, ↓reduceIte, reduceCtorEq, Nat.reduceEqDiff]
   repeat (first | exact trivial | (refine ⟨⟨_, rfl, ?_⟩, ?_⟩; focus (first | exact BLt.refl _ | (refine BLt.of_eq ?_; simp; done) | (refine BLt.of_eq ?_; simp <;> omega) | (refine BLt.pre ?_; simp; done) | (refine BLt.one ?_; (repeat (first | exact LtL.nil | (refine LtL.cons ?_ ?_; focus (first | exact Lt.refl _ | exact Lt.any _ | (refine Lt.nilb ?_; simp; done) | exact Lt.nilsl _ | (refine lt_frozB rfl rfl rfl rfl ?_ ?_ ?_ <;> (first | rfl | (simp; done) | (simp <;> omega)); done) | (refine lt_eq (congrArg (PV.int .i64) ?_); omega) | (refine lt_eq ?_; simp; done) | (refine lt_eq ?_; simp <;> omega))))); done) | (refine BLt.cell ?_ rfl rfl; (first | exact Lt.refl _ | exact Lt.any _ | (refine Lt.nilb ?_; simp; done) | exact Lt.nilsl _ | (refine lt_frozB rfl rfl rfl rfl ?_ ?_ ?_ <;> (first | rfl | (simp; done) | (simp <;> omega)); done) | (refine lt_eq (congrArg (PV.int .i64) ?_); omega) | (refine lt_eq ?_; simp; done) | (refine lt_eq ?_; simp <;> omega))))))
  ·simp
  ·simp
  ·simp
 ·refine pw_skip ?_
  try simp only [thenP, inBlockP]
  apply hK2; try clear hK2 K2
  refine pw_seq_k fun K6 hK6 => ?_
  refine pw_region 0 ?_
  simp
  apply hK6; try clear hK6 K6
  refine pw_keep [2] ?_
  simp only [keepL, memL, cond_true, cond_false, ↓reduceIte, reduceCtorEq, Nat.reduceEqDiff]
  refine pw_ret ?_
  try simp only [thenP, inBlockP]
  refine bodyW_fr (by first | exact .inl rfl | exact .inr rfl) _ rfl ?_
  refine Wk.to ?_ ?_ ?_ ?_ ?_
  ·try simp only [keepL, memL, cond_true, cond_false, ↓reduceIte, reduceCtorEq, Nat.reduceEqDiff, List.cons_append, List.nil_append, puts, put]
   (repeat (first | exact LtL.nil | (refine LtL.cons ?_ ?_; focus (first | exact Lt.refl _ | exact Lt.any _ | (refine Lt.nilb ?_; simp; done) | exact Lt.nilsl _ | (refine lt_frozB rfl rfl rfl rfl ?_ ?_ ?_ <;> (first | rfl | (simp; done) | (simp <;> omega)); done) | (refine lt_eq (congrArg (PV.int .i64) ?_); omega) | (refine lt_eq ?_; simp; done) | (refine lt_eq ?_; simp <;> omega)))))
  ·try simp only [puts, put, ↓reduceIte, reduceCtorEq, Nat.reduceEqDiff]
   repeat (first | exact trivial | (refine ⟨⟨_, rfl, ?_⟩, ?_⟩; focus (first | exact BLt.refl _ | (refine BLt.of_eq ?_; simp; done) | (refine BLt.of_eq ?_; simp <;> omega) | (refine BLt.pre ?_; simp; done) | (refine BLt.one ?_; (repeat (first | exact LtL.nil | (refine LtL.cons ?_ ?_; focus (first | exact Lt.refl _ | exact Lt.any _ | (refine Lt.nilb ?_; simp; done) | exact Lt.nilsl _ | (refine lt_frozB rfl rfl rfl rfl ?_ ?_ ?_ <;> (first | rfl | (simp; done) | (simp <;> omega)); done) | (refine lt_eq (congrArg (PV.int .i64) ?_); omega) | (refine lt_eq ?_; simp; done) | (refine lt_eq ?_; simp <;> omega))))); done) | (refine BLt.cell ?_ rfl rfl; (first | exact Lt.refl _ | exact Lt.any _ | (refine Lt.nilb ?_; simp; done) | exact Lt.nilsl _ | (refine lt_frozB rfl rfl rfl rfl ?_ ?_ ?_ <;> (first | rfl | (simp; done) | (simp <;> omega)); done) | (refine lt_eq (congrArg (PV.int .i64) ?_); omega) | (refine lt_eq ?_; simp; done) | (refine lt_eq ?_; simp <;> omega))))))
  ·simp
  ·simp
  ·simp

set_option maxRecDepth 100000 in
set_option maxHeartbeats 4000000 in
theorem cloneB1_L (x : NFilter) (l : List NFilter) (hl : l.length < 2 ^ 31) : PBox Try.prog 71 [.sl 3 ((x :: l).map (NFilter.pv))] [] (.bsl 5 1 3 0 (x :: l).length) [(5, ⟨1, true, .arr 3 ((x :: l).map (NFilter.pv))⟩)] := by
 refine PBox.of_bodyF Try.func71 rfl 8 rfl (by simp) fun c0 => ?_
 simp only [argL, Nat.reduceAdd]
 have hb1 : (l.length + 1) * 56 ≤ 140737488355328 := by omega
 have hb2 : l.length ≤ 9223372036854775806 := by omega
 refine pw_seq_k fun K1 hK1 => ?_
 refine pw_region 0 ?_
 simp [hb1, hb2]
 apply hK1; try clear hK1 K1
 refine pw_seq_k fun K2 hK2 => ?_
 refine pw_seq_k fun K3 hK3 => ?_
 refine pw_region 0 ?_
 simp [sBinH, sNil, sNil.curB, hb1, hb2]
 apply hK3; try clear hK3 K3
 refine pw_cond _ rfl (fun h4 => ?_) (fun h4 => ?_)
 ·simp at h4
 ·clear h4
  refine pw_skip ?_
  try simp only [thenP, inBlockP]
  apply hK2; try clear hK2 K2
  refine pw_seq_k fun K5 hK5 => ?_
  refine pw_region 0 ?_
  simp [hb1, hb2]
  apply hK5; try clear hK5 K5
  refine pw_keep [2] ?_
  simp only [keepL, memL, cond_true, cond_false, ↓reduceIte, reduceCtorEq, Nat.reduceEqDiff]
  refine pw_ret ?_
  try simp only [thenP, inBlockP]
  refine bodyW_fr (by first | exact .inl rfl | exact .inr rfl) _ rfl ?_
  refine Wk.to ?_ ?_ ?_ ?_ ?_
  ·try simp only [keepL, memL, cond_true, cond_false, ↓reduceIte, reduceCtorEq, Nat.reduceEqDiff, List.cons_append, List.nil_append, puts, put]
   (repeat (first | exact LtL.nil | (refine LtL.cons ?_ ?_; focus (first | exact Lt.refl _ | exact Lt.any _ | (refine Lt.nilb ?_; simp; done) | exact Lt.nilsl _ | (refine lt_frozB rfl rfl rfl rfl ?_ ?_ ?_ <;> (first | rfl | (simp; done) | (simp <;> omega)); done) | (refine lt_eq (congrArg (PV.int .i64) ?_); omega) | (refine lt_eq ?_; simp; done) | (refine lt_eq ?_; simp <;> omega)))))
  ·try simp only [puts, put, ↓reduceIte, reduceCtorEq, Nat.reduceEqDiff]
   repeat (first | exact trivial | (refine ⟨⟨_, rfl, ?_⟩, ?_⟩; focus (first | exact BLt.refl _ | (refine BLt.of_eq ?_; simp; done) | (refine BLt.of_eq ?_; simp <;> omega) | (refine BLt.pre ?_; simp; done) | (refine BLt.one ?_; (repeat (first | exact LtL.nil | (refine LtL.cons ?_ ?_; focus (first | exact Lt.refl _ | exact Lt.any _ | (refine Lt.nilb ?_; simp; done) | exact Lt.nilsl _ | (refine lt_frozB rfl rfl rfl rfl ?_ ?_ ?_ <;> (first | rfl | (simp; done) | (simp <;> omega)); done) | (refine lt_eq (congrArg (PV.int .i64) ?_); omega) | (refine lt_eq ?_; simp; done) | (refine lt_eq ?_; simp <;> omega))))); done) | (refine BLt.cell ?_ rfl rfl; (first | exact Lt.refl _ | exact Lt.any _ | (refine Lt.nilb ?_; simp; done) | exact Lt.nilsl _ | (refine lt_frozB rfl rfl rfl rfl ?_ ?_ ?_ <;> (first | rfl | (simp; done) | (simp <;> omega)); done) | (refine lt_eq (congrArg (PV.int .i64) ?_); omega) | (refine lt_eq ?_; simp; done) | (refine lt_eq ?_; simp <;> omega))))))
  ·simp
  ·simp
  ·simp
theorem cloneB_L (l : List NFilter) (hl : l.length < 2 ^ 31) : PBox Try.prog 71 [.sl 3 (l.map (NFilter.pv))] [] (.bsl 5 1 3 0 l.length) [(5, ⟨1, true, .arr 3 (l.map (NFilter.pv))⟩)] := by
  cases l with
  | nil => exact cloneB0_L
  | cons x l => exact cloneB1_L x l (by simp at hl; omega)

set_option maxRecDepth 100000 in
set_option maxHeartbeats 4000000 in
theorem copyB (a : NRows) (h : a.le 1000000) : PBox Try.prog 50 [a.pv] [] (.agg [.bsl 105 1 26 0 a.fronts.length, .bsl 205 1 8 0 a.groups.length, .bsl 305 1 3 0 a.filters.length]) [(105, ⟨1, true, .arr 26 (a.fronts.map NFront.pv)⟩), (205, ⟨1, true, .arr 8 (a.groups.map NGroup.pv)⟩), (305, ⟨1, true, .arr 3 (a.filters.map NFilter.pv)⟩)] := by
 have h1 := h.f
 have h2 := h.g
 have h3 := h.l
 refine PBox.of_bodyF Try.func50 rfl 55 rfl (by simp) fun c0 => ?_
 simp only [argL, Nat.reduceAdd]
 refine pw_seq_k fun K1 hK1 => ?_
 refine pw_region 0 ?_
 simp
 apply hK1; try clear hK1 K1
 refine pw_seq_k fun K2 hK2 => ?_
 refine pw_region_draw mix 0 ?_
 refine pEv_split 2 fun Kr3 hKr3 => ?_
 simp
 apply hKr3; clear hKr3 Kr3
 refine pEv_call' rfl rfl rfl ((call_new (cloneB_F _ (by omega)) en69 rfl 100 (by simp [find, put, puts]))) ?_
 refine pEv_split 2 fun Kr4 hKr4 => ?_
 simp
 apply hKr4; clear hKr4 Kr4
 refine pEv_call' rfl rfl rfl ((call_new (cloneB_G _ (by omega)) en70 rfl 200 (by simp [find, put, puts]))) ?_
 refine pEv_split 2 fun Kr5 hKr5 => ?_
 simp
 apply hKr5; clear hKr5 Kr5
 refine pEv_call' rfl rfl rfl ((call_new (cloneB_L _ (by omega)) en71 rfl 300 (by simp [find, put, puts]))) ?_
 simp
 refine ⟨by decide +kernel, ?_⟩
 apply hK2; try clear hK2 K2
 refine pw_keep [2, 3] ?_
 simp only [keepL, memL, cond_true, cond_false, ↓reduceIte, reduceCtorEq, Nat.reduceEqDiff]
 refine pw_seq_k fun K6 hK6 => ?_
 refine pw_seq_k fun K7 hK7 => ?_
 refine pw_region 0 ?_
 simp
 apply hK7; try clear hK7 K7
 refine pw_block ?_
 refine pw_loopF (α := Nat) [2, 3, 18] (fun s => [(19, .int .i64 (s : Nat))]) (fun s => []) (fun m s => s + m = a.groups.length) (a.groups.length) (0) ?_ ?_ ?_
 ·(try dsimp only) <;> (omega)
 ·refine Wk.toF ?_ ?_ ?_ ?_ ?_
  ·try simp only [keepL, memL, cond_true, cond_false, ↓reduceIte, reduceCtorEq, Nat.reduceEqDiff, List.cons_append, List.nil_append, puts, put]
   repeat (first | exact trivial | (refine FLt.cons ?_ ?_; focus (first | exact Lt.refl _ | exact Lt.any _ | (refine lt_eq (congrArg (PV.int .i64) ?_); omega) | (refine lt_eq ?_; simp; done) | (refine lt_eq ?_; simp <;> omega))))
  ·try simp only [puts, put, ↓reduceIte, reduceCtorEq, Nat.reduceEqDiff]
   repeat (first | exact trivial | (refine ⟨⟨_, rfl, ?_⟩, ?_⟩; focus (first | exact BLt.refl _)))
  ·simp
  ·simp
  ·simp
 ·intro m i hinv KL8 hKL8
  try dsimp only at hinv
  simp only [keepL, memL, cond_true, cond_false, ↓reduceIte, reduceCtorEq, Nat.reduceEqDiff, List.cons_append, List.nil_append, puts, put]
  refine pw_seq_k fun K9 hK9 => ?_
  refine pw_region 0 ?_
  simp [sBinH, sBin, binop]
  apply hK9; try clear hK9 K9
  refine pw_seq_k fun K10 hK10 => ?_
  refine pw_cond _ rfl (fun h11 => ?_) (fun h11 => ?_)
  ·try simp at h11
   obtain ⟨x, hx, hX⟩ := getN2 (l := a.groups) (k := i) (by omega)
   have hw := wrap_i64 (n := (i : Int) + 1) (by omega) (by omega)
   have hdr := drop_get hx
   have htk := take_get hx
   have hs := set_same (pv := NGroup.pv) hx
   obtain ⟨hb1, hb2⟩ := h.gb x (List.mem_of_getElem? hx)
   refine pw_skip ?_
   try simp only [thenP, inBlockP]
   apply hK10; try clear hK10 K10
   refine pw_seq_k fun K12 hK12 => ?_
   refine pw_block ?_
   refine pw_seq_k fun K13 hK13 => ?_
   refine pw_region 0 ?_
   simp [h11, hx, hX, hw, htk, hs]
   apply hK13; try clear hK13 K13
   refine pw_region_draw mix 0 ?_
   refine pEv_split 4 fun Kr14 hKr14 => ?_
   simp [h11, hx, hX, hw, htk, hs]
   apply hKr14; clear hKr14 Kr14
   refine pEv_split 4 fun Kr15 hKr15 => ?_
   simp [h11, hx, hX, hw, htk, hs]
   apply hKr15; clear hKr15 Kr15
   refine pEv_split 1 fun Kr16 hKr16 => ?_
   simp [h11, hx, hX, hw, htk, hs]
   apply hKr16; clear hKr16 Kr16
   refine pEv_call' rfl rfl rfl ((call_pure (copyTable_pf x.table (by omega) (by omega)) en72 (by simp) _)) ?_
   simp [h11, hx, hX, hw, htk, hs]
   refine ⟨by decide +kernel, ?_⟩
   apply hK12; try clear hK12 K12
   refine pw_keep [2, 3, 18, 19] ?_
   simp only [keepL, memL, cond_true, cond_false, ↓reduceIte, reduceCtorEq, Nat.reduceEqDiff]
   refine pw_region 0 ?_
   simp [sBinH, sBin, binop, h11, hx, hX, hw, htk, hs]
   refine hKL8 _ (m - 1) (i + 1) ?_ ?_ ?_
   ·omega
   ·(try dsimp only) <;> (omega)
   ·refine Wk.toF ?_ ?_ ?_ ?_ ?_
    ·try simp only [keepL, memL, cond_true, cond_false, ↓reduceIte, reduceCtorEq, Nat.reduceEqDiff, List.cons_append, List.nil_append, puts, put]
     repeat (first | exact trivial | (refine FLt.cons ?_ ?_; focus (first | exact Lt.refl _ | exact Lt.any _ | (refine lt_eq (congrArg (PV.int .i64) ?_); omega) | (refine lt_eq ?_; simp [h11, htk, hs]; done) | (refine lt_eq ?_; simp [h11, htk, hs] <;> omega))))
    ·try simp only [puts, put, ↓reduceIte, reduceCtorEq, Nat.reduceEqDiff]
     repeat (first | exact trivial | (refine ⟨⟨_, rfl, ?_⟩, ?_⟩; focus (first | exact BLt.refl _)))
    ·simp
    ·simp
    ·simp
  ·try simp at h11
   refine pw_exit ?_
   simp [thenP, inBlockP]
   apply hK6; try clear hK6 K6
   refine pw_seq_k fun K17 hK17 => ?_
   refine pw_seq_k fun K18 hK18 => ?_
   refine pw_region 0 ?_
   simp [h11]
   apply hK18; try clear hK18 K18
   refine pw_keep [2, 3, 37, 38] ?_
   simp only [keepL, memL, cond_true, cond_false, ↓reduceIte, reduceCtorEq, Nat.reduceEqDiff]
   refine pw_block ?_
   refine pw_loopF (α := Nat) [2, 3, 37] (fun s => [(38, .int .i64 (s : Nat))]) (fun s => []) (fun m s => s + m = a.filters.length) (a.filters.length) (0) ?_ ?_ ?_
   ·(try dsimp only) <;> (omega)
   ·refine Wk.toF ?_ ?_ ?_ ?_ ?_
    ·try simp only [keepL, memL, cond_true, cond_false, ↓reduceIte, reduceCtorEq, Nat.reduceEqDiff, List.cons_append, List.nil_append, puts, put]
     repeat (first | exact trivial | (refine FLt.cons ?_ ?_; focus (first | exact Lt.refl _ | exact Lt.any _ | (refine lt_eq (congrArg (PV.int .i64) ?_); omega) | (refine lt_eq ?_; simp [h11]; done) | (refine lt_eq ?_; simp [h11] <;> omega))))
    ·try simp only [puts, put, ↓reduceIte, reduceCtorEq, Nat.reduceEqDiff]
     repeat (first | exact trivial | (refine ⟨⟨_, rfl, ?_⟩, ?_⟩; focus (first | exact BLt.refl _)))
    ·simp
    ·simp
    ·simp
   ·intro m i hinv KL19 hKL19
    try dsimp only at hinv
    simp only [keepL, memL, cond_true, cond_false, ↓reduceIte, reduceCtorEq, Nat.reduceEqDiff, List.cons_append, List.nil_append, puts, put]
    refine pw_seq_k fun K20 hK20 => ?_
    refine pw_region 0 ?_
    simp [sBinH, sBin, binop, h11]
    apply hK20; try clear hK20 K20
    refine pw_seq_k fun K21 hK21 => ?_
    refine pw_cond _ rfl (fun h22 => ?_) (fun h22 => ?_)
    ·try simp at h22
     obtain ⟨x, hx, hX⟩ := getN2 (l := a.filters) (k := i) (by omega)
     have hw := wrap_i64 (n := (i : Int) + 1) (by omega) (by omega)
     have hdr := drop_get hx
     have htk := take_get hx
     have hs := set_same (pv := NFilter.pv) hx
     have hb1 := h.lr x (List.mem_of_getElem? hx)
     refine pw_skip ?_
     try simp only [thenP, inBlockP]
     apply hK21; try clear hK21 K21
     refine pw_seq_k fun K23 hK23 => ?_
     refine pw_block ?_
     refine pw_seq_k fun K24 hK24 => ?_
     refine pw_region 0 ?_
     simp [h11, h22, hx, hX, hw, htk, hs]
     apply hK24; try clear hK24 K24
     refine pw_region_draw mix 0 ?_
     refine pEv_split 4 fun Kr25 hKr25 => ?_
     simp [h11, h22, hx, hX, hw, htk, hs]
     apply hKr25; clear hKr25 Kr25
     refine pEv_split 4 fun Kr26 hKr26 => ?_
     simp [h11, h22, hx, hX, hw, htk, hs]
     apply hKr26; clear hKr26 Kr26
     refine pEv_split 1 fun Kr27 hKr27 => ?_
     simp [h11, h22, hx, hX, hw, htk, hs]
     apply hKr27; clear hKr27 Kr27
     refine pEv_call' rfl rfl rfl ((call_pure (clone_NCidr x.ranges (by omega)) en73 rfl _)) ?_
     simp [h11, h22, hx, hX, hw, htk, hs]
     refine ⟨by decide +kernel, ?_⟩
     apply hK23; try clear hK23 K23
     refine pw_keep [2, 3, 37, 38] ?_
     simp only [keepL, memL, cond_true, cond_false, ↓reduceIte, reduceCtorEq, Nat.reduceEqDiff]
     refine pw_region 0 ?_
     simp [sBinH, sBin, binop, h11, h22, hx, hX, hw, htk, hs]
     refine hKL19 _ (m - 1) (i + 1) ?_ ?_ ?_
     ·omega
     ·(try dsimp only) <;> (omega)
     ·refine Wk.toF ?_ ?_ ?_ ?_ ?_
      ·try simp only [keepL, memL, cond_true, cond_false, ↓reduceIte, reduceCtorEq, Nat.reduceEqDiff, List.cons_append, List.nil_append, puts, put]
       repeat (first | exact trivial | (refine FLt.cons ?_ ?_; focus (first | exact Lt.refl _ | exact Lt.any _ | (refine lt_eq (congrArg (PV.int .i64) ?_); omega) | (refine lt_eq ?_; simp [h11, h22, htk, hs]; done) | (refine lt_eq ?_; simp [h11, h22, htk, hs] <;> omega))))
      ·try simp only [puts, put, ↓reduceIte, reduceCtorEq, Nat.reduceEqDiff]
       repeat (first | exact trivial | (refine ⟨⟨_, rfl, ?_⟩, ?_⟩; focus (first | exact BLt.refl _)))
      ·simp
      ·simp
      ·simp
    ·try simp at h22
     refine pw_exit ?_
     simp [thenP, inBlockP]
     apply hK17; try clear hK17 K17
     refine pw_seq_k fun K28 hK28 => ?_
     refine pw_region 0 ?_
     simp [h11, h22]
     apply hK28; try clear hK28 K28
     refine pw_keep [2] ?_
     simp only [keepL, memL, cond_true, cond_false, ↓reduceIte, reduceCtorEq, Nat.reduceEqDiff]
     refine pw_ret ?_
     try simp only [thenP, inBlockP]
     refine bodyW_ex (by first | exact .inl rfl | exact .inr rfl) ?_
     simp only [resL, resVL, lk, sLoad, boxArr, find_cons, Try.func50, Try.results50, ty50, ↓reduceIte, reduceCtorEq, Nat.reduceLT, Nat.reduceEqDiff, Option.map_some, Option.bind_some, Option.some.injEq, exists_eq_left', List.getElem?_cons_zero, ld_agg_t, ld_int, ld_bool, ld_str, ld_sl, ld_bsl, ld_nils, List.length_cons, List.length_nil, Nat.reduceAdd, Nat.reduceLeDiff, List.take_succ_cons, List.take_zero, List.drop_zero, and_self, true_and, Nat.le_refl, Nat.zero_add, NAddr.ld, NCidr.ld, NPoint.ld, NKey.ld, NFront.ld, NId.ld, NFilter.ld, NTable.ld, NGroup.ld, NRows.ld]
     refine Wk.to ?_ ?_ ?_ ?_ ?_
     ·try simp only [keepL, memL, cond_true, cond_false, ↓reduceIte, reduceCtorEq, Nat.reduceEqDiff, List.cons_append, List.nil_append, puts, put]
      (repeat (first | exact LtL.nil | (refine LtL.cons ?_ ?_; focus (first | exact Lt.refl _ | exact Lt.any _ | (refine Lt.nilb ?_; simp; done) | exact Lt.nilsl _ | (refine lt_frozB rfl rfl rfl rfl ?_ ?_ ?_ <;> (first | rfl | (simp [h11, h22]; done) | (simp [h11, h22] <;> omega)); done) | (refine lt_eq (congrArg (PV.int .i64) ?_); omega) | (refine lt_eq ?_; simp [h11, h22]; done) | (refine lt_eq ?_; simp [h11, h22] <;> omega)))))
     ·try simp only [puts, put, ↓reduceIte, reduceCtorEq, Nat.reduceEqDiff]
      repeat (first | exact trivial | (refine ⟨⟨_, rfl, ?_⟩, ?_⟩; focus (first | exact BLt.refl _ | (refine BLt.of_eq ?_; simp [h11, h22]; done) | (refine BLt.of_eq ?_; simp [h11, h22] <;> omega) | (refine BLt.pre ?_; simp [h11, h22]; done) | (refine BLt.one ?_; (repeat (first | exact LtL.nil | (refine LtL.cons ?_ ?_; focus (first | exact Lt.refl _ | exact Lt.any _ | (refine Lt.nilb ?_; simp; done) | exact Lt.nilsl _ | (refine lt_frozB rfl rfl rfl rfl ?_ ?_ ?_ <;> (first | rfl | (simp [h11, h22]; done) | (simp [h11, h22] <;> omega)); done) | (refine lt_eq (congrArg (PV.int .i64) ?_); omega) | (refine lt_eq ?_; simp [h11, h22]; done) | (refine lt_eq ?_; simp [h11, h22] <;> omega))))); done) | (refine BLt.cell ?_ rfl rfl; (first | exact Lt.refl _ | exact Lt.any _ | (refine Lt.nilb ?_; simp; done) | exact Lt.nilsl _ | (refine lt_frozB rfl rfl rfl rfl ?_ ?_ ?_ <;> (first | rfl | (simp [h11, h22]; done) | (simp [h11, h22] <;> omega)); done) | (refine lt_eq (congrArg (PV.int .i64) ?_); omega) | (refine lt_eq ?_; simp [h11, h22]; done) | (refine lt_eq ?_; simp [h11, h22] <;> omega))))))
     ·simp
     ·simp
     ·simp

end Pv
