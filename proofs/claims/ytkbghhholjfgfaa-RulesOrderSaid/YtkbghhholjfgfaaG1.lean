import Derived.Test.YtkbghhholjfgfaaG1F
set_option linter.unusedSimpArgs false
set_option linter.unusedVariables false
namespace Pv
open Go Go.Proofs
set_option maxRecDepth 100000 in
theorem isNaNi_pf (a : Int) : PFun Try.prog 63 [.int .i64 a] (.bool false) := by
  refine PFun.of_body (by simp) Try.func63 rfl _ rfl fun c0 => ?_
  simp only [List.cons_append, List.nil_append, List.replicate, List.length_cons, List.length_nil, Nat.reduceAdd, Nat.reduceSub, Try.ntmps63]
  refine pw_seq_k fun K1 hK1 => ?_
  refine pw_region 0 ?_
  simp [pEv0, guardDec, fstep, ev, ofConst, ofScalar, setD, puts, thenP, inBlockP, List.take_succ_cons, List.drop_succ_cons]
  apply hK1; try clear hK1 K1
  refine pw_seq_k fun K2 hK2 => ?_
  refine pw_region 0 ?_
  refine pEv0_split 2 fun Kr3 hKr3 => ?_
  simp [pEv0, guardDec, fstep, ev, ofConst, ofScalar, setD, puts, thenP, inBlockP, List.take_succ_cons, List.drop_succ_cons]
  apply hKr3; clear hKr3 Kr3
  simp [pEv0, guardDec, fstep, ev, ofConst, ofScalar, setD, puts, thenP, inBlockP, List.take_succ_cons, List.drop_succ_cons, sBinH, sBin, binop]
  apply hK2; try clear hK2 K2
  refine pw_ret ?_
  simp only [thenP, inBlockP, bodyQ]
  refine ⟨_, rfl, ?_⟩
  first | rfl | (simp [ev]; done) | (simp [ev] <;> omega) | ((try clear hK2 K2); (try clear hK1 K1); simp_all [ev]; done)

set_option maxRecDepth 100000 in
theorem isNaNs_pf (a : ByteArray) : PFun Try.prog 66 [.str a] (.bool false) := by
  refine PFun.of_body (by simp) Try.func66 rfl _ rfl fun c0 => ?_
  simp only [List.cons_append, List.nil_append, List.replicate, List.length_cons, List.length_nil, Nat.reduceAdd, Nat.reduceSub, Try.ntmps66]
  refine pw_seq_k fun K1 hK1 => ?_
  refine pw_region 0 ?_
  simp [pEv0, guardDec, fstep, ev, ofConst, ofScalar, setD, puts, thenP, inBlockP, List.take_succ_cons, List.drop_succ_cons]
  apply hK1; try clear hK1 K1
  refine pw_seq_k fun K2 hK2 => ?_
  refine pw_region 0 ?_
  refine pEv0_split 2 fun Kr3 hKr3 => ?_
  simp [pEv0, guardDec, fstep, ev, ofConst, ofScalar, setD, puts, thenP, inBlockP, List.take_succ_cons, List.drop_succ_cons]
  apply hKr3; clear hKr3 Kr3
  simp [pEv0, guardDec, fstep, ev, ofConst, ofScalar, setD, puts, thenP, inBlockP, List.take_succ_cons, List.drop_succ_cons, sBinH, sBin, binop]
  apply hK2; try clear hK2 K2
  refine pw_ret ?_
  simp only [thenP, inBlockP, bodyQ]
  refine ⟨_, rfl, ?_⟩
  first | rfl | (simp [ev]; done) | (simp [ev] <;> omega) | ((try clear hK2 K2); (try clear hK1 K1); simp_all [ev]; done)

set_option maxRecDepth 100000 in
theorem cmpI_pf (a b : Int) : PFun Try.prog 31 [.int .i64 a, .int .i64 b] (.int .i64 (cmpI a b)) := by
  refine PFun.of_body (by simp) Try.func31 rfl _ rfl fun c0 => ?_
  simp only [List.cons_append, List.nil_append, List.replicate, List.length_cons, List.length_nil, Nat.reduceAdd, Nat.reduceSub, Try.ntmps31]
  refine pw_seq_k fun K1 hK1 => ?_
  refine pw_region 0 ?_
  simp [pEv0, guardDec, fstep, ev, ofConst, ofScalar, setD, puts, thenP, inBlockP, List.take_succ_cons, List.drop_succ_cons]
  apply hK1; try clear hK1 K1
  refine pw_seq_k fun K2 hK2 => ?_
  refine pw_region 0 ?_
  refine pEv0_split 1 fun Kr3 hKr3 => ?_
  simp [pEv0, guardDec, fstep, ev, ofConst, ofScalar, setD, puts, thenP, inBlockP, List.take_succ_cons, List.drop_succ_cons]
  apply hKr3; clear hKr3 Kr3
  refine pEv0_call' rfl rfl rfl (call_pure (isNaNi_pf _) en63 (by simp) _) ?_
  simp [pEv0, guardDec, fstep, ev, ofConst, ofScalar, setD, puts, thenP, inBlockP, List.take_succ_cons, List.drop_succ_cons]
  apply hK2; try clear hK2 K2
  refine pw_seq_k fun K4 hK4 => ?_
  refine pw_region 0 ?_
  refine pEv0_split 1 fun Kr5 hKr5 => ?_
  simp [pEv0, guardDec, fstep, ev, ofConst, ofScalar, setD, puts, thenP, inBlockP, List.take_succ_cons, List.drop_succ_cons]
  apply hKr5; clear hKr5 Kr5
  refine pEv0_call' rfl rfl rfl (call_pure (isNaNi_pf _) en63 (by simp) _) ?_
  simp [pEv0, guardDec, fstep, ev, ofConst, ofScalar, setD, puts, thenP, inBlockP, List.take_succ_cons, List.drop_succ_cons]
  apply hK4; try clear hK4 K4
  refine pw_seq_k fun K6 hK6 => ?_
  refine pw_seq_k fun K7 hK7 => ?_
  refine pw_region 0 ?_
  simp [pEv0, guardDec, fstep, ev, ofConst, ofScalar, setD, puts, thenP, inBlockP, List.take_succ_cons, List.drop_succ_cons]
  apply hK7; try clear hK7 K7
  refine pw_cond _ rfl (fun h8 => ?_) (fun h8 => ?_)
  · simp at h8
  · clear h8
    refine pw_skip ?_
    simp only [thenP, inBlockP]
    apply hK6; try clear hK6 K6
    refine pw_seq_k fun K9 hK9 => ?_
    refine pw_seq_k fun K10 hK10 => ?_
    refine pw_region 0 ?_
    simp [pEv0, guardDec, fstep, ev, ofConst, ofScalar, setD, puts, thenP, inBlockP, List.take_succ_cons, List.drop_succ_cons]
    apply hK10; try clear hK10 K10
    refine pw_cond _ rfl (fun h11 => ?_) (fun h11 => ?_)
    · simp at h11
    · clear h11
      refine pw_skip ?_
      simp only [thenP, inBlockP]
      apply hK9; try clear hK9 K9
      refine pw_seq_k fun K12 hK12 => ?_
      refine pw_seq_k fun K13 hK13 => ?_
      refine pw_region 0 ?_
      refine pEv0_split 2 fun Kr14 hKr14 => ?_
      simp [pEv0, guardDec, fstep, ev, ofConst, ofScalar, setD, puts, thenP, inBlockP, List.take_succ_cons, List.drop_succ_cons]
      apply hKr14; clear hKr14 Kr14
      simp [pEv0, guardDec, fstep, ev, ofConst, ofScalar, setD, puts, thenP, inBlockP, List.take_succ_cons, List.drop_succ_cons, sBinH, sBin, binop]
      apply hK13; try clear hK13 K13
      refine pw_cond _ rfl (fun h15 => ?_) (fun h15 => ?_)
      · try simp at h15
        refine pw_seq_k fun K16 hK16 => ?_
        refine pw_region 0 ?_
        simp [pEv0, guardDec, fstep, ev, ofConst, ofScalar, setD, puts, thenP, inBlockP, List.take_succ_cons, List.drop_succ_cons, h15]
        apply hK16; try clear hK16 K16
        refine pw_ret ?_
        simp only [thenP, inBlockP, bodyQ]
        refine ⟨_, rfl, ?_⟩
        first | rfl | (simp [ev, cmpI, h15]; done) | (simp [ev, cmpI, h15] <;> omega) | ((try clear hK16 K16); (try clear hK13 K13); (try clear hK12 K12); (try clear hK10 K10); (try clear hK9 K9); (try clear hK7 K7); (try clear hK6 K6); (try clear hK4 K4); (try clear hK2 K2); (try clear hK1 K1); simp_all [ev, cmpI]; done)
      · try simp at h15
        refine pw_skip ?_
        simp only [thenP, inBlockP]
        apply hK12; try clear hK12 K12
        refine pw_seq_k fun K17 hK17 => ?_
        refine pw_seq_k fun K18 hK18 => ?_
        refine pw_region 0 ?_
        refine pEv0_split 2 fun Kr19 hKr19 => ?_
        simp [pEv0, guardDec, fstep, ev, ofConst, ofScalar, setD, puts, thenP, inBlockP, List.take_succ_cons, List.drop_succ_cons, h15]
        apply hKr19; clear hKr19 Kr19
        simp [pEv0, guardDec, fstep, ev, ofConst, ofScalar, setD, puts, thenP, inBlockP, List.take_succ_cons, List.drop_succ_cons, sBinH, sBin, binop, h15]
        apply hK18; try clear hK18 K18
        refine pw_cond _ rfl (fun h20 => ?_) (fun h20 => ?_)
        · try simp at h20
          refine pw_seq_k fun K21 hK21 => ?_
          refine pw_region 0 ?_
          simp [pEv0, guardDec, fstep, ev, ofConst, ofScalar, setD, puts, thenP, inBlockP, List.take_succ_cons, List.drop_succ_cons, h15, h20]
          apply hK21; try clear hK21 K21
          refine pw_ret ?_
          simp only [thenP, inBlockP, bodyQ]
          refine ⟨_, rfl, ?_⟩
          first | rfl | (simp [ev, cmpI, h15, h20]; done) | (simp [ev, cmpI, h15, h20] <;> omega) | ((try clear hK21 K21); (try clear hK18 K18); (try clear hK17 K17); (try clear hK16 K16); (try clear hK13 K13); (try clear hK12 K12); (try clear hK10 K10); (try clear hK9 K9); (try clear hK7 K7); (try clear hK6 K6); (try clear hK4 K4); (try clear hK2 K2); (try clear hK1 K1); simp_all [ev, cmpI]; done)
        · try simp at h20
          refine pw_skip ?_
          simp only [thenP, inBlockP]
          apply hK17; try clear hK17 K17
          refine pw_seq_k fun K22 hK22 => ?_
          refine pw_region 0 ?_
          simp [pEv0, guardDec, fstep, ev, ofConst, ofScalar, setD, puts, thenP, inBlockP, List.take_succ_cons, List.drop_succ_cons, h15, h20]
          apply hK22; try clear hK22 K22
          refine pw_ret ?_
          simp only [thenP, inBlockP, bodyQ]
          refine ⟨_, rfl, ?_⟩
          first | rfl | (simp [ev, cmpI, h15, h20]; done) | (simp [ev, cmpI, h15, h20] <;> omega) | ((try clear hK22 K22); (try clear hK21 K21); (try clear hK18 K18); (try clear hK17 K17); (try clear hK16 K16); (try clear hK13 K13); (try clear hK12 K12); (try clear hK10 K10); (try clear hK9 K9); (try clear hK7 K7); (try clear hK6 K6); (try clear hK4 K4); (try clear hK2 K2); (try clear hK1 K1); simp_all [ev, cmpI]; done)

set_option maxRecDepth 100000 in
theorem cmpS_pf (a b : ByteArray) : PFun Try.prog 40 [.str a, .str b] (.int .i64 (cmpS a b)) := by
  refine PFun.of_body (by simp) Try.func40 rfl _ rfl fun c0 => ?_
  simp only [List.cons_append, List.nil_append, List.replicate, List.length_cons, List.length_nil, Nat.reduceAdd, Nat.reduceSub, Try.ntmps40]
  refine pw_seq_k fun K1 hK1 => ?_
  refine pw_region 0 ?_
  simp [pEv0, guardDec, fstep, ev, ofConst, ofScalar, setD, puts, thenP, inBlockP, List.take_succ_cons, List.drop_succ_cons]
  apply hK1; try clear hK1 K1
  refine pw_seq_k fun K2 hK2 => ?_
  refine pw_region 0 ?_
  refine pEv0_split 1 fun Kr3 hKr3 => ?_
  simp [pEv0, guardDec, fstep, ev, ofConst, ofScalar, setD, puts, thenP, inBlockP, List.take_succ_cons, List.drop_succ_cons]
  apply hKr3; clear hKr3 Kr3
  refine pEv0_call' rfl rfl rfl (call_pure (isNaNs_pf _) en66 (by simp) _) ?_
  simp [pEv0, guardDec, fstep, ev, ofConst, ofScalar, setD, puts, thenP, inBlockP, List.take_succ_cons, List.drop_succ_cons]
  apply hK2; try clear hK2 K2
  refine pw_seq_k fun K4 hK4 => ?_
  refine pw_region 0 ?_
  refine pEv0_split 1 fun Kr5 hKr5 => ?_
  simp [pEv0, guardDec, fstep, ev, ofConst, ofScalar, setD, puts, thenP, inBlockP, List.take_succ_cons, List.drop_succ_cons]
  apply hKr5; clear hKr5 Kr5
  refine pEv0_call' rfl rfl rfl (call_pure (isNaNs_pf _) en66 (by simp) _) ?_
  simp [pEv0, guardDec, fstep, ev, ofConst, ofScalar, setD, puts, thenP, inBlockP, List.take_succ_cons, List.drop_succ_cons]
  apply hK4; try clear hK4 K4
  refine pw_seq_k fun K6 hK6 => ?_
  refine pw_seq_k fun K7 hK7 => ?_
  refine pw_region 0 ?_
  simp [pEv0, guardDec, fstep, ev, ofConst, ofScalar, setD, puts, thenP, inBlockP, List.take_succ_cons, List.drop_succ_cons]
  apply hK7; try clear hK7 K7
  refine pw_cond _ rfl (fun h8 => ?_) (fun h8 => ?_)
  · simp at h8
  · clear h8
    refine pw_skip ?_
    simp only [thenP, inBlockP]
    apply hK6; try clear hK6 K6
    refine pw_seq_k fun K9 hK9 => ?_
    refine pw_seq_k fun K10 hK10 => ?_
    refine pw_region 0 ?_
    simp [pEv0, guardDec, fstep, ev, ofConst, ofScalar, setD, puts, thenP, inBlockP, List.take_succ_cons, List.drop_succ_cons]
    apply hK10; try clear hK10 K10
    refine pw_cond _ rfl (fun h11 => ?_) (fun h11 => ?_)
    · simp at h11
    · clear h11
      refine pw_skip ?_
      simp only [thenP, inBlockP]
      apply hK9; try clear hK9 K9
      refine pw_seq_k fun K12 hK12 => ?_
      refine pw_seq_k fun K13 hK13 => ?_
      refine pw_region 0 ?_
      refine pEv0_split 2 fun Kr14 hKr14 => ?_
      simp [pEv0, guardDec, fstep, ev, ofConst, ofScalar, setD, puts, thenP, inBlockP, List.take_succ_cons, List.drop_succ_cons]
      apply hKr14; clear hKr14 Kr14
      simp [pEv0, guardDec, fstep, ev, ofConst, ofScalar, setD, puts, thenP, inBlockP, List.take_succ_cons, List.drop_succ_cons, sBinH, sBin, binop]
      apply hK13; try clear hK13 K13
      refine pw_cond _ rfl (fun h15 => ?_) (fun h15 => ?_)
      · try simp at h15
        refine pw_seq_k fun K16 hK16 => ?_
        refine pw_region 0 ?_
        simp [pEv0, guardDec, fstep, ev, ofConst, ofScalar, setD, puts, thenP, inBlockP, List.take_succ_cons, List.drop_succ_cons, h15]
        apply hK16; try clear hK16 K16
        refine pw_ret ?_
        simp only [thenP, inBlockP, bodyQ]
        refine ⟨_, rfl, ?_⟩
        first | rfl | (simp [ev, cmpS, h15]; done) | (simp [ev, cmpS, h15] <;> omega) | ((try clear hK16 K16); (try clear hK13 K13); (try clear hK12 K12); (try clear hK10 K10); (try clear hK9 K9); (try clear hK7 K7); (try clear hK6 K6); (try clear hK4 K4); (try clear hK2 K2); (try clear hK1 K1); simp_all [ev, cmpS]; done)
      · try simp at h15
        refine pw_skip ?_
        simp only [thenP, inBlockP]
        apply hK12; try clear hK12 K12
        refine pw_seq_k fun K17 hK17 => ?_
        refine pw_seq_k fun K18 hK18 => ?_
        refine pw_region 0 ?_
        refine pEv0_split 2 fun Kr19 hKr19 => ?_
        simp [pEv0, guardDec, fstep, ev, ofConst, ofScalar, setD, puts, thenP, inBlockP, List.take_succ_cons, List.drop_succ_cons, h15]
        apply hKr19; clear hKr19 Kr19
        simp [pEv0, guardDec, fstep, ev, ofConst, ofScalar, setD, puts, thenP, inBlockP, List.take_succ_cons, List.drop_succ_cons, sBinH, sBin, binop, h15]
        apply hK18; try clear hK18 K18
        refine pw_cond _ rfl (fun h20 => ?_) (fun h20 => ?_)
        · try simp at h20
          refine pw_seq_k fun K21 hK21 => ?_
          refine pw_region 0 ?_
          simp [pEv0, guardDec, fstep, ev, ofConst, ofScalar, setD, puts, thenP, inBlockP, List.take_succ_cons, List.drop_succ_cons, h15, h20]
          apply hK21; try clear hK21 K21
          refine pw_ret ?_
          simp only [thenP, inBlockP, bodyQ]
          refine ⟨_, rfl, ?_⟩
          first | rfl | (simp [ev, cmpS, h15, h20]; done) | (simp [ev, cmpS, h15, h20] <;> omega) | ((try clear hK21 K21); (try clear hK18 K18); (try clear hK17 K17); (try clear hK16 K16); (try clear hK13 K13); (try clear hK12 K12); (try clear hK10 K10); (try clear hK9 K9); (try clear hK7 K7); (try clear hK6 K6); (try clear hK4 K4); (try clear hK2 K2); (try clear hK1 K1); simp_all [ev, cmpS]; done)
        · try simp at h20
          refine pw_skip ?_
          simp only [thenP, inBlockP]
          apply hK17; try clear hK17 K17
          refine pw_seq_k fun K22 hK22 => ?_
          refine pw_region 0 ?_
          simp [pEv0, guardDec, fstep, ev, ofConst, ofScalar, setD, puts, thenP, inBlockP, List.take_succ_cons, List.drop_succ_cons, h15, h20]
          apply hK22; try clear hK22 K22
          refine pw_ret ?_
          simp only [thenP, inBlockP, bodyQ]
          refine ⟨_, rfl, ?_⟩
          first | rfl | (simp [ev, cmpS, h15, h20]; done) | (simp [ev, cmpS, h15, h20] <;> omega) | ((try clear hK22 K22); (try clear hK21 K21); (try clear hK18 K18); (try clear hK17 K17); (try clear hK16 K16); (try clear hK13 K13); (try clear hK12 K12); (try clear hK10 K10); (try clear hK9 K9); (try clear hK7 K7); (try clear hK6 K6); (try clear hK4 K4); (try clear hK2 K2); (try clear hK1 K1); simp_all [ev, cmpS]; done)

set_option maxRecDepth 100000 in
theorem or_pf0 (l : List Int) (hl : l.length < 2 ^ 31) : PFun Try.prog 29 [.sl 1 (l.map (.int .i64))] (.int .i64 (firstNZ l)) := by
  refine PFun.of_body (by simp) Try.func29 rfl _ rfl fun c0 => ?_
  simp only [List.cons_append, List.nil_append, List.replicate, List.length_cons, List.length_nil, Nat.reduceAdd, Nat.reduceSub, Try.ntmps29]
  refine pw_seq_k fun K1 hK1 => ?_
  refine pw_region 0 ?_
  simp [pEv0, guardDec, fstep, ev, ofConst, ofScalar, setD, puts, thenP, inBlockP, List.take_succ_cons, List.drop_succ_cons]
  apply hK1; try clear hK1 K1
  refine pw_seq_k fun K2 hK2 => ?_
  refine pw_region 0 ?_
  simp [pEv0, guardDec, fstep, ev, ofConst, ofScalar, setD, puts, thenP, inBlockP, List.take_succ_cons, List.drop_succ_cons]
  apply hK2; try clear hK2 K2
  refine pw_seq_k fun K3 hK3 => ?_
  refine pw_seq_k fun K4 hK4 => ?_
  refine pw_region 0 ?_
  refine pEv0_split 2 fun Kr5 hKr5 => ?_
  simp [pEv0, guardDec, fstep, ev, ofConst, ofScalar, setD, puts, thenP, inBlockP, List.take_succ_cons, List.drop_succ_cons, sLen, cur, find, el65]
  apply hKr5; clear hKr5 Kr5
  simp [pEv0, guardDec, fstep, ev, ofConst, ofScalar, setD, puts, thenP, inBlockP, List.take_succ_cons, List.drop_succ_cons]
  apply hK4; try clear hK4 K4
  refine pw_block ?_
  refine pw_loopS (α := Nat) [2, 5, 9, 10, 11, 12, 13, 14, 15, 16] (fun a => [(8, .int .i64 (a : Nat))]) (fun a => []) (fun m a => a + m = l.length ∧ firstNZ (l.drop a) = firstNZ l) (l.length) (0) ?_ ?_ ?_
  · simp
  · refine Wk.forget ?_
    simp [forget, sets]
    repeat (first | exact Fg.nil | refine Fg.same ?_ | refine Fg.any ?_)
  · intro m a hinv KL6 hKL6
    obtain ⟨hk, hf⟩ := hinv
    simp only [forget, sets, List.foldl_cons, List.foldl_nil, List.set_cons_succ, List.set_cons_zero]
    refine pw_seq_k fun K7 hK7 => ?_
    refine pw_region 0 ?_
    simp [pEv0, guardDec, fstep, ev, ofConst, ofScalar, setD, puts, thenP, inBlockP, List.take_succ_cons, List.drop_succ_cons, sBinH, sBin, binop]
    apply hK7; try clear hK7 K7
    refine pw_seq_k fun K8 hK8 => ?_
    refine pw_cond _ rfl (fun h9 => ?_) (fun h9 => ?_)
    · try simp at h9
      obtain ⟨x, hx⟩ := getN (l := l) (k := a) (by omega)
      have hw := wrap_i64 (n := (a : Int) + 1) (by omega) (by omega)
      refine pw_skip ?_
      simp only [thenP, inBlockP]
      apply hK8; try clear hK8 K8
      refine pw_seq_k fun K10 hK10 => ?_
      refine pw_block ?_
      refine pw_seq_k fun K11 hK11 => ?_
      refine pw_region 0 ?_
      refine pEv0_split 2 fun Kr12 hKr12 => ?_
      simp [pEv0, guardDec, fstep, ev, ofConst, ofScalar, setD, puts, thenP, inBlockP, List.take_succ_cons, List.drop_succ_cons, sIndexAddr, cur, find, el65, co3, sLoad, boxArr, ty3, h9, hx, hw]
      apply hKr12; clear hKr12 Kr12
      simp [pEv0, guardDec, fstep, ev, ofConst, ofScalar, setD, puts, thenP, inBlockP, List.take_succ_cons, List.drop_succ_cons, h9, hx, hw]
      apply hK11; try clear hK11 K11
      refine pw_seq_k fun K13 hK13 => ?_
      refine pw_region 0 ?_
      refine pEv0_split 2 fun Kr14 hKr14 => ?_
      simp [pEv0, guardDec, fstep, ev, ofConst, ofScalar, setD, puts, thenP, inBlockP, List.take_succ_cons, List.drop_succ_cons, h9, hx, hw]
      apply hKr14; clear hKr14 Kr14
      simp [pEv0, guardDec, fstep, ev, ofConst, ofScalar, setD, puts, thenP, inBlockP, List.take_succ_cons, List.drop_succ_cons, sBinH, sBin, binop, h9, hx, hw]
      apply hK13; try clear hK13 K13
      refine pw_cond _ rfl (fun h15 => ?_) (fun h15 => ?_)
      · try simp at h15
        refine pw_seq_k fun K16 hK16 => ?_
        refine pw_region 0 ?_
        simp [pEv0, guardDec, fstep, ev, ofConst, ofScalar, setD, puts, thenP, inBlockP, List.take_succ_cons, List.drop_succ_cons, h9, hx, hw, h15]
        apply hK16; try clear hK16 K16
        refine pw_ret ?_
        simp only [thenP, inBlockP, bodyQ]
        refine ⟨_, rfl, ?_⟩
        first | (simp [ev, ← hf, firstNZ]; done) | (rw [drop_get hx, firstNZ] at hf; simp_all [ev]; done)
      · try simp at h15
        refine pw_skip ?_
        simp only [thenP, inBlockP]
        apply hK10; try clear hK10 K10
        refine pw_region 0 ?_
        simp [pEv0, guardDec, fstep, ev, ofConst, ofScalar, setD, puts, thenP, inBlockP, List.take_succ_cons, List.drop_succ_cons, sBinH, sBin, binop, h9, hx, hw, h15]
        refine hKL6 _ (m - 1) (a + 1) ?_ ?_ ?_
        · omega
        · exact ⟨by omega, by rw [← hf, drop_get hx, firstNZ, if_pos (by simp_all)]⟩
        · refine Wk.forget ?_
          simp [forget, sets]
          repeat (first | exact Fg.nil | refine Fg.same ?_ | refine Fg.any ?_)
    · try simp at h9
      rw [drop_end (by omega)] at hf
      refine pw_exit ?_
      simp [thenP, inBlockP]
      apply hK3; try clear hK3 K3
      refine pw_seq_k fun K17 hK17 => ?_
      refine pw_region 0 ?_
      simp [pEv0, guardDec, fstep, ev, ofConst, ofScalar, setD, puts, thenP, inBlockP, List.take_succ_cons, List.drop_succ_cons, h9]
      apply hK17; try clear hK17 K17
      refine pw_ret ?_
      simp only [thenP, inBlockP, bodyQ]
      refine ⟨_, rfl, ?_⟩
      first | (simp [ev, ← hf, firstNZ]; done) | (rw [drop_get hx, firstNZ] at hf; simp_all [ev]; done)
theorem or_pf (xs : List PV) (hx : xs.all isI = true) (hl : xs.length < 2 ^ 31) : PFun Try.prog 29 [.sl 1 xs] (.int .i64 (firstP xs)) := by
  obtain ⟨l, rfl⟩ := isI_ex hx
  rw [firstP_map]
  exact or_pf0 l (by simpa using hl)

set_option maxRecDepth 100000 in
theorem fst_pf0 (l : List Int) (hl : l.length < 2 ^ 31) : PFun Try.prog 33 [.sl 1 (l.map (.int .i64))] (.int .i64 (firstNZ l)) := by
  refine PFun.of_body (by simp) Try.func33 rfl _ rfl fun c0 => ?_
  simp only [List.cons_append, List.nil_append, List.replicate, List.length_cons, List.length_nil, Nat.reduceAdd, Nat.reduceSub, Try.ntmps33]
  refine pw_seq_k fun K1 hK1 => ?_
  refine pw_region 0 ?_
  simp [pEv0, guardDec, fstep, ev, ofConst, ofScalar, setD, puts, thenP, inBlockP, List.take_succ_cons, List.drop_succ_cons]
  apply hK1; try clear hK1 K1
  refine pw_seq_k fun K2 hK2 => ?_
  refine pw_seq_k fun K3 hK3 => ?_
  refine pw_region 0 ?_
  refine pEv0_split 2 fun Kr4 hKr4 => ?_
  simp [pEv0, guardDec, fstep, ev, ofConst, ofScalar, setD, puts, thenP, inBlockP, List.take_succ_cons, List.drop_succ_cons, sLen, cur, find, el65]
  apply hKr4; clear hKr4 Kr4
  simp [pEv0, guardDec, fstep, ev, ofConst, ofScalar, setD, puts, thenP, inBlockP, List.take_succ_cons, List.drop_succ_cons]
  apply hK3; try clear hK3 K3
  refine pw_block ?_
  refine pw_loopS (α := Nat) [2, 4, 8, 9, 10, 11, 12, 13, 14] (fun a => [(7, .int .i64 (a : Nat))]) (fun a => []) (fun m a => a + m = l.length ∧ firstNZ (l.drop a) = firstNZ l) (l.length) (0) ?_ ?_ ?_
  · simp
  · refine Wk.forget ?_
    simp [forget, sets]
    repeat (first | exact Fg.nil | refine Fg.same ?_ | refine Fg.any ?_)
  · intro m a hinv KL5 hKL5
    obtain ⟨hk, hf⟩ := hinv
    simp only [forget, sets, List.foldl_cons, List.foldl_nil, List.set_cons_succ, List.set_cons_zero]
    refine pw_seq_k fun K6 hK6 => ?_
    refine pw_region 0 ?_
    simp [pEv0, guardDec, fstep, ev, ofConst, ofScalar, setD, puts, thenP, inBlockP, List.take_succ_cons, List.drop_succ_cons, sBinH, sBin, binop]
    apply hK6; try clear hK6 K6
    refine pw_seq_k fun K7 hK7 => ?_
    refine pw_cond _ rfl (fun h8 => ?_) (fun h8 => ?_)
    · try simp at h8
      obtain ⟨x, hx⟩ := getN (l := l) (k := a) (by omega)
      have hw := wrap_i64 (n := (a : Int) + 1) (by omega) (by omega)
      refine pw_skip ?_
      simp only [thenP, inBlockP]
      apply hK7; try clear hK7 K7
      refine pw_seq_k fun K9 hK9 => ?_
      refine pw_block ?_
      refine pw_seq_k fun K10 hK10 => ?_
      refine pw_region 0 ?_
      refine pEv0_split 2 fun Kr11 hKr11 => ?_
      simp [pEv0, guardDec, fstep, ev, ofConst, ofScalar, setD, puts, thenP, inBlockP, List.take_succ_cons, List.drop_succ_cons, sIndexAddr, cur, find, el65, co3, sLoad, boxArr, ty3, h8, hx, hw]
      apply hKr11; clear hKr11 Kr11
      simp [pEv0, guardDec, fstep, ev, ofConst, ofScalar, setD, puts, thenP, inBlockP, List.take_succ_cons, List.drop_succ_cons, h8, hx, hw]
      apply hK10; try clear hK10 K10
      refine pw_seq_k fun K12 hK12 => ?_
      refine pw_region 0 ?_
      simp [pEv0, guardDec, fstep, ev, ofConst, ofScalar, setD, puts, thenP, inBlockP, List.take_succ_cons, List.drop_succ_cons, sBinH, sBin, binop, h8, hx, hw]
      apply hK12; try clear hK12 K12
      refine pw_cond _ rfl (fun h13 => ?_) (fun h13 => ?_)
      · try simp at h13
        refine pw_seq_k fun K14 hK14 => ?_
        refine pw_region 0 ?_
        simp [pEv0, guardDec, fstep, ev, ofConst, ofScalar, setD, puts, thenP, inBlockP, List.take_succ_cons, List.drop_succ_cons, h8, hx, hw, h13]
        apply hK14; try clear hK14 K14
        refine pw_ret ?_
        simp only [thenP, inBlockP, bodyQ]
        refine ⟨_, rfl, ?_⟩
        first | (simp [ev, ← hf, firstNZ]; done) | (rw [drop_get hx, firstNZ] at hf; simp_all [ev]; done)
      · try simp at h13
        refine pw_skip ?_
        simp only [thenP, inBlockP]
        apply hK9; try clear hK9 K9
        refine pw_region 0 ?_
        simp [pEv0, guardDec, fstep, ev, ofConst, ofScalar, setD, puts, thenP, inBlockP, List.take_succ_cons, List.drop_succ_cons, sBinH, sBin, binop, h8, hx, hw, h13]
        refine hKL5 _ (m - 1) (a + 1) ?_ ?_ ?_
        · omega
        · exact ⟨by omega, by rw [← hf, drop_get hx, firstNZ, if_pos (by simp_all)]⟩
        · refine Wk.forget ?_
          simp [forget, sets]
          repeat (first | exact Fg.nil | refine Fg.same ?_ | refine Fg.any ?_)
    · try simp at h8
      rw [drop_end (by omega)] at hf
      refine pw_exit ?_
      simp [thenP, inBlockP]
      apply hK2; try clear hK2 K2
      refine pw_seq_k fun K15 hK15 => ?_
      refine pw_region 0 ?_
      simp [pEv0, guardDec, fstep, ev, ofConst, ofScalar, setD, puts, thenP, inBlockP, List.take_succ_cons, List.drop_succ_cons, h8]
      apply hK15; try clear hK15 K15
      refine pw_ret ?_
      simp only [thenP, inBlockP, bodyQ]
      refine ⟨_, rfl, ?_⟩
      first | (simp [ev, ← hf, firstNZ]; done) | (rw [drop_get hx, firstNZ] at hf; simp_all [ev]; done)
theorem fst_pf (xs : List PV) (hx : xs.all isI = true) (hl : xs.length < 2 ^ 31) : PFun Try.prog 33 [.sl 1 xs] (.int .i64 (firstP xs)) := by
  obtain ⟨l, rfl⟩ := isI_ex hx
  rw [firstP_map]
  exact fst_pf0 l (by simpa using hl)

set_option maxRecDepth 100000 in
theorem ncmp_pf (a b : NKey) : PFun Try.prog 39 [a.pv, b.pv] (.int .i64 (keyCmp a b)) := by
  refine PFun.of_body (by simp) Try.func39 rfl _ rfl fun c0 => ?_
  simp only [List.cons_append, List.nil_append, List.replicate, List.length_cons, List.length_nil, Nat.reduceAdd, Nat.reduceSub, Try.ntmps39]
  refine pw_seq_k fun K1 hK1 => ?_
  refine pw_region 0 ?_
  refine pEv0_split 2 fun Kr2 hKr2 => ?_
  simp [pEv0, guardDec, fstep, ev, ofConst, ofScalar, setD, puts, thenP, inBlockP, List.take_succ_cons, List.drop_succ_cons, sBox, newBox, genOf, put, find, ty28]
  apply hKr2; clear hKr2 Kr2
  simp [pEv0, guardDec, fstep, ev, ofConst, ofScalar, setD, puts, thenP, inBlockP, List.take_succ_cons, List.drop_succ_cons]
  apply hK1; try clear hK1 K1
  refine pw_seq_k fun K3 hK3 => ?_
  refine pw_region_draw mix 0 ?_
  refine pEv_split 2 fun Kr4 hKr4 => ?_
  simp [pEv, guardDec, fstep, ev, ofConst, ofScalar, setD, puts, thenP, inBlockP, List.take_succ_cons, List.drop_succ_cons, sFieldAddr, cur, find, fl28_0, sLoad, boxArr, ty9]
  apply hKr4; clear hKr4 Kr4
  refine pEv_split 2 fun Kr5 hKr5 => ?_
  simp [pEv, guardDec, fstep, ev, ofConst, ofScalar, setD, puts, thenP, inBlockP, List.take_succ_cons, List.drop_succ_cons, sFieldAddr, cur, find, fl28_0, sLoad, boxArr, ty9]
  apply hKr5; clear hKr5 Kr5
  refine pEv_call' rfl rfl rfl (call_pure (cmpS_pf _ _) en40 (by simp) _) ?_
  refine pEv_split 2 fun Kr6 hKr6 => ?_
  simp [pEv, guardDec, fstep, ev, ofConst, ofScalar, setD, puts, thenP, inBlockP, List.take_succ_cons, List.drop_succ_cons, sFieldAddr, cur, find, fl28_1, sLoad, boxArr, ty9]
  apply hKr6; clear hKr6 Kr6
  refine pEv_split 2 fun Kr7 hKr7 => ?_
  simp [pEv, guardDec, fstep, ev, ofConst, ofScalar, setD, puts, thenP, inBlockP, List.take_succ_cons, List.drop_succ_cons, sFieldAddr, cur, find, fl28_1, sLoad, boxArr, ty9]
  apply hKr7; clear hKr7 Kr7
  refine pEv_call' rfl rfl rfl (call_pure (cmpS_pf _ _) en40 (by simp) _) ?_
  refine pEv_split 1 fun Kr8 hKr8 => ?_
  simp [pEv, guardDec, fstep, ev, ofConst, ofScalar, setD, puts, thenP, inBlockP, List.take_succ_cons, List.drop_succ_cons, sBuildSlice, layParts, newBox, genOf, put, find, el65, ty3]
  apply hKr8; clear hKr8 Kr8
  refine pEv_call' rfl rfl rfl (call_view (or_pf _ (by rfl) (by simp)) en29 rfl (by rfl)) ?_
  simp [pEv, guardDec, fstep, ev, ofConst, ofScalar, setD, puts, thenP, inBlockP, List.take_succ_cons, List.drop_succ_cons]
  refine ⟨by decide +kernel, ?_⟩
  apply hK3; try clear hK3 K3
  refine pw_ret ?_
  simp only [thenP, inBlockP, bodyQ]
  refine ⟨_, rfl, ?_⟩
  first | rfl | (simp [ev, firstP, firstNZ, keyCmp]; done) | (simp [ev, firstP, firstNZ, keyCmp] <;> omega) | ((try clear hK3 K3); (try clear hK1 K1); simp_all [ev, firstP, firstNZ, keyCmp]; done)

set_option maxRecDepth 100000 in
theorem num_pf (a : Bool) : PFun Try.prog 64 [.bool a] (.int .i64 (bn a)) := by
  refine PFun.of_body (by simp) Try.func64 rfl _ rfl fun c0 => ?_
  simp only [List.cons_append, List.nil_append, List.replicate, List.length_cons, List.length_nil, Nat.reduceAdd, Nat.reduceSub, Try.ntmps64]
  refine pw_seq_k fun K1 hK1 => ?_
  refine pw_region 0 ?_
  simp [pEv0, guardDec, fstep, ev, ofConst, ofScalar, setD, puts, thenP, inBlockP, List.take_succ_cons, List.drop_succ_cons]
  apply hK1; try clear hK1 K1
  refine pw_seq_k fun K2 hK2 => ?_
  refine pw_seq_k fun K3 hK3 => ?_
  refine pw_region 0 ?_
  simp [pEv0, guardDec, fstep, ev, ofConst, ofScalar, setD, puts, thenP, inBlockP, List.take_succ_cons, List.drop_succ_cons]
  apply hK3; try clear hK3 K3
  refine pw_cond _ rfl (fun h4 => ?_) (fun h4 => ?_)
  · try simp at h4
    refine pw_seq_k fun K5 hK5 => ?_
    refine pw_region 0 ?_
    simp [pEv0, guardDec, fstep, ev, ofConst, ofScalar, setD, puts, thenP, inBlockP, List.take_succ_cons, List.drop_succ_cons, h4]
    apply hK5; try clear hK5 K5
    refine pw_ret ?_
    simp only [thenP, inBlockP, bodyQ]
    refine ⟨_, rfl, ?_⟩
    first | rfl | (simp [ev, bn, h4]; done) | (simp [ev, bn, h4] <;> omega) | ((try clear hK5 K5); (try clear hK3 K3); (try clear hK2 K2); (try clear hK1 K1); simp_all [ev, bn]; done)
  · try simp at h4
    refine pw_skip ?_
    simp only [thenP, inBlockP]
    apply hK2; try clear hK2 K2
    refine pw_seq_k fun K6 hK6 => ?_
    refine pw_region 0 ?_
    simp [pEv0, guardDec, fstep, ev, ofConst, ofScalar, setD, puts, thenP, inBlockP, List.take_succ_cons, List.drop_succ_cons, h4]
    apply hK6; try clear hK6 K6
    refine pw_ret ?_
    simp only [thenP, inBlockP, bodyQ]
    refine ⟨_, rfl, ?_⟩
    first | rfl | (simp [ev, bn, h4]; done) | (simp [ev, bn, h4] <;> omega) | ((try clear hK6 K6); (try clear hK5 K5); (try clear hK3 K3); (try clear hK2 K2); (try clear hK1 K1); simp_all [ev, bn]; done)

set_option maxRecDepth 100000 in
theorem n_pf (a : Bool) : PFun Try.prog 35 [.bool a] (.int .i64 (bn a)) := by
  refine PFun.of_body (by simp) Try.func35 rfl _ rfl fun c0 => ?_
  simp only [List.cons_append, List.nil_append, List.replicate, List.length_cons, List.length_nil, Nat.reduceAdd, Nat.reduceSub, Try.ntmps35]
  refine pw_seq_k fun K1 hK1 => ?_
  refine pw_region 0 ?_
  simp [pEv0, guardDec, fstep, ev, ofConst, ofScalar, setD, puts, thenP, inBlockP, List.take_succ_cons, List.drop_succ_cons]
  apply hK1; try clear hK1 K1
  refine pw_seq_k fun K2 hK2 => ?_
  refine pw_seq_k fun K3 hK3 => ?_
  refine pw_region 0 ?_
  simp [pEv0, guardDec, fstep, ev, ofConst, ofScalar, setD, puts, thenP, inBlockP, List.take_succ_cons, List.drop_succ_cons]
  apply hK3; try clear hK3 K3
  refine pw_cond _ rfl (fun h4 => ?_) (fun h4 => ?_)
  · try simp at h4
    refine pw_seq_k fun K5 hK5 => ?_
    refine pw_region 0 ?_
    simp [pEv0, guardDec, fstep, ev, ofConst, ofScalar, setD, puts, thenP, inBlockP, List.take_succ_cons, List.drop_succ_cons, h4]
    apply hK5; try clear hK5 K5
    refine pw_ret ?_
    simp only [thenP, inBlockP, bodyQ]
    refine ⟨_, rfl, ?_⟩
    first | rfl | (simp [ev, bn, h4]; done) | (simp [ev, bn, h4] <;> omega) | ((try clear hK5 K5); (try clear hK3 K3); (try clear hK2 K2); (try clear hK1 K1); simp_all [ev, bn]; done)
  · try simp at h4
    refine pw_skip ?_
    simp only [thenP, inBlockP]
    apply hK2; try clear hK2 K2
    refine pw_seq_k fun K6 hK6 => ?_
    refine pw_region 0 ?_
    simp [pEv0, guardDec, fstep, ev, ofConst, ofScalar, setD, puts, thenP, inBlockP, List.take_succ_cons, List.drop_succ_cons, h4]
    apply hK6; try clear hK6 K6
    refine pw_ret ?_
    simp only [thenP, inBlockP, bodyQ]
    refine ⟨_, rfl, ?_⟩
    first | rfl | (simp [ev, bn, h4]; done) | (simp [ev, bn, h4] <;> omega) | ((try clear hK6 K6); (try clear hK5 K5); (try clear hK3 K3); (try clear hK2 K2); (try clear hK1 K1); simp_all [ev, bn]; done)

set_option maxRecDepth 100000 in
theorem truth_pf (a b : Bool) : PFun Try.prog 32 [.bool a, .bool b] (.int .i64 (cmpI (bn a) (bn b))) := by
  refine PFun.of_body (by simp) Try.func32 rfl _ rfl fun c0 => ?_
  simp only [List.cons_append, List.nil_append, List.replicate, List.length_cons, List.length_nil, Nat.reduceAdd, Nat.reduceSub, Try.ntmps32]
  refine pw_seq_k fun K1 hK1 => ?_
  refine pw_region 0 ?_
  simp [pEv0, guardDec, fstep, ev, ofConst, ofScalar, setD, puts, thenP, inBlockP, List.take_succ_cons, List.drop_succ_cons]
  apply hK1; try clear hK1 K1
  refine pw_seq_k fun K2 hK2 => ?_
  refine pw_region 0 ?_
  refine pEv0_split 1 fun Kr3 hKr3 => ?_
  simp [pEv0, guardDec, fstep, ev, ofConst, ofScalar, setD, puts, thenP, inBlockP, List.take_succ_cons, List.drop_succ_cons]
  apply hKr3; clear hKr3 Kr3
  refine pEv0_call' rfl rfl rfl (call_pure (num_pf _) en64 (by simp) _) ?_
  refine pEv0_split 1 fun Kr4 hKr4 => ?_
  simp [pEv0, guardDec, fstep, ev, ofConst, ofScalar, setD, puts, thenP, inBlockP, List.take_succ_cons, List.drop_succ_cons]
  apply hKr4; clear hKr4 Kr4
  refine pEv0_call' rfl rfl rfl (call_pure (num_pf _) en64 (by simp) _) ?_
  refine pEv0_call' rfl rfl rfl (call_pure (cmpI_pf _ _) en31 (by simp) _) ?_
  simp [pEv0, guardDec, fstep, ev, ofConst, ofScalar, setD, puts, thenP, inBlockP, List.take_succ_cons, List.drop_succ_cons]
  apply hK2; try clear hK2 K2
  refine pw_ret ?_
  simp only [thenP, inBlockP, bodyQ]
  refine ⟨_, rfl, ?_⟩
  first | rfl | (simp [ev]; done) | (simp [ev] <;> omega) | ((try clear hK2 K2); (try clear hK1 K1); simp_all [ev]; done)

set_option maxRecDepth 100000 in
theorem idcmp_pf (a b : NId) : PFun Try.prog 13 [a.pv, b.pv] (.int .i64 (idCmp a b)) := by
  refine PFun.of_body (by simp) Try.func13 rfl _ rfl fun c0 => ?_
  simp only [List.cons_append, List.nil_append, List.replicate, List.length_cons, List.length_nil, Nat.reduceAdd, Nat.reduceSub, Try.ntmps13]
  refine pw_seq_k fun K1 hK1 => ?_
  refine pw_region 0 ?_
  refine pEv0_split 2 fun Kr2 hKr2 => ?_
  simp [pEv0, guardDec, fstep, ev, ofConst, ofScalar, setD, puts, thenP, inBlockP, List.take_succ_cons, List.drop_succ_cons, sBox, newBox, genOf, put, find, ty32]
  apply hKr2; clear hKr2 Kr2
  simp [pEv0, guardDec, fstep, ev, ofConst, ofScalar, setD, puts, thenP, inBlockP, List.take_succ_cons, List.drop_succ_cons]
  apply hK1; try clear hK1 K1
  refine pw_seq_k fun K3 hK3 => ?_
  refine pw_region_draw mix 0 ?_
  refine pEv_split 2 fun Kr4 hKr4 => ?_
  simp [pEv, guardDec, fstep, ev, ofConst, ofScalar, setD, puts, thenP, inBlockP, List.take_succ_cons, List.drop_succ_cons, sFieldAddr, cur, find, fl32_0, sLoad, boxArr, ty28]
  apply hKr4; clear hKr4 Kr4
  refine pEv_split 2 fun Kr5 hKr5 => ?_
  simp [pEv, guardDec, fstep, ev, ofConst, ofScalar, setD, puts, thenP, inBlockP, List.take_succ_cons, List.drop_succ_cons, sFieldAddr, cur, find, fl32_0, sLoad, boxArr, ty28]
  apply hKr5; clear hKr5 Kr5
  refine pEv_call' rfl rfl rfl (call_pure (ncmp_pf _ _) en39 (by simp) _) ?_
  refine pEv_split 2 fun Kr6 hKr6 => ?_
  simp [pEv, guardDec, fstep, ev, ofConst, ofScalar, setD, puts, thenP, inBlockP, List.take_succ_cons, List.drop_succ_cons, sFieldAddr, cur, find, fl32_1, sLoad, boxArr, ty9]
  apply hKr6; clear hKr6 Kr6
  refine pEv_split 2 fun Kr7 hKr7 => ?_
  simp [pEv, guardDec, fstep, ev, ofConst, ofScalar, setD, puts, thenP, inBlockP, List.take_succ_cons, List.drop_succ_cons, sFieldAddr, cur, find, fl32_1, sLoad, boxArr, ty9]
  apply hKr7; clear hKr7 Kr7
  refine pEv_call' rfl rfl rfl (call_pure (cmpS_pf _ _) en40 (by simp) _) ?_
  refine pEv_split 2 fun Kr8 hKr8 => ?_
  simp [pEv, guardDec, fstep, ev, ofConst, ofScalar, setD, puts, thenP, inBlockP, List.take_succ_cons, List.drop_succ_cons, sFieldAddr, cur, find, fl32_2, sLoad, boxArr, ty4]
  apply hKr8; clear hKr8 Kr8
  refine pEv_split 2 fun Kr9 hKr9 => ?_
  simp [pEv, guardDec, fstep, ev, ofConst, ofScalar, setD, puts, thenP, inBlockP, List.take_succ_cons, List.drop_succ_cons, sFieldAddr, cur, find, fl32_2, sLoad, boxArr, ty4]
  apply hKr9; clear hKr9 Kr9
  refine pEv_call' rfl rfl rfl (call_pure (truth_pf _ _) en32 (by simp) _) ?_
  refine pEv_split 2 fun Kr10 hKr10 => ?_
  simp [pEv, guardDec, fstep, ev, ofConst, ofScalar, setD, puts, thenP, inBlockP, List.take_succ_cons, List.drop_succ_cons, sFieldAddr, cur, find, fl32_3, sLoad, boxArr, ty4]
  apply hKr10; clear hKr10 Kr10
  refine pEv_split 2 fun Kr11 hKr11 => ?_
  simp [pEv, guardDec, fstep, ev, ofConst, ofScalar, setD, puts, thenP, inBlockP, List.take_succ_cons, List.drop_succ_cons, sFieldAddr, cur, find, fl32_3, sLoad, boxArr, ty4]
  apply hKr11; clear hKr11 Kr11
  refine pEv_call' rfl rfl rfl (call_pure (truth_pf _ _) en32 (by simp) _) ?_
  refine pEv_split 1 fun Kr12 hKr12 => ?_
  simp [pEv, guardDec, fstep, ev, ofConst, ofScalar, setD, puts, thenP, inBlockP, List.take_succ_cons, List.drop_succ_cons, sBuildSlice, layParts, newBox, genOf, put, find, el65, ty3]
  apply hKr12; clear hKr12 Kr12
  refine pEv_call' rfl rfl rfl (call_view (or_pf _ (by rfl) (by simp)) en29 rfl (by rfl)) ?_
  simp [pEv, guardDec, fstep, ev, ofConst, ofScalar, setD, puts, thenP, inBlockP, List.take_succ_cons, List.drop_succ_cons]
  refine ⟨by decide +kernel, ?_⟩
  apply hK3; try clear hK3 K3
  refine pw_ret ?_
  simp only [thenP, inBlockP, bodyQ]
  refine ⟨_, rfl, ?_⟩
  first | rfl | (simp [ev, firstP, firstNZ, idCmp]; done) | (simp [ev, firstP, firstNZ, idCmp] <;> omega) | ((try clear hK3 K3); (try clear hK1 K1); simp_all [ev, firstP, firstNZ, idCmp]; done)

set_option maxRecDepth 100000 in
theorem groups_pf (a b : NGroup) : PFun Try.prog 59 [a.pv, b.pv] (.int .i64 (idCmp a.id b.id)) := by
  refine PFun.of_body (by simp) Try.func59 rfl _ rfl fun c0 => ?_
  simp only [List.cons_append, List.nil_append, List.replicate, List.length_cons, List.length_nil, Nat.reduceAdd, Nat.reduceSub, Try.ntmps59]
  refine pw_seq_k fun K1 hK1 => ?_
  refine pw_region 0 ?_
  refine pEv0_split 2 fun Kr2 hKr2 => ?_
  simp [pEv0, guardDec, fstep, ev, ofConst, ofScalar, setD, puts, thenP, inBlockP, List.take_succ_cons, List.drop_succ_cons, sBox, newBox, genOf, put, find, ty69]
  apply hKr2; clear hKr2 Kr2
  simp [pEv0, guardDec, fstep, ev, ofConst, ofScalar, setD, puts, thenP, inBlockP, List.take_succ_cons, List.drop_succ_cons]
  apply hK1; try clear hK1 K1
  refine pw_seq_k fun K3 hK3 => ?_
  refine pw_region 0 ?_
  refine pEv0_split 2 fun Kr4 hKr4 => ?_
  simp [pEv0, guardDec, fstep, ev, ofConst, ofScalar, setD, puts, thenP, inBlockP, List.take_succ_cons, List.drop_succ_cons, sFieldAddr, cur, find, fl69_0, sLoad, boxArr, ty32]
  apply hKr4; clear hKr4 Kr4
  refine pEv0_split 2 fun Kr5 hKr5 => ?_
  simp [pEv0, guardDec, fstep, ev, ofConst, ofScalar, setD, puts, thenP, inBlockP, List.take_succ_cons, List.drop_succ_cons, sFieldAddr, cur, find, fl69_0, sLoad, boxArr, ty32]
  apply hKr5; clear hKr5 Kr5
  refine pEv0_call' rfl rfl rfl (call_pure (idcmp_pf _ _) en13 (by simp) _) ?_
  simp [pEv0, guardDec, fstep, ev, ofConst, ofScalar, setD, puts, thenP, inBlockP, List.take_succ_cons, List.drop_succ_cons]
  apply hK3; try clear hK3 K3
  refine pw_ret ?_
  simp only [thenP, inBlockP, bodyQ]
  refine ⟨_, rfl, ?_⟩
  first | rfl | (simp [ev]; done) | (simp [ev] <;> omega) | ((try clear hK3 K3); (try clear hK1 K1); simp_all [ev]; done)

set_option maxRecDepth 100000 in
theorem filters_pf (a b : NFilter) : PFun Try.prog 61 [a.pv, b.pv] (.int .i64 (keyCmp a.service b.service)) := by
  refine PFun.of_body (by simp) Try.func61 rfl _ rfl fun c0 => ?_
  simp only [List.cons_append, List.nil_append, List.replicate, List.length_cons, List.length_nil, Nat.reduceAdd, Nat.reduceSub, Try.ntmps61]
  refine pw_seq_k fun K1 hK1 => ?_
  refine pw_region 0 ?_
  refine pEv0_split 2 fun Kr2 hKr2 => ?_
  simp [pEv0, guardDec, fstep, ev, ofConst, ofScalar, setD, puts, thenP, inBlockP, List.take_succ_cons, List.drop_succ_cons, sBox, newBox, genOf, put, find, ty60]
  apply hKr2; clear hKr2 Kr2
  simp [pEv0, guardDec, fstep, ev, ofConst, ofScalar, setD, puts, thenP, inBlockP, List.take_succ_cons, List.drop_succ_cons]
  apply hK1; try clear hK1 K1
  refine pw_seq_k fun K3 hK3 => ?_
  refine pw_region 0 ?_
  refine pEv0_split 2 fun Kr4 hKr4 => ?_
  simp [pEv0, guardDec, fstep, ev, ofConst, ofScalar, setD, puts, thenP, inBlockP, List.take_succ_cons, List.drop_succ_cons, sFieldAddr, cur, find, fl60_0, sLoad, boxArr, ty28]
  apply hKr4; clear hKr4 Kr4
  refine pEv0_split 2 fun Kr5 hKr5 => ?_
  simp [pEv0, guardDec, fstep, ev, ofConst, ofScalar, setD, puts, thenP, inBlockP, List.take_succ_cons, List.drop_succ_cons, sFieldAddr, cur, find, fl60_0, sLoad, boxArr, ty28]
  apply hKr5; clear hKr5 Kr5
  refine pEv0_call' rfl rfl rfl (call_pure (ncmp_pf _ _) en39 (by simp) _) ?_
  simp [pEv0, guardDec, fstep, ev, ofConst, ofScalar, setD, puts, thenP, inBlockP, List.take_succ_cons, List.drop_succ_cons]
  apply hK3; try clear hK3 K3
  refine pw_ret ?_
  simp only [thenP, inBlockP, bodyQ]
  refine ⟨_, rfl, ?_⟩
  first | rfl | (simp [ev]; done) | (simp [ev] <;> omega) | ((try clear hK3 K3); (try clear hK1 K1); simp_all [ev]; done)

set_option maxRecDepth 100000 in
theorem id_pf (a : NFront) : PFun Try.prog 7 [a.pv] ((idOf a).pv) := by
  refine PFun.of_body (by simp) Try.func7 rfl _ rfl fun c0 => ?_
  simp only [List.cons_append, List.nil_append, List.replicate, List.length_cons, List.length_nil, Nat.reduceAdd, Nat.reduceSub, Try.ntmps7]
  refine pw_seq_k fun K1 hK1 => ?_
  refine pw_region 0 ?_
  simp [pEv0, guardDec, fstep, ev, ofConst, ofScalar, setD, puts, thenP, inBlockP, List.take_succ_cons, List.drop_succ_cons, sBox, newBox, genOf, put, find, ty30, sAlloc, ty32]
  apply hK1; try clear hK1 K1
  refine pw_seq_k fun K2 hK2 => ?_
  refine pw_region 0 ?_
  refine pEv0_split 2 fun Kr3 hKr3 => ?_
  simp [pEv0, guardDec, fstep, ev, ofConst, ofScalar, setD, puts, thenP, inBlockP, List.take_succ_cons, List.drop_succ_cons, sFieldAddr, cur, find, fl30_2, sLoad, boxArr, ty28]
  apply hKr3; clear hKr3 Kr3
  refine pEv0_split 2 fun Kr4 hKr4 => ?_
  simp [pEv0, guardDec, fstep, ev, ofConst, ofScalar, setD, puts, thenP, inBlockP, List.take_succ_cons, List.drop_succ_cons, sFieldAddr, cur, find, fl30_3, sLoad, boxArr, ty9]
  apply hKr4; clear hKr4 Kr4
  refine pEv0_split 2 fun Kr5 hKr5 => ?_
  simp [pEv0, guardDec, fstep, ev, ofConst, ofScalar, setD, puts, thenP, inBlockP, List.take_succ_cons, List.drop_succ_cons, sFieldAddr, cur, find, fl30_1, fl26_0]
  apply hKr5; clear hKr5 Kr5
  refine pEv0_split 2 fun Kr6 hKr6 => ?_
  simp [pEv0, guardDec, fstep, ev, ofConst, ofScalar, setD, puts, thenP, inBlockP, List.take_succ_cons, List.drop_succ_cons, sFieldAddr, cur, find, fl24_0, sLoad, boxArr, ty4]
  apply hKr6; clear hKr6 Kr6
  refine pEv0_split 2 fun Kr7 hKr7 => ?_
  simp [pEv0, guardDec, fstep, ev, ofConst, ofScalar, setD, puts, thenP, inBlockP, List.take_succ_cons, List.drop_succ_cons, sFieldAddr, cur, find, fl30_5, sLoad, boxArr, ty4]
  apply hKr7; clear hKr7 Kr7
  simp [pEv0, guardDec, fstep, ev, ofConst, ofScalar, setD, puts, thenP, inBlockP, List.take_succ_cons, List.drop_succ_cons, sBuild, layFields, splice, ty32, st32, fl32_0, co28, fl32_1, co9, fl32_2, co4, fl32_3, sStore, boxArr, find, put, PV.setc]
  apply hK2; try clear hK2 K2
  refine pw_ret ?_
  simp only [thenP, inBlockP, bodyQ]
  refine ⟨_, rfl, ?_⟩
  simp [ev]; rfl

set_option maxRecDepth 100000 in
theorem idof_pf (a : NFront) : PFun Try.prog 8 [a.pv] ((idOf a).pv) := by
  refine PFun.of_body (by simp) Try.func8 rfl _ rfl fun c0 => ?_
  simp only [List.cons_append, List.nil_append, List.replicate, List.length_cons, List.length_nil, Nat.reduceAdd, Nat.reduceSub, Try.ntmps8]
  refine pw_seq_k fun K1 hK1 => ?_
  refine pw_region 0 ?_
  simp [pEv0, guardDec, fstep, ev, ofConst, ofScalar, setD, puts, thenP, inBlockP, List.take_succ_cons, List.drop_succ_cons, sBox, newBox, genOf, put, find, ty36, sAlloc, ty37]
  apply hK1; try clear hK1 K1
  refine pw_seq_k fun K2 hK2 => ?_
  refine pw_region 0 ?_
  refine pEv0_split 2 fun Kr3 hKr3 => ?_
  simp [pEv0, guardDec, fstep, ev, ofConst, ofScalar, setD, puts, thenP, inBlockP, List.take_succ_cons, List.drop_succ_cons, sFieldAddr, cur, find, fl36_2, sLoad, boxArr, ty28]
  apply hKr3; clear hKr3 Kr3
  refine pEv0_split 2 fun Kr4 hKr4 => ?_
  simp [pEv0, guardDec, fstep, ev, ofConst, ofScalar, setD, puts, thenP, inBlockP, List.take_succ_cons, List.drop_succ_cons, sFieldAddr, cur, find, fl36_3, sLoad, boxArr, ty9]
  apply hKr4; clear hKr4 Kr4
  refine pEv0_split 2 fun Kr5 hKr5 => ?_
  simp [pEv0, guardDec, fstep, ev, ofConst, ofScalar, setD, puts, thenP, inBlockP, List.take_succ_cons, List.drop_succ_cons, sFieldAddr, cur, find, fl36_1, fl26_0]
  apply hKr5; clear hKr5 Kr5
  refine pEv0_split 2 fun Kr6 hKr6 => ?_
  simp [pEv0, guardDec, fstep, ev, ofConst, ofScalar, setD, puts, thenP, inBlockP, List.take_succ_cons, List.drop_succ_cons, sFieldAddr, cur, find, fl24_0, sLoad, boxArr, ty4]
  apply hKr6; clear hKr6 Kr6
  refine pEv0_split 2 fun Kr7 hKr7 => ?_
  simp [pEv0, guardDec, fstep, ev, ofConst, ofScalar, setD, puts, thenP, inBlockP, List.take_succ_cons, List.drop_succ_cons, sFieldAddr, cur, find, fl36_5, sLoad, boxArr, ty4]
  apply hKr7; clear hKr7 Kr7
  simp [pEv0, guardDec, fstep, ev, ofConst, ofScalar, setD, puts, thenP, inBlockP, List.take_succ_cons, List.drop_succ_cons, sBuild, layFields, splice, ty37, st37, fl37_0, co28, fl37_1, co9, fl37_2, co4, fl37_3, sStore, boxArr, find, put, PV.setc]
  apply hK2; try clear hK2 K2
  refine pw_ret ?_
  simp only [thenP, inBlockP, bodyQ]
  refine ⟨_, rfl, ?_⟩
  simp [ev]; rfl

set_option maxRecDepth 100000 in
theorem less_pf (a b : Int) : PFun Try.prog 34 [.int .i64 a, .int .i64 b] (.int .i64 (cmpI a b)) := by
  refine PFun.of_body (by simp) Try.func34 rfl _ rfl fun c0 => ?_
  simp only [List.cons_append, List.nil_append, List.replicate, List.length_cons, List.length_nil, Nat.reduceAdd, Nat.reduceSub, Try.ntmps34]
  refine pw_seq_k fun K1 hK1 => ?_
  refine pw_region 0 ?_
  simp [pEv0, guardDec, fstep, ev, ofConst, ofScalar, setD, puts, thenP, inBlockP, List.take_succ_cons, List.drop_succ_cons]
  apply hK1; try clear hK1 K1
  refine pw_seq_k fun K2 hK2 => ?_
  refine pw_seq_k fun K3 hK3 => ?_
  refine pw_region 0 ?_
  refine pEv0_split 2 fun Kr4 hKr4 => ?_
  simp [pEv0, guardDec, fstep, ev, ofConst, ofScalar, setD, puts, thenP, inBlockP, List.take_succ_cons, List.drop_succ_cons]
  apply hKr4; clear hKr4 Kr4
  simp [pEv0, guardDec, fstep, ev, ofConst, ofScalar, setD, puts, thenP, inBlockP, List.take_succ_cons, List.drop_succ_cons, sBinH, sBin, binop]
  apply hK3; try clear hK3 K3
  refine pw_cond _ rfl (fun h5 => ?_) (fun h5 => ?_)
  · try simp at h5
    refine pw_seq_k fun K6 hK6 => ?_
    refine pw_region 0 ?_
    simp [pEv0, guardDec, fstep, ev, ofConst, ofScalar, setD, puts, thenP, inBlockP, List.take_succ_cons, List.drop_succ_cons, h5]
    apply hK6; try clear hK6 K6
    refine pw_ret ?_
    simp only [thenP, inBlockP, bodyQ]
    refine ⟨_, rfl, ?_⟩
    first | rfl | (simp [ev, cmpI, h5]; done) | (simp [ev, cmpI, h5] <;> omega) | ((try clear hK6 K6); (try clear hK3 K3); (try clear hK2 K2); (try clear hK1 K1); simp_all [ev, cmpI]; done)
  · try simp at h5
    refine pw_skip ?_
    simp only [thenP, inBlockP]
    apply hK2; try clear hK2 K2
    refine pw_seq_k fun K7 hK7 => ?_
    refine pw_seq_k fun K8 hK8 => ?_
    refine pw_region 0 ?_
    refine pEv0_split 2 fun Kr9 hKr9 => ?_
    simp [pEv0, guardDec, fstep, ev, ofConst, ofScalar, setD, puts, thenP, inBlockP, List.take_succ_cons, List.drop_succ_cons, h5]
    apply hKr9; clear hKr9 Kr9
    simp [pEv0, guardDec, fstep, ev, ofConst, ofScalar, setD, puts, thenP, inBlockP, List.take_succ_cons, List.drop_succ_cons, sBinH, sBin, binop, h5]
    apply hK8; try clear hK8 K8
    refine pw_cond _ rfl (fun h10 => ?_) (fun h10 => ?_)
    · try simp at h10
      refine pw_seq_k fun K11 hK11 => ?_
      refine pw_region 0 ?_
      simp [pEv0, guardDec, fstep, ev, ofConst, ofScalar, setD, puts, thenP, inBlockP, List.take_succ_cons, List.drop_succ_cons, h5, h10]
      apply hK11; try clear hK11 K11
      refine pw_ret ?_
      simp only [thenP, inBlockP, bodyQ]
      refine ⟨_, rfl, ?_⟩
      first | rfl | (simp [ev, cmpI, h5, h10]; done) | (simp [ev, cmpI, h5, h10] <;> omega) | ((try clear hK11 K11); (try clear hK8 K8); (try clear hK7 K7); (try clear hK6 K6); (try clear hK3 K3); (try clear hK2 K2); (try clear hK1 K1); simp_all [ev, cmpI]; done)
    · try simp at h10
      refine pw_skip ?_
      simp only [thenP, inBlockP]
      apply hK7; try clear hK7 K7
      refine pw_seq_k fun K12 hK12 => ?_
      refine pw_region 0 ?_
      simp [pEv0, guardDec, fstep, ev, ofConst, ofScalar, setD, puts, thenP, inBlockP, List.take_succ_cons, List.drop_succ_cons, h5, h10]
      apply hK12; try clear hK12 K12
      refine pw_ret ?_
      simp only [thenP, inBlockP, bodyQ]
      refine ⟨_, rfl, ?_⟩
      first | rfl | (simp [ev, cmpI, h5, h10]; done) | (simp [ev, cmpI, h5, h10] <;> omega) | ((try clear hK12 K12); (try clear hK11 K11); (try clear hK8 K8); (try clear hK7 K7); (try clear hK6 K6); (try clear hK3 K3); (try clear hK2 K2); (try clear hK1 K1); simp_all [ev, cmpI]; done)

set_option maxRecDepth 100000 in
theorem text_pf (a b : ByteArray) : PFun Try.prog 38 [.str a, .str b] (.int .i64 (cmpS a b)) := by
  refine PFun.of_body (by simp) Try.func38 rfl _ rfl fun c0 => ?_
  simp only [List.cons_append, List.nil_append, List.replicate, List.length_cons, List.length_nil, Nat.reduceAdd, Nat.reduceSub, Try.ntmps38]
  refine pw_seq_k fun K1 hK1 => ?_
  refine pw_region 0 ?_
  simp [pEv0, guardDec, fstep, ev, ofConst, ofScalar, setD, puts, thenP, inBlockP, List.take_succ_cons, List.drop_succ_cons]
  apply hK1; try clear hK1 K1
  refine pw_seq_k fun K2 hK2 => ?_
  refine pw_seq_k fun K3 hK3 => ?_
  refine pw_region 0 ?_
  refine pEv0_split 2 fun Kr4 hKr4 => ?_
  simp [pEv0, guardDec, fstep, ev, ofConst, ofScalar, setD, puts, thenP, inBlockP, List.take_succ_cons, List.drop_succ_cons]
  apply hKr4; clear hKr4 Kr4
  simp [pEv0, guardDec, fstep, ev, ofConst, ofScalar, setD, puts, thenP, inBlockP, List.take_succ_cons, List.drop_succ_cons, sBinH, sBin, binop]
  apply hK3; try clear hK3 K3
  refine pw_cond _ rfl (fun h5 => ?_) (fun h5 => ?_)
  · try simp at h5
    refine pw_seq_k fun K6 hK6 => ?_
    refine pw_region 0 ?_
    simp [pEv0, guardDec, fstep, ev, ofConst, ofScalar, setD, puts, thenP, inBlockP, List.take_succ_cons, List.drop_succ_cons, h5]
    apply hK6; try clear hK6 K6
    refine pw_ret ?_
    simp only [thenP, inBlockP, bodyQ]
    refine ⟨_, rfl, ?_⟩
    first | rfl | (simp [ev, cmpS, h5]; done) | (simp [ev, cmpS, h5] <;> omega) | ((try clear hK6 K6); (try clear hK3 K3); (try clear hK2 K2); (try clear hK1 K1); simp_all [ev, cmpS]; done)
  · try simp at h5
    refine pw_skip ?_
    simp only [thenP, inBlockP]
    apply hK2; try clear hK2 K2
    refine pw_seq_k fun K7 hK7 => ?_
    refine pw_seq_k fun K8 hK8 => ?_
    refine pw_region 0 ?_
    refine pEv0_split 2 fun Kr9 hKr9 => ?_
    simp [pEv0, guardDec, fstep, ev, ofConst, ofScalar, setD, puts, thenP, inBlockP, List.take_succ_cons, List.drop_succ_cons, h5]
    apply hKr9; clear hKr9 Kr9
    simp [pEv0, guardDec, fstep, ev, ofConst, ofScalar, setD, puts, thenP, inBlockP, List.take_succ_cons, List.drop_succ_cons, sBinH, sBin, binop, h5]
    apply hK8; try clear hK8 K8
    refine pw_cond _ rfl (fun h10 => ?_) (fun h10 => ?_)
    · try simp at h10
      refine pw_seq_k fun K11 hK11 => ?_
      refine pw_region 0 ?_
      simp [pEv0, guardDec, fstep, ev, ofConst, ofScalar, setD, puts, thenP, inBlockP, List.take_succ_cons, List.drop_succ_cons, h5, h10]
      apply hK11; try clear hK11 K11
      refine pw_ret ?_
      simp only [thenP, inBlockP, bodyQ]
      refine ⟨_, rfl, ?_⟩
      first | rfl | (simp [ev, cmpS, h5, h10]; done) | (simp [ev, cmpS, h5, h10] <;> omega) | ((try clear hK11 K11); (try clear hK8 K8); (try clear hK7 K7); (try clear hK6 K6); (try clear hK3 K3); (try clear hK2 K2); (try clear hK1 K1); simp_all [ev, cmpS]; done)
    · try simp at h10
      refine pw_skip ?_
      simp only [thenP, inBlockP]
      apply hK7; try clear hK7 K7
      refine pw_seq_k fun K12 hK12 => ?_
      refine pw_region 0 ?_
      simp [pEv0, guardDec, fstep, ev, ofConst, ofScalar, setD, puts, thenP, inBlockP, List.take_succ_cons, List.drop_succ_cons, h5, h10]
      apply hK12; try clear hK12 K12
      refine pw_ret ?_
      simp only [thenP, inBlockP, bodyQ]
      refine ⟨_, rfl, ?_⟩
      first | rfl | (simp [ev, cmpS, h5, h10]; done) | (simp [ev, cmpS, h5, h10] <;> omega) | ((try clear hK12 K12); (try clear hK11 K11); (try clear hK8 K8); (try clear hK7 K7); (try clear hK6 K6); (try clear hK3 K3); (try clear hK2 K2); (try clear hK1 K1); simp_all [ev, cmpS]; done)

set_option maxRecDepth 100000 in
theorem bcmp_pf (l m : List UInt8) : PFun Try.prog 89 [.sl 1 (pvBy l), .sl 1 (pvBy m)] (.int .i64 (Lib.compareBytes l m)) := by
  refine PFun.of_body (by simp) Try.func89 rfl _ rfl fun c0 => ?_
  simp only [List.cons_append, List.nil_append, List.replicate, List.length_cons, List.length_nil, Nat.reduceAdd, Nat.reduceSub, Try.ntmps89]
  refine pw_seq_k fun K1 hK1 => ?_
  refine pw_region 0 ?_
  simp [pEv0, guardDec, fstep, ev, ofConst, ofScalar, setD, puts, thenP, inBlockP, List.take_succ_cons, List.drop_succ_cons]
  apply hK1; try clear hK1 K1
  refine pw_seq_k fun K2 hK2 => ?_
  refine pw_region 0 ?_
  refine pEv0_split 2 fun Kr3 hKr3 => ?_
  simp [pEv0, guardDec, fstep, ev, ofConst, ofScalar, setD, puts, thenP, inBlockP, List.take_succ_cons, List.drop_succ_cons]
  apply hKr3; clear hKr3 Kr3
  refine pEv0_call' rfl rfl rfl (sem_cmpBytes x93 _ _ _) ?_
  simp [pEv0, guardDec, fstep, ev, ofConst, ofScalar, setD, puts, thenP, inBlockP, List.take_succ_cons, List.drop_succ_cons]
  apply hK2; try clear hK2 K2
  refine pw_ret ?_
  simp only [thenP, inBlockP, bodyQ]
  refine ⟨_, rfl, ?_⟩
  first | rfl | (simp [ev]; done) | (simp [ev] <;> omega) | ((try clear hK2 K2); (try clear hK1 K1); simp_all [ev]; done)

set_option maxRecDepth 100000 in
theorem acmp_pf (a b : NAddr) : PFun Try.prog 80 [a.pv, b.pv] (.int .i64 (addrCmp a b)) := by
  refine PFun.of_body (by simp) Try.func80 rfl _ rfl fun c0 => ?_
  simp only [List.cons_append, List.nil_append, List.replicate, List.length_cons, List.length_nil, Nat.reduceAdd, Nat.reduceSub, Try.ntmps80]
  refine pw_seq_k fun K1 hK1 => ?_
  refine pw_region 0 ?_
  refine pEv0_split 2 fun Kr2 hKr2 => ?_
  simp [pEv0, guardDec, fstep, ev, ofConst, ofScalar, setD, puts, thenP, inBlockP, List.take_succ_cons, List.drop_succ_cons, sBox, newBox, genOf, put, find, ty24]
  apply hKr2; clear hKr2 Kr2
  simp [pEv0, guardDec, fstep, ev, ofConst, ofScalar, setD, puts, thenP, inBlockP, List.take_succ_cons, List.drop_succ_cons]
  apply hK1; try clear hK1 K1
  refine pw_seq_k fun K3 hK3 => ?_
  refine pw_block ?_
  refine pw_seq_k fun K4 hK4 => ?_
  refine pw_region 0 ?_
  refine pEv0_split 2 fun Kr5 hKr5 => ?_
  simp [pEv0, guardDec, fstep, ev, ofConst, ofScalar, setD, puts, thenP, inBlockP, List.take_succ_cons, List.drop_succ_cons, sFieldAddr, cur, find, fl24_0, sLoad, boxArr, ty4]
  apply hKr5; clear hKr5 Kr5
  refine pEv0_split 2 fun Kr6 hKr6 => ?_
  simp [pEv0, guardDec, fstep, ev, ofConst, ofScalar, setD, puts, thenP, inBlockP, List.take_succ_cons, List.drop_succ_cons, sFieldAddr, cur, find, fl24_0, sLoad, boxArr, ty4]
  apply hKr6; clear hKr6 Kr6
  simp [pEv0, guardDec, fstep, ev, ofConst, ofScalar, setD, puts, thenP, inBlockP, List.take_succ_cons, List.drop_succ_cons, eq4]
  apply hK4; try clear hK4 K4
  refine pw_cond _ rfl (fun h7 => ?_) (fun h7 => ?_)
  · try simp at h7
    refine pw_seq_k fun K8 hK8 => ?_
    refine pw_region_draw mix 0 ?_
    refine pEv_split 2 fun Kr9 hKr9 => ?_
    simp [pEv, guardDec, fstep, ev, ofConst, ofScalar, setD, puts, thenP, inBlockP, List.take_succ_cons, List.drop_succ_cons, sFieldAddr, cur, find, fl24_1, sSlice, boundOf, boxArr, put, el22, co5, h7]
    apply hKr9; clear hKr9 Kr9
    refine pEv_split 2 fun Kr10 hKr10 => ?_
    simp [pEv, guardDec, fstep, ev, ofConst, ofScalar, setD, puts, thenP, inBlockP, List.take_succ_cons, List.drop_succ_cons, sFieldAddr, cur, find, fl24_1, sSlice, boundOf, boxArr, put, el22, co5, h7]
    apply hKr10; clear hKr10 Kr10
    refine pEv_call' rfl rfl rfl (call_pure (bcmp_pf _ _) en89 (by simp) _) ?_
    simp [pEv, guardDec, fstep, ev, ofConst, ofScalar, setD, puts, thenP, inBlockP, List.take_succ_cons, List.drop_succ_cons, h7]
    refine ⟨by decide +kernel, ?_⟩
    apply hK8; try clear hK8 K8
    refine pw_ret ?_
    simp only [thenP, inBlockP, bodyQ]
    refine ⟨_, rfl, ?_⟩
    first | rfl | (simp [ev, addrCmp, h7]; done) | (simp [ev, addrCmp, h7] <;> omega) | ((try clear hK8 K8); (try clear hK4 K4); (try clear hK3 K3); (try clear hK1 K1); simp_all [ev, addrCmp]; done)
  · try simp at h7
    refine pw_seq_k fun K11 hK11 => ?_
    refine pw_region 0 ?_
    refine pEv0_split 2 fun Kr12 hKr12 => ?_
    simp [pEv0, guardDec, fstep, ev, ofConst, ofScalar, setD, puts, thenP, inBlockP, List.take_succ_cons, List.drop_succ_cons, sFieldAddr, cur, find, fl24_0, sLoad, boxArr, ty4, h7]
    apply hKr12; clear hKr12 Kr12
    simp [pEv0, guardDec, fstep, ev, ofConst, ofScalar, setD, puts, thenP, inBlockP, List.take_succ_cons, List.drop_succ_cons, h7]
    apply hK11; try clear hK11 K11
    refine pw_cond _ rfl (fun h13 => ?_) (fun h13 => ?_)
    · try simp at h13
      refine pw_seq_k fun K14 hK14 => ?_
      refine pw_region 0 ?_
      simp [pEv0, guardDec, fstep, ev, ofConst, ofScalar, setD, puts, thenP, inBlockP, List.take_succ_cons, List.drop_succ_cons, h7, h13]
      apply hK14; try clear hK14 K14
      refine pw_ret ?_
      simp only [thenP, inBlockP, bodyQ]
      refine ⟨_, rfl, ?_⟩
      first | rfl | (simp [ev, addrCmp, h7, h13]; done) | (simp [ev, addrCmp, h7, h13] <;> omega) | ((try clear hK14 K14); (try clear hK11 K11); (try clear hK8 K8); (try clear hK4 K4); (try clear hK3 K3); (try clear hK1 K1); simp_all [ev, addrCmp]; done)
    · try simp at h13
      refine pw_skip ?_
      simp only [thenP, inBlockP]
      apply hK3; try clear hK3 K3
      refine pw_seq_k fun K15 hK15 => ?_
      refine pw_region 0 ?_
      simp [pEv0, guardDec, fstep, ev, ofConst, ofScalar, setD, puts, thenP, inBlockP, List.take_succ_cons, List.drop_succ_cons, h7, h13]
      apply hK15; try clear hK15 K15
      refine pw_ret ?_
      simp only [thenP, inBlockP, bodyQ]
      refine ⟨_, rfl, ?_⟩
      first | rfl | (simp [ev, addrCmp, h7, h13]; done) | (simp [ev, addrCmp, h7, h13] <;> omega) | ((try clear hK15 K15); (try clear hK14 K14); (try clear hK11 K11); (try clear hK8 K8); (try clear hK4 K4); (try clear hK3 K3); (try clear hK1 K1); simp_all [ev, addrCmp]; done)

set_option maxRecDepth 100000 in
theorem rcmp_pf (a b : NAddr) : PFun Try.prog 65 [a.pv, b.pv] (.int .i64 (addrCmp a b)) := by
  refine PFun.of_body (by simp) Try.func65 rfl _ rfl fun c0 => ?_
  simp only [List.cons_append, List.nil_append, List.replicate, List.length_cons, List.length_nil, Nat.reduceAdd, Nat.reduceSub, Try.ntmps65]
  refine pw_seq_k fun K1 hK1 => ?_
  refine pw_region 0 ?_
  refine pEv0_split 2 fun Kr2 hKr2 => ?_
  simp [pEv0, guardDec, fstep, ev, ofConst, ofScalar, setD, puts, thenP, inBlockP, List.take_succ_cons, List.drop_succ_cons, sBox, newBox, genOf, put, find, ty24]
  apply hKr2; clear hKr2 Kr2
  simp [pEv0, guardDec, fstep, ev, ofConst, ofScalar, setD, puts, thenP, inBlockP, List.take_succ_cons, List.drop_succ_cons]
  apply hK1; try clear hK1 K1
  refine pw_seq_k fun K3 hK3 => ?_
  refine pw_seq_k fun K4 hK4 => ?_
  refine pw_region 0 ?_
  refine pEv0_split 2 fun Kr5 hKr5 => ?_
  simp [pEv0, guardDec, fstep, ev, ofConst, ofScalar, setD, puts, thenP, inBlockP, List.take_succ_cons, List.drop_succ_cons, sFieldAddr, cur, find, fl24_0, sLoad, boxArr, ty4]
  apply hKr5; clear hKr5 Kr5
  refine pEv0_split 2 fun Kr6 hKr6 => ?_
  simp [pEv0, guardDec, fstep, ev, ofConst, ofScalar, setD, puts, thenP, inBlockP, List.take_succ_cons, List.drop_succ_cons, sFieldAddr, cur, find, fl24_0, sLoad, boxArr, ty4]
  apply hKr6; clear hKr6 Kr6
  simp [pEv0, guardDec, fstep, ev, ofConst, ofScalar, setD, puts, thenP, inBlockP, List.take_succ_cons, List.drop_succ_cons, neq4]
  apply hK4; try clear hK4 K4
  refine pw_cond _ rfl (fun h7 => ?_) (fun h7 => ?_)
  · try simp at h7
    refine pw_seq_k fun K8 hK8 => ?_
    refine pw_seq_k fun K9 hK9 => ?_
    refine pw_region 0 ?_
    simp [pEv0, guardDec, fstep, ev, ofConst, ofScalar, setD, puts, thenP, inBlockP, List.take_succ_cons, List.drop_succ_cons, sFieldAddr, cur, find, fl24_0, sLoad, boxArr, ty4, h7]
    apply hK9; try clear hK9 K9
    refine pw_cond _ rfl (fun h10 => ?_) (fun h10 => ?_)
    · try simp at h10
      refine pw_seq_k fun K11 hK11 => ?_
      refine pw_region 0 ?_
      simp [pEv0, guardDec, fstep, ev, ofConst, ofScalar, setD, puts, thenP, inBlockP, List.take_succ_cons, List.drop_succ_cons, h7, h10]
      apply hK11; try clear hK11 K11
      refine pw_ret ?_
      simp only [thenP, inBlockP, bodyQ]
      refine ⟨_, rfl, ?_⟩
      first | (simp [ev, addrCmp, h7, h10]; done) | ((try clear hK11 K11); (try clear hK9 K9); (try clear hK8 K8); (try clear hK4 K4); (try clear hK3 K3); (try clear hK1 K1); simp_all [ev, addrCmp]; done) | (simp [ev, addrCmp, h7, h10, cmpB_lt hf hx hy (by assumption)]; done) | (simp [ev, addrCmp, h7, h10, cmpB_gt hf hx hy (by assumption)]; done) | (simp [ev, addrCmp, h7, h10, cmpB_end hf (by simp; omega) (by simp; omega)]; done)
    · try simp at h10
      refine pw_skip ?_
      simp only [thenP, inBlockP]
      apply hK8; try clear hK8 K8
      refine pw_seq_k fun K12 hK12 => ?_
      refine pw_region 0 ?_
      simp [pEv0, guardDec, fstep, ev, ofConst, ofScalar, setD, puts, thenP, inBlockP, List.take_succ_cons, List.drop_succ_cons, h7, h10]
      apply hK12; try clear hK12 K12
      refine pw_ret ?_
      simp only [thenP, inBlockP, bodyQ]
      refine ⟨_, rfl, ?_⟩
      first | (simp [ev, addrCmp, h7, h10]; done) | ((try clear hK12 K12); (try clear hK11 K11); (try clear hK9 K9); (try clear hK8 K8); (try clear hK4 K4); (try clear hK3 K3); (try clear hK1 K1); simp_all [ev, addrCmp]; done) | (simp [ev, addrCmp, h7, h10, cmpB_lt hf hx hy (by assumption)]; done) | (simp [ev, addrCmp, h7, h10, cmpB_gt hf hx hy (by assumption)]; done) | (simp [ev, addrCmp, h7, h10, cmpB_end hf (by simp; omega) (by simp; omega)]; done)
  · try simp at h7
    refine pw_skip ?_
    simp only [thenP, inBlockP]
    apply hK3; try clear hK3 K3
    refine pw_seq_k fun K13 hK13 => ?_
    refine pw_seq_k fun K14 hK14 => ?_
    refine pw_region 0 ?_
    simp [pEv0, guardDec, fstep, ev, ofConst, ofScalar, setD, puts, thenP, inBlockP, List.take_succ_cons, List.drop_succ_cons, h7]
    apply hK14; try clear hK14 K14
    refine pw_block ?_
    refine pw_loopS (α := Nat) [4, 5, 14, 15, 16, 17, 18, 19, 20, 21, 22, 23, 24, 25, 26, 27, 28, 29, 30, 31, 32, 33, 34] (fun i => [(13, .int .i64 (i : Nat))]) (fun i => [(2, ⟨0, true, .arr 17 [a.pv]⟩), (3, ⟨0, true, .arr 17 [b.pv]⟩)]) (fun m i => i + m = 16 ∧ Lib.compareBytes (a.b.toList.drop i) (b.b.toList.drop i) = Lib.compareBytes a.b.toList b.b.toList) (16) (0) ?_ ?_ ?_
    · simp
    · refine Wk.forget ?_
      simp [forget, sets]
      repeat (first | exact Fg.nil | refine Fg.same ?_ | refine Fg.any ?_)
    · intro m i hinv KL15 hKL15
      obtain ⟨hk, hf⟩ := hinv
      simp only [forget, sets, List.foldl_cons, List.foldl_nil, List.set_cons_succ, List.set_cons_zero]
      refine pw_seq_k fun K16 hK16 => ?_
      refine pw_region 0 ?_
      simp [pEv0, guardDec, fstep, ev, ofConst, ofScalar, setD, puts, thenP, inBlockP, List.take_succ_cons, List.drop_succ_cons, sBinH, sBin, binop, h7]
      apply hK16; try clear hK16 K16
      refine pw_seq_k fun K17 hK17 => ?_
      refine pw_cond _ rfl (fun h18 => ?_) (fun h18 => ?_)
      · try simp at h18
        obtain ⟨x, hx⟩ := getN (l := a.b.toList) (k := i) (by simp; omega)
        obtain ⟨y, hy⟩ := getN (l := b.b.toList) (k := i) (by simp; omega)
        have hX := NAddr.ld_at 1 hx
        have hY := NAddr.ld_at 1 hy
        have hw := wrap_i64 (n := (i : Int) + 1) (by omega) (by omega)
        refine pw_skip ?_
        simp only [thenP, inBlockP]
        apply hK17; try clear hK17 K17
        refine pw_seq_k fun K19 hK19 => ?_
        refine pw_block ?_
        refine pw_seq_k fun K20 hK20 => ?_
        refine pw_region 0 ?_
        simp [pEv0, guardDec, fstep, ev, ofConst, ofScalar, setD, puts, thenP, inBlockP, List.take_succ_cons, List.drop_succ_cons, h7, h18, hX, hY, hw]
        apply hK20; try clear hK20 K20
        refine pw_seq_k fun K21 hK21 => ?_
        refine pw_seq_k fun K22 hK22 => ?_
        refine pw_region_draw mix 0 ?_
        refine pEv_split 2 fun Kr23 hKr23 => ?_
        simp [pEv, guardDec, fstep, ev, ofConst, ofScalar, setD, puts, thenP, inBlockP, List.take_succ_cons, List.drop_succ_cons, sFieldAddr, cur, find, fl24_1, h7, h18, hX, hY, hw]
        apply hKr23; clear hKr23 Kr23
        refine pEv_split 2 fun Kr24 hKr24 => ?_
        simp [pEv, guardDec, fstep, ev, ofConst, ofScalar, setD, puts, thenP, inBlockP, List.take_succ_cons, List.drop_succ_cons, sIndexAddr, cur, find, el22, co5, sLoad, boxArr, ty5, h7, h18, hX, hY, hw]
        apply hKr24; clear hKr24 Kr24
        refine pEv_split 2 fun Kr25 hKr25 => ?_
        simp [pEv, guardDec, fstep, ev, ofConst, ofScalar, setD, puts, thenP, inBlockP, List.take_succ_cons, List.drop_succ_cons, sFieldAddr, cur, find, fl24_1, h7, h18, hX, hY, hw]
        apply hKr25; clear hKr25 Kr25
        refine pEv_split 2 fun Kr26 hKr26 => ?_
        simp [pEv, guardDec, fstep, ev, ofConst, ofScalar, setD, puts, thenP, inBlockP, List.take_succ_cons, List.drop_succ_cons, sIndexAddr, cur, find, el22, co5, sLoad, boxArr, ty5, h7, h18, hX, hY, hw]
        apply hKr26; clear hKr26 Kr26
        simp [pEv, guardDec, fstep, ev, ofConst, ofScalar, setD, puts, thenP, inBlockP, List.take_succ_cons, List.drop_succ_cons, sBinH, sBin, binop, h7, h18, hX, hY, hw]
        refine ⟨by decide +kernel, ?_⟩
        apply hK22; try clear hK22 K22
        refine pw_cond _ rfl (fun h27 => ?_) (fun h27 => ?_)
        · try simp at h27
          refine pw_seq_k fun K28 hK28 => ?_
          refine pw_region 0 ?_
          simp [pEv0, guardDec, fstep, ev, ofConst, ofScalar, setD, puts, thenP, inBlockP, List.take_succ_cons, List.drop_succ_cons, h7, h18, hX, hY, hw, h27]
          apply hK28; try clear hK28 K28
          refine pw_ret ?_
          simp only [thenP, inBlockP, bodyQ]
          refine ⟨_, rfl, ?_⟩
          first | (simp [ev, addrCmp, h7, h18, hX, hY, hw, h27]; done) | ((try clear hK28 K28); (try clear hK22 K22); (try clear hK21 K21); (try clear hK20 K20); (try clear hK19 K19); (try clear hK17 K17); (try clear hK16 K16); (try clear hKL15 KL15); (try clear hK14 K14); (try clear hK13 K13); (try clear hK12 K12); (try clear hK11 K11); (try clear hK9 K9); (try clear hK8 K8); (try clear hK4 K4); (try clear hK3 K3); (try clear hK1 K1); simp_all [ev, addrCmp]; done) | (simp [ev, addrCmp, h7, h18, hX, hY, hw, h27, cmpB_lt hf hx hy (by assumption)]; done) | (simp [ev, addrCmp, h7, h18, hX, hY, hw, h27, cmpB_gt hf hx hy (by assumption)]; done) | (simp [ev, addrCmp, h7, h18, hX, hY, hw, h27, cmpB_end hf (by simp; omega) (by simp; omega)]; done)
        · try simp at h27
          refine pw_skip ?_
          simp only [thenP, inBlockP]
          apply hK21; try clear hK21 K21
          refine pw_seq_k fun K29 hK29 => ?_
          refine pw_region_draw mix 0 ?_
          refine pEv_split 2 fun Kr30 hKr30 => ?_
          simp [pEv, guardDec, fstep, ev, ofConst, ofScalar, setD, puts, thenP, inBlockP, List.take_succ_cons, List.drop_succ_cons, sFieldAddr, cur, find, fl24_1, h7, h18, hX, hY, hw, h27]
          apply hKr30; clear hKr30 Kr30
          refine pEv_split 2 fun Kr31 hKr31 => ?_
          simp [pEv, guardDec, fstep, ev, ofConst, ofScalar, setD, puts, thenP, inBlockP, List.take_succ_cons, List.drop_succ_cons, sIndexAddr, cur, find, el22, co5, sLoad, boxArr, ty5, h7, h18, hX, hY, hw, h27]
          apply hKr31; clear hKr31 Kr31
          refine pEv_split 2 fun Kr32 hKr32 => ?_
          simp [pEv, guardDec, fstep, ev, ofConst, ofScalar, setD, puts, thenP, inBlockP, List.take_succ_cons, List.drop_succ_cons, sFieldAddr, cur, find, fl24_1, h7, h18, hX, hY, hw, h27]
          apply hKr32; clear hKr32 Kr32
          refine pEv_split 2 fun Kr33 hKr33 => ?_
          simp [pEv, guardDec, fstep, ev, ofConst, ofScalar, setD, puts, thenP, inBlockP, List.take_succ_cons, List.drop_succ_cons, sIndexAddr, cur, find, el22, co5, sLoad, boxArr, ty5, h7, h18, hX, hY, hw, h27]
          apply hKr33; clear hKr33 Kr33
          simp [pEv, guardDec, fstep, ev, ofConst, ofScalar, setD, puts, thenP, inBlockP, List.take_succ_cons, List.drop_succ_cons, sBinH, sBin, binop, h7, h18, hX, hY, hw, h27]
          refine ⟨by decide +kernel, ?_⟩
          apply hK29; try clear hK29 K29
          refine pw_cond _ rfl (fun h34 => ?_) (fun h34 => ?_)
          · try simp at h34
            refine pw_seq_k fun K35 hK35 => ?_
            refine pw_region 0 ?_
            simp [pEv0, guardDec, fstep, ev, ofConst, ofScalar, setD, puts, thenP, inBlockP, List.take_succ_cons, List.drop_succ_cons, h7, h18, hX, hY, hw, h27, h34]
            apply hK35; try clear hK35 K35
            refine pw_ret ?_
            simp only [thenP, inBlockP, bodyQ]
            refine ⟨_, rfl, ?_⟩
            first | (simp [ev, addrCmp, h7, h18, hX, hY, hw, h27, h34]; done) | ((try clear hK35 K35); (try clear hK29 K29); (try clear hK28 K28); (try clear hK22 K22); (try clear hK21 K21); (try clear hK20 K20); (try clear hK19 K19); (try clear hK17 K17); (try clear hK16 K16); (try clear hKL15 KL15); (try clear hK14 K14); (try clear hK13 K13); (try clear hK12 K12); (try clear hK11 K11); (try clear hK9 K9); (try clear hK8 K8); (try clear hK4 K4); (try clear hK3 K3); (try clear hK1 K1); simp_all [ev, addrCmp]; done) | (simp [ev, addrCmp, h7, h18, hX, hY, hw, h27, h34, cmpB_lt hf hx hy (by assumption)]; done) | (simp [ev, addrCmp, h7, h18, hX, hY, hw, h27, h34, cmpB_gt hf hx hy (by assumption)]; done) | (simp [ev, addrCmp, h7, h18, hX, hY, hw, h27, h34, cmpB_end hf (by simp; omega) (by simp; omega)]; done)
          · try simp at h34
            refine pw_skip ?_
            simp only [thenP, inBlockP]
            apply hK19; try clear hK19 K19
            refine pw_region 0 ?_
            simp [pEv0, guardDec, fstep, ev, ofConst, ofScalar, setD, puts, thenP, inBlockP, List.take_succ_cons, List.drop_succ_cons, sBinH, sBin, binop, h7, h18, hX, hY, hw, h27, h34]
            refine hKL15 _ (m - 1) (i + 1) ?_ ?_ ?_
            · omega
            · exact ⟨by omega, cmpB_next hf hx hy (by assumption) (by assumption)⟩
            · refine Wk.forget ?_
              simp [forget, sets]
              repeat (first | exact Fg.nil | refine Fg.same ?_ | refine Fg.any ?_)
      · try simp at h18
        refine pw_exit ?_
        simp [thenP, inBlockP]
        apply hK13; try clear hK13 K13
        refine pw_seq_k fun K36 hK36 => ?_
        refine pw_region 0 ?_
        simp [pEv0, guardDec, fstep, ev, ofConst, ofScalar, setD, puts, thenP, inBlockP, List.take_succ_cons, List.drop_succ_cons, h7, h18]
        apply hK36; try clear hK36 K36
        refine pw_ret ?_
        simp only [thenP, inBlockP, bodyQ]
        refine ⟨_, rfl, ?_⟩
        first | (simp [ev, addrCmp, h7, h18]; done) | ((try clear hK36 K36); (try clear hK35 K35); (try clear hK29 K29); (try clear hK28 K28); (try clear hK22 K22); (try clear hK21 K21); (try clear hK20 K20); (try clear hK19 K19); (try clear hK17 K17); (try clear hK16 K16); (try clear hKL15 KL15); (try clear hK14 K14); (try clear hK13 K13); (try clear hK12 K12); (try clear hK11 K11); (try clear hK9 K9); (try clear hK8 K8); (try clear hK4 K4); (try clear hK3 K3); (try clear hK1 K1); simp_all [ev, addrCmp]; done) | (simp [ev, addrCmp, h7, h18, cmpB_lt hf hx hy (by assumption)]; done) | (simp [ev, addrCmp, h7, h18, cmpB_gt hf hx hy (by assumption)]; done) | (simp [ev, addrCmp, h7, h18, cmpB_end hf (by simp; omega) (by simp; omega)]; done)

set_option maxRecDepth 100000 in
theorem pcmp_pf (a b : NPoint) : PFun Try.prog 62 [a.pv, b.pv] (.int .i64 (pointCmp a b)) := by
  refine PFun.of_body (by simp) Try.func62 rfl _ rfl fun c0 => ?_
  simp only [List.cons_append, List.nil_append, List.replicate, List.length_cons, List.length_nil, Nat.reduceAdd, Nat.reduceSub, Try.ntmps62]
  refine pw_seq_k fun K1 hK1 => ?_
  refine pw_region 0 ?_
  refine pEv0_split 2 fun Kr2 hKr2 => ?_
  simp [pEv0, guardDec, fstep, ev, ofConst, ofScalar, setD, puts, thenP, inBlockP, List.take_succ_cons, List.drop_succ_cons, sBox, newBox, genOf, put, find, ty26]
  apply hKr2; clear hKr2 Kr2
  simp [pEv0, guardDec, fstep, ev, ofConst, ofScalar, setD, puts, thenP, inBlockP, List.take_succ_cons, List.drop_succ_cons]
  apply hK1; try clear hK1 K1
  refine pw_seq_k fun K3 hK3 => ?_
  refine pw_region_draw mix 0 ?_
  refine pEv_split 2 fun Kr4 hKr4 => ?_
  simp [pEv, guardDec, fstep, ev, ofConst, ofScalar, setD, puts, thenP, inBlockP, List.take_succ_cons, List.drop_succ_cons, sFieldAddr, cur, find, fl26_0, sLoad, boxArr, ty24]
  apply hKr4; clear hKr4 Kr4
  refine pEv_split 2 fun Kr5 hKr5 => ?_
  simp [pEv, guardDec, fstep, ev, ofConst, ofScalar, setD, puts, thenP, inBlockP, List.take_succ_cons, List.drop_succ_cons, sFieldAddr, cur, find, fl26_0, sLoad, boxArr, ty24]
  apply hKr5; clear hKr5 Kr5
  refine pEv_call' rfl rfl rfl (call_pure (acmp_pf _ _) en80 (by simp) _) ?_
  refine pEv_split 2 fun Kr6 hKr6 => ?_
  simp [pEv, guardDec, fstep, ev, ofConst, ofScalar, setD, puts, thenP, inBlockP, List.take_succ_cons, List.drop_succ_cons, sFieldAddr, cur, find, fl26_1, sLoad, boxArr, ty3]
  apply hKr6; clear hKr6 Kr6
  refine pEv_split 2 fun Kr7 hKr7 => ?_
  simp [pEv, guardDec, fstep, ev, ofConst, ofScalar, setD, puts, thenP, inBlockP, List.take_succ_cons, List.drop_succ_cons, sFieldAddr, cur, find, fl26_1, sLoad, boxArr, ty3]
  apply hKr7; clear hKr7 Kr7
  refine pEv_call' rfl rfl rfl (call_pure (cmpI_pf _ _) en31 (by simp) _) ?_
  refine pEv_split 1 fun Kr8 hKr8 => ?_
  simp [pEv, guardDec, fstep, ev, ofConst, ofScalar, setD, puts, thenP, inBlockP, List.take_succ_cons, List.drop_succ_cons, sBuildSlice, layParts, newBox, genOf, put, find, el65, ty3]
  apply hKr8; clear hKr8 Kr8
  refine pEv_call' rfl rfl rfl (call_view (or_pf _ (by rfl) (by simp)) en29 rfl (by rfl)) ?_
  simp [pEv, guardDec, fstep, ev, ofConst, ofScalar, setD, puts, thenP, inBlockP, List.take_succ_cons, List.drop_succ_cons]
  refine ⟨by decide +kernel, ?_⟩
  apply hK3; try clear hK3 K3
  refine pw_ret ?_
  simp only [thenP, inBlockP, bodyQ]
  refine ⟨_, rfl, ?_⟩
  first | rfl | (simp [ev, firstP, firstNZ, pointCmp]; done) | (simp [ev, firstP, firstNZ, pointCmp] <;> omega) | ((try clear hK3 K3); (try clear hK1 K1); simp_all [ev, firstP, firstNZ, pointCmp]; done)

set_option maxRecDepth 100000 in
theorem place_pf (a b : NFront) : PFun Try.prog 30 [a.pv, b.pv] (.int .i64 (placeCmp a b)) := by
  refine PFun.of_body (by simp) Try.func30 rfl _ rfl fun c0 => ?_
  simp only [List.cons_append, List.nil_append, List.replicate, List.length_cons, List.length_nil, Nat.reduceAdd, Nat.reduceSub, Try.ntmps30]
  refine pw_seq_k fun K1 hK1 => ?_
  refine pw_region 0 ?_
  refine pEv0_split 2 fun Kr2 hKr2 => ?_
  simp [pEv0, guardDec, fstep, ev, ofConst, ofScalar, setD, puts, thenP, inBlockP, List.take_succ_cons, List.drop_succ_cons, sBox, newBox, genOf, put, find, ty30]
  apply hKr2; clear hKr2 Kr2
  simp [pEv0, guardDec, fstep, ev, ofConst, ofScalar, setD, puts, thenP, inBlockP, List.take_succ_cons, List.drop_succ_cons]
  apply hK1; try clear hK1 K1
  refine pw_seq_k fun K3 hK3 => ?_
  refine pw_region_draw mix 0 ?_
  refine pEv_split 2 fun Kr4 hKr4 => ?_
  simp [pEv, guardDec, fstep, ev, ofConst, ofScalar, setD, puts, thenP, inBlockP, List.take_succ_cons, List.drop_succ_cons, sFieldAddr, cur, find, fl30_0, sLoad, boxArr, ty3]
  apply hKr4; clear hKr4 Kr4
  refine pEv_split 2 fun Kr5 hKr5 => ?_
  simp [pEv, guardDec, fstep, ev, ofConst, ofScalar, setD, puts, thenP, inBlockP, List.take_succ_cons, List.drop_succ_cons, sFieldAddr, cur, find, fl30_0, sLoad, boxArr, ty3]
  apply hKr5; clear hKr5 Kr5
  refine pEv_call' rfl rfl rfl (call_pure (cmpI_pf _ _) en31 (by simp) _) ?_
  refine pEv_split 2 fun Kr6 hKr6 => ?_
  simp [pEv, guardDec, fstep, ev, ofConst, ofScalar, setD, puts, thenP, inBlockP, List.take_succ_cons, List.drop_succ_cons, sFieldAddr, cur, find, fl30_1, sLoad, boxArr, ty26]
  apply hKr6; clear hKr6 Kr6
  refine pEv_split 2 fun Kr7 hKr7 => ?_
  simp [pEv, guardDec, fstep, ev, ofConst, ofScalar, setD, puts, thenP, inBlockP, List.take_succ_cons, List.drop_succ_cons, sFieldAddr, cur, find, fl30_1, sLoad, boxArr, ty26]
  apply hKr7; clear hKr7 Kr7
  refine pEv_call' rfl rfl rfl (call_pure (pcmp_pf _ _) en62 (by simp) _) ?_
  refine pEv_split 2 fun Kr8 hKr8 => ?_
  simp [pEv, guardDec, fstep, ev, ofConst, ofScalar, setD, puts, thenP, inBlockP, List.take_succ_cons, List.drop_succ_cons, sFieldAddr, cur, find, fl30_2, sLoad, boxArr, ty28]
  apply hKr8; clear hKr8 Kr8
  refine pEv_split 2 fun Kr9 hKr9 => ?_
  simp [pEv, guardDec, fstep, ev, ofConst, ofScalar, setD, puts, thenP, inBlockP, List.take_succ_cons, List.drop_succ_cons, sFieldAddr, cur, find, fl30_2, sLoad, boxArr, ty28]
  apply hKr9; clear hKr9 Kr9
  refine pEv_call' rfl rfl rfl (call_pure (ncmp_pf _ _) en39 (by simp) _) ?_
  refine pEv_split 2 fun Kr10 hKr10 => ?_
  simp [pEv, guardDec, fstep, ev, ofConst, ofScalar, setD, puts, thenP, inBlockP, List.take_succ_cons, List.drop_succ_cons, sFieldAddr, cur, find, fl30_3, sLoad, boxArr, ty9]
  apply hKr10; clear hKr10 Kr10
  refine pEv_split 2 fun Kr11 hKr11 => ?_
  simp [pEv, guardDec, fstep, ev, ofConst, ofScalar, setD, puts, thenP, inBlockP, List.take_succ_cons, List.drop_succ_cons, sFieldAddr, cur, find, fl30_3, sLoad, boxArr, ty9]
  apply hKr11; clear hKr11 Kr11
  refine pEv_call' rfl rfl rfl (call_pure (cmpS_pf _ _) en40 (by simp) _) ?_
  refine pEv_split 1 fun Kr12 hKr12 => ?_
  simp [pEv, guardDec, fstep, ev, ofConst, ofScalar, setD, puts, thenP, inBlockP, List.take_succ_cons, List.drop_succ_cons, sBuildSlice, layParts, newBox, genOf, put, find, el65, ty3]
  apply hKr12; clear hKr12 Kr12
  refine pEv_call' rfl rfl rfl (call_view (or_pf _ (by rfl) (by simp)) en29 rfl (by rfl)) ?_
  simp [pEv, guardDec, fstep, ev, ofConst, ofScalar, setD, puts, thenP, inBlockP, List.take_succ_cons, List.drop_succ_cons]
  refine ⟨by decide +kernel, ?_⟩
  apply hK3; try clear hK3 K3
  refine pw_ret ?_
  simp only [thenP, inBlockP, bodyQ]
  refine ⟨_, rfl, ?_⟩
  first | rfl | (simp [ev, firstP, firstNZ, placeCmp]; done) | (simp [ev, firstP, firstNZ, placeCmp] <;> omega) | ((try clear hK3 K3); (try clear hK1 K1); simp_all [ev, firstP, firstNZ, placeCmp]; done)

set_option maxRecDepth 100000 in
theorem Place_pf (a b : NFront) : PFun Try.prog 11 [a.pv, b.pv] (.bool (placeCmp a b == 0)) := by
  refine PFun.of_body (by simp) Try.func11 rfl _ rfl fun c0 => ?_
  simp only [List.cons_append, List.nil_append, List.replicate, List.length_cons, List.length_nil, Nat.reduceAdd, Nat.reduceSub, Try.ntmps11]
  refine pw_seq_k fun K1 hK1 => ?_
  refine pw_region 0 ?_
  refine pEv0_split 2 fun Kr2 hKr2 => ?_
  simp [pEv0, guardDec, fstep, ev, ofConst, ofScalar, setD, puts, thenP, inBlockP, List.take_succ_cons, List.drop_succ_cons, sBox, newBox, genOf, put, find, ty30]
  apply hKr2; clear hKr2 Kr2
  simp [pEv0, guardDec, fstep, ev, ofConst, ofScalar, setD, puts, thenP, inBlockP, List.take_succ_cons, List.drop_succ_cons]
  apply hK1; try clear hK1 K1
  refine pw_seq_k fun K3 hK3 => ?_
  refine pw_region 0 ?_
  refine pEv0_split 2 fun Kr4 hKr4 => ?_
  simp [pEv0, guardDec, fstep, ev, ofConst, ofScalar, setD, puts, thenP, inBlockP, List.take_succ_cons, List.drop_succ_cons, sLoad, boxArr, find, ty30]
  apply hKr4; clear hKr4 Kr4
  refine pEv0_call' rfl rfl rfl (call_pure (place_pf _ _) en30 (by simp) _) ?_
  simp [pEv0, guardDec, fstep, ev, ofConst, ofScalar, setD, puts, thenP, inBlockP, List.take_succ_cons, List.drop_succ_cons, sBinH, sBin, binop]
  apply hK3; try clear hK3 K3
  refine pw_ret ?_
  simp only [thenP, inBlockP, bodyQ]
  refine ⟨_, rfl, ?_⟩
  first | rfl | (simp [ev]; done) | (simp [ev] <;> omega) | ((try clear hK3 K3); (try clear hK1 K1); simp_all [ev]; done)

set_option maxRecDepth 100000 in
theorem fcmp_pf (a b : NFront) : PFun Try.prog 9 [a.pv, b.pv] (.int .i64 (frontCmp a b)) := by
  refine PFun.of_body (by simp) Try.func9 rfl _ rfl fun c0 => ?_
  simp only [List.cons_append, List.nil_append, List.replicate, List.length_cons, List.length_nil, Nat.reduceAdd, Nat.reduceSub, Try.ntmps9]
  refine pw_seq_k fun K1 hK1 => ?_
  refine pw_region 0 ?_
  refine pEv0_split 2 fun Kr2 hKr2 => ?_
  simp [pEv0, guardDec, fstep, ev, ofConst, ofScalar, setD, puts, thenP, inBlockP, List.take_succ_cons, List.drop_succ_cons, sBox, newBox, genOf, put, find, ty30]
  apply hKr2; clear hKr2 Kr2
  simp [pEv0, guardDec, fstep, ev, ofConst, ofScalar, setD, puts, thenP, inBlockP, List.take_succ_cons, List.drop_succ_cons]
  apply hK1; try clear hK1 K1
  refine pw_seq_k fun K3 hK3 => ?_
  refine pw_region_draw mix 0 ?_
  refine pEv_split 2 fun Kr4 hKr4 => ?_
  simp [pEv, guardDec, fstep, ev, ofConst, ofScalar, setD, puts, thenP, inBlockP, List.take_succ_cons, List.drop_succ_cons, sLoad, boxArr, find, ty30]
  apply hKr4; clear hKr4 Kr4
  refine pEv_call' rfl rfl rfl (call_pure (place_pf _ _) en30 (by simp) _) ?_
  refine pEv_split 2 fun Kr5 hKr5 => ?_
  simp [pEv, guardDec, fstep, ev, ofConst, ofScalar, setD, puts, thenP, inBlockP, List.take_succ_cons, List.drop_succ_cons, sFieldAddr, cur, find, fl30_4, sLoad, boxArr, ty3]
  apply hKr5; clear hKr5 Kr5
  refine pEv_split 2 fun Kr6 hKr6 => ?_
  simp [pEv, guardDec, fstep, ev, ofConst, ofScalar, setD, puts, thenP, inBlockP, List.take_succ_cons, List.drop_succ_cons, sFieldAddr, cur, find, fl30_4, sLoad, boxArr, ty3]
  apply hKr6; clear hKr6 Kr6
  refine pEv_call' rfl rfl rfl (call_pure (cmpI_pf _ _) en31 (by simp) _) ?_
  refine pEv_split 2 fun Kr7 hKr7 => ?_
  simp [pEv, guardDec, fstep, ev, ofConst, ofScalar, setD, puts, thenP, inBlockP, List.take_succ_cons, List.drop_succ_cons, sFieldAddr, cur, find, fl30_5, sLoad, boxArr, ty4]
  apply hKr7; clear hKr7 Kr7
  refine pEv_split 2 fun Kr8 hKr8 => ?_
  simp [pEv, guardDec, fstep, ev, ofConst, ofScalar, setD, puts, thenP, inBlockP, List.take_succ_cons, List.drop_succ_cons, sFieldAddr, cur, find, fl30_5, sLoad, boxArr, ty4]
  apply hKr8; clear hKr8 Kr8
  refine pEv_call' rfl rfl rfl (call_pure (truth_pf _ _) en32 (by simp) _) ?_
  refine pEv_split 2 fun Kr9 hKr9 => ?_
  simp [pEv, guardDec, fstep, ev, ofConst, ofScalar, setD, puts, thenP, inBlockP, List.take_succ_cons, List.drop_succ_cons, sFieldAddr, cur, find, fl30_6, sLoad, boxArr, ty4]
  apply hKr9; clear hKr9 Kr9
  refine pEv_split 2 fun Kr10 hKr10 => ?_
  simp [pEv, guardDec, fstep, ev, ofConst, ofScalar, setD, puts, thenP, inBlockP, List.take_succ_cons, List.drop_succ_cons, sFieldAddr, cur, find, fl30_6, sLoad, boxArr, ty4]
  apply hKr10; clear hKr10 Kr10
  refine pEv_call' rfl rfl rfl (call_pure (truth_pf _ _) en32 (by simp) _) ?_
  refine pEv_split 2 fun Kr11 hKr11 => ?_
  simp [pEv, guardDec, fstep, ev, ofConst, ofScalar, setD, puts, thenP, inBlockP, List.take_succ_cons, List.drop_succ_cons, sFieldAddr, cur, find, fl30_7, sLoad, boxArr, ty3]
  apply hKr11; clear hKr11 Kr11
  refine pEv_split 2 fun Kr12 hKr12 => ?_
  simp [pEv, guardDec, fstep, ev, ofConst, ofScalar, setD, puts, thenP, inBlockP, List.take_succ_cons, List.drop_succ_cons, sFieldAddr, cur, find, fl30_7, sLoad, boxArr, ty3]
  apply hKr12; clear hKr12 Kr12
  refine pEv_call' rfl rfl rfl (call_pure (cmpI_pf _ _) en31 (by simp) _) ?_
  refine pEv_split 1 fun Kr13 hKr13 => ?_
  simp [pEv, guardDec, fstep, ev, ofConst, ofScalar, setD, puts, thenP, inBlockP, List.take_succ_cons, List.drop_succ_cons, sBuildSlice, layParts, newBox, genOf, put, find, el65, ty3]
  apply hKr13; clear hKr13 Kr13
  refine pEv_call' rfl rfl rfl (call_view (or_pf _ (by rfl) (by simp)) en29 rfl (by rfl)) ?_
  simp [pEv, guardDec, fstep, ev, ofConst, ofScalar, setD, puts, thenP, inBlockP, List.take_succ_cons, List.drop_succ_cons]
  refine ⟨by decide +kernel, ?_⟩
  apply hK3; try clear hK3 K3
  refine pw_ret ?_
  simp only [thenP, inBlockP, bodyQ]
  refine ⟨_, rfl, ?_⟩
  first | rfl | (simp [ev, firstP, firstNZ, frontCmp]; done) | (simp [ev, firstP, firstNZ, frontCmp] <;> omega) | ((try clear hK3 K3); (try clear hK1 K1); simp_all [ev, firstP, firstNZ, frontCmp]; done)

set_option maxRecDepth 100000 in
theorem kcmp_pf (a b : NKey) : PFun Try.prog 37 [a.pv, b.pv] (.int .i64 (keyCmp a b)) := by
  refine PFun.of_body (by simp) Try.func37 rfl _ rfl fun c0 => ?_
  simp only [List.cons_append, List.nil_append, List.replicate, List.length_cons, List.length_nil, Nat.reduceAdd, Nat.reduceSub, Try.ntmps37]
  refine pw_seq_k fun K1 hK1 => ?_
  refine pw_region 0 ?_
  refine pEv0_split 2 fun Kr2 hKr2 => ?_
  simp [pEv0, guardDec, fstep, ev, ofConst, ofScalar, setD, puts, thenP, inBlockP, List.take_succ_cons, List.drop_succ_cons, sBox, newBox, genOf, put, find, ty28]
  apply hKr2; clear hKr2 Kr2
  simp [pEv0, guardDec, fstep, ev, ofConst, ofScalar, setD, puts, thenP, inBlockP, List.take_succ_cons, List.drop_succ_cons]
  apply hK1; try clear hK1 K1
  refine pw_seq_k fun K3 hK3 => ?_
  refine pw_seq_k fun K4 hK4 => ?_
  refine pw_region 0 ?_
  refine pEv0_split 2 fun Kr5 hKr5 => ?_
  simp [pEv0, guardDec, fstep, ev, ofConst, ofScalar, setD, puts, thenP, inBlockP, List.take_succ_cons, List.drop_succ_cons, sFieldAddr, cur, find, fl28_0, sLoad, boxArr, ty9]
  apply hKr5; clear hKr5 Kr5
  refine pEv0_split 2 fun Kr6 hKr6 => ?_
  simp [pEv0, guardDec, fstep, ev, ofConst, ofScalar, setD, puts, thenP, inBlockP, List.take_succ_cons, List.drop_succ_cons, sFieldAddr, cur, find, fl28_0, sLoad, boxArr, ty9]
  apply hKr6; clear hKr6 Kr6
  refine pEv0_split 2 fun Kr7 hKr7 => ?_
  simp [pEv0, guardDec, fstep, ev, ofConst, ofScalar, setD, puts, thenP, inBlockP, List.take_succ_cons, List.drop_succ_cons, sBinH, sBin, binop]
  apply hKr7; clear hKr7 Kr7
  refine pEv0_guard _ rfl (fun hg8 => ?_) (fun hg8 => ?_)
  · have hgb8 := eq_of_beq hg8
    try simp only [Bool.not_true, Bool.not_false] at hgb8
    try simp at hg8
    refine pEv0_split 2 fun Kr9 hKr9 => ?_
    simp [pEv0, guardDec, fstep, ev, ofConst, ofScalar, setD, puts, thenP, inBlockP, List.take_succ_cons, List.drop_succ_cons, sFieldAddr, cur, find, fl28_0, sLoad, boxArr, ty9, hg8, hgb8]
    apply hKr9; clear hKr9 Kr9
    refine pEv0_split 2 fun Kr10 hKr10 => ?_
    simp [pEv0, guardDec, fstep, ev, ofConst, ofScalar, setD, puts, thenP, inBlockP, List.take_succ_cons, List.drop_succ_cons, sFieldAddr, cur, find, fl28_0, sLoad, boxArr, ty9, hg8, hgb8]
    apply hKr10; clear hKr10 Kr10
    refine pEv0_split 2 fun Kr11 hKr11 => ?_
    simp [pEv0, guardDec, fstep, ev, ofConst, ofScalar, setD, puts, thenP, inBlockP, List.take_succ_cons, List.drop_succ_cons, sBinH, sBin, binop, hg8, hgb8]
    apply hKr11; clear hKr11 Kr11
    refine pEv0_guard _ rfl (fun hg12 => ?_) (fun hg12 => ?_)
    · have hgb12 := eq_of_beq hg12
      try simp only [Bool.not_true, Bool.not_false] at hgb12
      try simp at hg12
      refine pEv0_split 2 fun Kr13 hKr13 => ?_
      simp [pEv0, guardDec, fstep, ev, ofConst, ofScalar, setD, puts, thenP, inBlockP, List.take_succ_cons, List.drop_succ_cons, sFieldAddr, cur, find, fl28_1, sLoad, boxArr, ty9, hg8, hgb8, hg12, hgb12]
      apply hKr13; clear hKr13 Kr13
      refine pEv0_split 2 fun Kr14 hKr14 => ?_
      simp [pEv0, guardDec, fstep, ev, ofConst, ofScalar, setD, puts, thenP, inBlockP, List.take_succ_cons, List.drop_succ_cons, sFieldAddr, cur, find, fl28_1, sLoad, boxArr, ty9, hg8, hgb8, hg12, hgb12]
      apply hKr14; clear hKr14 Kr14
      refine pEv0_split 2 fun Kr15 hKr15 => ?_
      simp [pEv0, guardDec, fstep, ev, ofConst, ofScalar, setD, puts, thenP, inBlockP, List.take_succ_cons, List.drop_succ_cons, sBinH, sBin, binop, hg8, hgb8, hg12, hgb12]
      apply hKr15; clear hKr15 Kr15
      simp [pEv0, guardDec, fstep, ev, ofConst, ofScalar, setD, puts, thenP, inBlockP, List.take_succ_cons, List.drop_succ_cons, hg8, hgb8, hg12, hgb12]
      apply hK4; try clear hK4 K4
      refine pw_cond _ rfl (fun h16 => ?_) (fun h16 => ?_)
      · try simp at h16
        refine pw_seq_k fun K17 hK17 => ?_
        refine pw_region 0 ?_
        simp [pEv0, guardDec, fstep, ev, ofConst, ofScalar, setD, puts, thenP, inBlockP, List.take_succ_cons, List.drop_succ_cons, hg8, hgb8, hg12, hgb12, h16]
        apply hK17; try clear hK17 K17
        refine pw_ret ?_
        simp only [thenP, inBlockP, bodyQ]
        refine ⟨_, rfl, ?_⟩
        first | rfl | (simp [ev, keyCmp_eq, keyCmp', hg8, hgb8, hg12, hgb12, h16]; done) | (simp [ev, keyCmp_eq, keyCmp', hg8, hgb8, hg12, hgb12, h16] <;> omega) | ((try clear hK17 K17); (try clear hK4 K4); (try clear hK3 K3); (try clear hK1 K1); simp_all [ev, keyCmp_eq, keyCmp']; done)
      · try simp at h16
        refine pw_skip ?_
        simp only [thenP, inBlockP]
        apply hK3; try clear hK3 K3
        refine pw_seq_k fun K18 hK18 => ?_
        refine pw_seq_k fun K19 hK19 => ?_
        refine pw_region 0 ?_
        refine pEv0_split 2 fun Kr20 hKr20 => ?_
        simp [pEv0, guardDec, fstep, ev, ofConst, ofScalar, setD, puts, thenP, inBlockP, List.take_succ_cons, List.drop_succ_cons, sLoad, boxArr, find, ty28, hg8, hgb8, hg12, hgb12, h16]
        apply hKr20; clear hKr20 Kr20
        simp [pEv0, guardDec, fstep, ev, ofConst, ofScalar, setD, puts, thenP, inBlockP, List.take_succ_cons, List.drop_succ_cons, eq28, hg8, hgb8, hg12, hgb12, h16]
        apply hK19; try clear hK19 K19
        refine pw_cond _ rfl (fun h21 => ?_) (fun h21 => ?_)
        · try simp at h21
          refine pw_seq_k fun K22 hK22 => ?_
          refine pw_region 0 ?_
          simp [pEv0, guardDec, fstep, ev, ofConst, ofScalar, setD, puts, thenP, inBlockP, List.take_succ_cons, List.drop_succ_cons, hg8, hgb8, hg12, hgb12, h16, h21]
          apply hK22; try clear hK22 K22
          refine pw_ret ?_
          simp only [thenP, inBlockP, bodyQ]
          refine ⟨_, rfl, ?_⟩
          first | rfl | (simp [ev, keyCmp_eq, keyCmp', hg8, hgb8, hg12, hgb12, h16, h21]; done) | (simp [ev, keyCmp_eq, keyCmp', hg8, hgb8, hg12, hgb12, h16, h21] <;> omega) | ((try clear hK22 K22); (try clear hK19 K19); (try clear hK18 K18); (try clear hK17 K17); (try clear hK4 K4); (try clear hK3 K3); (try clear hK1 K1); simp_all [ev, keyCmp_eq, keyCmp']; done)
        · try simp at h21
          refine pw_skip ?_
          simp only [thenP, inBlockP]
          apply hK18; try clear hK18 K18
          refine pw_seq_k fun K23 hK23 => ?_
          refine pw_region 0 ?_
          simp [pEv0, guardDec, fstep, ev, ofConst, ofScalar, setD, puts, thenP, inBlockP, List.take_succ_cons, List.drop_succ_cons, hg8, hgb8, hg12, hgb12, h16, h21]
          apply hK23; try clear hK23 K23
          refine pw_ret ?_
          simp only [thenP, inBlockP, bodyQ]
          refine ⟨_, rfl, ?_⟩
          first | rfl | (simp [ev, keyCmp_eq, keyCmp', hg8, hgb8, hg12, hgb12, h16, h21]; done) | (simp [ev, keyCmp_eq, keyCmp', hg8, hgb8, hg12, hgb12, h16, h21] <;> omega) | ((try clear hK23 K23); (try clear hK22 K22); (try clear hK19 K19); (try clear hK18 K18); (try clear hK17 K17); (try clear hK4 K4); (try clear hK3 K3); (try clear hK1 K1); simp_all [ev, keyCmp_eq, keyCmp']; done)
    · have hgb12 := beq_off hg12
      try simp only [Bool.not_true, Bool.not_false] at hgb12
      try simp at hg12
      refine pEv0_split 2 fun Kr24 hKr24 => ?_
      simp [pEv0, guardDec, fstep, ev, ofConst, ofScalar, setD, puts, thenP, inBlockP, List.take_succ_cons, List.drop_succ_cons, sFieldAddr, cur, find, fl28_1, sLoad, boxArr, ty9, hg8, hgb8, hg12, hgb12]
      apply hKr24; clear hKr24 Kr24
      refine pEv0_split 2 fun Kr25 hKr25 => ?_
      simp [pEv0, guardDec, fstep, ev, ofConst, ofScalar, setD, puts, thenP, inBlockP, List.take_succ_cons, List.drop_succ_cons, sFieldAddr, cur, find, fl28_1, sLoad, boxArr, ty9, hg8, hgb8, hg12, hgb12]
      apply hKr25; clear hKr25 Kr25
      refine pEv0_split 2 fun Kr26 hKr26 => ?_
      simp [pEv0, guardDec, fstep, ev, ofConst, ofScalar, setD, puts, thenP, inBlockP, List.take_succ_cons, List.drop_succ_cons, sBinH, sBin, binop, hg8, hgb8, hg12, hgb12]
      apply hKr26; clear hKr26 Kr26
      simp [pEv0, guardDec, fstep, ev, ofConst, ofScalar, setD, puts, thenP, inBlockP, List.take_succ_cons, List.drop_succ_cons, hg8, hgb8, hg12, hgb12]
      apply hK4; try clear hK4 K4
      refine pw_cond _ rfl (fun h27 => ?_) (fun h27 => ?_)
      · simp at h27
      · clear h27
        refine pw_skip ?_
        simp only [thenP, inBlockP]
        apply hK3; try clear hK3 K3
        refine pw_seq_k fun K28 hK28 => ?_
        refine pw_seq_k fun K29 hK29 => ?_
        refine pw_region 0 ?_
        refine pEv0_split 2 fun Kr30 hKr30 => ?_
        simp [pEv0, guardDec, fstep, ev, ofConst, ofScalar, setD, puts, thenP, inBlockP, List.take_succ_cons, List.drop_succ_cons, sLoad, boxArr, find, ty28, hg8, hgb8, hg12, hgb12]
        apply hKr30; clear hKr30 Kr30
        simp [pEv0, guardDec, fstep, ev, ofConst, ofScalar, setD, puts, thenP, inBlockP, List.take_succ_cons, List.drop_succ_cons, eq28, hg8, hgb8, hg12, hgb12]
        apply hK29; try clear hK29 K29
        refine pw_cond _ rfl (fun h31 => ?_) (fun h31 => ?_)
        · try simp at h31
          refine pw_seq_k fun K32 hK32 => ?_
          refine pw_region 0 ?_
          simp [pEv0, guardDec, fstep, ev, ofConst, ofScalar, setD, puts, thenP, inBlockP, List.take_succ_cons, List.drop_succ_cons, hg8, hgb8, hg12, hgb12, h31]
          apply hK32; try clear hK32 K32
          refine pw_ret ?_
          simp only [thenP, inBlockP, bodyQ]
          refine ⟨_, rfl, ?_⟩
          first | rfl | (simp [ev, keyCmp_eq, keyCmp', hg8, hgb8, hg12, hgb12, h31]; done) | (simp [ev, keyCmp_eq, keyCmp', hg8, hgb8, hg12, hgb12, h31] <;> omega) | ((try clear hK32 K32); (try clear hK29 K29); (try clear hK28 K28); (try clear hK23 K23); (try clear hK22 K22); (try clear hK19 K19); (try clear hK18 K18); (try clear hK17 K17); (try clear hK4 K4); (try clear hK3 K3); (try clear hK1 K1); simp_all [ev, keyCmp_eq, keyCmp']; done)
        · try simp at h31
          refine pw_skip ?_
          simp only [thenP, inBlockP]
          apply hK28; try clear hK28 K28
          refine pw_seq_k fun K33 hK33 => ?_
          refine pw_region 0 ?_
          simp [pEv0, guardDec, fstep, ev, ofConst, ofScalar, setD, puts, thenP, inBlockP, List.take_succ_cons, List.drop_succ_cons, hg8, hgb8, hg12, hgb12, h31]
          apply hK33; try clear hK33 K33
          refine pw_ret ?_
          simp only [thenP, inBlockP, bodyQ]
          refine ⟨_, rfl, ?_⟩
          first | rfl | (simp [ev, keyCmp_eq, keyCmp', hg8, hgb8, hg12, hgb12, h31]; done) | (simp [ev, keyCmp_eq, keyCmp', hg8, hgb8, hg12, hgb12, h31] <;> omega) | ((try clear hK33 K33); (try clear hK32 K32); (try clear hK29 K29); (try clear hK28 K28); (try clear hK23 K23); (try clear hK22 K22); (try clear hK19 K19); (try clear hK18 K18); (try clear hK17 K17); (try clear hK4 K4); (try clear hK3 K3); (try clear hK1 K1); simp_all [ev, keyCmp_eq, keyCmp']; done)
  · have hgb8 := beq_off hg8
    try simp only [Bool.not_true, Bool.not_false] at hgb8
    try simp at hg8
    refine pEv0_split 2 fun Kr34 hKr34 => ?_
    simp [pEv0, guardDec, fstep, ev, ofConst, ofScalar, setD, puts, thenP, inBlockP, List.take_succ_cons, List.drop_succ_cons, sFieldAddr, cur, find, fl28_0, sLoad, boxArr, ty9, hg8, hgb8]
    apply hKr34; clear hKr34 Kr34
    refine pEv0_split 2 fun Kr35 hKr35 => ?_
    simp [pEv0, guardDec, fstep, ev, ofConst, ofScalar, setD, puts, thenP, inBlockP, List.take_succ_cons, List.drop_succ_cons, sFieldAddr, cur, find, fl28_0, sLoad, boxArr, ty9, hg8, hgb8]
    apply hKr35; clear hKr35 Kr35
    refine pEv0_split 2 fun Kr36 hKr36 => ?_
    simp [pEv0, guardDec, fstep, ev, ofConst, ofScalar, setD, puts, thenP, inBlockP, List.take_succ_cons, List.drop_succ_cons, sBinH, sBin, binop, hg8, hgb8]
    apply hKr36; clear hKr36 Kr36
    refine pEv0_split 2 fun Kr37 hKr37 => ?_
    simp [pEv0, guardDec, fstep, ev, ofConst, ofScalar, setD, puts, thenP, inBlockP, List.take_succ_cons, List.drop_succ_cons, sFieldAddr, cur, find, fl28_1, sLoad, boxArr, ty9, hg8, hgb8]
    apply hKr37; clear hKr37 Kr37
    refine pEv0_split 2 fun Kr38 hKr38 => ?_
    simp [pEv0, guardDec, fstep, ev, ofConst, ofScalar, setD, puts, thenP, inBlockP, List.take_succ_cons, List.drop_succ_cons, sFieldAddr, cur, find, fl28_1, sLoad, boxArr, ty9, hg8, hgb8]
    apply hKr38; clear hKr38 Kr38
    refine pEv0_split 2 fun Kr39 hKr39 => ?_
    simp [pEv0, guardDec, fstep, ev, ofConst, ofScalar, setD, puts, thenP, inBlockP, List.take_succ_cons, List.drop_succ_cons, sBinH, sBin, binop, hg8, hgb8]
    apply hKr39; clear hKr39 Kr39
    simp [pEv0, guardDec, fstep, ev, ofConst, ofScalar, setD, puts, thenP, inBlockP, List.take_succ_cons, List.drop_succ_cons, hg8, hgb8]
    apply hK4; try clear hK4 K4
    refine pw_cond _ rfl (fun h40 => ?_) (fun h40 => ?_)
    · clear h40
      refine pw_seq_k fun K41 hK41 => ?_
      refine pw_region 0 ?_
      simp [pEv0, guardDec, fstep, ev, ofConst, ofScalar, setD, puts, thenP, inBlockP, List.take_succ_cons, List.drop_succ_cons, hg8, hgb8]
      apply hK41; try clear hK41 K41
      refine pw_ret ?_
      simp only [thenP, inBlockP, bodyQ]
      refine ⟨_, rfl, ?_⟩
      first | rfl | (simp [ev, keyCmp_eq, keyCmp', hg8, hgb8]; done) | (simp [ev, keyCmp_eq, keyCmp', hg8, hgb8] <;> omega) | ((try clear hK41 K41); (try clear hK33 K33); (try clear hK32 K32); (try clear hK29 K29); (try clear hK28 K28); (try clear hK23 K23); (try clear hK22 K22); (try clear hK19 K19); (try clear hK18 K18); (try clear hK17 K17); (try clear hK4 K4); (try clear hK3 K3); (try clear hK1 K1); simp_all [ev, keyCmp_eq, keyCmp']; done)
    · simp at h40

set_option maxRecDepth 100000 in
theorem ptcmp_pf (a b : NPoint) : PFun Try.prog 36 [a.pv, b.pv] (.int .i64 (pointCmp a b)) := by
  refine PFun.of_body (by simp) Try.func36 rfl _ rfl fun c0 => ?_
  simp only [List.cons_append, List.nil_append, List.replicate, List.length_cons, List.length_nil, Nat.reduceAdd, Nat.reduceSub, Try.ntmps36]
  refine pw_seq_k fun K1 hK1 => ?_
  refine pw_region 0 ?_
  refine pEv0_split 2 fun Kr2 hKr2 => ?_
  simp [pEv0, guardDec, fstep, ev, ofConst, ofScalar, setD, puts, thenP, inBlockP, List.take_succ_cons, List.drop_succ_cons, sBox, newBox, genOf, put, find, ty26]
  apply hKr2; clear hKr2 Kr2
  simp [pEv0, guardDec, fstep, ev, ofConst, ofScalar, setD, puts, thenP, inBlockP, List.take_succ_cons, List.drop_succ_cons]
  apply hK1; try clear hK1 K1
  refine pw_seq_k fun K3 hK3 => ?_
  refine pw_seq_k fun K4 hK4 => ?_
  refine pw_region 0 ?_
  refine pEv0_split 2 fun Kr5 hKr5 => ?_
  simp [pEv0, guardDec, fstep, ev, ofConst, ofScalar, setD, puts, thenP, inBlockP, List.take_succ_cons, List.drop_succ_cons, sFieldAddr, cur, find, fl26_0, sLoad, boxArr, ty24]
  apply hKr5; clear hKr5 Kr5
  refine pEv0_split 2 fun Kr6 hKr6 => ?_
  simp [pEv0, guardDec, fstep, ev, ofConst, ofScalar, setD, puts, thenP, inBlockP, List.take_succ_cons, List.drop_succ_cons, sFieldAddr, cur, find, fl26_0, sLoad, boxArr, ty24]
  apply hKr6; clear hKr6 Kr6
  refine pEv0_call' rfl rfl rfl (call_pure (rcmp_pf _ _) en65 (by simp) _) ?_
  simp [pEv0, guardDec, fstep, ev, ofConst, ofScalar, setD, puts, thenP, inBlockP, List.take_succ_cons, List.drop_succ_cons]
  apply hK4; try clear hK4 K4
  refine pw_seq_k fun K7 hK7 => ?_
  refine pw_region 0 ?_
  simp [pEv0, guardDec, fstep, ev, ofConst, ofScalar, setD, puts, thenP, inBlockP, List.take_succ_cons, List.drop_succ_cons, sBinH, sBin, binop]
  apply hK7; try clear hK7 K7
  refine pw_cond _ rfl (fun h8 => ?_) (fun h8 => ?_)
  · try simp at h8
    refine pw_seq_k fun K9 hK9 => ?_
    refine pw_region 0 ?_
    simp [pEv0, guardDec, fstep, ev, ofConst, ofScalar, setD, puts, thenP, inBlockP, List.take_succ_cons, List.drop_succ_cons, h8]
    apply hK9; try clear hK9 K9
    refine pw_ret ?_
    simp only [thenP, inBlockP, bodyQ]
    refine ⟨_, rfl, ?_⟩
    first | rfl | (simp [ev, pointCmp, firstNZ, cmpI, h8]; done) | (simp [ev, pointCmp, firstNZ, cmpI, h8] <;> omega) | ((try clear hK9 K9); (try clear hK7 K7); (try clear hK4 K4); (try clear hK3 K3); (try clear hK1 K1); simp_all [ev, pointCmp, firstNZ, cmpI]; done)
  · try simp at h8
    refine pw_skip ?_
    simp only [thenP, inBlockP]
    apply hK3; try clear hK3 K3
    refine pw_seq_k fun K10 hK10 => ?_
    refine pw_seq_k fun K11 hK11 => ?_
    refine pw_region 0 ?_
    refine pEv0_split 2 fun Kr12 hKr12 => ?_
    simp [pEv0, guardDec, fstep, ev, ofConst, ofScalar, setD, puts, thenP, inBlockP, List.take_succ_cons, List.drop_succ_cons, sFieldAddr, cur, find, fl26_1, sLoad, boxArr, ty3, h8]
    apply hKr12; clear hKr12 Kr12
    refine pEv0_split 2 fun Kr13 hKr13 => ?_
    simp [pEv0, guardDec, fstep, ev, ofConst, ofScalar, setD, puts, thenP, inBlockP, List.take_succ_cons, List.drop_succ_cons, sFieldAddr, cur, find, fl26_1, sLoad, boxArr, ty3, h8]
    apply hKr13; clear hKr13 Kr13
    simp [pEv0, guardDec, fstep, ev, ofConst, ofScalar, setD, puts, thenP, inBlockP, List.take_succ_cons, List.drop_succ_cons, sBinH, sBin, binop, h8]
    apply hK11; try clear hK11 K11
    refine pw_cond _ rfl (fun h14 => ?_) (fun h14 => ?_)
    · try simp at h14
      refine pw_seq_k fun K15 hK15 => ?_
      refine pw_region 0 ?_
      simp [pEv0, guardDec, fstep, ev, ofConst, ofScalar, setD, puts, thenP, inBlockP, List.take_succ_cons, List.drop_succ_cons, h8, h14]
      apply hK15; try clear hK15 K15
      refine pw_ret ?_
      simp only [thenP, inBlockP, bodyQ]
      refine ⟨_, rfl, ?_⟩
      first | rfl | (simp [ev, pointCmp, firstNZ, cmpI, h8, h14]; done) | (simp [ev, pointCmp, firstNZ, cmpI, h8, h14] <;> omega) | ((try clear hK15 K15); (try clear hK11 K11); (try clear hK10 K10); (try clear hK9 K9); (try clear hK7 K7); (try clear hK4 K4); (try clear hK3 K3); (try clear hK1 K1); simp_all [ev, pointCmp, firstNZ, cmpI]; done)
    · try simp at h14
      refine pw_skip ?_
      simp only [thenP, inBlockP]
      apply hK10; try clear hK10 K10
      refine pw_seq_k fun K16 hK16 => ?_
      refine pw_seq_k fun K17 hK17 => ?_
      refine pw_region 0 ?_
      refine pEv0_split 2 fun Kr18 hKr18 => ?_
      simp [pEv0, guardDec, fstep, ev, ofConst, ofScalar, setD, puts, thenP, inBlockP, List.take_succ_cons, List.drop_succ_cons, sFieldAddr, cur, find, fl26_1, sLoad, boxArr, ty3, h8, h14]
      apply hKr18; clear hKr18 Kr18
      refine pEv0_split 2 fun Kr19 hKr19 => ?_
      simp [pEv0, guardDec, fstep, ev, ofConst, ofScalar, setD, puts, thenP, inBlockP, List.take_succ_cons, List.drop_succ_cons, sFieldAddr, cur, find, fl26_1, sLoad, boxArr, ty3, h8, h14]
      apply hKr19; clear hKr19 Kr19
      simp [pEv0, guardDec, fstep, ev, ofConst, ofScalar, setD, puts, thenP, inBlockP, List.take_succ_cons, List.drop_succ_cons, sBinH, sBin, binop, h8, h14]
      apply hK17; try clear hK17 K17
      refine pw_cond _ rfl (fun h20 => ?_) (fun h20 => ?_)
      · try simp at h20
        refine pw_seq_k fun K21 hK21 => ?_
        refine pw_region 0 ?_
        simp [pEv0, guardDec, fstep, ev, ofConst, ofScalar, setD, puts, thenP, inBlockP, List.take_succ_cons, List.drop_succ_cons, h8, h14, h20]
        apply hK21; try clear hK21 K21
        refine pw_ret ?_
        simp only [thenP, inBlockP, bodyQ]
        refine ⟨_, rfl, ?_⟩
        first | rfl | (simp [ev, pointCmp, firstNZ, cmpI, h8, h14, h20]; done) | (simp [ev, pointCmp, firstNZ, cmpI, h8, h14, h20] <;> omega) | ((try clear hK21 K21); (try clear hK17 K17); (try clear hK16 K16); (try clear hK15 K15); (try clear hK11 K11); (try clear hK10 K10); (try clear hK9 K9); (try clear hK7 K7); (try clear hK4 K4); (try clear hK3 K3); (try clear hK1 K1); simp_all [ev, pointCmp, firstNZ, cmpI]; done)
      · try simp at h20
        refine pw_skip ?_
        simp only [thenP, inBlockP]
        apply hK16; try clear hK16 K16
        refine pw_seq_k fun K22 hK22 => ?_
        refine pw_region 0 ?_
        simp [pEv0, guardDec, fstep, ev, ofConst, ofScalar, setD, puts, thenP, inBlockP, List.take_succ_cons, List.drop_succ_cons, h8, h14, h20]
        apply hK22; try clear hK22 K22
        refine pw_ret ?_
        simp only [thenP, inBlockP, bodyQ]
        refine ⟨_, rfl, ?_⟩
        first | rfl | (simp [ev, pointCmp, firstNZ, cmpI, h8, h14, h20]; done) | (simp [ev, pointCmp, firstNZ, cmpI, h8, h14, h20] <;> omega) | ((try clear hK22 K22); (try clear hK21 K21); (try clear hK17 K17); (try clear hK16 K16); (try clear hK15 K15); (try clear hK11 K11); (try clear hK10 K10); (try clear hK9 K9); (try clear hK7 K7); (try clear hK4 K4); (try clear hK3 K3); (try clear hK1 K1); simp_all [ev, pointCmp, firstNZ, cmpI]; done)

set_option maxRecDepth 100000 in
theorem rplace_pf (a b : NFront) : PFun Try.prog 12 [a.pv, b.pv] (.int .i64 (placeCmp a b)) := by
  refine PFun.of_body (by simp) Try.func12 rfl _ rfl fun c0 => ?_
  simp only [List.cons_append, List.nil_append, List.replicate, List.length_cons, List.length_nil, Nat.reduceAdd, Nat.reduceSub, Try.ntmps12]
  refine pw_seq_k fun K1 hK1 => ?_
  refine pw_region 0 ?_
  refine pEv0_split 2 fun Kr2 hKr2 => ?_
  simp [pEv0, guardDec, fstep, ev, ofConst, ofScalar, setD, puts, thenP, inBlockP, List.take_succ_cons, List.drop_succ_cons, sBox, newBox, genOf, put, find, ty36]
  apply hKr2; clear hKr2 Kr2
  simp [pEv0, guardDec, fstep, ev, ofConst, ofScalar, setD, puts, thenP, inBlockP, List.take_succ_cons, List.drop_succ_cons]
  apply hK1; try clear hK1 K1
  refine pw_seq_k fun K3 hK3 => ?_
  refine pw_region_draw mix 0 ?_
  refine pEv_split 2 fun Kr4 hKr4 => ?_
  simp [pEv, guardDec, fstep, ev, ofConst, ofScalar, setD, puts, thenP, inBlockP, List.take_succ_cons, List.drop_succ_cons, sFieldAddr, cur, find, fl36_0, sLoad, boxArr, ty3]
  apply hKr4; clear hKr4 Kr4
  refine pEv_split 2 fun Kr5 hKr5 => ?_
  simp [pEv, guardDec, fstep, ev, ofConst, ofScalar, setD, puts, thenP, inBlockP, List.take_succ_cons, List.drop_succ_cons, sFieldAddr, cur, find, fl36_0, sLoad, boxArr, ty3]
  apply hKr5; clear hKr5 Kr5
  refine pEv_call' rfl rfl rfl (call_pure (less_pf _ _) en34 (by simp) _) ?_
  refine pEv_split 2 fun Kr6 hKr6 => ?_
  simp [pEv, guardDec, fstep, ev, ofConst, ofScalar, setD, puts, thenP, inBlockP, List.take_succ_cons, List.drop_succ_cons, sFieldAddr, cur, find, fl36_1, sLoad, boxArr, ty26]
  apply hKr6; clear hKr6 Kr6
  refine pEv_split 2 fun Kr7 hKr7 => ?_
  simp [pEv, guardDec, fstep, ev, ofConst, ofScalar, setD, puts, thenP, inBlockP, List.take_succ_cons, List.drop_succ_cons, sFieldAddr, cur, find, fl36_1, sLoad, boxArr, ty26]
  apply hKr7; clear hKr7 Kr7
  refine pEv_call' rfl rfl rfl (call_pure (ptcmp_pf _ _) en36 (by simp) _) ?_
  refine pEv_split 2 fun Kr8 hKr8 => ?_
  simp [pEv, guardDec, fstep, ev, ofConst, ofScalar, setD, puts, thenP, inBlockP, List.take_succ_cons, List.drop_succ_cons, sFieldAddr, cur, find, fl36_2, sLoad, boxArr, ty28]
  apply hKr8; clear hKr8 Kr8
  refine pEv_split 2 fun Kr9 hKr9 => ?_
  simp [pEv, guardDec, fstep, ev, ofConst, ofScalar, setD, puts, thenP, inBlockP, List.take_succ_cons, List.drop_succ_cons, sFieldAddr, cur, find, fl36_2, sLoad, boxArr, ty28]
  apply hKr9; clear hKr9 Kr9
  refine pEv_call' rfl rfl rfl (call_pure (kcmp_pf _ _) en37 (by simp) _) ?_
  refine pEv_split 2 fun Kr10 hKr10 => ?_
  simp [pEv, guardDec, fstep, ev, ofConst, ofScalar, setD, puts, thenP, inBlockP, List.take_succ_cons, List.drop_succ_cons, sFieldAddr, cur, find, fl36_3, sLoad, boxArr, ty9]
  apply hKr10; clear hKr10 Kr10
  refine pEv_split 2 fun Kr11 hKr11 => ?_
  simp [pEv, guardDec, fstep, ev, ofConst, ofScalar, setD, puts, thenP, inBlockP, List.take_succ_cons, List.drop_succ_cons, sFieldAddr, cur, find, fl36_3, sLoad, boxArr, ty9]
  apply hKr11; clear hKr11 Kr11
  refine pEv_call' rfl rfl rfl (call_pure (text_pf _ _) en38 (by simp) _) ?_
  refine pEv_split 1 fun Kr12 hKr12 => ?_
  simp [pEv, guardDec, fstep, ev, ofConst, ofScalar, setD, puts, thenP, inBlockP, List.take_succ_cons, List.drop_succ_cons, sBuildSlice, layParts, newBox, genOf, put, find, el65, ty3]
  apply hKr12; clear hKr12 Kr12
  refine pEv_call' rfl rfl rfl (call_view (fst_pf _ (by rfl) (by simp)) en33 rfl (by rfl)) ?_
  simp [pEv, guardDec, fstep, ev, ofConst, ofScalar, setD, puts, thenP, inBlockP, List.take_succ_cons, List.drop_succ_cons]
  refine ⟨by decide +kernel, ?_⟩
  apply hK3; try clear hK3 K3
  refine pw_ret ?_
  simp only [thenP, inBlockP, bodyQ]
  refine ⟨_, rfl, ?_⟩
  first | rfl | (simp [ev, firstP, firstNZ, placeCmp]; done) | (simp [ev, firstP, firstNZ, placeCmp] <;> omega) | ((try clear hK3 K3); (try clear hK1 K1); simp_all [ev, firstP, firstNZ, placeCmp]; done)

set_option maxRecDepth 100000 in
theorem ridcmp_pf (a b : NId) : PFun Try.prog 14 [a.pv, b.pv] (.int .i64 (idCmp a b)) := by
  refine PFun.of_body (by simp) Try.func14 rfl _ rfl fun c0 => ?_
  simp only [List.cons_append, List.nil_append, List.replicate, List.length_cons, List.length_nil, Nat.reduceAdd, Nat.reduceSub, Try.ntmps14]
  refine pw_seq_k fun K1 hK1 => ?_
  refine pw_region 0 ?_
  refine pEv0_split 2 fun Kr2 hKr2 => ?_
  simp [pEv0, guardDec, fstep, ev, ofConst, ofScalar, setD, puts, thenP, inBlockP, List.take_succ_cons, List.drop_succ_cons, sBox, newBox, genOf, put, find, ty37]
  apply hKr2; clear hKr2 Kr2
  simp [pEv0, guardDec, fstep, ev, ofConst, ofScalar, setD, puts, thenP, inBlockP, List.take_succ_cons, List.drop_succ_cons]
  apply hK1; try clear hK1 K1
  refine pw_seq_k fun K3 hK3 => ?_
  refine pw_region_draw mix 0 ?_
  refine pEv_split 2 fun Kr4 hKr4 => ?_
  simp [pEv, guardDec, fstep, ev, ofConst, ofScalar, setD, puts, thenP, inBlockP, List.take_succ_cons, List.drop_succ_cons, sFieldAddr, cur, find, fl37_0, sLoad, boxArr, ty28]
  apply hKr4; clear hKr4 Kr4
  refine pEv_split 2 fun Kr5 hKr5 => ?_
  simp [pEv, guardDec, fstep, ev, ofConst, ofScalar, setD, puts, thenP, inBlockP, List.take_succ_cons, List.drop_succ_cons, sFieldAddr, cur, find, fl37_0, sLoad, boxArr, ty28]
  apply hKr5; clear hKr5 Kr5
  refine pEv_call' rfl rfl rfl (call_pure (kcmp_pf _ _) en37 (by simp) _) ?_
  refine pEv_split 2 fun Kr6 hKr6 => ?_
  simp [pEv, guardDec, fstep, ev, ofConst, ofScalar, setD, puts, thenP, inBlockP, List.take_succ_cons, List.drop_succ_cons, sFieldAddr, cur, find, fl37_1, sLoad, boxArr, ty9]
  apply hKr6; clear hKr6 Kr6
  refine pEv_split 2 fun Kr7 hKr7 => ?_
  simp [pEv, guardDec, fstep, ev, ofConst, ofScalar, setD, puts, thenP, inBlockP, List.take_succ_cons, List.drop_succ_cons, sFieldAddr, cur, find, fl37_1, sLoad, boxArr, ty9]
  apply hKr7; clear hKr7 Kr7
  refine pEv_call' rfl rfl rfl (call_pure (text_pf _ _) en38 (by simp) _) ?_
  refine pEv_split 2 fun Kr8 hKr8 => ?_
  simp [pEv, guardDec, fstep, ev, ofConst, ofScalar, setD, puts, thenP, inBlockP, List.take_succ_cons, List.drop_succ_cons, sFieldAddr, cur, find, fl37_2, sLoad, boxArr, ty4]
  apply hKr8; clear hKr8 Kr8
  refine pEv_call' rfl rfl rfl (call_pure (n_pf _) en35 (by simp) _) ?_
  refine pEv_split 2 fun Kr9 hKr9 => ?_
  simp [pEv, guardDec, fstep, ev, ofConst, ofScalar, setD, puts, thenP, inBlockP, List.take_succ_cons, List.drop_succ_cons, sFieldAddr, cur, find, fl37_2, sLoad, boxArr, ty4]
  apply hKr9; clear hKr9 Kr9
  refine pEv_call' rfl rfl rfl (call_pure (n_pf _) en35 (by simp) _) ?_
  refine pEv_call' rfl rfl rfl (call_pure (less_pf _ _) en34 (by simp) _) ?_
  refine pEv_split 2 fun Kr10 hKr10 => ?_
  simp [pEv, guardDec, fstep, ev, ofConst, ofScalar, setD, puts, thenP, inBlockP, List.take_succ_cons, List.drop_succ_cons, sFieldAddr, cur, find, fl37_3, sLoad, boxArr, ty4]
  apply hKr10; clear hKr10 Kr10
  refine pEv_call' rfl rfl rfl (call_pure (n_pf _) en35 (by simp) _) ?_
  refine pEv_split 2 fun Kr11 hKr11 => ?_
  simp [pEv, guardDec, fstep, ev, ofConst, ofScalar, setD, puts, thenP, inBlockP, List.take_succ_cons, List.drop_succ_cons, sFieldAddr, cur, find, fl37_3, sLoad, boxArr, ty4]
  apply hKr11; clear hKr11 Kr11
  refine pEv_call' rfl rfl rfl (call_pure (n_pf _) en35 (by simp) _) ?_
  refine pEv_call' rfl rfl rfl (call_pure (less_pf _ _) en34 (by simp) _) ?_
  refine pEv_split 1 fun Kr12 hKr12 => ?_
  simp [pEv, guardDec, fstep, ev, ofConst, ofScalar, setD, puts, thenP, inBlockP, List.take_succ_cons, List.drop_succ_cons, sBuildSlice, layParts, newBox, genOf, put, find, el65, ty3]
  apply hKr12; clear hKr12 Kr12
  refine pEv_call' rfl rfl rfl (call_view (fst_pf _ (by rfl) (by simp)) en33 rfl (by rfl)) ?_
  simp [pEv, guardDec, fstep, ev, ofConst, ofScalar, setD, puts, thenP, inBlockP, List.take_succ_cons, List.drop_succ_cons]
  refine ⟨by decide +kernel, ?_⟩
  apply hK3; try clear hK3 K3
  refine pw_ret ?_
  simp only [thenP, inBlockP, bodyQ]
  refine ⟨_, rfl, ?_⟩
  first | rfl | (simp [ev, firstP, firstNZ, idCmp]; done) | (simp [ev, firstP, firstNZ, idCmp] <;> omega) | ((try clear hK3 K3); (try clear hK1 K1); simp_all [ev, firstP, firstNZ, idCmp]; done)

set_option maxRecDepth 100000 in
theorem rfcmp_pf (a b : NFront) : PFun Try.prog 10 [a.pv, b.pv] (.int .i64 (frontCmp a b)) := by
  refine PFun.of_body (by simp) Try.func10 rfl _ rfl fun c0 => ?_
  simp only [List.cons_append, List.nil_append, List.replicate, List.length_cons, List.length_nil, Nat.reduceAdd, Nat.reduceSub, Try.ntmps10]
  refine pw_seq_k fun K1 hK1 => ?_
  refine pw_region 0 ?_
  refine pEv0_split 2 fun Kr2 hKr2 => ?_
  simp [pEv0, guardDec, fstep, ev, ofConst, ofScalar, setD, puts, thenP, inBlockP, List.take_succ_cons, List.drop_succ_cons, sBox, newBox, genOf, put, find, ty36]
  apply hKr2; clear hKr2 Kr2
  simp [pEv0, guardDec, fstep, ev, ofConst, ofScalar, setD, puts, thenP, inBlockP, List.take_succ_cons, List.drop_succ_cons]
  apply hK1; try clear hK1 K1
  refine pw_seq_k fun K3 hK3 => ?_
  refine pw_region_draw mix 0 ?_
  refine pEv_split 2 fun Kr4 hKr4 => ?_
  simp [pEv, guardDec, fstep, ev, ofConst, ofScalar, setD, puts, thenP, inBlockP, List.take_succ_cons, List.drop_succ_cons, sLoad, boxArr, find, ty36]
  apply hKr4; clear hKr4 Kr4
  refine pEv_call' rfl rfl rfl (call_pure (rplace_pf _ _) en12 (by simp) _) ?_
  refine pEv_split 2 fun Kr5 hKr5 => ?_
  simp [pEv, guardDec, fstep, ev, ofConst, ofScalar, setD, puts, thenP, inBlockP, List.take_succ_cons, List.drop_succ_cons, sFieldAddr, cur, find, fl36_4, sLoad, boxArr, ty3]
  apply hKr5; clear hKr5 Kr5
  refine pEv_split 2 fun Kr6 hKr6 => ?_
  simp [pEv, guardDec, fstep, ev, ofConst, ofScalar, setD, puts, thenP, inBlockP, List.take_succ_cons, List.drop_succ_cons, sFieldAddr, cur, find, fl36_4, sLoad, boxArr, ty3]
  apply hKr6; clear hKr6 Kr6
  refine pEv_call' rfl rfl rfl (call_pure (less_pf _ _) en34 (by simp) _) ?_
  refine pEv_split 2 fun Kr7 hKr7 => ?_
  simp [pEv, guardDec, fstep, ev, ofConst, ofScalar, setD, puts, thenP, inBlockP, List.take_succ_cons, List.drop_succ_cons, sFieldAddr, cur, find, fl36_5, sLoad, boxArr, ty4]
  apply hKr7; clear hKr7 Kr7
  refine pEv_call' rfl rfl rfl (call_pure (n_pf _) en35 (by simp) _) ?_
  refine pEv_split 2 fun Kr8 hKr8 => ?_
  simp [pEv, guardDec, fstep, ev, ofConst, ofScalar, setD, puts, thenP, inBlockP, List.take_succ_cons, List.drop_succ_cons, sFieldAddr, cur, find, fl36_5, sLoad, boxArr, ty4]
  apply hKr8; clear hKr8 Kr8
  refine pEv_call' rfl rfl rfl (call_pure (n_pf _) en35 (by simp) _) ?_
  refine pEv_call' rfl rfl rfl (call_pure (less_pf _ _) en34 (by simp) _) ?_
  refine pEv_split 2 fun Kr9 hKr9 => ?_
  simp [pEv, guardDec, fstep, ev, ofConst, ofScalar, setD, puts, thenP, inBlockP, List.take_succ_cons, List.drop_succ_cons, sFieldAddr, cur, find, fl36_6, sLoad, boxArr, ty4]
  apply hKr9; clear hKr9 Kr9
  refine pEv_call' rfl rfl rfl (call_pure (n_pf _) en35 (by simp) _) ?_
  refine pEv_split 2 fun Kr10 hKr10 => ?_
  simp [pEv, guardDec, fstep, ev, ofConst, ofScalar, setD, puts, thenP, inBlockP, List.take_succ_cons, List.drop_succ_cons, sFieldAddr, cur, find, fl36_6, sLoad, boxArr, ty4]
  apply hKr10; clear hKr10 Kr10
  refine pEv_call' rfl rfl rfl (call_pure (n_pf _) en35 (by simp) _) ?_
  refine pEv_call' rfl rfl rfl (call_pure (less_pf _ _) en34 (by simp) _) ?_
  refine pEv_split 2 fun Kr11 hKr11 => ?_
  simp [pEv, guardDec, fstep, ev, ofConst, ofScalar, setD, puts, thenP, inBlockP, List.take_succ_cons, List.drop_succ_cons, sFieldAddr, cur, find, fl36_7, sLoad, boxArr, ty3]
  apply hKr11; clear hKr11 Kr11
  refine pEv_split 2 fun Kr12 hKr12 => ?_
  simp [pEv, guardDec, fstep, ev, ofConst, ofScalar, setD, puts, thenP, inBlockP, List.take_succ_cons, List.drop_succ_cons, sFieldAddr, cur, find, fl36_7, sLoad, boxArr, ty3]
  apply hKr12; clear hKr12 Kr12
  refine pEv_call' rfl rfl rfl (call_pure (less_pf _ _) en34 (by simp) _) ?_
  refine pEv_split 1 fun Kr13 hKr13 => ?_
  simp [pEv, guardDec, fstep, ev, ofConst, ofScalar, setD, puts, thenP, inBlockP, List.take_succ_cons, List.drop_succ_cons, sBuildSlice, layParts, newBox, genOf, put, find, el65, ty3]
  apply hKr13; clear hKr13 Kr13
  refine pEv_call' rfl rfl rfl (call_view (fst_pf _ (by rfl) (by simp)) en33 rfl (by rfl)) ?_
  simp [pEv, guardDec, fstep, ev, ofConst, ofScalar, setD, puts, thenP, inBlockP, List.take_succ_cons, List.drop_succ_cons]
  refine ⟨by decide +kernel, ?_⟩
  apply hK3; try clear hK3 K3
  refine pw_ret ?_
  simp only [thenP, inBlockP, bodyQ]
  refine ⟨_, rfl, ?_⟩
  first | rfl | (simp [ev, firstP, firstNZ, frontCmp]; done) | (simp [ev, firstP, firstNZ, frontCmp] <;> omega) | ((try clear hK3 K3); (try clear hK1 K1); simp_all [ev, firstP, firstNZ, frontCmp]; done)

set_option maxRecDepth 100000 in
theorem order_pf (a b : NFront) (i j : NId) : PFun Try.prog 3 [a.pv, b.pv, twoPv i j] (.bool true) := by
  refine PFun.of_body (by simp) Try.func3 rfl _ rfl fun c0 => ?_
  simp only [List.cons_append, List.nil_append, List.replicate, List.length_cons, List.length_nil, Nat.reduceAdd, Nat.reduceSub, Try.ntmps3]
  refine pw_seq_k fun K1 hK1 => ?_
  refine pw_region 0 ?_
  refine pEv0_split 2 fun Kr2 hKr2 => ?_
  simp [pEv0, guardDec, fstep, ev, ofConst, ofScalar, setD, puts, thenP, inBlockP, List.take_succ_cons, List.drop_succ_cons, sBox, newBox, genOf, put, find, ty30]
  apply hKr2; clear hKr2 Kr2
  simp [pEv0, guardDec, fstep, ev, ofConst, ofScalar, setD, puts, thenP, inBlockP, List.take_succ_cons, List.drop_succ_cons, sBox, newBox, genOf, put, find, ty33]
  apply hK1; try clear hK1 K1
  refine pw_seq_k fun K3 hK3 => ?_
  refine pw_seq_k fun K4 hK4 => ?_
  refine pw_region 0 ?_
  refine pEv0_call' rfl rfl rfl (call_pure alive_pf.1 alive_pf.2 rfl _) ?_
  simp [pEv0, guardDec, fstep, ev, ofConst, ofScalar, setD, puts, thenP, inBlockP, List.take_succ_cons, List.drop_succ_cons]
  apply hK4; try clear hK4 K4
  refine pw_cond _ rfl (fun h5 => ?_) (fun h5 => ?_)
  · simp at h5
  · clear h5
    refine pw_skip ?_
    simp only [thenP, inBlockP]
    apply hK3; try clear hK3 K3
    refine pw_seq_k fun K6 hK6 => ?_
    refine pw_seq_k fun K7 hK7 => ?_
    refine pw_region 0 ?_
    refine pEv0_split 2 fun Kr8 hKr8 => ?_
    simp [pEv0, guardDec, fstep, ev, ofConst, ofScalar, setD, puts, thenP, inBlockP, List.take_succ_cons, List.drop_succ_cons, sFieldAddr, cur, find, fl30_3, sLoad, boxArr, ty9]
    apply hKr8; clear hKr8 Kr8
    refine pEv0_split 2 fun Kr9 hKr9 => ?_
    simp [pEv0, guardDec, fstep, ev, ofConst, ofScalar, setD, puts, thenP, inBlockP, List.take_succ_cons, List.drop_succ_cons, sFieldAddr, cur, find, fl30_3, sLoad, boxArr, ty9]
    apply hKr9; clear hKr9 Kr9
    refine pEv0_split 2 fun Kr10 hKr10 => ?_
    simp [pEv0, guardDec, fstep, ev, ofConst, ofScalar, setD, puts, thenP, inBlockP, List.take_succ_cons, List.drop_succ_cons, sFieldAddr, cur, find, fl30_2, fl28_0]
    apply hKr10; clear hKr10 Kr10
    refine pEv0_split 2 fun Kr11 hKr11 => ?_
    simp [pEv0, guardDec, fstep, ev, ofConst, ofScalar, setD, puts, thenP, inBlockP, List.take_succ_cons, List.drop_succ_cons, sLoad, boxArr, find, ty9, sFieldAddr, cur, fl30_2]
    apply hKr11; clear hKr11 Kr11
    refine pEv0_split 2 fun Kr12 hKr12 => ?_
    simp [pEv0, guardDec, fstep, ev, ofConst, ofScalar, setD, puts, thenP, inBlockP, List.take_succ_cons, List.drop_succ_cons, sFieldAddr, cur, find, fl28_1, sLoad, boxArr, ty9]
    apply hKr12; clear hKr12 Kr12
    refine pEv0_split 2 fun Kr13 hKr13 => ?_
    simp [pEv0, guardDec, fstep, ev, ofConst, ofScalar, setD, puts, thenP, inBlockP, List.take_succ_cons, List.drop_succ_cons, sFieldAddr, cur, find, fl30_2, fl28_0]
    apply hKr13; clear hKr13 Kr13
    refine pEv0_split 2 fun Kr14 hKr14 => ?_
    simp [pEv0, guardDec, fstep, ev, ofConst, ofScalar, setD, puts, thenP, inBlockP, List.take_succ_cons, List.drop_succ_cons, sLoad, boxArr, find, ty9, sFieldAddr, cur, fl30_2]
    apply hKr14; clear hKr14 Kr14
    refine pEv0_split 2 fun Kr15 hKr15 => ?_
    simp [pEv0, guardDec, fstep, ev, ofConst, ofScalar, setD, puts, thenP, inBlockP, List.take_succ_cons, List.drop_succ_cons, sFieldAddr, cur, find, fl28_1, sLoad, boxArr, ty9]
    apply hKr15; clear hKr15 Kr15
    refine pEv0_split 2 fun Kr16 hKr16 => ?_
    simp [pEv0, guardDec, fstep, ev, ofConst, ofScalar, setD, puts, thenP, inBlockP, List.take_succ_cons, List.drop_succ_cons, sIndexAddr, cur, find, el33, co32, sFieldAddr, fl32_1]
    apply hKr16; clear hKr16 Kr16
    refine pEv0_split 2 fun Kr17 hKr17 => ?_
    simp [pEv0, guardDec, fstep, ev, ofConst, ofScalar, setD, puts, thenP, inBlockP, List.take_succ_cons, List.drop_succ_cons, sLoad, boxArr, find, ty9, sIndexAddr, cur, el33, co32]
    apply hKr17; clear hKr17 Kr17
    refine pEv0_split 2 fun Kr18 hKr18 => ?_
    simp [pEv0, guardDec, fstep, ev, ofConst, ofScalar, setD, puts, thenP, inBlockP, List.take_succ_cons, List.drop_succ_cons, sFieldAddr, cur, find, fl32_1, sLoad, boxArr, ty9]
    apply hKr18; clear hKr18 Kr18
    refine pEv0_split 2 fun Kr19 hKr19 => ?_
    simp [pEv0, guardDec, fstep, ev, ofConst, ofScalar, setD, puts, thenP, inBlockP, List.take_succ_cons, List.drop_succ_cons, sIndexAddr, cur, find, el33, co32, sFieldAddr, fl32_0]
    apply hKr19; clear hKr19 Kr19
    refine pEv0_split 2 fun Kr20 hKr20 => ?_
    simp [pEv0, guardDec, fstep, ev, ofConst, ofScalar, setD, puts, thenP, inBlockP, List.take_succ_cons, List.drop_succ_cons, sFieldAddr, cur, find, fl28_0, sLoad, boxArr, ty9]
    apply hKr20; clear hKr20 Kr20
    refine pEv0_split 2 fun Kr21 hKr21 => ?_
    simp [pEv0, guardDec, fstep, ev, ofConst, ofScalar, setD, puts, thenP, inBlockP, List.take_succ_cons, List.drop_succ_cons, sIndexAddr, cur, find, el33, co32, sFieldAddr, fl32_0]
    apply hKr21; clear hKr21 Kr21
    refine pEv0_split 2 fun Kr22 hKr22 => ?_
    simp [pEv0, guardDec, fstep, ev, ofConst, ofScalar, setD, puts, thenP, inBlockP, List.take_succ_cons, List.drop_succ_cons, sFieldAddr, cur, find, fl28_1, sLoad, boxArr, ty9]
    apply hKr22; clear hKr22 Kr22
    refine pEv0_split 2 fun Kr23 hKr23 => ?_
    simp [pEv0, guardDec, fstep, ev, ofConst, ofScalar, setD, puts, thenP, inBlockP, List.take_succ_cons, List.drop_succ_cons, sIndexAddr, cur, find, el33, co32, sFieldAddr, fl32_0]
    apply hKr23; clear hKr23 Kr23
    refine pEv0_split 2 fun Kr24 hKr24 => ?_
    simp [pEv0, guardDec, fstep, ev, ofConst, ofScalar, setD, puts, thenP, inBlockP, List.take_succ_cons, List.drop_succ_cons, sFieldAddr, cur, find, fl28_0, sLoad, boxArr, ty9]
    apply hKr24; clear hKr24 Kr24
    refine pEv0_split 2 fun Kr25 hKr25 => ?_
    simp [pEv0, guardDec, fstep, ev, ofConst, ofScalar, setD, puts, thenP, inBlockP, List.take_succ_cons, List.drop_succ_cons, sIndexAddr, cur, find, el33, co32, sFieldAddr, fl32_0]
    apply hKr25; clear hKr25 Kr25
    refine pEv0_split 2 fun Kr26 hKr26 => ?_
    simp [pEv0, guardDec, fstep, ev, ofConst, ofScalar, setD, puts, thenP, inBlockP, List.take_succ_cons, List.drop_succ_cons, sFieldAddr, cur, find, fl28_1, sLoad, boxArr, ty9]
    apply hKr26; clear hKr26 Kr26
    refine pEv0_split 2 fun Kr27 hKr27 => ?_
    simp [pEv0, guardDec, fstep, ev, ofConst, ofScalar, setD, puts, thenP, inBlockP, List.take_succ_cons, List.drop_succ_cons, sBuildSlice, layParts, newBox, genOf, put, find, el35, ty9, sLen, cur]
    apply hKr27; clear hKr27 Kr27
    simp [pEv0, guardDec, fstep, ev, ofConst, ofScalar, setD, puts, thenP, inBlockP, List.take_succ_cons, List.drop_succ_cons]
    apply hK7; try clear hK7 K7
    refine pw_block ?_
    refine pw_loopS (α := Nat) [6, 8, 55, 56, 57, 58, 59, 60, 61] (fun k => [(54, .int .i64 (k : Nat))]) (fun k => [(3, ⟨0, true, .arr 26 [a.pv]⟩), (4, ⟨0, true, .arr 26 [b.pv]⟩), (5, ⟨0, true, .arr 10 [twoPv i j]⟩), (52, ⟨0, true, .arr 1 ((ordTexts a b i j).map .str)⟩)]) (fun m k => k + m = 12) (12) (0) ?_ ?_ ?_
    · simp
    · refine Wk.forget ?_
      simp [forget, sets]
      repeat (first | exact Fg.nil | refine Fg.same ?_ | refine Fg.any ?_)
    · intro m k hinv KL28 hKL28
      simp only [forget, sets, List.foldl_cons, List.foldl_nil, List.set_cons_succ, List.set_cons_zero]
      refine pw_seq_k fun K29 hK29 => ?_
      refine pw_region 0 ?_
      simp [pEv0, guardDec, fstep, ev, ofConst, ofScalar, setD, puts, thenP, inBlockP, List.take_succ_cons, List.drop_succ_cons, sBinH, sBin, binop]
      apply hK29; try clear hK29 K29
      refine pw_seq_k fun K30 hK30 => ?_
      refine pw_cond _ rfl (fun h31 => ?_) (fun h31 => ?_)
      · try simp at h31
        obtain ⟨x, hx⟩ := getN (l := ordTexts a b i j) (k := k) (by simp [ordTexts]; omega)
        have hw := wrap_i64 (n := (k : Int) + 1) (by omega) (by omega)
        refine pw_skip ?_
        simp only [thenP, inBlockP]
        apply hK30; try clear hK30 K30
        refine pw_seq_k fun K32 hK32 => ?_
        refine pw_block ?_
        refine pw_seq_k fun K33 hK33 => ?_
        refine pw_region 0 ?_
        refine pEv0_split 2 fun Kr34 hKr34 => ?_
        simp [pEv0, guardDec, fstep, ev, ofConst, ofScalar, setD, puts, thenP, inBlockP, List.take_succ_cons, List.drop_succ_cons, sIndexAddr, cur, find, el35, co9, sLoad, boxArr, ty9, h31, hx, hw]
        apply hKr34; clear hKr34 Kr34
        simp [pEv0, guardDec, fstep, ev, ofConst, ofScalar, setD, puts, thenP, inBlockP, List.take_succ_cons, List.drop_succ_cons, h31, hx, hw]
        apply hK33; try clear hK33 K33
        refine pw_seq_k fun K35 hK35 => ?_
        refine pw_region 0 ?_
        refine pEv0_split 2 fun Kr36 hKr36 => ?_
        simp [pEv0, guardDec, fstep, ev, ofConst, ofScalar, setD, puts, thenP, inBlockP, List.take_succ_cons, List.drop_succ_cons, sLen, cur, find, el9, is9, h31, hx, hw]
        apply hKr36; clear hKr36 Kr36
        simp [pEv0, guardDec, fstep, ev, ofConst, ofScalar, setD, puts, thenP, inBlockP, List.take_succ_cons, List.drop_succ_cons, sBinH, sBin, binop, h31, hx, hw]
        apply hK35; try clear hK35 K35
        refine pw_cond _ rfl (fun h37 => ?_) (fun h37 => ?_)
        · try simp at h37
          refine pw_seq_k fun K38 hK38 => ?_
          refine pw_region 0 ?_
          simp [pEv0, guardDec, fstep, ev, ofConst, ofScalar, setD, puts, thenP, inBlockP, List.take_succ_cons, List.drop_succ_cons, h31, hx, hw, h37]
          apply hK38; try clear hK38 K38
          refine pw_ret ?_
          simp only [thenP, inBlockP, bodyQ]
          refine ⟨_, rfl, ?_⟩
          first | rfl | (simp [ev, h31, hx, hw, h37]; done) | (simp [ev, h31, hx, hw, h37] <;> omega) | ((try clear hK38 K38); (try clear hK35 K35); (try clear hK33 K33); (try clear hK32 K32); (try clear hK30 K30); (try clear hK29 K29); (try clear hKL28 KL28); (try clear hK7 K7); (try clear hK6 K6); (try clear hK4 K4); (try clear hK3 K3); (try clear hK1 K1); simp_all [ev]; done)
        · try simp at h37
          refine pw_skip ?_
          simp only [thenP, inBlockP]
          apply hK32; try clear hK32 K32
          refine pw_region 0 ?_
          simp [pEv0, guardDec, fstep, ev, ofConst, ofScalar, setD, puts, thenP, inBlockP, List.take_succ_cons, List.drop_succ_cons, sBinH, sBin, binop, h31, hx, hw, h37]
          refine hKL28 _ (m - 1) (k + 1) ?_ ?_ ?_
          · omega
          · omega
          · refine Wk.forget ?_
            simp [forget, sets]
            repeat (first | exact Fg.nil | refine Fg.same ?_ | refine Fg.any ?_)
      · try simp at h31
        refine pw_exit ?_
        simp [thenP, inBlockP]
        apply hK6; try clear hK6 K6
        refine pw_seq_k fun K39 hK39 => ?_
        refine pw_region_draw mix 0 ?_
        refine pEv_split 2 fun Kr40 hKr40 => ?_
        simp [pEv, guardDec, fstep, ev, ofConst, ofScalar, setD, puts, thenP, inBlockP, List.take_succ_cons, List.drop_succ_cons, sLoad, boxArr, find, ty30, h31]
        apply hKr40; clear hKr40 Kr40
        refine pEv_split 2 fun Kr41 hKr41 => ?_
        simp [pEv, guardDec, fstep, ev, ofConst, ofScalar, setD, puts, thenP, inBlockP, List.take_succ_cons, List.drop_succ_cons, sAlloc, newBox, genOf, put, find, ty36, h31]
        apply hKr41; clear hKr41 Kr41
        simp [pEv, guardDec, fstep, ev, ofConst, ofScalar, setD, puts, thenP, inBlockP, List.take_succ_cons, List.drop_succ_cons, sStore, boxArr, find, put, ty36, PV.setc, splice, h31]
        refine ⟨by decide +kernel, ?_⟩
        apply hK39; try clear hK39 K39
        refine pw_seq_k fun K42 hK42 => ?_
        refine pw_region_draw mix 0 ?_
        refine pEv_split 1 fun Kr43 hKr43 => ?_
        simp [pEv, guardDec, fstep, ev, ofConst, ofScalar, setD, puts, thenP, inBlockP, List.take_succ_cons, List.drop_succ_cons, sLoad, boxArr, find, ty30, h31]
        apply hKr43; clear hKr43 Kr43
        refine pEv_call' rfl rfl rfl (call_pure (id_pf _) en7 (by simp) _) ?_
        refine pEv_split 1 fun Kr44 hKr44 => ?_
        simp [pEv, guardDec, fstep, ev, ofConst, ofScalar, setD, puts, thenP, inBlockP, List.take_succ_cons, List.drop_succ_cons, sLoad, boxArr, find, ty36, h31]
        apply hKr44; clear hKr44 Kr44
        refine pEv_call' rfl rfl rfl (call_pure (idof_pf _) en8 (by simp) _) ?_
        simp [pEv, guardDec, fstep, ev, ofConst, ofScalar, setD, puts, thenP, inBlockP, List.take_succ_cons, List.drop_succ_cons, eq37, h31]
        refine ⟨by decide +kernel, ?_⟩
        apply hK42; try clear hK42 K42
        refine pw_seq_k fun K45 hK45 => ?_
        refine pw_region_draw mix 0 ?_
        refine pEv_split 2 fun Kr46 hKr46 => ?_
        simp [pEv, guardDec, fstep, ev, ofConst, ofScalar, setD, puts, thenP, inBlockP, List.take_succ_cons, List.drop_succ_cons, h31]
        apply hKr46; clear hKr46 Kr46
        refine pEv_split 2 fun Kr47 hKr47 => ?_
        simp [pEv, guardDec, fstep, ev, ofConst, ofScalar, setD, puts, thenP, inBlockP, List.take_succ_cons, List.drop_succ_cons, sLoad, boxArr, find, ty30, h31]
        apply hKr47; clear hKr47 Kr47
        refine pEv_call' rfl rfl rfl (call_pure (fcmp_pf _ _) en9 (by simp) _) ?_
        refine pEv_split 2 fun Kr48 hKr48 => ?_
        simp [pEv, guardDec, fstep, ev, ofConst, ofScalar, setD, puts, thenP, inBlockP, List.take_succ_cons, List.drop_succ_cons, sLoad, boxArr, find, ty36, h31]
        apply hKr48; clear hKr48 Kr48
        refine pEv_call' rfl rfl rfl (call_pure (rfcmp_pf _ _) en10 (by simp) _) ?_
        refine pEv_split 2 fun Kr49 hKr49 => ?_
        simp [pEv, guardDec, fstep, ev, ofConst, ofScalar, setD, puts, thenP, inBlockP, List.take_succ_cons, List.drop_succ_cons, sBinH, sBin, binop, h31]
        apply hKr49; clear hKr49 Kr49
        refine pEv_split 2 fun Kr50 hKr50 => ?_
        simp [pEv, guardDec, fstep, ev, ofConst, ofScalar, setD, puts, thenP, inBlockP, List.take_succ_cons, List.drop_succ_cons, sLoad, boxArr, find, ty30, h31]
        apply hKr50; clear hKr50 Kr50
        refine pEv_split 1 fun Kr51 hKr51 => ?_
        simp [pEv, guardDec, fstep, ev, ofConst, ofScalar, setD, puts, thenP, inBlockP, List.take_succ_cons, List.drop_succ_cons, sLoad, boxArr, find, ty30, h31]
        apply hKr51; clear hKr51 Kr51
        refine pEv_call' rfl rfl rfl (call_pure (Place_pf _ _) en11 (by simp) _) ?_
        refine pEv_split 2 fun Kr52 hKr52 => ?_
        simp [pEv, guardDec, fstep, ev, ofConst, ofScalar, setD, puts, thenP, inBlockP, List.take_succ_cons, List.drop_succ_cons, sLoad, boxArr, find, ty36, h31]
        apply hKr52; clear hKr52 Kr52
        refine pEv_call' rfl rfl rfl (call_pure (rplace_pf _ _) en12 (by simp) _) ?_
        refine pEv_split 2 fun Kr53 hKr53 => ?_
        simp [pEv, guardDec, fstep, ev, ofConst, ofScalar, setD, puts, thenP, inBlockP, List.take_succ_cons, List.drop_succ_cons, sBinH, sBin, binop, eq4, h31]
        apply hKr53; clear hKr53 Kr53
        refine pEv_split 2 fun Kr54 hKr54 => ?_
        simp [pEv, guardDec, fstep, ev, ofConst, ofScalar, setD, puts, thenP, inBlockP, List.take_succ_cons, List.drop_succ_cons, h31]
        apply hKr54; clear hKr54 Kr54
        refine pEv_split 2 fun Kr55 hKr55 => ?_
        simp [pEv, guardDec, fstep, ev, ofConst, ofScalar, setD, puts, thenP, inBlockP, List.take_succ_cons, List.drop_succ_cons, sIndexAddr, cur, find, el33, co32, sLoad, boxArr, ty32, h31]
        apply hKr55; clear hKr55 Kr55
        refine pEv_split 2 fun Kr56 hKr56 => ?_
        simp [pEv, guardDec, fstep, ev, ofConst, ofScalar, setD, puts, thenP, inBlockP, List.take_succ_cons, List.drop_succ_cons, sIndexAddr, cur, find, el33, co32, sLoad, boxArr, ty32, h31]
        apply hKr56; clear hKr56 Kr56
        refine pEv_call' rfl rfl rfl (call_pure (idcmp_pf _ _) en13 (by simp) _) ?_
        refine pEv_split 2 fun Kr57 hKr57 => ?_
        simp [pEv, guardDec, fstep, ev, ofConst, ofScalar, setD, puts, thenP, inBlockP, List.take_succ_cons, List.drop_succ_cons, sIndexAddr, cur, find, el33, co32, sLoad, boxArr, ty32, h31]
        apply hKr57; clear hKr57 Kr57
        refine pEv_split 2 fun Kr58 hKr58 => ?_
        simp [pEv, guardDec, fstep, ev, ofConst, ofScalar, setD, puts, thenP, inBlockP, List.take_succ_cons, List.drop_succ_cons, sIndexAddr, cur, find, el33, co32, sLoad, boxArr, ty32, h31]
        apply hKr58; clear hKr58 Kr58
        refine pEv_call' rfl rfl rfl (call_pure (ridcmp_pf _ _) en14 (by simp) _) ?_
        refine pEv_split 2 fun Kr59 hKr59 => ?_
        simp [pEv, guardDec, fstep, ev, ofConst, ofScalar, setD, puts, thenP, inBlockP, List.take_succ_cons, List.drop_succ_cons, sBinH, sBin, binop, h31]
        apply hKr59; clear hKr59 Kr59
        simp [pEv, guardDec, fstep, ev, ofConst, ofScalar, setD, puts, thenP, inBlockP, List.take_succ_cons, List.drop_succ_cons, h31]
        refine ⟨by decide +kernel, ?_⟩
        apply hK45; try clear hK45 K45
        refine pw_ret ?_
        simp only [thenP, inBlockP, bodyQ]
        refine ⟨_, rfl, ?_⟩
        first | rfl | (simp [ev, h31]; done) | (simp [ev, h31] <;> omega) | ((try clear hK45 K45); (try clear hK42 K42); (try clear hK39 K39); (try clear hK38 K38); (try clear hK35 K35); (try clear hK33 K33); (try clear hK32 K32); (try clear hK30 K30); (try clear hK29 K29); (try clear hKL28 KL28); (try clear hK7 K7); (try clear hK6 K6); (try clear hK4 K4); (try clear hK3 K3); (try clear hK1 K1); simp_all [ev]; done)

end Pv
