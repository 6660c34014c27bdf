import Derived.Test.YtkbghhholjfgfaaG5
set_option linter.unusedSimpArgs false
set_option linter.unusedVariables false
namespace Pv
open Go Go.Proofs
attribute [local simp] Body.ren Box.ren List.drop_succ_cons List.take_succ_cons PV.ren boxArr cur ev_const ev_fr ev_func ev_glob find_cons find_nil fl50_0 fl50_1 fl50_2 fr_get' fstep genOf guardDec inBlockP keys lk newBox ofConst ofScalar pEv pEv0 part' put puts renL sBox sFieldAddr sLoad setD_fr setD_none shR_d shR_r take_map_len thenP ty46 ty47 ty48 ty50 upF
set_option maxRecDepth 100000 in
set_option maxHeartbeats 4000000 in
theorem same_pf (a b : NRows) (h : a.le 1000000) : PFun Try.prog 24 [a.pv, b.pv] (.bool (decide (a = b))) := by
 refine PFun.of_bodyF (by simp) Try.func24 rfl 24 rfl (by simp) fun c0 => ?_
 simp only [argL, Nat.reduceAdd]
 have h1 := h.f
 have h2 := h.g
 have h3 := h.l
 have hg := h.gb
 have hr := h.lr
 refine pw_seq_k fun K1 hK1 => ?_
 refine pw_region 0 ?_
 simp
 apply hK1; try clear hK1 K1
 refine pw_seq_k fun K2 hK2 => ?_
 refine pw_region 0 ?_
 refine pEv0_split 4 fun Kr3 hKr3 => ?_
 simp
 apply hKr3; clear hKr3 Kr3
 refine pEv0_call' rfl rfl rfl ((call_pure (eqFronts _ _ (by omega)) en47 rfl _)) ?_
 refine pEv0_split 1 fun Kr4 hKr4 => ?_
 simp
 apply hKr4; clear hKr4 Kr4
 refine pEv0_guard _ rfl (fun hg5 => ?_) (fun hg5 => ?_)
 ·have hgb5 := eq_of_beq hg5
  try simp only [Bool.not_true, Bool.not_false] at hgb5
  try simp at hg5
  refine pEv0_split 4 fun Kr6 hKr6 => ?_
  simp [hg5, hgb5]
  apply hKr6; clear hKr6 Kr6
  refine pEv0_call' rfl rfl rfl ((call_pure (eqGroups _ _ (by omega) (fun x hx => ⟨by have := (hg x hx).1; omega, by have := (hg x hx).2; omega⟩)) en48 rfl _)) ?_
  refine pEv0_split 2 fun Kr7 hKr7 => ?_
  simp [hg5, hgb5]
  apply hKr7; clear hKr7 Kr7
  refine pEv0_guard _ rfl (fun hg8 => ?_) (fun hg8 => ?_)
  ·have hgb8 := eq_of_beq hg8
   try simp only [Bool.not_true, Bool.not_false] at hgb8
   try simp at hg8
   refine pEv0_split 4 fun Kr9 hKr9 => ?_
   simp [hg5, hgb5, hg8, hgb8]
   apply hKr9; clear hKr9 Kr9
   refine pEv0_call' rfl rfl rfl ((call_pure (eqFilters _ _ (by omega) (fun x hx => by have := hr x hx; omega)) en49 rfl _)) ?_
   simp [hg5, hgb5, hg8, hgb8]
   apply hK2; try clear hK2 K2
   refine pw_keep [4] ?_
   simp only [keepL, memL, cond_true, cond_false, ↓reduceIte, reduceCtorEq, Nat.reduceEqDiff]
   refine pw_ret ?_
   try simp only [thenP, inBlockP]
   refine bodyQ_fr (by first | exact .inl rfl | exact .inr rfl) _ rfl ?_
   first | rfl | (simp [lk, NRows.eq_iff, hg5, hgb5, hg8, hgb8]; done) | (simp [lk, NRows.eq_iff, hg5, hgb5, hg8, hgb8] <;> omega) | ((try clear hK2 K2); (try clear hK1 K1); simp_all [lk, NRows.eq_iff]; done)
  ·have hgb8 := beq_off hg8
   try simp only [Bool.not_true, Bool.not_false] at hgb8
   try simp at hg8
   refine pEv0_split 4 fun Kr10 hKr10 => ?_
   simp [hg5, hgb5, hg8, hgb8]
   apply hKr10; clear hKr10 Kr10
   simp [hg5, hgb5, hg8, hgb8]
   apply hK2; try clear hK2 K2
   refine pw_keep [4] ?_
   simp only [keepL, memL, cond_true, cond_false, ↓reduceIte, reduceCtorEq, Nat.reduceEqDiff]
   refine pw_ret ?_
   try simp only [thenP, inBlockP]
   refine bodyQ_fr (by first | exact .inl rfl | exact .inr rfl) _ rfl ?_
   first | rfl | (simp [lk, NRows.eq_iff, hg5, hgb5, hg8, hgb8]; done) | (simp [lk, NRows.eq_iff, hg5, hgb5, hg8, hgb8] <;> omega) | ((try clear hK2 K2); (try clear hK1 K1); simp_all [lk, NRows.eq_iff]; done)
 ·have hgb5 := beq_off hg5
  try simp only [Bool.not_true, Bool.not_false] at hgb5
  try simp at hg5
  refine pEv0_split 4 fun Kr11 hKr11 => ?_
  simp [hg5, hgb5]
  apply hKr11; clear hKr11 Kr11
  refine pEv0_split 4 fun Kr12 hKr12 => ?_
  simp [hg5, hgb5]
  apply hKr12; clear hKr12 Kr12
  refine pEv0_split 4 fun Kr13 hKr13 => ?_
  simp [hg5, hgb5]
  apply hKr13; clear hKr13 Kr13
  simp [hg5, hgb5]
  apply hK2; try clear hK2 K2
  refine pw_keep [4] ?_
  simp only [keepL, memL, cond_true, cond_false, ↓reduceIte, reduceCtorEq, Nat.reduceEqDiff]
  refine pw_ret ?_
  try simp only [thenP, inBlockP]
  refine bodyQ_fr (by first | exact .inl rfl | exact .inr rfl) _ rfl ?_
  first | rfl | (simp [lk, NRows.eq_iff, hg5, hgb5]; done) | (simp [lk, NRows.eq_iff, hg5, hgb5] <;> omega) | ((try clear hK2 K2); (try clear hK1 K1); simp_all [lk, NRows.eq_iff]; done)

end Pv
