import Derived.Test.YtkbghhholjfgfaaG3
import Derived.Test.YtkbghhholjfgfaaG2
import Derived.Test.YtkbghhholjfgfaaG2G
import Derived.Test.YtkbghhholjfgfaaG2L
set_option linter.unusedSimpArgs false
set_option linter.unusedVariables false
namespace Pv
open Go Go.Proofs
attribute [local simp] Body.ren Box.ren List.drop_succ_cons List.take_succ_cons PV.ren boxArr cur ev_const ev_fr ev_func ev_glob find_cons find_nil fl50_0 fl50_1 fl50_2 fr_get' fstep genOf guardDec inBlockP keys lk newBox ofConst ofScalar pEv pEv0 part' put puts renL sAlloc sBox sFieldAddr sLoad sStore setD_fr setD_none setc_agg shR_d shR_r splice take_map_len thenP ty46 ty47 ty48 ty50 upF
set_option maxRecDepth 100000 in
set_option maxHeartbeats 4000000 in
theorem sort_pf (a : NRows) (h : a.le 1000000) : PFun Try.prog 28 [a.pv] ((sortRows a).pv) := by
 refine PFun.of_body_frozenF (by simp) Try.func28 rfl 16 rfl (by simp) fun c0 => ?_
 simp only [argL, Nat.reduceAdd]
 have h1 := h.f
 have h2 := h.g
 have h3 := h.l
 refine pw_seq_k fun K1 hK1 => ?_
 refine pw_region 0 ?_
 simp
 apply hK1; try clear hK1 K1
 refine pw_seq_k fun K2 hK2 => ?_
 refine pw_region 0 ?_
 refine pEv0_split 1 fun Kr3 hKr3 => ?_
 simp
 apply hKr3; clear hKr3 Kr3
 refine pEv0_call' rfl rfl rfl ((call_new (copyB _ h) en50 (by simp) 0 (by simp [find, put, puts]))) ?_
 simp
 apply hK2; try clear hK2 K2
 refine pw_keep [2, 3] ?_
 simp only [keepL, memL, cond_true, cond_false, ↓reduceIte, reduceCtorEq, Nat.reduceEqDiff]
 refine pw_seq_k fun K4 hK4 => ?_
 refine pw_region 0 ?_
 refine pEv0_split 2 fun Kr5 hKr5 => ?_
 simp
 apply hKr5; clear hKr5 Kr5
 refine pEv0_call' rfl rfl rfl ((call_row (sortS_F El_front (cmp := frontCmp) en9 (fun x y => fcmp_pf x y) rfl TP_front _ _ rfl (by omega)) en57 rfl rfl (El_front.all _) (El_front.all _) rfl)) ?_
 simp
 apply hK4; try clear hK4 K4
 refine pw_seq_k fun K6 hK6 => ?_
 refine pw_region 0 ?_
 refine pEv0_split 2 fun Kr7 hKr7 => ?_
 simp
 apply hKr7; clear hKr7 Kr7
 refine pEv0_call' rfl rfl rfl ((call_row (sortS_G El_group (cmp := grpCmp) en59 (fun x y => groups_pf x y) rfl TP_grp _ _ rfl (by omega)) en58 rfl rfl (El_group.all _) (El_group.all _) rfl)) ?_
 simp
 apply hK6; try clear hK6 K6
 refine pw_keep [2, 3] ?_
 simp only [keepL, memL, cond_true, cond_false, ↓reduceIte, reduceCtorEq, Nat.reduceEqDiff]
 refine pw_seq_k fun K8 hK8 => ?_
 refine pw_region 0 ?_
 refine pEv0_split 2 fun Kr9 hKr9 => ?_
 simp
 apply hKr9; clear hKr9 Kr9
 refine pEv0_call' rfl rfl rfl ((call_row (sortS_L El_filter (cmp := filCmp) en61 (fun x y => filters_pf x y) rfl TP_fil _ _ rfl (by omega)) en60 rfl rfl (El_filter.all _) (El_filter.all _) rfl)) ?_
 simp
 apply hK8; try clear hK8 K8
 refine pw_seq_k fun K10 hK10 => ?_
 refine pw_region 0 ?_
 simp
 apply hK10; try clear hK10 K10
 refine pw_keep [2] ?_
 simp only [keepL, memL, cond_true, cond_false, ↓reduceIte, reduceCtorEq, Nat.reduceEqDiff]
 refine pw_ret ?_
 try simp only [thenP, inBlockP]
 refine bodyQ_ex (by first | exact .inl rfl | exact .inr rfl) ?_
 simp only [resL, resVL, lk, sLoad, boxArr, find_cons, Try.func28, Try.results28, ty50, ↓reduceIte, reduceCtorEq, Nat.reduceLT, Nat.reduceEqDiff, Option.map_some, Option.bind_some, Option.some.injEq, exists_eq_left', List.getElem?_cons_zero, ld_agg_t, ld_int, ld_bool, ld_str, ld_sl, ld_bsl, ld_nils, List.length_cons, List.length_nil, Nat.reduceAdd, Nat.reduceLeDiff, List.take_succ_cons, List.take_zero, List.drop_zero, and_self, true_and, Nat.le_refl, Nat.zero_add, NAddr.ld, NCidr.ld, NPoint.ld, NKey.ld, NFront.ld, NId.ld, NFilter.ld, NTable.ld, NGroup.ld, NRows.ld]
 refine ⟨[105, 205, 305], (sortRows a).pv, ?_, PV.le_refl _⟩
 simp [view, viewL, boxArr, find, El_front.all, El_group.all, El_filter.all, List.take_of_length_le, sortBy_len, sortRows, NRows.pv, NRows.cs]

end Pv
