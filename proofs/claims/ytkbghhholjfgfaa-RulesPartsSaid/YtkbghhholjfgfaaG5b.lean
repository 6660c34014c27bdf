import Derived.Test.YtkbghhholjfgfaaG5
import Derived.Test.YtkbghhholjfgfaaG4
set_option linter.unusedSimpArgs false
set_option linter.unusedVariables false
namespace Pv
open Go Go.Proofs
attribute [local simp] Body.ren Box.ren List.drop_succ_cons List.take_succ_cons PV.ren boxArr cur ev_const ev_fr ev_func ev_glob find_cons find_nil fl30_2 fl32_0 fl50_0 fl50_1 fl50_2 fl60_0 fl69_0 fr_get' fstep genOf guardDec inBlockP keys lk newBox ofConst ofScalar pEv pEv0 part' put puts renL sAlloc sBox sFieldAddr sLoad sStore setD_fr setD_none setc_agg shR_d shR_r splice take_map_len thenP ty28 ty30 ty46 ty47 ty48 ty50 ty60 ty69 upF
set_option maxRecDepth 100000 in
set_option maxHeartbeats 4000000 in
theorem of1_pf (k : NKey) (a : NFront) : PFun Try.prog 52 [a.pv, .ept 2 [k.pv] 0 0] (.bool (!decide (a.service = k))) := by
 refine PFun.of_bodyF (by simp) Try.func52 rfl 8 rfl (by simp) fun c0 => ?_
 simp only [argL, Nat.reduceAdd]
 refine pw_seq_k fun K1 hK1 => ?_
 refine pw_region 0 ?_
 simp
 apply hK1; try clear hK1 K1
 refine pw_seq_k fun K2 hK2 => ?_
 refine pw_region 0 ?_
 refine pEv0_split 4 fun Kr3 hKr3 => ?_
 simp [neq28]
 apply hKr3; clear hKr3 Kr3
 simp
 apply hK2; try clear hK2 K2
 refine pw_keep [3] ?_
 simp only [keepL, memL, cond_true, cond_false, ↓reduceIte, reduceCtorEq, Nat.reduceEqDiff]
 refine pw_ret ?_
 try simp only [thenP, inBlockP]
 refine bodyQ_fr (by first | exact .inl rfl | exact .inr rfl) _ rfl ?_
 first | rfl | (simp [lk]; done)

set_option maxRecDepth 100000 in
set_option maxHeartbeats 4000000 in
theorem of2_pf (k : NKey) (a : NGroup) : PFun Try.prog 54 [a.pv, .ept 2 [k.pv] 0 0] (.bool (!decide (a.id.service = k))) := by
 refine PFun.of_bodyF (by simp) Try.func54 rfl 9 rfl (by simp) fun c0 => ?_
 simp only [argL, Nat.reduceAdd]
 refine pw_seq_k fun K1 hK1 => ?_
 refine pw_region 0 ?_
 simp
 apply hK1; try clear hK1 K1
 refine pw_seq_k fun K2 hK2 => ?_
 refine pw_region 0 ?_
 refine pEv0_split 4 fun Kr3 hKr3 => ?_
 simp
 apply hKr3; clear hKr3 Kr3
 simp [neq28]
 apply hK2; try clear hK2 K2
 refine pw_keep [3] ?_
 simp only [keepL, memL, cond_true, cond_false, ↓reduceIte, reduceCtorEq, Nat.reduceEqDiff]
 refine pw_ret ?_
 try simp only [thenP, inBlockP]
 refine bodyQ_fr (by first | exact .inl rfl | exact .inr rfl) _ rfl ?_
 first | rfl | (simp [lk]; done)

set_option maxRecDepth 100000 in
set_option maxHeartbeats 4000000 in
theorem of3_pf (k : NKey) (a : NFilter) : PFun Try.prog 56 [a.pv, .ept 2 [k.pv] 0 0] (.bool (!decide (a.service = k))) := by
 refine PFun.of_bodyF (by simp) Try.func56 rfl 8 rfl (by simp) fun c0 => ?_
 simp only [argL, Nat.reduceAdd]
 refine pw_seq_k fun K1 hK1 => ?_
 refine pw_region 0 ?_
 simp
 apply hK1; try clear hK1 K1
 refine pw_seq_k fun K2 hK2 => ?_
 refine pw_region 0 ?_
 refine pEv0_split 4 fun Kr3 hKr3 => ?_
 simp [neq28]
 apply hKr3; clear hKr3 Kr3
 simp
 apply hK2; try clear hK2 K2
 refine pw_keep [3] ?_
 simp only [keepL, memL, cond_true, cond_false, ↓reduceIte, reduceCtorEq, Nat.reduceEqDiff]
 refine pw_ret ?_
 try simp only [thenP, inBlockP]
 refine bodyQ_fr (by first | exact .inl rfl | exact .inr rfl) _ rfl ?_
 first | rfl | (simp [lk]; done)

set_option maxRecDepth 100000 in
set_option maxHeartbeats 4000000 in
theorem ofR_pf (a : NRows) (k : NKey) (h : a.le 1000000) : PFun Try.prog 27 [a.pv, k.pv] ((ofRows a k).pv) := by
 refine PFun.of_body_frozenF (by simp) Try.func27 rfl 24 rfl (by simp) fun c0 => ?_
 simp only [argL, Nat.reduceAdd]
 have h1 := h.f
 have h2 := h.g
 have h3 := h.l
 refine pw_seq_k fun K1 hK1 => ?_
 refine pw_region 0 ?_
 simp [frzW, upd]
 apply hK1; try clear hK1 K1
 refine pw_seq_k fun K2 hK2 => ?_
 refine pw_region 0 ?_
 refine pEv0_split 1 fun Kr3 hKr3 => ?_
 simp [frzW, upd]
 apply hKr3; clear hKr3 Kr3
 refine pEv0_call' rfl rfl rfl ((call_new (copyB _ h) en50 (by simp) 0 (by simp [find, put, puts]))) ?_
 simp [frzW, upd]
 apply hK2; try clear hK2 K2
 refine pw_keep [3, 4, 5] ?_
 simp only [keepL, memL, cond_true, cond_false, ↓reduceIte, reduceCtorEq, Nat.reduceEqDiff]
 refine pw_seq_k fun K4 hK4 => ?_
 refine pw_region 0 ?_
 refine pEv0_split 3 fun Kr5 hKr5 => ?_
 simp [frzW, upd]
 apply hKr5; clear hKr5 Kr5
 refine pEv0_call' rfl rfl rfl ((call_frz (ids := [3]) (M := fun b => b == 105) (VwL.keep rfl (VwL.cons (VwA.clo (VwL.cons (VwA.cell rfl (by simp)) VwL.nil)) VwL.nil)) (call_rowS (del_F El_front (p := fun a => !decide (a.service = k)) en52 (fun x => of1_pf k x) rfl a.fronts (by omega) _ rfl) en51 rfl (El_front.all _) (El_front.all _) rfl))) ?_
 simp [frzW, upd]
 apply hK4; try clear hK4 K4
 refine pw_keep [3, 4, 5] ?_
 simp only [keepL, memL, cond_true, cond_false, ↓reduceIte, reduceCtorEq, Nat.reduceEqDiff]
 refine pw_seq_k fun K6 hK6 => ?_
 refine pw_region 0 ?_
 refine pEv0_split 3 fun Kr7 hKr7 => ?_
 simp [frzW, upd]
 apply hKr7; clear hKr7 Kr7
 refine pEv0_call' rfl rfl rfl ((call_frz (ids := [3]) (M := fun b => b == 205) (VwL.keep rfl (VwL.cons (VwA.clo (VwL.cons (VwA.cell rfl (by simp)) VwL.nil)) VwL.nil)) (call_rowS (del_G El_group (p := fun a => !decide (a.id.service = k)) en54 (fun x => of2_pf k x) rfl a.groups (by omega) _ rfl) en53 rfl (El_group.all _) (El_group.all _) rfl))) ?_
 simp [frzW, upd]
 apply hK6; try clear hK6 K6
 refine pw_keep [3, 4, 5] ?_
 simp only [keepL, memL, cond_true, cond_false, ↓reduceIte, reduceCtorEq, Nat.reduceEqDiff]
 refine pw_seq_k fun K8 hK8 => ?_
 refine pw_region 0 ?_
 refine pEv0_split 3 fun Kr9 hKr9 => ?_
 simp [frzW, upd]
 apply hKr9; clear hKr9 Kr9
 refine pEv0_call' rfl rfl rfl ((call_frz (ids := [3]) (M := fun b => b == 305) (VwL.keep rfl (VwL.cons (VwA.clo (VwL.cons (VwA.cell rfl (by simp)) VwL.nil)) VwL.nil)) (call_rowS (del_L El_filter (p := fun a => !decide (a.service = k)) en56 (fun x => of3_pf k x) rfl a.filters (by omega) _ rfl) en55 rfl (El_filter.all _) (El_filter.all _) rfl))) ?_
 simp [frzW, upd]
 apply hK8; try clear hK8 K8
 refine pw_keep [4, 5] ?_
 simp only [keepL, memL, cond_true, cond_false, ↓reduceIte, reduceCtorEq, Nat.reduceEqDiff]
 refine pw_seq_k fun K10 hK10 => ?_
 refine pw_region 0 ?_
 simp [frzW, upd]
 apply hK10; try clear hK10 K10
 refine pw_ret ?_
 try simp only [thenP, inBlockP]
 refine bodyQ_ex (by first | exact .inl rfl | exact .inr rfl) ?_
 simp only [resL, resVL, lk, sLoad, boxArr, find_cons, Try.func27, Try.results27, ty50, ↓reduceIte, reduceCtorEq, Nat.reduceLT, Nat.reduceEqDiff, Option.map_some, Option.bind_some, Option.some.injEq, exists_eq_left', List.getElem?_cons_zero, ld_agg_t, ld_int, ld_bool, ld_str, ld_sl, ld_bsl, ld_nils, List.length_cons, List.length_nil, Nat.reduceAdd, Nat.reduceLeDiff, List.take_succ_cons, List.take_zero, List.drop_zero, and_self, true_and, Nat.le_refl, Nat.zero_add, NAddr.ld, NCidr.ld, NPoint.ld, NKey.ld, NFront.ld, NId.ld, NFilter.ld, NTable.ld, NGroup.ld, NRows.ld]
 refine ⟨[105, 205, 305], (ofRows a k).pv, ?_, PV.le_refl _⟩
 simp [view, viewL, boxArr, find, El_front.all, El_group.all, El_filter.all, List.take_of_length_le, ofRows, NRows.pv, NRows.cs]

end Pv
