/- Texts of one proof, laid together: YC. No condition. -/
import Derived.Test.YtanblnhnfkeffaaD316
namespace Go.Proofs.Ytanblnhnfkeffaa
set_option linter.unusedVariables false
set_option linter.unusedSimpArgs false
attribute [local go_sem ↓] run_skip run_region run_draw run_both run_seq run_block run_exit run_ret run_cond atN_app seqC_normal seqC_exit seqC_ret seqQ_normal seqQ_exit seqQ_ret blkQ_normal blkQ_exit blkQ_ret runOps_nil runOps_cons runD_nil runD_cons grdO_true grdO_false grdD_true grdD_false ifC_true ifC_false opS_val opS_call opS_two opK_app dS_val dS_call dS_two dK_app kUp_same kUp_ne
attribute [local go_sem] rechks_nil rechks_cons rechk gcase_true gcase_false ex_val ex_val0 gd_none gd_some ev_t ev_c evs_nil evs_cons evo_some evo_none hget_at hget_first hsetB_at hsetB_first hsetL_at hsetL_first ofOpt_some aop aload astore aslice aappend aiaddr aiaddrA afaddr alen alenS acopy amm acall alookup amupdate alenM atostr comma keyEq apick binV binVB binVS isSh intOp strOp boolOp shOp eqC eqF and2 cellsOf setFrom fillA fillS rd rdI elems mk bounds AV.cell List.all_cons List.all_nil Bool.and_true Bool.true_and Bool.and_self List.length_cons List.length_nil List.length_append Nat.reduceAdd Nat.reduceSub Nat.reduceMul Nat.zero_add Nat.add_zero List.cons_append List.nil_append List.append_assoc List.append_nil List.getElem?_cons_zero List.getElem?_cons_succ List.getElem?_nil List.set_cons_zero List.set_cons_succ List.drop_zero List.drop_succ_cons List.take_zero List.take_succ_cons List.take_nil List.drop_nil List.map_cons List.map_nil Option.map_some if_true if_false Bool.false_eq_true and_self true_and and_true Nat.reduceLeDiff Nat.reduceLT Nat.le_refl Nat.reduceEqDiff ite_true ite_false beq_self_eq_true beq_true beq_false Bool.not_true Bool.not_false Bool.true_beq Bool.false_beq map_vs vs_len vs_get vs_take vs_drop vs_snoc1 vs_snoc2 vs_snoc3 vs_snoc5 vs_set1 vs_set2 vs_rep wrap_id le_T lt_T le_F lt_F leI_T ltI_T leI_F ltI_F geI gtI get_T decide_true decide_false room List.getElem?_map List.length_map List.length_take Int.toNat_natCast Nat.min_def Nat.min_self nth_kOf put_kOf put_kNo kOv_cons kOv_nil KHas KArgs List.getElem_cons_zero List.getElem_cons_succ
def a_rCheck19 : AFunc := ⟨3,163,[.tmp 6],(.seq (.region [⟨some 3,.box (.t 0),none⟩,⟨some 4,.box (.t 1),none⟩,⟨some 6,.mv (.c (.v (.bool false))),none⟩]) (.seq (.seq (.region [⟨some 16,.mv (.t 2),none⟩,⟨some 17,.len (.t 16),none⟩,⟨some 18,.faddr 0 (.t 3),none⟩,⟨some 19,.load none (.t 18),none⟩,⟨some 20,.len (.t 19),none⟩,⟨some 21,.bin .neq (.t 17) (.t 20),none⟩]) (.cond (.t 21) (.seq (.region [⟨some 6,.mv (.c (.v (.bool false))),none⟩]) .ret) .skip)) (.seq (.seq (.region [⟨some 7,.mv (.c (.v (.int .i64 0))),none⟩]) (.block 0 (.loop (.seq (.seq (.region [⟨some 22,.mv (.t 7),none⟩,⟨some 23,.mv (.t 2),none⟩,⟨some 24,.len (.t 23),none⟩,⟨some 25,.bin .lss (.t 22) (.t 24),none⟩]) (.cond (.t 25) .skip (.exit 0))) (.seq (.block 1 (.seq (.draw [⟨0,⟨some 28,.mv (.t 2),none⟩,[]⟩,⟨1,⟨some 29,.mv (.t 7),none⟩,[]⟩,⟨2,⟨some 30,.iaddr 1 (.t 28) (.t 29),none⟩,[]⟩,⟨3,⟨some 31,.load none (.t 30),none⟩,[]⟩,⟨4,⟨some 32,.len (.t 31),none⟩,[]⟩,⟨5,⟨some 33,.faddr 0 (.t 3),none⟩,[]⟩,⟨6,⟨some 34,.load none (.t 33),none⟩,[]⟩,⟨7,⟨some 35,.mv (.t 7),none⟩,[]⟩,⟨8,⟨some 36,.iaddr 3 (.t 34) (.t 35),none⟩,[]⟩,⟨9,⟨some 37,.faddr 2 (.t 36),none⟩,[]⟩,⟨10,⟨some 38,.load none (.t 37),none⟩,[]⟩,⟨11,⟨some 39,.len (.t 38),none⟩,[]⟩,⟨12,⟨some 40,.bin .neq (.t 32) (.t 39),none⟩,[]⟩]) (.cond (.t 40) (.seq (.region [⟨some 6,.mv (.c (.v (.bool false))),none⟩]) .ret) .skip))) (.region [⟨some 26,.mv (.t 7),none⟩,⟨some 27,.bin .add (.t 26) (.c (.v (.int .i64 1))),none⟩,⟨some 7,.mv (.t 27),none⟩])))))) (.seq (.seq (.region [⟨some 8,.mv (.c (.v (.int .i64 0))),none⟩]) (.block 2 (.loop (.seq (.seq (.region [⟨some 41,.mv (.t 8),none⟩,⟨some 42,.mv (.t 2),none⟩,⟨some 43,.len (.t 42),none⟩,⟨some 44,.bin .lss (.t 41) (.t 43),none⟩]) (.cond (.t 44) .skip (.exit 2))) (.seq (.block 3 (.seq (.region [⟨some 9,.mv (.c (.v (.int .i64 0))),none⟩]) (.block 4 (.loop (.seq (.seq (.region [⟨some 47,.mv (.t 9),none⟩,⟨some 48,.mv (.t 2),none⟩,⟨some 49,.mv (.t 8),none⟩,⟨some 50,.iaddr 1 (.t 48) (.t 49),none⟩,⟨some 51,.load none (.t 50),none⟩,⟨some 52,.len (.t 51),none⟩,⟨some 53,.bin .lss (.t 47) (.t 52),none⟩]) (.cond (.t 53) .skip (.exit 4))) (.seq (.block 5 (.seq (.region [⟨some 56,.mv (.t 8),none⟩,⟨some 57,.mv (.t 9),none⟩,⟨some 58,.bin .add (.t 57) (.c (.v (.int .i64 1))),none⟩,⟨some 59,.build [(.v (.int .i64 0)),(.v (.int .i64 0))] [(0,1,(.t 56)),(1,1,(.t 58))],none⟩,⟨some 10,.alloc [(.v (.int .i64 0)),(.v (.int .i64 0))],none⟩,⟨none,.store 2 (.t 10) (.t 59),none⟩]) (.seq (.region [⟨some 61,.load (some 1) (.t 3),none⟩,⟨some 62,.load (some 3) (.t 4),none⟩,⟨some 63,.load (some 2) (.t 10),none⟩,⟨some 64,.call (.c (.fn 57 [])) [(.t 61),(.t 62),(.t 63)],none⟩,⟨some 60,.mv (.t 64),none⟩,⟨some 65,.extract 0 (.t 60),none⟩,⟨some 66,.extract 1 (.t 60),none⟩,⟨some 11,.mv (.t 65),none⟩,⟨some 12,.mv (.t 66),none⟩]) (.seq (.seq (.draw [⟨0,⟨some 67,.mv (.t 2),none⟩,[]⟩,⟨1,⟨some 68,.mv (.t 8),none⟩,[]⟩,⟨2,⟨some 69,.iaddr 1 (.t 67) (.t 68),none⟩,[]⟩,⟨3,⟨some 70,.load none (.t 69),none⟩,[]⟩,⟨4,⟨some 71,.mv (.t 9),none⟩,[]⟩,⟨5,⟨some 72,.iaddr 1 (.t 70) (.t 71),none⟩,[]⟩,⟨6,⟨some 73,.load none (.t 72),none⟩,[]⟩,⟨7,⟨some 74,.mv (.t 11),none⟩,[]⟩,⟨8,⟨some 75,.bin .lss (.t 73) (.t 74),none⟩,[]⟩,⟨9,⟨some 76,.mv (.t 75),none⟩,[]⟩,⟨10,⟨some 77,.mv (.t 2),some (76,false)⟩,[]⟩,⟨11,⟨some 78,.mv (.t 8),some (76,false)⟩,[]⟩,⟨12,⟨some 79,.iaddr 1 (.t 77) (.t 78),some (76,false)⟩,[]⟩,⟨13,⟨some 80,.load none (.t 79),some (76,false)⟩,[]⟩,⟨14,⟨some 81,.mv (.t 9),some (76,false)⟩,[]⟩,⟨15,⟨some 82,.iaddr 1 (.t 80) (.t 81),some (76,false)⟩,[]⟩,⟨16,⟨some 83,.load none (.t 82),some (76,false)⟩,[]⟩,⟨17,⟨some 84,.mv (.t 12),some (76,false)⟩,[]⟩,⟨18,⟨some 85,.bin .gtr (.t 83) (.t 84),some (76,false)⟩,[]⟩,⟨19,⟨some 86,.pick (.t 76) (.c (.v (.bool true))) (.t 85),none⟩,[]⟩,⟨20,⟨some 87,.mv (.t 86),none⟩,[]⟩,⟨21,⟨some 88,.mv (.t 9),some (87,false)⟩,[]⟩,⟨22,⟨some 89,.bin .gtr (.t 88) (.c (.v (.int .i64 0))),some (87,false)⟩,[]⟩,⟨23,⟨some 90,.mv (.t 89),some (87,false)⟩,[]⟩,⟨24,⟨some 91,.mv (.t 2),some (90,true)⟩,[]⟩,⟨25,⟨some 92,.mv (.t 8),some (90,true)⟩,[]⟩,⟨26,⟨some 93,.iaddr 1 (.t 91) (.t 92),some (90,true)⟩,[]⟩,⟨27,⟨some 94,.load none (.t 93),some (90,true)⟩,[]⟩,⟨28,⟨some 95,.mv (.t 9),some (90,true)⟩,[]⟩,⟨29,⟨some 96,.iaddr 1 (.t 94) (.t 95),some (90,true)⟩,[]⟩,⟨30,⟨some 97,.load none (.t 96),some (90,true)⟩,[]⟩,⟨31,⟨some 98,.mv (.t 2),some (90,true)⟩,[]⟩,⟨32,⟨some 99,.mv (.t 8),some (90,true)⟩,[]⟩,⟨33,⟨some 100,.iaddr 1 (.t 98) (.t 99),some (90,true)⟩,[]⟩,⟨34,⟨some 101,.load none (.t 100),some (90,true)⟩,[]⟩,⟨35,⟨some 102,.mv (.t 9),some (90,true)⟩,[]⟩,⟨36,⟨some 103,.bin .sub (.t 102) (.c (.v (.int .i64 1))),some (90,true)⟩,[]⟩,⟨37,⟨some 104,.iaddr 1 (.t 101) (.t 103),some (90,true)⟩,[]⟩,⟨38,⟨some 105,.load none (.t 104),some (90,true)⟩,[]⟩,⟨39,⟨some 106,.bin .lss (.t 97) (.t 105),some (90,true)⟩,[]⟩,⟨40,⟨some 107,.pick (.t 90) (.t 106) (.c (.v (.bool false))),some (87,false)⟩,[]⟩,⟨41,⟨some 108,.pick (.t 87) (.c (.v (.bool true))) (.t 107),none⟩,[]⟩]) (.cond (.t 108) (.seq (.region [⟨some 6,.mv (.c (.v (.bool false))),none⟩]) .ret) .skip)) (.seq (.region [⟨some 109,.load (some 1) (.t 3),none⟩,⟨some 110,.load (some 2) (.t 10),none⟩,⟨some 111,.call (.c (.fn 126 [])) [(.t 109),(.t 110)],none⟩,⟨some 13,.alloc [(.v (.int .i64 0)),(.v (.int .i64 0)),(.v (.int .i64 0)),(.v (.int .i64 0)),(.v .zsl)],none⟩,⟨none,.store 5 (.t 13) (.t 111),none⟩]) (.seq (.seq (.region [⟨some 112,.faddr 0 (.t 13),none⟩,⟨some 113,.load none (.t 112),none⟩,⟨some 114,.bin .neq (.t 113) (.c (.v (.int .i64 3))),none⟩]) (.cond (.t 114) (.exit 5) .skip)) (.seq (.region [⟨some 115,.load (some 1) (.t 3),none⟩,⟨some 116,.faddr 2 (.t 13),none⟩,⟨some 117,.load none (.t 116),none⟩,⟨some 118,.call (.c (.fn 127 [])) [(.t 115),(.c (.v (.int .i64 2))),(.t 117)],none⟩,⟨some 14,.alloc [(.v (.int .i64 0)),(.v (.int .i64 0))],none⟩,⟨none,.store 2 (.t 14) (.t 118),none⟩]) (.seq (.draw [⟨0,⟨some 119,.mv (.t 2),none⟩,[]⟩,⟨1,⟨some 120,.faddr 0 (.t 14),none⟩,[]⟩,⟨2,⟨some 121,.load none (.t 120),none⟩,[]⟩,⟨3,⟨some 122,.iaddr 1 (.t 119) (.t 121),none⟩,[]⟩,⟨4,⟨some 123,.load none (.t 122),none⟩,[]⟩,⟨5,⟨some 124,.faddr 1 (.t 14),none⟩,[]⟩,⟨6,⟨some 125,.load none (.t 124),none⟩,[]⟩,⟨7,⟨some 126,.bin .sub (.t 125) (.c (.v (.int .i64 1))),none⟩,[]⟩,⟨8,⟨some 127,.iaddr 1 (.t 123) (.t 126),none⟩,[]⟩,⟨9,⟨some 128,.load none (.t 127),none⟩,[]⟩,⟨10,⟨some 15,.mv (.t 128),none⟩,[]⟩]) (.seq (.draw [⟨0,⟨some 129,.mv (.t 15),none⟩,[]⟩,⟨1,⟨some 130,.bin .lss (.t 129) (.c (.v (.int .i64 (-2199023255552)))),none⟩,[]⟩,⟨2,⟨some 131,.mv (.t 130),none⟩,[]⟩,⟨3,⟨some 132,.mv (.t 15),some (131,false)⟩,[]⟩,⟨4,⟨some 133,.bin .gtr (.t 132) (.c (.v (.int .i64 3298534883328))),some (131,false)⟩,[]⟩,⟨5,⟨some 134,.pick (.t 131) (.c (.v (.bool true))) (.t 133),none⟩,[]⟩,⟨6,⟨some 135,.mv (.t 134),none⟩,[]⟩,⟨7,⟨some 136,.mv (.t 2),some (135,false)⟩,[]⟩,⟨8,⟨some 137,.mv (.t 8),some (135,false)⟩,[]⟩,⟨9,⟨some 138,.iaddr 1 (.t 136) (.t 137),some (135,false)⟩,[]⟩,⟨10,⟨some 139,.load none (.t 138),some (135,false)⟩,[]⟩,⟨11,⟨some 140,.mv (.t 9),some (135,false)⟩,[]⟩,⟨12,⟨some 141,.iaddr 1 (.t 139) (.t 140),some (135,false)⟩,[]⟩,⟨13,⟨some 142,.load none (.t 141),some (135,false)⟩,[]⟩,⟨14,⟨some 143,.mv (.t 15),some (135,false)⟩,[]⟩,⟨15,⟨some 144,.faddr 1 (.t 4),some (135,false)⟩,[]⟩,⟨16,⟨some 145,.load none (.t 144),some (135,false)⟩,[]⟩,⟨17,⟨some 146,.bin .add (.t 143) (.t 145),some (135,false)⟩,[]⟩,⟨18,⟨some 147,.bin .lss (.t 142) (.t 146),some (135,false)⟩,[]⟩,⟨19,⟨some 148,.pick (.t 135) (.c (.v (.bool true))) (.t 147),none⟩,[]⟩,⟨20,⟨some 149,.mv (.t 148),none⟩,[]⟩,⟨21,⟨some 150,.mv (.t 2),some (149,false)⟩,[]⟩,⟨22,⟨some 151,.mv (.t 8),some (149,false)⟩,[]⟩,⟨23,⟨some 152,.iaddr 1 (.t 150) (.t 151),some (149,false)⟩,[]⟩,⟨24,⟨some 153,.load none (.t 152),some (149,false)⟩,[]⟩,⟨25,⟨some 154,.mv (.t 9),some (149,false)⟩,[]⟩,⟨26,⟨some 155,.iaddr 1 (.t 153) (.t 154),some (149,false)⟩,[]⟩,⟨27,⟨some 156,.load none (.t 155),some (149,false)⟩,[]⟩,⟨28,⟨some 157,.mv (.t 15),some (149,false)⟩,[]⟩,⟨29,⟨some 158,.faddr 2 (.t 4),some (149,false)⟩,[]⟩,⟨30,⟨some 159,.load none (.t 158),some (149,false)⟩,[]⟩,⟨31,⟨some 160,.bin .add (.t 157) (.t 159),some (149,false)⟩,[]⟩,⟨32,⟨some 161,.bin .gtr (.t 156) (.t 160),some (149,false)⟩,[]⟩,⟨33,⟨some 162,.pick (.t 149) (.c (.v (.bool true))) (.t 161),none⟩,[]⟩]) (.cond (.t 162) (.seq (.region [⟨some 6,.mv (.c (.v (.bool false))),none⟩]) .ret) .skip)))))))))) (.region [⟨some 54,.mv (.t 9),none⟩,⟨some 55,.bin .add (.t 54) (.c (.v (.int .i64 1))),none⟩,⟨some 9,.mv (.t 55),none⟩]))))))) (.region [⟨some 45,.mv (.t 8),none⟩,⟨some 46,.bin .add (.t 45) (.c (.v (.int .i64 1))),none⟩,⟨some 8,.mv (.t 46),none⟩])))))) (.seq (.region [⟨some 6,.mv (.c (.v (.bool true))),none⟩]) .ret)))))⟩
theorem a_rCheck19_ok : cFunc Try.prog 55 = some a_rCheck19 := by kernel_rfl
def r_rCheck190 : List (Nat × Nat) := [(6, 7), (22, 40)]
def r_rCheck191 : List (Nat × Nat) := [(6, 6), (8, 15), (41, 162)]
def r_rCheck192 : List (Nat × Nat) := [(6, 6), (9, 15), (47, 162)]

set_option maxRecDepth 20000 in
set_option maxHeartbeats 8000000 in
theorem rCheck19_spec (t : Tr) (hS : Small t) (hN : Nm t) (bn : Bn) (hval : validL t = true) (hok : Bok t bn) (m : List (List Int)) (hml : m.length ≤ 1000000) (hmr : ∀ r ∈ m, r.length ≤ 1000000) (b l : List Row) :
  ACalls Try.prog 55 [.agg [.v (eT t)], .agg (eBn bn), .v (.isl 1 (m.map eRw))] b l (fun r b' l' => r = .v (.bool (asgB t bn m)) ∧ b' = b ∧ l' = l) := by
 refine calls_kept a_rCheck19_ok rfl (by decide) ?_
 intro B g hB hR hE hA
 simp only [KArgs] at hA
 have eTe : eT t = .isl 3 (t.map ePr) := rfl
 have g0 : ∀ x y : Int, decide (x > y) = decide (y < x) := fun _ _ => rfl
 have hv := hok.v
 have hnp := hS.np
 simp only [eBn, eTe] at hA
 by_cases hml2 : m.length = t.length
 case neg =>
  have d0 : ((m.length : Int) != (t.length : Int)) = true := by rw [bne_iff_ne]; omega
  have hno := asg_no (t := t) (bn := bn) (m := m) (fun h => hml2 h.1.1)
  simp (disch := (first | decide | omega)) only [a_rCheck19, hA, d0, List.length_map, go_sem]
  exact leave_pure (xs := [.v (.bool false)]) (.inr rfl) (by simp (disch := (first | decide | omega)) only [resVs, resV, go_sem, hA]) kO hR hB ⟨by rw [hno]; rfl, rfl, rfl⟩
 have d0 : ((m.length : Int) != (t.length : Int)) = false := by simp; omega
 simp (disch := (first | decide | omega)) only [a_rCheck19, hA, d0, List.length_map, go_sem]
 refine loop_kept (ι := Nat) r_rCheck190 (fun q => [(7, .v (.int .i64 q))]) 2 (fun q => [.live 0 1 [[.v (.isl 3 (t.map ePr))]], .live 0 3 [[.v (.isl 1 (bn.er.map eI)), .v (.int .i64 bn.lo), .v (.int .i64 bn.hi)]]])
  (fun q => q ≤ t.length ∧ ∀ p, p < q → (m.getD p []).length = (evsOf t p).length) (fun q => t.length - q) 0 ⟨Nat.zero_le _, fun j hj => by omega⟩ (by (repeat (first | exact hE.mono oM | refine KLt.up ?_ kL))) (by ((try simp (disch := decide) only [hA, go_sem]) <;> exact kH)) (fun e => Weak.refl _ _ _) ?_
 rintro g1 hE1 hEE1 hg1 q ⟨hq1, hq2⟩
 have hmt : (m.length : Int) = (t.length : Int) := by omega
 by_cases hql : q < t.length
 ·have hgq : (t.map ePr)[q]? = some (ePr t[q]) := by rw [List.getElem?_map, List.getElem?_eq_getElem hql]; rfl
  have hqm : q < m.length := by omega
  have hgm : (m.map eRw)[q]? = some [.isl 1 (m[q].map eI)] := by rw [List.getElem?_map, List.getElem?_eq_getElem hqm]; rfl
  have hme := hmr _ (List.getElem_mem hqm)
  have hte := hS.ne _ (List.getElem_mem hql)
  simp only [ePr] at hgq
  by_cases hl : m[q].length = t[q].evs.length
  ·have d1 : ((m[q].length : Int) != (t[q].evs.length : Int)) = false := by simp; omega
   simp (disch := (first | decide | omega)) only [hA, hg1, hgq, hgm, d1, hmt, List.length_map, go_sem]
   refine ⟨q + 1, ⟨hql, fun p hp => ?_⟩, by simp only; omega, ?_⟩
   ·by_cases hpq : p = q
    ·subst hpq; rw [getD_at hqm, evsOf_lt hql]; exact hl
    ·exact hq2 p oM
   ·exact Weak.kround (p := r_rCheck190) (k := 2) (by ((repeat refine (kAny_up rfl).trans ?_); exact hEE1)) (by ((try simp (disch := decide) only [hA, go_sem]) <;> exact kH)) rfl hE1 (by simp) kV hR kL
  ·have d1 : ((m[q].length : Int) != (t[q].evs.length : Int)) = true := by rw [bne_iff_ne]; omega
   have hno := asg_no (t := t) (bn := bn) (m := m) (fun h => hl (by have := h.1.2 q hql; rwa [getD_at hqm, evsOf_lt hql] at this))
   simp (disch := (first | decide | omega)) only [hA, hg1, hgq, hgm, d1, hmt, List.length_map, go_sem]
   exact leave_pure (xs := [.v (.bool false)]) (.inr rfl) (by simp (disch := (first | decide | omega)) only [resVs, resV, go_sem, hA, hg1]) kO hR hB ⟨by rw [hno]; rfl, rfl, rfl⟩
 obtain rfl : q = t.length := by omega
 have hs : shpOk t m := ⟨hml2, hq2⟩
 simp (disch := (first | decide | omega)) only [hA, hg1, hmt, List.length_map, go_sem]
 refine loop_kept (ι := Nat) r_rCheck191 (fun q => [(8, .v (.int .i64 q))]) 2 (fun q => [.live 0 1 [[.v (.isl 3 (t.map ePr))]], .live 0 3 [[.v (.isl 1 (bn.er.map eI)), .v (.int .i64 bn.lo), .v (.int .i64 bn.hi)]]])
  (fun q => q ≤ t.length ∧ ∀ p i, p < q → (p, i + 1) ∈ ids t → okAt t bn m p i) (fun q => t.length - q) 0 ⟨Nat.zero_le _, fun j _ hj => by omega⟩ (by (repeat (first | exact hE1.mono oM | refine KLt.up ?_ kL))) (by ((try simp (disch := decide) only [hA, hg1, go_sem]) <;> exact kH)) (fun e => Weak.refl _ _ _) ?_
 clear hq1 hq2
 rintro g2 hE2 hEE2 hg2 p ⟨hp1, hp2⟩
 by_cases hpl : p < t.length
 case neg =>
  obtain rfl : p = t.length := by omega
  have hyes := asg_yes (t := t) (bn := bn) (m := m) ⟨hs, fun p i hx => hp2 p i (mem_ids2.1 hx).1 hx⟩
  simp (disch := (first | decide | omega)) only [hA, hg1, hg2, hmt, List.length_map, go_sem]
  exact leave_pure (xs := [.v (.bool true)]) (.inr rfl) (by simp (disch := (first | decide | omega)) only [resVs, resV, go_sem, hA, hg1, hg2]) kO hR hB ⟨by rw [hyes]; rfl, rfl, rfl⟩
 have hgp : (t.map ePr)[p]? = some (ePr t[p]) := by rw [List.getElem?_map, List.getElem?_eq_getElem hpl]; rfl
 have hne := hS.ne _ (List.getElem_mem hpl)
 simp only [ePr] at hgp
 have heo := evsOf_lt hpl
 have hpm0 : p < m.length := by omega
 have hgm0 : (m.map eRw)[p]? = some [.isl 1 (m[p].map eI)] := by rw [List.getElem?_map, List.getElem?_eq_getElem hpm0]; rfl
 have hpl0 : m[p].length = t[p].evs.length := by have := hs.2 p hpl; rwa [getD_at hpm0, heo] at this
 have hplc : (m[p].length : Int) = (t[p].evs.length : Int) := by omega
 simp (disch := (first | decide | omega)) only [hA, hg1, hg2, hmt, List.length_map, go_sem]
 refine loop_kept (ι := Nat) r_rCheck192 (fun i => [(9, .v (.int .i64 i))]) 2 (fun i => [.live 0 1 [[.v (.isl 3 (t.map ePr))]], .live 0 3 [[.v (.isl 1 (bn.er.map eI)), .v (.int .i64 bn.lo), .v (.int .i64 bn.hi)]]])
  (fun i => i ≤ t[p].evs.length ∧ ∀ j, j < i → okAt t bn m p j) (fun i => t[p].evs.length - i) 0 ⟨Nat.zero_le _, fun j hj => by omega⟩ (by (repeat (first | exact hE2.mono oM | refine KLt.up ?_ kL))) (by ((try simp (disch := decide) only [hA, hg1, hg2, go_sem]) <;> exact kH)) (fun e => Weak.refl _ _ _) ?_
 rintro g3 hE3 hEE3 hg3 i ⟨hi1, hi2⟩
 by_cases hil : i < t[p].evs.length
 case neg =>
  obtain rfl : i = t[p].evs.length := by omega
  simp (disch := (first | decide | omega)) only [hA, hg1, hg2, hg3, hgm0, hplc, List.length_map, go_sem]
  refine ⟨p + 1, ⟨hpl, fun p' i' hp' hx => ?_⟩, by simp only; omega, ?_⟩
  ·by_cases hpp : p' = p
   ·subst hpp
    refine hi2 i' ?_
    have := (mem_ids2.1 hx).2
    rwa [heo] at this
   ·exact hp2 p' i' oM hx
  ·exact Weak.kround (p := r_rCheck191) (k := 2) (by ((repeat refine (kAny_up rfl).trans ?_); refine (kAny_sub hg3 (kIn_sub rfl)).trans ?_; (repeat refine (kAny_up rfl).trans ?_); exact hEE2)) (by ((try simp (disch := decide) only [hA, hg1, hg2, go_sem]) <;> exact kH)) rfl hE2 (by simp) kV hR kL
 have hx : (p, i + 1) ∈ ids t := mem_ids2.2 ⟨hpl, by rw [heo]; exact hil⟩
 have hev := evAt_eq hpl hil
 obtain ⟨hpm, him, gm1, gm2, hml3⟩ := chk_facts (bn := bn) hs hx
 have co := fun b l => rOwn19_spec t hS bn hok p i hx b l
 have cAt_ := fun b l => rAt_spec t hS p i hpl hil b l
 obtain ⟨x, hxe⟩ : ∃ x, t[p].evs[i] = x := ⟨_, rfl⟩
 rw [hxe] at hev cAt_
 simp only [eBn, idA, eTe] at co cAt_
 have hci : (i : Int) + 1 = ((i + 1 : Nat) : Int) := by omega
 have bad : ¬ okAt t bn m p i → asgB t bn m = false := fun h => asg_no (fun h2 => h (h2.2 p i hx))
 obtain ⟨at_, hat⟩ : ∃ a, tmA m p i = a := ⟨_, rfl⟩
 rw [hat] at gm2
 have tb := hok.time hx
 have eb := hok.er p
 have lo_ : loA t bn (p, i + 1) = (evAt t (p, i + 1)).time - erB bn p := rfl
 have hi_ : hiA t bn (p, i + 1) = (evAt t (p, i + 1)).time + erB bn p := rfl
 by_cases c1 : at_ < loA t bn (p, i + 1)
 ·have d1 := decide_eq_true c1
  have hno := bad (fun h => by have := h.1.1; omega)
  simp (disch := (first | decide | omega)) only [hA, hg1, hg2, hg3, gm1, gm2, hplc, hci, List.length_map, go_sem]
  refine ACalls.nxt (co _ _) ?_
  simp (disch := (first | decide | omega)) only [hA, hg1, hg2, hg3, gm1, gm2, d1, go_sem]
  exact leave_pure (xs := [.v (.bool false)]) (.inr rfl) (by simp (disch := (first | decide | omega)) only [resVs, resV, go_sem, hA, hg1, hg2, hg3]) kO hR hB ⟨by rw [hno]; rfl, rfl, rfl⟩
 have d1 := decide_eq_false c1
 by_cases c2 : hiA t bn (p, i + 1) < at_
 ·have d2 := decide_eq_true c2
  have hno := bad (fun h => by have := h.1.2; omega)
  simp (disch := (first | decide | omega)) only [hA, hg1, hg2, hg3, gm1, gm2, hplc, hci, List.length_map, go_sem]
  refine ACalls.nxt (co _ _) ?_
  simp (disch := (first | decide | omega)) only [hA, hg1, hg2, hg3, gm1, gm2, d1, g0, d2, go_sem]
  exact leave_pure (xs := [.v (.bool false)]) (.inr rfl) (by simp (disch := (first | decide | omega)) only [resVs, resV, go_sem, hA, hg1, hg2, hg3]) kO hR hB ⟨by rw [hno]; rfl, rfl, rfl⟩
 have d2 := decide_eq_false c2
 have sb : -1099511627776 ≤ at_ ∧ at_ ≤ 2199023255552 := by unfold MT at tb eb; omega
 by_cases c3 : 0 < i ∧ at_ < tmA m p (i - 1)
 ·have d3 : decide ((0 : Int) < (i : Int)) = true := decide_eq_true oM
  have d4 := decide_eq_true c3.2
  have hno := bad (fun h => by have := h.2.1 c3.1; omega)
  have him1 : i - 1 < m[p].length := by omega
  have gm3 : (m[p].map eI)[i - 1]? = some [.int .i64 (tmA m p (i - 1))] := by rw [List.getElem?_map, List.getElem?_eq_getElem him1, tm_row hpm him1]; rfl
  have hcm : (i : Int) - 1 = ((i - 1 : Nat) : Int) := by omega
  simp (disch := (first | decide | omega)) only [hA, hg1, hg2, hg3, gm1, gm2, hplc, hci, List.length_map, go_sem]
  refine ACalls.nxt (co _ _) ?_
  simp (disch := (first | decide | omega)) only [hA, hg1, hg2, hg3, d1, g0, d2, d3, gm1, gm2, hcm, gm3, d4, go_sem]
  exact leave_pure (xs := [.v (.bool false)]) (.inr rfl) (by simp (disch := (first | decide | omega)) only [resVs, resV, go_sem, hA, hg1, hg2, hg3]) kO hR hB ⟨by rw [hno]; rfl, rfl, rfl⟩
 have hmono : 0 < i → tmA m p (i - 1) ≤ at_ := fun h => Int.not_lt.1 (fun h2 => c3 ⟨h, h2⟩)
 have good : okAt t bn m p i → ∀ j, j < i + 1 → okAt t bn m p j := fun h j hj => by
  by_cases hji : j = i
  ·subst hji; exact h
  ·exact hi2 j oM
 by_cases k3 : x.kind = 3
 case neg =>
  have d5 : (x.kind != (3 : Int)) = true := by rw [bne_iff_ne]; exact k3
  have hgd := good ⟨⟨by omega, by omega⟩, fun h => by rw [hat]; exact hmono h, fun h => absurd (by rw [hev] at h; exact h) k3⟩
  by_cases i0 : i = 0
  ·have d3 : decide ((0 : Int) < (i : Int)) = false := decide_eq_false oM
   simp (disch := (first | decide | omega)) only [hA, hg1, hg2, hg3, gm1, gm2, hplc, hci, List.length_map, go_sem]
   refine ACalls.nxt (co _ _) ?_
   simp (disch := (first | decide | omega)) only [hA, hg1, hg2, hg3, gm1, gm2, d1, g0, d2, d3, go_sem]
   refine ACalls.nxt (cAt_ _ _) ?_
   simp (disch := (first | decide | omega)) only [hA, hg1, hg2, hg3, d5, go_sem]
   refine ⟨i + 1, ⟨hil, hgd⟩, by simp only; omega, ?_⟩
   exact Weak.kround (p := r_rCheck192) (k := 2) (by ((repeat refine (kAny_up rfl).trans ?_); exact hEE3)) (by ((try simp (disch := decide) only [hA, go_sem]) <;> exact kH)) rfl hE3 (by simp) kV hR kL
  ·have d3 : decide ((0 : Int) < (i : Int)) = true := decide_eq_true oM
   have d4 : decide (at_ < tmA m p (i - 1)) = false := decide_eq_false (by have := hmono oM; omega)
   have him1 : i - 1 < m[p].length := by omega
   have gm3 : (m[p].map eI)[i - 1]? = some [.int .i64 (tmA m p (i - 1))] := by rw [List.getElem?_map, List.getElem?_eq_getElem him1, tm_row hpm him1]; rfl
   have hcm : (i : Int) - 1 = ((i - 1 : Nat) : Int) := by omega
   simp (disch := (first | decide | omega)) only [hA, hg1, hg2, hg3, gm1, gm2, hplc, hci, List.length_map, go_sem]
   refine ACalls.nxt (co _ _) ?_
   simp (disch := (first | decide | omega)) only [hA, hg1, hg2, hg3, d1, g0, d2, d3, gm1, gm2, hcm, gm3, d4, go_sem]
   refine ACalls.nxt (cAt_ _ _) ?_
   simp (disch := (first | decide | omega)) only [hA, hg1, hg2, hg3, d5, go_sem]
   refine ⟨i + 1, ⟨hil, hgd⟩, by simp only; omega, ?_⟩
   exact Weak.kround (p := r_rCheck192) (k := 2) (by ((repeat refine (kAny_up rfl).trans ?_); exact hEE3)) (by ((try simp (disch := decide) only [hA, go_sem]) <;> exact kH)) rfl hE3 (by simp) kV hR kL
 have d5 : (x.kind != (3 : Int)) = false := by rw [k3]; rfl
 have hsi := sndr_in hv hx (by rw [hev]; exact k3)
 obtain ⟨q, j, hqj⟩ : ∃ q j, sndr t (p, i + 1) = (q, j + 1) := ⟨_, (sndr t (p, i + 1)).2 - 1, Prod.ext rfl (by have := mem_pos hsi.1; simp only; omega)⟩
 rw [hqj] at hsi
 have hfv : findV t 2 x.msg = (q, j + 1) := by rw [← hqj]; unfold sndr; rw [hev]
 have hfr : findR t 2 x.msg = (q, j + 1) := by unfold findR; rw [hval, if_pos rfl]; exact hfv
 have cS := fun b l => rFind2_spec t hS hN 2 x.msg b l
 rw [hfv] at cS
 simp only [eTe, idA] at cS
 obtain ⟨hqm, hjm, gs1, gs2, _⟩ := chk_facts (bn := bn) hs hsi.1
 obtain ⟨st, hst⟩ : ∃ a, tmA m q j = a := ⟨_, rfl⟩
 rw [hst] at gs2
 have hcj : ((j + 1 : Nat) : Int) - 1 = (j : Int) := by omega
 have hjl := hmr _ (List.getElem_mem hqm)
 have tbq := hok.time hsi.1
 have ebq := hok.er q
 have loq : loA t bn (q, j + 1) = (evAt t (q, j + 1)).time - erB bn q := rfl
 have hiq : hiA t bn (q, j + 1) = (evAt t (q, j + 1)).time + erB bn q := rfl
 have badq : ¬ okAt t bn m q j → asgB t bn m = false := fun h => asg_no (fun h2 => h (h2.2 q j hsi.1))
 have hk3 : okAt t bn m p i ↔ bn.lo ≤ at_ - st ∧ at_ - st ≤ bn.hi := by
  unfold okAt
  rw [hqj, hev, hat]
  simp only [Nat.add_sub_cancel]
  rw [hst]
  exact ⟨fun h => h.2.2 k3, fun h => ⟨⟨by omega, by omega⟩, hmono, fun _ => h⟩⟩
 have hlo := hok.lo
 have hle := hok.le
 have hhi := hok.hi
 unfold MT at hhi tbq ebq
 by_cases i0 : i = 0
 ·have d3 : decide ((0 : Int) < (i : Int)) = false := decide_eq_false oM
  simp (disch := (first | decide | omega)) only [hA, hg1, hg2, hg3, gm1, gm2, hplc, hci, List.length_map, go_sem]
  refine ACalls.nxt (co _ _) ?_
  simp (disch := (first | decide | omega)) only [hA, hg1, hg2, hg3, gm1, gm2, d1, g0, d2, d3, go_sem]
  refine ACalls.nxt (cAt_ _ _) ?_
  simp (disch := (first | decide | omega)) only [hA, hg1, hg2, hg3, d5, go_sem]
  refine ACalls.nxt (cS _ _) ?_
  by_cases e1 : st < -2199023255552
  ·have f1 := decide_eq_true e1
   have hno := badq (fun h => by have := h.1.1; omega)
   simp (disch := (first | decide | omega)) only [hA, hg1, hg2, hg3, gs1, gs2, hcj, f1, go_sem]
   exact leave_pure (xs := [.v (.bool false)]) (.inr rfl) (by simp (disch := (first | decide | omega)) only [resVs, resV, go_sem, hA, hg1, hg2, hg3]) kO hR hB ⟨by rw [hno]; rfl, rfl, rfl⟩
  have f1 := decide_eq_false e1
  by_cases e2 : 3298534883328 < st
  ·have f2 := decide_eq_true e2
   have hno := badq (fun h => by have := h.1.2; omega)
   simp (disch := (first | decide | omega)) only [hA, hg1, hg2, hg3, gs1, gs2, hcj, f1, g0, f2, go_sem]
   exact leave_pure (xs := [.v (.bool false)]) (.inr rfl) (by simp (disch := (first | decide | omega)) only [resVs, resV, go_sem, hA, hg1, hg2, hg3]) kO hR hB ⟨by rw [hno]; rfl, rfl, rfl⟩
  have f2 := decide_eq_false e2
  by_cases e3 : at_ < st + bn.lo
  ·have f3 := decide_eq_true e3
   have hno := bad (fun h => by have := hk3.1 h; omega)
   simp (disch := (first | decide | omega)) only [hA, hg1, hg2, hg3, gs1, gs2, gm1, gm2, hcj, f1, g0, f2, f3, go_sem]
   exact leave_pure (xs := [.v (.bool false)]) (.inr rfl) (by simp (disch := (first | decide | omega)) only [resVs, resV, go_sem, hA, hg1, hg2, hg3]) kO hR hB ⟨by rw [hno]; rfl, rfl, rfl⟩
  have f3 := decide_eq_false e3
  by_cases e4 : st + bn.hi < at_
  ·have f4 := decide_eq_true e4
   have hno := bad (fun h => by have := hk3.1 h; omega)
   simp (disch := (first | decide | omega)) only [hA, hg1, hg2, hg3, gs1, gs2, gm1, gm2, hcj, f1, g0, f2, f3, f4, go_sem]
   exact leave_pure (xs := [.v (.bool false)]) (.inr rfl) (by simp (disch := (first | decide | omega)) only [resVs, resV, go_sem, hA, hg1, hg2, hg3]) kO hR hB ⟨by rw [hno]; rfl, rfl, rfl⟩
  have f4 := decide_eq_false e4
  have hgd := good (hk3.2 ⟨by omega, by omega⟩)
  simp (disch := (first | decide | omega)) only [hA, hg1, hg2, hg3, gs1, gs2, gm1, gm2, hcj, f1, g0, f2, f3, f4, go_sem]
  refine ⟨i + 1, ⟨hil, hgd⟩, by simp only; omega, ?_⟩
  exact Weak.kround (p := r_rCheck192) (k := 2) (by ((repeat refine (kAny_up rfl).trans ?_); exact hEE3)) (by ((try simp (disch := decide) only [hA, go_sem]) <;> exact kH)) rfl hE3 (by simp) kV hR kL
 ·have d3 : decide ((0 : Int) < (i : Int)) = true := decide_eq_true oM
  have d4 : decide (at_ < tmA m p (i - 1)) = false := decide_eq_false (by have := hmono oM; omega)
  have him1 : i - 1 < m[p].length := by omega
  have gm3 : (m[p].map eI)[i - 1]? = some [.int .i64 (tmA m p (i - 1))] := by rw [List.getElem?_map, List.getElem?_eq_getElem him1, tm_row hpm him1]; rfl
  have hcm : (i : Int) - 1 = ((i - 1 : Nat) : Int) := by omega
  simp (disch := (first | decide | omega)) only [hA, hg1, hg2, hg3, gm1, gm2, hplc, hci, List.length_map, go_sem]
  refine ACalls.nxt (co _ _) ?_
  simp (disch := (first | decide | omega)) only [hA, hg1, hg2, hg3, d1, g0, d2, d3, gm1, gm2, hcm, gm3, d4, go_sem]
  refine ACalls.nxt (cAt_ _ _) ?_
  simp (disch := (first | decide | omega)) only [hA, hg1, hg2, hg3, d5, go_sem]
  refine ACalls.nxt (cS _ _) ?_
  by_cases e1 : st < -2199023255552
  ·have f1 := decide_eq_true e1
   have hno := badq (fun h => by have := h.1.1; omega)
   simp (disch := (first | decide | omega)) only [hA, hg1, hg2, hg3, gs1, gs2, hcj, f1, go_sem]
   exact leave_pure (xs := [.v (.bool false)]) (.inr rfl) (by simp (disch := (first | decide | omega)) only [resVs, resV, go_sem, hA, hg1, hg2, hg3]) kO hR hB ⟨by rw [hno]; rfl, rfl, rfl⟩
  have f1 := decide_eq_false e1
  by_cases e2 : 3298534883328 < st
  ·have f2 := decide_eq_true e2
   have hno := badq (fun h => by have := h.1.2; omega)
   simp (disch := (first | decide | omega)) only [hA, hg1, hg2, hg3, gs1, gs2, hcj, f1, g0, f2, go_sem]
   exact leave_pure (xs := [.v (.bool false)]) (.inr rfl) (by simp (disch := (first | decide | omega)) only [resVs, resV, go_sem, hA, hg1, hg2, hg3]) kO hR hB ⟨by rw [hno]; rfl, rfl, rfl⟩
  have f2 := decide_eq_false e2
  by_cases e3 : at_ < st + bn.lo
  ·have f3 := decide_eq_true e3
   have hno := bad (fun h => by have := hk3.1 h; omega)
   simp (disch := (first | decide | omega)) only [hA, hg1, hg2, hg3, gs1, gs2, gm1, gm2, hcj, f1, g0, f2, f3, go_sem]
   exact leave_pure (xs := [.v (.bool false)]) (.inr rfl) (by simp (disch := (first | decide | omega)) only [resVs, resV, go_sem, hA, hg1, hg2, hg3]) kO hR hB ⟨by rw [hno]; rfl, rfl, rfl⟩
  have f3 := decide_eq_false e3
  by_cases e4 : st + bn.hi < at_
  ·have f4 := decide_eq_true e4
   have hno := bad (fun h => by have := hk3.1 h; omega)
   simp (disch := (first | decide | omega)) only [hA, hg1, hg2, hg3, gs1, gs2, gm1, gm2, hcj, f1, g0, f2, f3, f4, go_sem]
   exact leave_pure (xs := [.v (.bool false)]) (.inr rfl) (by simp (disch := (first | decide | omega)) only [resVs, resV, go_sem, hA, hg1, hg2, hg3]) kO hR hB ⟨by rw [hno]; rfl, rfl, rfl⟩
  have f4 := decide_eq_false e4
  have hgd := good (hk3.2 ⟨by omega, by omega⟩)
  simp (disch := (first | decide | omega)) only [hA, hg1, hg2, hg3, gs1, gs2, gm1, gm2, hcj, f1, g0, f2, f3, f4, go_sem]
  refine ⟨i + 1, ⟨hil, hgd⟩, by simp only; omega, ?_⟩
  exact Weak.kround (p := r_rCheck192) (k := 2) (by ((repeat refine (kAny_up rfl).trans ?_); exact hEE3)) (by ((try simp (disch := decide) only [hA, go_sem]) <;> exact kH)) rfl hE3 (by simp) kV hR kL
end Go.Proofs.Ytanblnhnfkeffaa
