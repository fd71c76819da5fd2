/- Texts of one proof, laid together: Y6. No condition. -/
import Derived.Test.YtanblnhnfkeffaaD316
import Derived.Test.YtanblnhnfkeffaaD313
namespace Go.Proofs.Ytanblnhnfkeffaa
set_option linter.unusedVariables false
set_option linter.unusedSimpArgs false
attribute [local go_sem ↓] run_skip run_region run_draw run_both run_seq run_block run_exit run_ret run_cond atN_app seqC_normal seqC_exit seqC_ret seqQ_normal seqQ_exit seqQ_ret blkQ_normal blkQ_exit blkQ_ret runOps_nil runOps_cons runD_nil runD_cons grdO_true grdO_false grdD_true grdD_false ifC_true ifC_false opS_val opS_call opS_two opK_app dS_val dS_call dS_two dK_app kUp_same kUp_ne
attribute [local go_sem] rechks_nil rechks_cons rechk gcase_true gcase_false ex_val ex_val0 gd_none gd_some ev_t ev_c evs_nil evs_cons evo_some evo_none hget_at hget_first hsetB_at hsetB_first hsetL_at hsetL_first ofOpt_some aop aload astore aslice aappend aiaddr aiaddrA afaddr alen alenS acopy amm acall alookup amupdate alenM atostr comma keyEq apick binV binVB binVS isSh intOp strOp boolOp shOp eqC eqF and2 cellsOf setFrom fillA fillS rd rdI elems mk bounds AV.cell List.all_cons List.all_nil Bool.and_true Bool.true_and Bool.and_self List.length_cons List.length_nil List.length_append Nat.reduceAdd Nat.reduceSub Nat.reduceMul Nat.zero_add Nat.add_zero List.cons_append List.nil_append List.append_assoc List.append_nil List.getElem?_cons_zero List.getElem?_cons_succ List.getElem?_nil List.set_cons_zero List.set_cons_succ List.drop_zero List.drop_succ_cons List.take_zero List.take_succ_cons List.take_nil List.drop_nil List.map_cons List.map_nil Option.map_some if_true if_false Bool.false_eq_true and_self true_and and_true Nat.reduceLeDiff Nat.reduceLT Nat.le_refl Nat.reduceEqDiff ite_true ite_false beq_self_eq_true beq_true beq_false Bool.not_true Bool.not_false Bool.true_beq Bool.false_beq map_vs vs_len vs_get vs_take vs_drop vs_snoc1 vs_snoc2 vs_snoc3 vs_snoc5 vs_set1 vs_set2 vs_rep wrap_id le_T lt_T le_F lt_F leI_T ltI_T leI_F ltI_F geI gtI get_T decide_true decide_false room List.getElem?_map List.length_map List.length_take Int.toNat_natCast Nat.min_def Nat.min_self nth_kOf put_kOf put_kNo kOv_cons kOv_nil KHas KArgs List.getElem_cons_zero List.getElem_cons_succ
def a_dCheck : AFunc := ⟨3,161,[.tmp 6],(.seq (.region [⟨some 3,.box (.t 0),none⟩,⟨some 4,.box (.t 1),none⟩,⟨some 6,.mv (.c (.v (.bool false))),none⟩]) (.seq (.seq (.region [⟨some 21,.load (some 1) (.t 3),none⟩,⟨some 22,.load (some 3) (.t 4),none⟩,⟨some 23,.call (.c (.fn 53 [])) [(.t 21),(.t 22)],none⟩,⟨some 24,.not (.t 23),none⟩,⟨some 25,.mv (.t 24),none⟩,⟨some 26,.mv (.t 2),some (25,false)⟩,⟨some 27,.len (.t 26),some (25,false)⟩,⟨some 28,.faddr 0 (.t 3),some (25,false)⟩,⟨some 29,.load none (.t 28),some (25,false)⟩,⟨some 30,.len (.t 29),some (25,false)⟩,⟨some 31,.bin .neq (.t 27) (.t 30),some (25,false)⟩,⟨some 32,.pick (.t 25) (.c (.v (.bool true))) (.t 31),none⟩]) (.cond (.t 32) (.seq (.region [⟨some 6,.mv (.c (.v (.bool false))),none⟩]) .ret) .skip)) (.seq (.seq (.region [⟨some 33,.faddr 0 (.t 3),none⟩,⟨some 34,.load none (.t 33),none⟩,⟨some 35,.len (.t 34),none⟩,⟨some 36,.mv (.c (.v (.int .i64 0))),none⟩]) (.block 0 (.loop (.seq (.region [⟨some 37,.bin .lss (.t 36) (.t 35),none⟩]) (.seq (.cond (.t 37) .skip (.exit 0)) (.seq (.block 1 (.seq (.region [⟨some 38,.mv (.t 36),none⟩,⟨some 39,.iaddr 3 (.t 34) (.t 36),none⟩,⟨some 40,.load (some 3) (.t 39),none⟩,⟨some 8,.alloc [(.v (.str ⟨#[]⟩)),(.v .zsl),(.v .zsl)],none⟩,⟨some 7,.mv (.t 38),none⟩,⟨none,.store 3 (.t 8) (.t 40),none⟩]) (.seq (.draw [⟨0,⟨some 41,.mv (.t 2),none⟩,[]⟩,⟨1,⟨some 42,.mv (.t 7),none⟩,[]⟩,⟨2,⟨some 43,.iaddr 1 (.t 41) (.t 42),none⟩,[]⟩,⟨3,⟨some 44,.load none (.t 43),none⟩,[]⟩,⟨4,⟨some 45,.len (.t 44),none⟩,[]⟩,⟨5,⟨some 46,.faddr 2 (.t 8),none⟩,[]⟩,⟨6,⟨some 47,.load none (.t 46),none⟩,[]⟩,⟨7,⟨some 48,.len (.t 47),none⟩,[]⟩,⟨8,⟨some 49,.bin .neq (.t 45) (.t 48),none⟩,[]⟩]) (.cond (.t 49) (.seq (.region [⟨some 6,.mv (.c (.v (.bool false))),none⟩]) .ret) .skip)))) (.region [⟨some 50,.bin .add (.t 36) (.c (.v (.int .i64 1))),none⟩,⟨some 36,.mv (.t 50),none⟩]))))))) (.seq (.seq (.region [⟨some 51,.faddr 0 (.t 3),none⟩,⟨some 52,.load none (.t 51),none⟩,⟨some 53,.len (.t 52),none⟩,⟨some 54,.mv (.c (.v (.int .i64 0))),none⟩]) (.block 2 (.loop (.seq (.region [⟨some 55,.bin .lss (.t 54) (.t 53),none⟩]) (.seq (.cond (.t 55) .skip (.exit 2)) (.seq (.block 3 (.seq (.region [⟨some 56,.mv (.t 54),none⟩,⟨some 57,.iaddr 3 (.t 52) (.t 54),none⟩,⟨some 58,.load (some 3) (.t 57),none⟩,⟨some 10,.alloc [(.v (.str ⟨#[]⟩)),(.v .zsl),(.v .zsl)],none⟩,⟨some 9,.mv (.t 56),none⟩,⟨none,.store 3 (.t 10) (.t 58),none⟩]) (.seq (.region [⟨some 59,.faddr 2 (.t 10),none⟩,⟨some 60,.load none (.t 59),none⟩,⟨some 61,.len (.t 60),none⟩,⟨some 62,.mv (.c (.v (.int .i64 0))),none⟩]) (.block 4 (.loop (.seq (.region [⟨some 63,.bin .lss (.t 62) (.t 61),none⟩]) (.seq (.cond (.t 63) .skip (.exit 4)) (.seq (.block 5 (.seq (.region [⟨some 64,.mv (.t 62),none⟩,⟨some 65,.iaddr 5 (.t 60) (.t 62),none⟩,⟨some 66,.load (some 5) (.t 65),none⟩,⟨some 12,.alloc [(.v (.int .i64 0)),(.v (.int .i64 0)),(.v (.int .i64 0)),(.v (.int .i64 0)),(.v .zsl)],none⟩,⟨some 11,.mv (.t 64),none⟩,⟨none,.store 5 (.t 12) (.t 66),none⟩]) (.seq (.region [⟨some 67,.mv (.t 2),none⟩,⟨some 68,.mv (.t 9),none⟩,⟨some 69,.iaddr 1 (.t 67) (.t 68),none⟩,⟨some 70,.load none (.t 69),none⟩,⟨some 71,.mv (.t 11),none⟩,⟨some 72,.iaddr 1 (.t 70) (.t 71),none⟩,⟨some 73,.load none (.t 72),none⟩,⟨some 13,.mv (.t 73),none⟩]) (.seq (.region [⟨some 75,.load (some 1) (.t 3),none⟩,⟨some 76,.load (some 3) (.t 4),none⟩,⟨some 77,.mv (.t 9),none⟩,⟨some 78,.mv (.t 11),none⟩,⟨some 79,.bin .add (.t 78) (.c (.v (.int .i64 1))),none⟩,⟨some 80,.build [(.v (.int .i64 0)),(.v (.int .i64 0))] [(0,1,(.t 77)),(1,1,(.t 79))],none⟩,⟨some 81,.call (.c (.fn 123 [])) [(.t 75),(.t 76),(.t 80)],none⟩,⟨some 74,.mv (.t 81),none⟩,⟨some 82,.extract 0 (.t 74),none⟩,⟨some 83,.extract 1 (.t 74),none⟩,⟨some 14,.mv (.t 82),none⟩,⟨some 15,.mv (.t 83),none⟩]) (.seq (.seq (.region [⟨some 84,.mv (.t 13),none⟩,⟨some 85,.mv (.t 14),none⟩,⟨some 86,.bin .lss (.t 84) (.t 85),none⟩,⟨some 87,.mv (.t 86),none⟩,⟨some 88,.mv (.t 13),some (87,false)⟩,⟨some 89,.mv (.t 15),some (87,false)⟩,⟨some 90,.bin .gtr (.t 88) (.t 89),some (87,false)⟩,⟨some 91,.pick (.t 87) (.c (.v (.bool true))) (.t 90),none⟩,⟨some 92,.mv (.t 91),none⟩,⟨some 93,.mv (.t 11),some (92,false)⟩,⟨some 94,.bin .gtr (.t 93) (.c (.v (.int .i64 0))),some (92,false)⟩,⟨some 95,.mv (.t 94),some (92,false)⟩,⟨some 96,.mv (.t 13),some (95,true)⟩,⟨some 97,.mv (.t 2),some (95,true)⟩,⟨some 98,.mv (.t 9),some (95,true)⟩,⟨some 99,.iaddr 1 (.t 97) (.t 98),some (95,true)⟩,⟨some 100,.load none (.t 99),some (95,true)⟩,⟨some 101,.mv (.t 11),some (95,true)⟩,⟨some 102,.bin .sub (.t 101) (.c (.v (.int .i64 1))),some (95,true)⟩,⟨some 103,.iaddr 1 (.t 100) (.t 102),some (95,true)⟩,⟨some 104,.load none (.t 103),some (95,true)⟩,⟨some 105,.bin .lss (.t 96) (.t 104),some (95,true)⟩,⟨some 106,.pick (.t 95) (.t 105) (.c (.v (.bool false))),some (92,false)⟩,⟨some 107,.pick (.t 92) (.c (.v (.bool true))) (.t 106),none⟩]) (.cond (.t 107) (.seq (.region [⟨some 6,.mv (.c (.v (.bool false))),none⟩]) .ret) .skip)) (.seq (.seq (.region [⟨some 108,.faddr 0 (.t 12),none⟩,⟨some 109,.load none (.t 108),none⟩,⟨some 110,.bin .neq (.t 109) (.c (.v (.int .i64 3))),none⟩]) (.cond (.t 110) (.exit 5) .skip)) (.seq (.region [⟨some 112,.load (some 1) (.t 3),none⟩,⟨some 113,.faddr 2 (.t 12),none⟩,⟨some 114,.load none (.t 113),none⟩,⟨some 115,.call (.c (.fn 18 [])) [(.t 112),(.t 114)],none⟩,⟨some 111,.mv (.t 115),none⟩,⟨some 116,.extract 0 (.t 111),none⟩,⟨some 117,.extract 1 (.t 111),none⟩,⟨some 16,.alloc [(.v (.int .i64 0)),(.v (.int .i64 0))],none⟩,⟨none,.store 2 (.t 16) (.t 116),none⟩,⟨some 17,.mv (.t 117),none⟩]) (.seq (.draw [⟨0,⟨some 118,.mv (.t 2),none⟩,[]⟩,⟨1,⟨some 119,.faddr 0 (.t 16),none⟩,[]⟩,⟨2,⟨some 120,.load none (.t 119),none⟩,[]⟩,⟨3,⟨some 121,.iaddr 1 (.t 118) (.t 120),none⟩,[]⟩,⟨4,⟨some 122,.load none (.t 121),none⟩,[]⟩,⟨5,⟨some 123,.faddr 1 (.t 16),none⟩,[]⟩,⟨6,⟨some 124,.load none (.t 123),none⟩,[]⟩,⟨7,⟨some 125,.bin .sub (.t 124) (.c (.v (.int .i64 1))),none⟩,[]⟩,⟨8,⟨some 126,.iaddr 1 (.t 122) (.t 125),none⟩,[]⟩,⟨9,⟨some 127,.load none (.t 126),none⟩,[]⟩,⟨10,⟨some 18,.mv (.t 127),none⟩,[]⟩]) (.seq (.region [⟨some 129,.load (some 1) (.t 3),none⟩,⟨some 130,.load (some 3) (.t 4),none⟩,⟨some 131,.load (some 2) (.t 16),none⟩,⟨some 132,.call (.c (.fn 123 [])) [(.t 129),(.t 130),(.t 131)],none⟩,⟨some 128,.mv (.t 132),none⟩,⟨some 133,.extract 0 (.t 128),none⟩,⟨some 134,.extract 1 (.t 128),none⟩,⟨some 19,.mv (.t 133),none⟩,⟨some 20,.mv (.t 134),none⟩]) (.seq (.region [⟨some 135,.mv (.t 18),none⟩,⟨some 136,.mv (.t 19),none⟩,⟨some 137,.bin .lss (.t 135) (.t 136),none⟩,⟨some 138,.mv (.t 137),none⟩,⟨some 139,.mv (.t 18),some (138,false)⟩,⟨some 140,.mv (.t 20),some (138,false)⟩,⟨some 141,.bin .gtr (.t 139) (.t 140),some (138,false)⟩,⟨some 142,.pick (.t 138) (.c (.v (.bool true))) (.t 141),none⟩,⟨some 143,.mv (.t 142),none⟩,⟨some 144,.mv (.t 13),some (143,false)⟩,⟨some 145,.mv (.t 18),some (143,false)⟩,⟨some 146,.bin .sub (.t 144) (.t 145),some (143,false)⟩,⟨some 147,.faddr 1 (.t 4),some (143,false)⟩,⟨some 148,.load none (.t 147),some (143,false)⟩,⟨some 149,.bin .lss (.t 146) (.t 148),some (143,false)⟩,⟨some 150,.pick (.t 143) (.c (.v (.bool true))) (.t 149),none⟩,⟨some 151,.mv (.t 150),none⟩,⟨some 152,.mv (.t 13),some (151,false)⟩,⟨some 153,.mv (.t 18),some (151,false)⟩,⟨some 154,.bin .sub (.t 152) (.t 153),some (151,false)⟩,⟨some 155,.faddr 2 (.t 4),some (151,false)⟩,⟨some 156,.load none (.t 155),some (151,false)⟩,⟨some 157,.bin .gtr (.t 154) (.t 156),some (151,false)⟩,⟨some 158,.pick (.t 151) (.c (.v (.bool true))) (.t 157),none⟩]) (.cond (.t 158) (.seq (.region [⟨some 6,.mv (.c (.v (.bool false))),none⟩]) .ret) .skip))))))))))) (.region [⟨some 159,.bin .add (.t 62) (.c (.v (.int .i64 1))),none⟩,⟨some 62,.mv (.t 159),none⟩]))))))))) (.region [⟨some 160,.bin .add (.t 54) (.c (.v (.int .i64 1))),none⟩,⟨some 54,.mv (.t 160),none⟩]))))))) (.seq (.region [⟨some 6,.mv (.c (.v (.bool true))),none⟩]) .ret)))))⟩
theorem a_dCheck_ok : cFunc Try.prog 54 = some a_dCheck := by kernel_rfl
def r_dCheck0 : List (Nat × Nat) := [(6, 8), (36, 50)]
def r_dCheck1 : List (Nat × Nat) := [(6, 6), (9, 20), (54, 160)]
def r_dCheck2 : List (Nat × Nat) := [(6, 6), (11, 20), (62, 159)]

set_option maxRecDepth 20000 in
set_option maxHeartbeats 8000000 in
theorem dCheck_spec (t : Tr) (hS : Small t) (hN : Nm t) (bn : Bn) (hbl : bn.er.length ≤ 4611686018427387904) (m : List (List Int)) (hml : m.length ≤ 1000000) (hmr : ∀ r ∈ m, r.length ≤ 1000000) (b l : List Row) :
  ACalls Try.prog 54 [.agg [.v (eT t)], .agg (eBn bn), .v (.isl 1 (m.map eRw))] b l (fun r b' l' => r = .v (.bool (bnB t bn && asgB t bn m)) ∧ b' = b ∧ l' = l) := by
 refine calls_kept a_dCheck_ok rfl (by decide) ?_
 intro B g hB hR hE hA
 simp only [KArgs] at hA
 have cv := fun b l => dValid_spec t hS hN bn hbl b l
 simp only [eBn] at hA cv
 have eTe : eT t = .isl 3 (t.map ePr) := rfl
 have g0 : ∀ x y : Int, decide (x > y) = decide (y < x) := fun _ _ => rfl
 simp (disch := (first | decide | omega)) only [a_dCheck, hA, go_sem]
 refine ACalls.nxt (cv _ _) ?_
 cases hb : bnB t bn with
 | false =>
   simp (disch := (first | decide | omega)) only [hA, go_sem]
   exact leave_pure (xs := [.v (.bool false)]) (.inr rfl) (by simp (disch := (first | decide | omega)) only [resVs, resV, go_sem, hA]) kO hR hB ⟨rfl, rfl, rfl⟩
 | true =>
 obtain ⟨hval, hok⟩ := bn_ok hb
 have hv := hok.v
 have hnp := hS.np
 rw [Bool.true_and]
 by_cases hml2 : m.length = t.length
 case neg =>
  have d0 : ((m.length : Int) != (t.length : Int)) = true := by rw [bne_iff_ne]; omega
  have hno := asg_no (t := t) (bn := bn) (m := m) (fun h => hml2 h.1.1)
  rw [eTe]
  simp (disch := (first | decide | omega)) only [hA, d0, List.length_map, go_sem]
  exact leave_pure (xs := [.v (.bool false)]) (.inr rfl) (by simp (disch := (first | decide | omega)) only [resVs, resV, go_sem, hA]) kO hR hB ⟨by rw [hno]; rfl, rfl, rfl⟩
 have d0 : ((m.length : Int) != (t.length : Int)) = false := by simp; omega
 rw [eTe]
 simp (disch := (first | decide | omega)) only [hA, d0, List.length_map, go_sem]
 refine loop_kept (ι := Nat) r_dCheck0 (fun q => [(36, .v (.int .i64 q))]) 2 (fun q => [.live 0 1 [[.v (.isl 3 (t.map ePr))]], .live 0 3 [[.v (.isl 1 (bn.er.map eI)), .v (.int .i64 bn.lo), .v (.int .i64 bn.hi)]]])
  (fun q => q ≤ t.length ∧ ∀ p, p < q → (m.getD p []).length = (evsOf t p).length) (fun q => t.length - q) 0 ⟨Nat.zero_le _, fun j hj => by omega⟩ (by (repeat (first | exact hE.mono oM | refine KLt.up ?_ kL))) (by ((try simp (disch := decide) only [hA, go_sem]) <;> exact kH)) (fun e => Weak.refl _ _ _) ?_
 rintro g1 hE1 hEE1 hg1 q ⟨hq1, hq2⟩
 by_cases hql : q < t.length
 ·have hgq : (t.map ePr)[q]? = some (ePr t[q]) := by rw [List.getElem?_map, List.getElem?_eq_getElem hql]; rfl
  have hqm : q < m.length := by omega
  have hgm : (m.map eRw)[q]? = some [.isl 1 (m[q].map eI)] := by rw [List.getElem?_map, List.getElem?_eq_getElem hqm]; rfl
  have hme := hmr _ (List.getElem_mem hqm)
  have hte := hS.ne _ (List.getElem_mem hql)
  simp only [ePr] at hgq
  by_cases hl : m[q].length = t[q].evs.length
  ·have d1 : ((m[q].length : Int) != (t[q].evs.length : Int)) = false := by simp; omega
   simp (disch := (first | decide | omega)) only [hA, hg1, hgq, hgm, d1, List.length_map, go_sem]
   refine ⟨q + 1, ⟨hql, fun p hp => ?_⟩, by simp only; omega, ?_⟩
   ·by_cases hpq : p = q
    ·subst hpq; rw [getD_at hqm, evsOf_lt hql]; exact hl
    ·exact hq2 p oM
   ·exact Weak.kround (p := r_dCheck0) (k := 2) (by ((repeat refine (kAny_up rfl).trans ?_); exact hEE1)) (by ((try simp (disch := decide) only [hA, go_sem]) <;> exact kH)) rfl hE1 (by simp) kV hR kL
  ·have d1 : ((m[q].length : Int) != (t[q].evs.length : Int)) = true := by rw [bne_iff_ne]; omega
   have hno := asg_no (t := t) (bn := bn) (m := m) (fun h => hl (by have := h.1.2 q hql; rwa [getD_at hqm, evsOf_lt hql] at this))
   simp (disch := (first | decide | omega)) only [hA, hg1, hgq, hgm, d1, List.length_map, go_sem]
   exact leave_pure (xs := [.v (.bool false)]) (.inr rfl) (by simp (disch := (first | decide | omega)) only [resVs, resV, go_sem, hA, hg1]) kO hR hB ⟨by rw [hno]; rfl, rfl, rfl⟩
 obtain rfl : q = t.length := by omega
 have hs : shpOk t m := ⟨hml2, hq2⟩
 simp (disch := (first | decide | omega)) only [hA, hg1, List.length_map, go_sem]
 refine loop_kept (ι := Nat) r_dCheck1 (fun q => [(54, .v (.int .i64 q))]) 2 (fun q => [.live 0 1 [[.v (.isl 3 (t.map ePr))]], .live 0 3 [[.v (.isl 1 (bn.er.map eI)), .v (.int .i64 bn.lo), .v (.int .i64 bn.hi)]]])
  (fun q => q ≤ t.length ∧ ∀ p i, p < q → (p, i + 1) ∈ ids t → okAt t bn m p i) (fun q => t.length - q) 0 ⟨Nat.zero_le _, fun j _ hj => by omega⟩ (by (repeat (first | exact hE1.mono oM | refine KLt.up ?_ kL))) (by ((try simp (disch := decide) only [hA, hg1, go_sem]) <;> exact kH)) (fun e => Weak.refl _ _ _) ?_
 clear hq1 hq2
 rintro g2 hE2 hEE2 hg2 p ⟨hp1, hp2⟩
 by_cases hpl : p < t.length
 case neg =>
  obtain rfl : p = t.length := by omega
  have hyes := asg_yes (t := t) (bn := bn) (m := m) ⟨hs, fun p i hx => hp2 p i (mem_ids2.1 hx).1 hx⟩
  simp (disch := (first | decide | omega)) only [hA, hg1, hg2, List.length_map, go_sem]
  exact leave_pure (xs := [.v (.bool true)]) (.inr rfl) (by simp (disch := (first | decide | omega)) only [resVs, resV, go_sem, hA, hg1, hg2]) kO hR hB ⟨by rw [hyes]; rfl, rfl, rfl⟩
 have hgp : (t.map ePr)[p]? = some (ePr t[p]) := by rw [List.getElem?_map, List.getElem?_eq_getElem hpl]; rfl
 have hne := hS.ne _ (List.getElem_mem hpl)
 simp only [ePr] at hgp
 have heo := evsOf_lt hpl
 simp (disch := (first | decide | omega)) only [hA, hg1, hg2, hgp, List.length_map, go_sem]
 refine loop_kept (ι := Nat) r_dCheck2 (fun i => [(62, .v (.int .i64 i))]) 3 (fun i => [.live 0 1 [[.v (.isl 3 (t.map ePr))]], .live 0 3 [[.v (.isl 1 (bn.er.map eI)), .v (.int .i64 bn.lo), .v (.int .i64 bn.hi)]], .live 0 3 [[.v (.str t[p].name), .v (.isl 2 (t[p].vars.map eVr)), .v (.isl 5 (t[p].evs.map eEv))]]])
  (fun i => i ≤ t[p].evs.length ∧ ∀ j, j < i → okAt t bn m p j) (fun i => t[p].evs.length - i) 0 ⟨Nat.zero_le _, fun j hj => by omega⟩ (by (repeat (first | exact hE2.mono oM | refine KLt.up ?_ kL))) (by ((try simp (disch := decide) only [hA, hg1, hg2, go_sem]) <;> exact kH)) (fun e => Weak.refl _ _ _) ?_
 rintro g3 hE3 hEE3 hg3 i ⟨hi1, hi2⟩
 by_cases hil : i < t[p].evs.length
 case neg =>
  obtain rfl : i = t[p].evs.length := by omega
  simp (disch := (first | decide | omega)) only [hA, hg1, hg2, hg3, List.length_map, go_sem]
  refine ⟨p + 1, ⟨hpl, fun p' i' hp' hx => ?_⟩, by simp only; omega, ?_⟩
  ·by_cases hpp : p' = p
   ·subst hpp
    refine hi2 i' ?_
    have := (mem_ids2.1 hx).2
    rwa [heo] at this
   ·exact hp2 p' i' oM hx
  ·exact Weak.kround (p := r_dCheck1) (k := 2) (by ((repeat refine (kAny_up rfl).trans ?_); refine (kAny_sub hg3 (kIn_sub rfl)).trans ?_; (repeat refine (kAny_up rfl).trans ?_); exact hEE2)) (by ((try simp (disch := decide) only [hA, hg1, hg2, go_sem]) <;> exact kH)) rfl hE2 (by simp) kV hR kL
 have hx : (p, i + 1) ∈ ids t := mem_ids2.2 ⟨hpl, by rw [heo]; exact hil⟩
 have hev := evAt_eq hpl hil
 obtain ⟨hpm, him, gm1, gm2, hml3⟩ := chk_facts (bn := bn) hs hx
 obtain ⟨x, hxe⟩ : ∃ x, t[p].evs[i] = x := ⟨_, rfl⟩
 have hgx : (t[p].evs.map eEv)[i]? = some [.int .i64 x.kind, .int .i64 x.peer, .int .i64 x.msg, .int .i64 x.time, .isl 2 (x.asg.map eAsg)] := by rw [List.getElem?_map, List.getElem?_eq_getElem hil, hxe]; rfl
 rw [hxe] at hev
 have co := fun b l => dOwn_spec t hS bn hok p i hx b l
 simp only [eBn, idA, eTe] at co
 have hci : (i : Int) + 1 = ((i + 1 : Nat) : Int) := by omega
 have bad : ¬ okAt t bn m p i → asgB t bn m = false := fun h => asg_no (fun h2 => h (h2.2 p i hx))
 obtain ⟨at_, hat⟩ : ∃ a, tmA m p i = a := ⟨_, rfl⟩
 rw [hat] at gm2
 have tb := hok.time hx
 have eb := hok.er p
 have lo_ : loA t bn (p, i + 1) = (evAt t (p, i + 1)).time - erB bn p := rfl
 have hi_ : hiA t bn (p, i + 1) = (evAt t (p, i + 1)).time + erB bn p := rfl
 by_cases c1 : at_ < loA t bn (p, i + 1)
 ·have d1 := decide_eq_true c1
  have hno := bad (fun h => by have := h.1.1; omega)
  simp (disch := (first | decide | omega)) only [hA, hg1, hg2, hg3, hgx, gm1, gm2, hci, List.length_map, go_sem]
  refine ACalls.nxt (co _ _) ?_
  simp (disch := (first | decide | omega)) only [hA, hg1, hg2, hg3, d1, go_sem]
  exact leave_pure (xs := [.v (.bool false)]) (.inr rfl) (by simp (disch := (first | decide | omega)) only [resVs, resV, go_sem, hA, hg1, hg2, hg3]) kO hR hB ⟨by rw [hno]; rfl, rfl, rfl⟩
 have d1 := decide_eq_false c1
 by_cases c2 : hiA t bn (p, i + 1) < at_
 ·have d2 := decide_eq_true c2
  have hno := bad (fun h => by have := h.1.2; omega)
  simp (disch := (first | decide | omega)) only [hA, hg1, hg2, hg3, hgx, gm1, gm2, hci, List.length_map, go_sem]
  refine ACalls.nxt (co _ _) ?_
  simp (disch := (first | decide | omega)) only [hA, hg1, hg2, hg3, d1, g0, d2, go_sem]
  exact leave_pure (xs := [.v (.bool false)]) (.inr rfl) (by simp (disch := (first | decide | omega)) only [resVs, resV, go_sem, hA, hg1, hg2, hg3]) kO hR hB ⟨by rw [hno]; rfl, rfl, rfl⟩
 have d2 := decide_eq_false c2
 have sb : -1099511627776 ≤ at_ ∧ at_ ≤ 2199023255552 := by unfold MT at tb eb; omega
 by_cases c3 : 0 < i ∧ at_ < tmA m p (i - 1)
 ·have d3 : decide ((0 : Int) < (i : Int)) = true := decide_eq_true oM
  have d4 := decide_eq_true c3.2
  have hno := bad (fun h => by have := h.2.1 c3.1; omega)
  have him1 : i - 1 < m[p].length := by omega
  have gm3 : (m[p].map eI)[i - 1]? = some [.int .i64 (tmA m p (i - 1))] := by rw [List.getElem?_map, List.getElem?_eq_getElem him1, tm_row hpm him1]; rfl
  have hcm : (i : Int) - 1 = ((i - 1 : Nat) : Int) := by omega
  simp (disch := (first | decide | omega)) only [hA, hg1, hg2, hg3, hgx, gm1, gm2, hci, List.length_map, go_sem]
  refine ACalls.nxt (co _ _) ?_
  simp (disch := (first | decide | omega)) only [hA, hg1, hg2, hg3, d1, g0, d2, d3, gm1, hcm, gm3, d4, go_sem]
  exact leave_pure (xs := [.v (.bool false)]) (.inr rfl) (by simp (disch := (first | decide | omega)) only [resVs, resV, go_sem, hA, hg1, hg2, hg3]) kO hR hB ⟨by rw [hno]; rfl, rfl, rfl⟩
 have hmono : 0 < i → tmA m p (i - 1) ≤ at_ := fun h => Int.not_lt.1 (fun h2 => c3 ⟨h, h2⟩)
 have good : okAt t bn m p i → ∀ j, j < i + 1 → okAt t bn m p j := fun h j hj => by
  by_cases hji : j = i
  ·subst hji; exact h
  ·exact hi2 j oM
 by_cases k3 : x.kind = 3
 case neg =>
  have d5 : (x.kind != (3 : Int)) = true := by rw [bne_iff_ne]; exact k3
  have hgd := good ⟨⟨by omega, by omega⟩, fun h => by rw [hat]; exact hmono h, fun h => absurd (by rw [hev] at h; exact h) k3⟩
  simp (disch := (first | decide | omega)) only [hA, hg1, hg2, hg3, hgx, gm1, gm2, hci, List.length_map, go_sem]
  refine ACalls.nxt (co _ _) ?_
  by_cases i0 : i = 0
  ·have d3 : decide ((0 : Int) < (i : Int)) = false := decide_eq_false oM
   simp (disch := (first | decide | omega)) only [hA, hg1, hg2, hg3, d1, g0, d2, d3, d5, go_sem]
   refine ⟨i + 1, ⟨hil, hgd⟩, by simp only; omega, ?_⟩
   exact Weak.kround (p := r_dCheck2) (k := 3) (by ((repeat refine (kAny_up rfl).trans ?_); exact hEE3)) (by ((try simp (disch := decide) only [hA, go_sem]) <;> exact kH)) rfl hE3 (by simp) kV hR kL
  ·have d3 : decide ((0 : Int) < (i : Int)) = true := decide_eq_true oM
   have d4 : decide (at_ < tmA m p (i - 1)) = false := decide_eq_false (by have := hmono oM; omega)
   have him1 : i - 1 < m[p].length := by omega
   have gm3 : (m[p].map eI)[i - 1]? = some [.int .i64 (tmA m p (i - 1))] := by rw [List.getElem?_map, List.getElem?_eq_getElem him1, tm_row hpm him1]; rfl
   have hcm : (i : Int) - 1 = ((i - 1 : Nat) : Int) := by omega
   simp (disch := (first | decide | omega)) only [hA, hg1, hg2, hg3, d1, g0, d2, d3, gm1, hcm, gm3, d4, d5, go_sem]
   refine ⟨i + 1, ⟨hil, hgd⟩, by simp only; omega, ?_⟩
   exact Weak.kround (p := r_dCheck2) (k := 3) (by ((repeat refine (kAny_up rfl).trans ?_); exact hEE3)) (by ((try simp (disch := decide) only [hA, go_sem]) <;> exact kH)) rfl hE3 (by simp) kV hR kL
 have d5 : (x.kind != (3 : Int)) = false := by rw [k3]; rfl
 have hsi := sndr_in hv hx (by rw [hev]; exact k3)
 obtain ⟨q, j, hqj⟩ : ∃ q j, sndr t (p, i + 1) = (q, j + 1) := ⟨_, (sndr t (p, i + 1)).2 - 1, Prod.ext rfl (by have := mem_pos hsi.1; simp only; omega)⟩
 rw [hqj] at hsi
 have hfv : findV t 2 x.msg = (q, j + 1) := by rw [← hqj]; unfold sndr; rw [hev]
 have hfr : findR t 2 x.msg = (q, j + 1) := by unfold findR; rw [hval, if_pos rfl]; exact hfv
 have cS := fun b l => sender_spec t hS hN b l x.msg
 rw [hfr] at cS
 have dok : decide (0 < j + 1) = true := decide_eq_true oM
 rw [dok] at cS
 simp only [eTe, idA] at cS
 have cq := fun b l => dOwn_spec t hS bn hok q j hsi.1 b l
 simp only [eBn, idA, eTe] at cq
 obtain ⟨hqm, hjm, gs1, gs2, _⟩ := chk_facts (bn := bn) hs hsi.1
 obtain ⟨st, hst⟩ : ∃ a, tmA m q j = a := ⟨_, rfl⟩
 rw [hst] at gs2
 have hcj : ((j + 1 : Nat) : Int) - 1 = (j : Int) := by omega
 have hjl := hmr _ (List.getElem_mem hqm)
 have tbq := hok.time hsi.1
 have ebq := hok.er q
 have loq : loA t bn (q, j + 1) = (evAt t (q, j + 1)).time - erB bn q := rfl
 have hiq : hiA t bn (q, j + 1) = (evAt t (q, j + 1)).time + erB bn q := rfl
 have badq : ¬ okAt t bn m q j → asgB t bn m = false := fun h => asg_no (fun h2 => h (h2.2 q j hsi.1))
 have hk3 : okAt t bn m p i ↔ bn.lo ≤ at_ - st ∧ at_ - st ≤ bn.hi := by
  unfold okAt
  rw [hqj, hev, hat]
  simp only [Nat.add_sub_cancel]
  rw [hst]
  exact ⟨fun h => h.2.2 k3, fun h => ⟨⟨by omega, by omega⟩, hmono, fun _ => h⟩⟩
 have hlo := hok.lo
 have hle := hok.le
 have hhi := hok.hi
 unfold MT at hhi tbq ebq
 by_cases i0 : i = 0
 ·have d3 : decide ((0 : Int) < (i : Int)) = false := decide_eq_false oM
  simp (disch := (first | decide | omega)) only [hA, hg1, hg2, hg3, hgx, gm1, gm2, hci, List.length_map, go_sem]
  refine ACalls.nxt (co _ _) ?_
  simp (disch := (first | decide | omega)) only [hA, hg1, hg2, hg3, d1, g0, d2, d3, d5, go_sem]
  refine ACalls.nxt (cS _ _) ?_
  simp (disch := (first | decide | omega)) only [hA, hg1, hg2, hg3, gs1, gs2, hcj, go_sem]
  refine ACalls.nxt (cq _ _) ?_
  by_cases e1 : st < loA t bn (q, j + 1)
  ·have f1 := decide_eq_true e1
   have hno := badq (fun h => by have := h.1.1; omega)
   simp (disch := (first | decide | omega)) only [hA, hg1, hg2, hg3, f1, go_sem]
   exact leave_pure (xs := [.v (.bool false)]) (.inr rfl) (by simp (disch := (first | decide | omega)) only [resVs, resV, go_sem, hA, hg1, hg2, hg3]) kO hR hB ⟨by rw [hno]; rfl, rfl, rfl⟩
  have f1 := decide_eq_false e1
  by_cases e2 : hiA t bn (q, j + 1) < st
  ·have f2 := decide_eq_true e2
   have hno := badq (fun h => by have := h.1.2; omega)
   simp (disch := (first | decide | omega)) only [hA, hg1, hg2, hg3, f1, g0, f2, go_sem]
   exact leave_pure (xs := [.v (.bool false)]) (.inr rfl) (by simp (disch := (first | decide | omega)) only [resVs, resV, go_sem, hA, hg1, hg2, hg3]) kO hR hB ⟨by rw [hno]; rfl, rfl, rfl⟩
  have f2 := decide_eq_false e2
  have sq : -1099511627776 ≤ st ∧ st ≤ 2199023255552 := by omega
  by_cases e3 : at_ - st < bn.lo
  ·have f3 := decide_eq_true e3
   have hno := bad (fun h => by have := hk3.1 h; omega)
   simp (disch := (first | decide | omega)) only [hA, hg1, hg2, hg3, f1, g0, f2, f3, go_sem]
   exact leave_pure (xs := [.v (.bool false)]) (.inr rfl) (by simp (disch := (first | decide | omega)) only [resVs, resV, go_sem, hA, hg1, hg2, hg3]) kO hR hB ⟨by rw [hno]; rfl, rfl, rfl⟩
  have f3 := decide_eq_false e3
  by_cases e4 : bn.hi < at_ - st
  ·have f4 := decide_eq_true e4
   have hno := bad (fun h => by have := hk3.1 h; omega)
   simp (disch := (first | decide | omega)) only [hA, hg1, hg2, hg3, f1, g0, f2, f3, f4, go_sem]
   exact leave_pure (xs := [.v (.bool false)]) (.inr rfl) (by simp (disch := (first | decide | omega)) only [resVs, resV, go_sem, hA, hg1, hg2, hg3]) kO hR hB ⟨by rw [hno]; rfl, rfl, rfl⟩
  have f4 := decide_eq_false e4
  have hgd := good (hk3.2 ⟨by omega, by omega⟩)
  simp (disch := (first | decide | omega)) only [hA, hg1, hg2, hg3, f1, g0, f2, f3, f4, go_sem]
  refine ⟨i + 1, ⟨hil, hgd⟩, by simp only; omega, ?_⟩
  exact Weak.kround (p := r_dCheck2) (k := 3) (by ((repeat refine (kAny_up rfl).trans ?_); exact hEE3)) (by ((try simp (disch := decide) only [hA, go_sem]) <;> exact kH)) rfl hE3 (by simp) kV hR kL
 ·have d3 : decide ((0 : Int) < (i : Int)) = true := decide_eq_true oM
  have d4 : decide (at_ < tmA m p (i - 1)) = false := decide_eq_false (by have := hmono oM; omega)
  have him1 : i - 1 < m[p].length := by omega
  have gm3 : (m[p].map eI)[i - 1]? = some [.int .i64 (tmA m p (i - 1))] := by rw [List.getElem?_map, List.getElem?_eq_getElem him1, tm_row hpm him1]; rfl
  have hcm : (i : Int) - 1 = ((i - 1 : Nat) : Int) := by omega
  simp (disch := (first | decide | omega)) only [hA, hg1, hg2, hg3, hgx, gm1, gm2, hci, List.length_map, go_sem]
  refine ACalls.nxt (co _ _) ?_
  simp (disch := (first | decide | omega)) only [hA, hg1, hg2, hg3, d1, g0, d2, d3, gm1, hcm, gm3, d4, d5, go_sem]
  refine ACalls.nxt (cS _ _) ?_
  simp (disch := (first | decide | omega)) only [hA, hg1, hg2, hg3, gs1, gs2, hcj, go_sem]
  refine ACalls.nxt (cq _ _) ?_
  by_cases e1 : st < loA t bn (q, j + 1)
  ·have f1 := decide_eq_true e1
   have hno := badq (fun h => by have := h.1.1; omega)
   simp (disch := (first | decide | omega)) only [hA, hg1, hg2, hg3, f1, go_sem]
   exact leave_pure (xs := [.v (.bool false)]) (.inr rfl) (by simp (disch := (first | decide | omega)) only [resVs, resV, go_sem, hA, hg1, hg2, hg3]) kO hR hB ⟨by rw [hno]; rfl, rfl, rfl⟩
  have f1 := decide_eq_false e1
  by_cases e2 : hiA t bn (q, j + 1) < st
  ·have f2 := decide_eq_true e2
   have hno := badq (fun h => by have := h.1.2; omega)
   simp (disch := (first | decide | omega)) only [hA, hg1, hg2, hg3, f1, g0, f2, go_sem]
   exact leave_pure (xs := [.v (.bool false)]) (.inr rfl) (by simp (disch := (first | decide | omega)) only [resVs, resV, go_sem, hA, hg1, hg2, hg3]) kO hR hB ⟨by rw [hno]; rfl, rfl, rfl⟩
  have f2 := decide_eq_false e2
  have sq : -1099511627776 ≤ st ∧ st ≤ 2199023255552 := by omega
  by_cases e3 : at_ - st < bn.lo
  ·have f3 := decide_eq_true e3
   have hno := bad (fun h => by have := hk3.1 h; omega)
   simp (disch := (first | decide | omega)) only [hA, hg1, hg2, hg3, f1, g0, f2, f3, go_sem]
   exact leave_pure (xs := [.v (.bool false)]) (.inr rfl) (by simp (disch := (first | decide | omega)) only [resVs, resV, go_sem, hA, hg1, hg2, hg3]) kO hR hB ⟨by rw [hno]; rfl, rfl, rfl⟩
  have f3 := decide_eq_false e3
  by_cases e4 : bn.hi < at_ - st
  ·have f4 := decide_eq_true e4
   have hno := bad (fun h => by have := hk3.1 h; omega)
   simp (disch := (first | decide | omega)) only [hA, hg1, hg2, hg3, f1, g0, f2, f3, f4, go_sem]
   exact leave_pure (xs := [.v (.bool false)]) (.inr rfl) (by simp (disch := (first | decide | omega)) only [resVs, resV, go_sem, hA, hg1, hg2, hg3]) kO hR hB ⟨by rw [hno]; rfl, rfl, rfl⟩
  have f4 := decide_eq_false e4
  have hgd := good (hk3.2 ⟨by omega, by omega⟩)
  simp (disch := (first | decide | omega)) only [hA, hg1, hg2, hg3, f1, g0, f2, f3, f4, go_sem]
  refine ⟨i + 1, ⟨hil, hgd⟩, by simp only; omega, ?_⟩
  exact Weak.kround (p := r_dCheck2) (k := 3) (by ((repeat refine (kAny_up rfl).trans ?_); exact hEE3)) (by ((try simp (disch := decide) only [hA, go_sem]) <;> exact kH)) rfl hE3 (by simp) kV hR kL
end Go.Proofs.Ytanblnhnfkeffaa
