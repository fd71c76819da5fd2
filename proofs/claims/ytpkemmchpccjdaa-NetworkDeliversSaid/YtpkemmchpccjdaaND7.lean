/- Texts of one proof, laid together: ND. No condition. -/
import Derived.Test.YtpkemmchpccjdaaND6
namespace Go.Proofs.Ytpkemmchpccjdaa
set_option linter.unusedVariables false
set_option linter.unusedSimpArgs false
attribute [local go_sem ↓] run_skip run_region run_draw run_both run_seq run_block run_exit run_ret run_cond atN_app seqC_normal seqC_exit seqC_ret seqQ_normal seqQ_exit seqQ_ret blkQ_normal blkQ_exit blkQ_ret runOps_nil runOps_cons runD_nil runD_cons grdO_true grdO_false grdD_true grdD_false ifC_true ifC_false opS_val opS_call opS_two opK_app dS_val dS_call dS_two dK_app kUp_same kUp_ne
attribute [local go_sem] rechks_nil rechks_cons rechk gcase_true gcase_false ex_val ex_val0 gd_none gd_some ev_t ev_c evs_nil evs_cons evo_some evo_none hget_at hget_first hsetB_at hsetB_first hsetL_at hsetL_first ofOpt_some aop aload astore aslice aappend aiaddr aiaddrA afaddr alen alenS acopy amm acall alookup amupdate alenM atostr aappz comma keyEq apick binV binVB binVS isSh intOp strOp boolOp shOp eqC eqF and2 cellsOf setFrom fillA fillS rowsI rowI rd rdI elems mk bounds AV.cell List.all_cons List.all_nil Bool.and_true Bool.true_and Bool.and_self List.length_cons List.length_nil List.length_append Nat.reduceAdd Nat.reduceSub Nat.reduceMul Nat.zero_add Nat.add_zero List.cons_append List.nil_append List.append_assoc List.append_nil List.getElem?_cons_zero List.getElem?_cons_succ List.getElem?_nil List.set_cons_zero List.set_cons_succ List.drop_zero List.drop_succ_cons List.take_zero List.take_succ_cons List.take_nil List.drop_nil List.map_cons List.map_nil Option.map_some if_true if_false Bool.false_eq_true and_self true_and and_true Nat.reduceLeDiff Nat.reduceLT Nat.le_refl Nat.reduceEqDiff ite_true ite_false beq_self_eq_true beq_true beq_false Bool.not_true Bool.not_false Bool.true_beq Bool.false_beq map_vs vs_len vs_get vs_take vs_drop vs_snoc1 vs_snoc2 vs_snoc3 vs_snoc5 vs_set1 vs_set2 vs_rep wrap_id le_T lt_T le_F lt_F leI_T ltI_T leI_F ltI_F geI gtI get_T decide_true decide_false room List.getElem?_map List.length_map List.length_take Int.toNat_natCast Nat.min_def Nat.min_self nth_kOf put_kOf put_kNo kOv_cons kOv_nil KHas KArgs List.getElem_cons_zero List.getElem_cons_succ
def a_narr : AFunc := ⟨3,25,[.tmp 6],(.seq (.region [⟨some 3,.box (.t 0),none⟩,⟨some 6,.mv (.c (.v (.bool false))),none⟩]) (.seq (.draw [⟨0,⟨some 7,.faddr 2 (.t 3),none⟩,[]⟩,⟨1,⟨some 8,.load none (.t 7),none⟩,[]⟩,⟨2,⟨some 9,.mv (.t 1),none⟩,[]⟩,⟨3,⟨some 10,.iaddr 4 (.t 8) (.t 9),none⟩,[]⟩,⟨4,⟨some 11,.faddr 1 (.t 10),none⟩,[]⟩,⟨5,⟨some 12,.load none (.t 11),none⟩,[]⟩,⟨6,⟨some 13,.mv (.t 2),none⟩,[]⟩,⟨7,⟨some 14,.bin .eql (.t 12) (.t 13),none⟩,[]⟩,⟨8,⟨some 15,.mv (.t 14),none⟩,[]⟩,⟨9,⟨some 16,.faddr 3 (.t 3),some (15,true)⟩,[]⟩,⟨10,⟨some 17,.load none (.t 16),some (15,true)⟩,[]⟩,⟨11,⟨some 18,.mv (.t 1),some (15,true)⟩,[]⟩,⟨12,⟨some 19,.iaddr 1 (.t 17) (.t 18),some (15,true)⟩,[]⟩,⟨13,⟨some 20,.load none (.t 19),some (15,true)⟩,[]⟩,⟨14,⟨some 21,.faddr 0 (.t 3),some (15,true)⟩,[]⟩,⟨15,⟨some 22,.load none (.t 21),some (15,true)⟩,[]⟩,⟨16,⟨some 23,.bin .leq (.t 20) (.t 22),some (15,true)⟩,[]⟩,⟨17,⟨some 24,.pick (.t 15) (.t 23) (.c (.v (.bool false))),none⟩,[]⟩,⟨18,⟨some 6,.mv (.t 24),none⟩,[]⟩]) .ret))⟩
theorem a_narr_ok : cFunc Try.prog 21 = some a_narr := by kernel_rfl
def a_nWait : AFunc := ⟨2,29,[.tmp 4],(.seq (.region [⟨some 2,.box (.t 0),none⟩,⟨some 4,.mv (.c (.v (.int .i64 0))),none⟩]) (.seq (.seq (.region [⟨some 7,.load (some 5) (.t 2),none⟩,⟨some 8,.call (.c (.fn 13 [])) [(.t 7)],none⟩,⟨some 9,.not (.t 8),none⟩,⟨some 10,.mv (.t 9),none⟩,⟨some 11,.mv (.t 1),some (10,false)⟩,⟨some 12,.call (.c (.fn 20 [])) [(.t 11)],some (10,false)⟩,⟨some 13,.not (.t 12),some (10,false)⟩,⟨some 14,.pick (.t 10) (.c (.v (.bool true))) (.t 13),none⟩]) (.cond (.t 14) (.seq (.region [⟨some 4,.mv (.c (.v (.int .i64 0))),none⟩]) .ret) .skip)) (.seq (.region [⟨some 5,.mv (.c (.v (.int .i64 0))),none⟩]) (.seq (.seq (.region [⟨some 15,.faddr 2 (.t 2),none⟩,⟨some 16,.load none (.t 15),none⟩,⟨some 17,.len (.t 16),none⟩,⟨some 18,.mv (.c (.v (.int .i64 0))),none⟩]) (.block 0 (.loop (.seq (.region [⟨some 19,.bin .lss (.t 18) (.t 17),none⟩]) (.seq (.cond (.t 19) .skip (.exit 0)) (.seq (.block 1 (.seq (.region [⟨some 20,.mv (.t 18),none⟩,⟨some 6,.mv (.t 20),none⟩]) (.seq (.region [⟨some 21,.load (some 5) (.t 2),none⟩,⟨some 22,.mv (.t 6),none⟩,⟨some 23,.mv (.t 1),none⟩,⟨some 24,.call (.c (.fn 21 [])) [(.t 21),(.t 22),(.t 23)],none⟩]) (.cond (.t 24) (.region [⟨some 25,.mv (.t 5),none⟩,⟨some 26,.bin .add (.t 25) (.c (.v (.int .i64 1))),none⟩,⟨some 5,.mv (.t 26),none⟩]) .skip)))) (.region [⟨some 27,.bin .add (.t 18) (.c (.v (.int .i64 1))),none⟩,⟨some 18,.mv (.t 27),none⟩]))))))) (.seq (.region [⟨some 28,.mv (.t 5),none⟩,⟨some 4,.mv (.t 28),none⟩]) .ret)))))⟩
theorem a_nWait_ok : cFunc Try.prog 9 = some a_nWait := by kernel_rfl
def r_nWait0 : List (Nat × Nat) := [(5, 6), (18, 27)]
def a_nGo : AFunc := ⟨2,30,[.cell 4 (some 5),.tmp 5],(.seq (.region [⟨some 2,.box (.t 0),none⟩,⟨some 4,.alloc [(.v (.int .i64 0)),(.v (.bool false)),(.v .zsl),(.v .zsl),(.v .zsl)],none⟩,⟨some 5,.mv (.c (.v (.int .i64 0))),none⟩]) (.seq (.block 0 (.seq (.region [⟨some 7,.load (some 5) (.t 2),none⟩,⟨some 8,.call (.c (.fn 13 [])) [(.t 7)],none⟩,⟨some 9,.not (.t 8),none⟩,⟨some 6,.mv (.t 9),none⟩]) (.cond (.t 6) (.seq (.region [⟨some 10,.build [(.v (.int .i64 0)),(.v (.bool false)),(.v .zsl),(.v .zsl),(.v .zsl)] [],none⟩,⟨none,.store 5 (.t 4) (.t 10),none⟩,⟨some 5,.mv (.c (.v (.int .i64 1))),none⟩]) .ret) (.seq (.region [⟨some 12,.mv (.t 1),none⟩,⟨some 13,.bin .lss (.t 12) (.c (.v (.int .i64 0))),none⟩,⟨some 14,.mv (.t 13),none⟩,⟨some 15,.mv (.t 1),some (14,false)⟩,⟨some 16,.bin .gtr (.t 15) (.c (.v (.int .i64 1099511627776))),some (14,false)⟩,⟨some 17,.pick (.t 14) (.c (.v (.bool true))) (.t 16),none⟩,⟨some 11,.mv (.t 17),none⟩]) (.cond (.t 11) (.seq (.region [⟨some 18,.build [(.v (.int .i64 0)),(.v (.bool false)),(.v .zsl),(.v .zsl),(.v .zsl)] [],none⟩,⟨none,.store 5 (.t 4) (.t 18),none⟩,⟨some 5,.mv (.c (.v (.int .i64 2))),none⟩]) .ret) (.seq (.region [⟨some 20,.mv (.t 1),none⟩,⟨some 21,.faddr 0 (.t 2),none⟩,⟨some 22,.load none (.t 21),none⟩,⟨some 23,.bin .lss (.t 20) (.t 22),none⟩,⟨some 19,.mv (.t 23),none⟩]) (.cond (.t 19) (.seq (.region [⟨some 24,.build [(.v (.int .i64 0)),(.v (.bool false)),(.v .zsl),(.v .zsl),(.v .zsl)] [],none⟩,⟨none,.store 5 (.t 4) (.t 24),none⟩,⟨some 5,.mv (.c (.v (.int .i64 11))),none⟩]) .ret) .skip))))))) (.seq (.region [⟨some 25,.load (some 5) (.t 2),none⟩,⟨some 26,.call (.c (.fn 23 [])) [(.t 25)],none⟩,⟨none,.store 5 (.t 2) (.t 26),none⟩]) (.seq (.region [⟨some 27,.mv (.t 1),none⟩,⟨some 28,.faddr 0 (.t 2),none⟩,⟨none,.store 1 (.t 28) (.t 27),none⟩]) (.seq (.region [⟨some 29,.load (some 5) (.t 2),none⟩,⟨none,.store 5 (.t 4) (.t 29),none⟩,⟨some 5,.mv (.c (.v (.int .i64 0))),none⟩]) .ret)))))⟩
theorem a_nGo_ok : cFunc Try.prog 12 = some a_nGo := by kernel_rfl
def a_nNew : AFunc := ⟨2,20,[.cell 4 (some 5),.tmp 5],(.seq (.region [⟨some 4,.alloc [(.v (.int .i64 0)),(.v (.bool false)),(.v .zsl),(.v .zsl),(.v .zsl)],none⟩,⟨some 5,.mv (.c (.v (.int .i64 0))),none⟩]) (.seq (.block 0 (.seq (.region [⟨some 7,.mv (.t 1),none⟩,⟨some 8,.len (.t 7),none⟩,⟨some 9,.bin .gtr (.t 8) (.c (.v (.int .i64 1000))),none⟩,⟨some 6,.mv (.t 9),none⟩]) (.cond (.t 6) (.seq (.region [⟨some 10,.build [(.v (.int .i64 0)),(.v (.bool false)),(.v .zsl),(.v .zsl),(.v .zsl)] [],none⟩,⟨none,.store 5 (.t 4) (.t 10),none⟩,⟨some 5,.mv (.c (.v (.int .i64 5))),none⟩]) .ret) (.seq (.region [⟨some 12,.mv (.t 1),none⟩,⟨some 13,.call (.c (.fn 18 [])) [(.t 12)],none⟩,⟨some 14,.not (.t 13),none⟩,⟨some 11,.mv (.t 14),none⟩]) (.cond (.t 11) (.seq (.region [⟨some 15,.build [(.v (.int .i64 0)),(.v (.bool false)),(.v .zsl),(.v .zsl),(.v .zsl)] [],none⟩,⟨none,.store 5 (.t 4) (.t 15),none⟩,⟨some 5,.mv (.c (.v (.int .i64 1))),none⟩]) .ret) .skip))))) (.seq (.region [⟨some 16,.mv (.t 0),none⟩,⟨some 17,.mv (.t 1),none⟩,⟨some 18,.call (.c (.fn 19 [])) [(.t 17)],none⟩,⟨some 19,.build [(.v (.int .i64 0)),(.v (.bool false)),(.v .zsl),(.v .zsl),(.v .zsl)] [(1,1,(.t 16)),(4,1,(.t 18))],none⟩,⟨none,.store 5 (.t 4) (.t 19),none⟩,⟨some 5,.mv (.c (.v (.int .i64 0))),none⟩]) .ret)))⟩
theorem a_nNew_ok : cFunc Try.prog 6 = some a_nNew := by kernel_rfl
def a_nNext : AFunc := ⟨1,28,[.tmp 2,.tmp 3],(.seq (.region [⟨some 1,.box (.t 0),none⟩,⟨some 2,.mv (.c (.v (.int .i64 0))),none⟩,⟨some 3,.mv (.c (.v (.bool false))),none⟩]) (.seq (.seq (.region [⟨some 6,.load (some 5) (.t 1),none⟩,⟨some 7,.call (.c (.fn 13 [])) [(.t 6)],none⟩,⟨some 8,.not (.t 7),none⟩]) (.cond (.t 8) (.seq (.region [⟨some 2,.mv (.c (.v (.int .i64 0))),none⟩,⟨some 3,.mv (.c (.v (.bool false))),none⟩]) .ret) .skip)) (.seq (.region [⟨some 10,.faddr 3 (.t 1),none⟩,⟨some 11,.load none (.t 10),none⟩,⟨some 12,.faddr 0 (.t 1),none⟩,⟨some 13,.load none (.t 12),none⟩,⟨some 14,.bin .add (.t 13) (.c (.v (.int .i64 1))),none⟩,⟨some 15,.call (.c (.fn 27 [])) [(.t 11),(.t 14),(.c (.fn 28 []))],none⟩,⟨some 9,.mv (.t 15),none⟩,⟨some 16,.extract 0 (.t 9),none⟩,⟨some 17,.extract 1 (.t 9),none⟩,⟨some 4,.mv (.t 16),none⟩,⟨some 5,.mv (.t 17),none⟩]) (.seq (.seq (.region [⟨some 18,.mv (.t 4),none⟩,⟨some 19,.faddr 3 (.t 1),none⟩,⟨some 20,.load none (.t 19),none⟩,⟨some 21,.len (.t 20),none⟩,⟨some 22,.bin .eql (.t 18) (.t 21),none⟩]) (.cond (.t 22) (.seq (.region [⟨some 2,.mv (.c (.v (.int .i64 0))),none⟩,⟨some 3,.mv (.c (.v (.bool false))),none⟩]) .ret) .skip)) (.seq (.region [⟨some 23,.faddr 3 (.t 1),none⟩,⟨some 24,.load none (.t 23),none⟩,⟨some 25,.mv (.t 4),none⟩,⟨some 26,.iaddr 1 (.t 24) (.t 25),none⟩,⟨some 27,.load none (.t 26),none⟩,⟨some 2,.mv (.t 27),none⟩,⟨some 3,.mv (.c (.v (.bool true))),none⟩]) .ret)))))⟩
theorem a_nNext_ok : cFunc Try.prog 14 = some a_nNext := by kernel_rfl
def a_cmpI : AFunc := ⟨2,20,[.tmp 4],(.seq (.region [⟨some 4,.mv (.c (.v (.int .i64 0))),none⟩]) (.seq (.region [⟨some 7,.mv (.t 0),none⟩,⟨some 8,.call (.c (.fn 39 [])) [(.t 7)],none⟩,⟨some 5,.mv (.t 8),none⟩]) (.seq (.region [⟨some 9,.mv (.t 1),none⟩,⟨some 10,.call (.c (.fn 39 [])) [(.t 9)],none⟩,⟨some 6,.mv (.t 10),none⟩]) (.seq (.seq (.region [⟨some 11,.mv (.t 5),none⟩]) (.cond (.t 11) (.seq (.seq (.region [⟨some 12,.mv (.t 6),none⟩]) (.cond (.t 12) (.seq (.region [⟨some 4,.mv (.c (.v (.int .i64 0))),none⟩]) .ret) .skip)) (.seq (.region [⟨some 4,.mv (.c (.v (.int .i64 (-1)))),none⟩]) .ret)) .skip)) (.seq (.seq (.region [⟨some 13,.mv (.t 6),none⟩]) (.cond (.t 13) (.seq (.region [⟨some 4,.mv (.c (.v (.int .i64 1))),none⟩]) .ret) .skip)) (.seq (.seq (.region [⟨some 14,.mv (.t 0),none⟩,⟨some 15,.mv (.t 1),none⟩,⟨some 16,.bin .lss (.t 14) (.t 15),none⟩]) (.cond (.t 16) (.seq (.region [⟨some 4,.mv (.c (.v (.int .i64 (-1)))),none⟩]) .ret) .skip)) (.seq (.seq (.region [⟨some 17,.mv (.t 0),none⟩,⟨some 18,.mv (.t 1),none⟩,⟨some 19,.bin .gtr (.t 17) (.t 18),none⟩]) (.cond (.t 19) (.seq (.region [⟨some 4,.mv (.c (.v (.int .i64 1))),none⟩]) .ret) .skip)) (.seq (.region [⟨some 4,.mv (.c (.v (.int .i64 0))),none⟩]) .ret))))))))⟩
theorem a_cmpI_ok : cFunc Try.prog 28 = some a_cmpI := by kernel_rfl
def a_isNaN : AFunc := ⟨1,6,[.tmp 2],(.seq (.region [⟨some 2,.mv (.c (.v (.bool false))),none⟩]) (.seq (.region [⟨some 3,.mv (.t 0),none⟩,⟨some 4,.mv (.t 0),none⟩,⟨some 5,.bin .neq (.t 3) (.t 4),none⟩,⟨some 2,.mv (.t 5),none⟩]) .ret))⟩
theorem a_isNaN_ok : cFunc Try.prog 39 = some a_isNaN := by kernel_rfl
def a_bsf : AFunc := ⟨3,49,[.tmp 6,.tmp 7],(.seq (.region [⟨some 6,.mv (.c (.v (.int .i64 0))),none⟩,⟨some 7,.mv (.c (.v (.bool false))),none⟩]) (.seq (.region [⟨some 12,.mv (.t 0),none⟩,⟨some 13,.len (.t 12),none⟩,⟨some 8,.mv (.t 13),none⟩]) (.seq (.region [⟨some 14,.mv (.t 8),none⟩,⟨some 9,.mv (.c (.v (.int .i64 0))),none⟩,⟨some 10,.mv (.t 14),none⟩]) (.seq (.block 0 (.loop (.seq (.seq (.region [⟨some 15,.mv (.t 9),none⟩,⟨some 16,.mv (.t 10),none⟩,⟨some 17,.bin .lss (.t 15) (.t 16),none⟩]) (.cond (.t 17) .skip (.exit 0))) (.block 1 (.seq (.region [⟨some 18,.mv (.t 9),none⟩,⟨some 19,.mv (.t 10),none⟩,⟨some 20,.bin .add (.t 18) (.t 19),none⟩,⟨some 21,.conv .u64 (.t 20),none⟩,⟨some 22,.bin .shr (.t 21) (.c (.v (.int .u64 1))),none⟩,⟨some 23,.conv .i64 (.t 22),none⟩,⟨some 11,.mv (.t 23),none⟩]) (.seq (.region [⟨some 24,.mv (.t 2),none⟩,⟨some 25,.mv (.t 0),none⟩,⟨some 26,.mv (.t 11),none⟩,⟨some 27,.iaddr 1 (.t 25) (.t 26),none⟩,⟨some 28,.load none (.t 27),none⟩,⟨some 29,.mv (.t 1),none⟩,⟨some 30,.call (.t 24) [(.t 28),(.t 29)],none⟩,⟨some 31,.bin .lss (.t 30) (.c (.v (.int .i64 0))),none⟩]) (.cond (.t 31) (.region [⟨some 32,.mv (.t 11),none⟩,⟨some 33,.bin .add (.t 32) (.c (.v (.int .i64 1))),none⟩,⟨some 9,.mv (.t 33),none⟩]) (.region [⟨some 34,.mv (.t 11),none⟩,⟨some 10,.mv (.t 34),none⟩])))))))) (.seq (.region [⟨some 35,.mv (.t 9),none⟩,⟨some 36,.mv (.t 9),none⟩,⟨some 37,.mv (.t 8),none⟩,⟨some 38,.bin .lss (.t 36) (.t 37),none⟩,⟨some 39,.mv (.t 38),none⟩,⟨some 40,.mv (.t 2),some (39,true)⟩,⟨some 41,.mv (.t 0),some (39,true)⟩,⟨some 42,.mv (.t 9),some (39,true)⟩,⟨some 43,.iaddr 1 (.t 41) (.t 42),some (39,true)⟩,⟨some 44,.load none (.t 43),some (39,true)⟩,⟨some 45,.mv (.t 1),some (39,true)⟩,⟨some 46,.call (.t 40) [(.t 44),(.t 45)],some (39,true)⟩,⟨some 47,.bin .eql (.t 46) (.c (.v (.int .i64 0))),some (39,true)⟩,⟨some 48,.pick (.t 39) (.t 47) (.c (.v (.bool false))),none⟩,⟨some 6,.mv (.t 35),none⟩,⟨some 7,.mv (.t 48),none⟩]) .ret)))))⟩
theorem a_bsf_ok : cFunc Try.prog 27 = some a_bsf := by kernel_rfl
def r_bsf0 : List (Nat × Nat) := [(9, 11), (15, 34)]

theorem narr_spec (n : Nw) (i : Nat) (hi : i < n.l.length) (ht : i < n.tm.length) (to : Int) (b l : List Row) : ACalls Try.prog 21 [.agg [.v (.int .i64 n.now), .v (.bool n.fifo), .v (.isl 4 (n.l.map eMs)), .v (.isl 1 (n.tm.map eI)), .v (.isl 2 (n.fates.map eFt))], .v (.int .i64 i), .v (.int .i64 to)] b l (fun r b' l' => r = .v (.bool (arB n to i)) ∧ b' = b ∧ l' = l) := by
 refine calls_kept a_narr_ok rfl (by decide) ?_
 intro B g hB hR hE hA; simp only [KArgs] at hA
 have hm := eMs_get hi
 have htm := eI_get ht
 have hgd : n.l.getD i dfMs = n.l[i] := getD_at hi
 by_cases h1 : n.l[i].to = to
 ·have d1 : (n.l[i].to == to) = true := by rw [h1]; simp
  simp (disch := (first | decide | omega)) only [a_narr, hA, hm, htm, d1, go_sem]
  exact leave_pure (xs := [.v (.bool (decide (n.tm.getD i 0 ≤ n.now)))]) (.inr rfl) (by simp (disch := (first | decide | omega)) only [resVs, resV, go_sem, hA]) kO hR hB ⟨by unfold arB; rw [hgd, decide_eq_true h1]; rfl, rfl, rfl⟩
 ·have d1 : (n.l[i].to == to) = false := beq_eq_false_iff_ne.2 h1
  simp (disch := (first | decide | omega)) only [a_narr, hA, hm, htm, d1, go_sem]
  exact leave_pure (xs := [.v (.bool false)]) (.inr rfl) (by simp (disch := (first | decide | omega)) only [resVs, resV, go_sem, hA]) kO hR hB ⟨by unfold arB; rw [hgd, decide_eq_false h1]; rfl, rfl, rfl⟩
def waitN (n : Nw) (to : Int) : Nat := if nwB n = true ∧ ptB to = true then wtN n to n.l.length else 0
set_option maxRecDepth 20000 in
set_option maxHeartbeats 1000000 in
theorem nWait_spec (n : Nw) (to : Int) (b l : List Row) : ACalls Try.prog 9 [.agg ((eNw n).map .v), .v (.int .i64 to)] b l (fun r b' l' => r = .v (.int .i64 (waitN n to)) ∧ b' = b ∧ l' = l) := by
 refine calls_kept a_nWait_ok rfl (by decide) ?_
 intro B g hB hR hE hA; simp only [KArgs] at hA
 have hV := nValid_spec n
 unfold eNw at hV
 simp only [List.map_cons, List.map_nil] at hV
 simp (disch := (first | decide | omega)) only [a_nWait, hA, eNw, go_sem]
 refine ACalls.nxt (hV _ _) ?_
 cases h1 : nwB n
 ·simp (disch := (first | decide | omega)) only [hA, go_sem]
  exact leave_pure (xs := [.v (.int .i64 0)]) (.inr rfl) (by simp (disch := (first | decide | omega)) only [resVs, resV, go_sem, hA]) kO hR hB ⟨by unfold waitN; rw [h1]; rfl, rfl, rfl⟩
 have hv := nwB_iff.1 h1
 have hl := hv.len
 have hlm := hv.l
 simp (disch := (first | decide | omega)) only [hA, go_sem]
 refine ACalls.nxt (nparty_spec to _ _) ?_
 cases h2 : ptB to
 ·simp (disch := (first | decide | omega)) only [hA, go_sem]
  exact leave_pure (xs := [.v (.int .i64 0)]) (.inr rfl) (by simp (disch := (first | decide | omega)) only [resVs, resV, go_sem, hA]) kO hR hB ⟨by unfold waitN; rw [if_neg (fun h => by rw [h2] at h; cases h.2)]; rfl, rfl, rfl⟩
 have z0 : wtN n to 0 = 0 := rfl
 simp (disch := (first | decide | omega)) only [hA, List.length_map, go_sem]
 refine loop_kept (ι := Nat) r_nWait0 (fun i => [(5, .v (.int .i64 (wtN n to i))), (18, .v (.int .i64 i))]) 1 (fun _ => [.live 0 5 [[.v (.int .i64 n.now), .v (.bool n.fifo), .v (.isl 4 (n.l.map eMs)), .v (.isl 1 (n.tm.map eI)), .v (.isl 2 (n.fates.map eFt))]]])
  (fun i => i ≤ n.l.length) (fun i => n.l.length - i) 0 (Nat.zero_le _) (by (repeat (first | exact hE.mono oM | refine KLt.up ?_ kL))) (by ((try simp (disch := decide) only [hA, z0, go_sem]) <;> exact kH)) (fun e => Weak.refl _ _ _) ?_
 intro g1 hE1 hEE1 hg1 i hi
 by_cases hlt : i < n.l.length
 ·have hwl := wtN_le (n := n) (to := to) i
  simp (disch := (first | decide | omega)) only [hA, hg1, List.length_map, go_sem]
  refine ACalls.nxt (narr_spec n i hlt oM to _ _) ?_
  cases q : arB n to i
  ·have hs : wtN n to (i + 1) = wtN n to i := by simp only [wtN]; rw [q]; rfl
   simp (disch := (first | decide | omega)) only [hA, hg1, go_sem]
   refine ⟨i + 1, hlt, by simp only; omega, ?_⟩
   exact Weak.kround (p := r_nWait0) (k := 1) (by ((repeat refine (kAny_up rfl).trans ?_); exact hEE1)) (by ((try simp (disch := decide) only [hA, hs, go_sem]) <;> exact kH)) rfl hE1 (by simp) kV hR kL
  ·have hs : wtN n to (i + 1) = wtN n to i + 1 := by simp only [wtN]; rw [q]; rfl
   simp (disch := (first | decide | omega)) only [hA, hg1, go_sem]
   refine ⟨i + 1, hlt, by simp only; omega, ?_⟩
   exact Weak.kround (p := r_nWait0) (k := 1) (by ((repeat refine (kAny_up rfl).trans ?_); exact hEE1)) (by ((try simp (disch := decide) only [hA, hs, go_sem]) <;> exact kH)) rfl hE1 (by simp) kV hR kL
 ·obtain rfl : i = n.l.length := by omega
  simp (disch := (first | decide | omega)) only [hA, hg1, List.length_map, go_sem]
  exact leave_pure (xs := [.v (.int .i64 (wtN n to n.l.length))]) (.inr rfl) (by simp (disch := (first | decide | omega)) only [resVs, resV, go_sem, hA, hg1]) kO hR hB ⟨by unfold waitN; rw [if_pos ⟨h1, h2⟩]; rfl, rfl, rfl⟩
theorem isNaN_spec (x : Int) (b l : List Row) : ACalls Try.prog 39 [.v (.int .i64 x)] b l (fun r b' l' => r = .v (.bool false) ∧ b' = b ∧ l' = l) := by
 refine calls_kept a_isNaN_ok rfl (by decide) ?_
 intro B g hB hR hE hA; simp only [KArgs] at hA
 have d1 : (x != x) = false := by simp
 simp (disch := (first | decide | omega)) only [a_isNaN, hA, d1, go_sem]
 exact leave_pure (xs := [.v (.bool false)]) (.inr rfl) (by simp (disch := (first | decide | omega)) only [resVs, resV, go_sem, hA]) kO hR hB ⟨rfl, rfl, rfl⟩
def cmpN (x y : Int) : Int := if x < y then -1 else if y < x then 1 else 0
theorem cmpI_spec (x y : Int) (b l : List Row) : ACalls Try.prog 28 [.v (.int .i64 x), .v (.int .i64 y)] b l (fun r b' l' => r = .v (.int .i64 (cmpN x y)) ∧ b' = b ∧ l' = l) := by
 refine calls_kept a_cmpI_ok rfl (by decide) ?_
 intro B g hB hR hE hA; simp only [KArgs] at hA
 simp (disch := (first | decide | omega)) only [a_cmpI, hA, go_sem]
 refine ACalls.nxt (isNaN_spec x _ _) ?_
 simp (disch := (first | decide | omega)) only [hA, go_sem]
 refine ACalls.nxt (isNaN_spec y _ _) ?_
 by_cases h1 : x < y
 ·have d1 := decide_eq_true h1
  simp (disch := (first | decide | omega)) only [hA, d1, go_sem]
  exact leave_pure (xs := [.v (.int .i64 (-1))]) (.inr rfl) (by simp (disch := (first | decide | omega)) only [resVs, resV, go_sem, hA]) kO hR hB ⟨by unfold cmpN; rw [if_pos h1]; rfl, rfl, rfl⟩
 ·have d1 := decide_eq_false h1
  by_cases h2 : y < x
  ·have d2 := decide_eq_true h2
   simp (disch := (first | decide | omega)) only [hA, d1, d2, go_sem]
   exact leave_pure (xs := [.v (.int .i64 1)]) (.inr rfl) (by simp (disch := (first | decide | omega)) only [resVs, resV, go_sem, hA]) kO hR hB ⟨by unfold cmpN; rw [if_neg h1, if_pos h2]; rfl, rfl, rfl⟩
  ·have d2 := decide_eq_false h2
   simp (disch := (first | decide | omega)) only [hA, d1, d2, go_sem]
   exact leave_pure (xs := [.v (.int .i64 0)]) (.inr rfl) (by simp (disch := (first | decide | omega)) only [resVs, resV, go_sem, hA]) kO hR hB ⟨by unfold cmpN; rw [if_neg h1, if_neg h2]; rfl, rfl, rfl⟩
def fndN (tm : List Int) (a : Int) : Bool := decide (leN tm a < tm.length) && (tm.getD (leN tm a) 0 == a + 1)
theorem hget_low0 {B : List Row} {s : Nat} {r : Row} (h : B[s]? = some r) {l : List Row} : hget B l s = some r := by
 unfold hget
 rw [if_pos (List.getElem?_eq_some_iff.1 h).1]; exact h
theorem bsfI_spec (tm : List Int) (hn : tm.length ≤ 1000000) (hs : ∀ i j, i ≤ j → j < tm.length → tm.getD i 0 ≤ tm.getD j 0) (a : Int) (b l : List Row) :
  ACalls Try.prog 27 [.v (.isl 1 (tm.map eI)), .v (.int .i64 (a + 1)), .fn 28 []] b l (fun r b' l' => r = .tup [.v (.int .i64 (leN tm a)), .v (.bool (fndN tm a))] ∧ b' = b ∧ l' = l) := by
 refine calls_kept a_bsf_ok rfl (by decide) ?_
 intro B g hB hR hE hA; simp only [KArgs] at hA
 have h10 : decide ((1 : Int) < 0) = false := rfl
 have hleB := leN_le (l := tm) (a := a)
 simp (disch := (first | decide | omega)) only [a_bsf, hA, List.length_map, go_sem]
 refine loop_kept (ι := Nat × Nat) r_bsf0 (fun i => [(9, .v (.int .i64 i.1)), (10, .v (.int .i64 i.2))]) 0 (fun _ => [])
  (fun i => i.1 ≤ i.2 ∧ i.2 ≤ tm.length ∧ (∀ q, q < i.1 → tm.getD q 0 ≤ a) ∧ ∀ q, i.2 ≤ q → q < tm.length → a < tm.getD q 0) (fun i => i.2 - i.1) (0, tm.length) ⟨Nat.zero_le _, Nat.le_refl _, fun q hq => by simp only at hq; omega, fun q h1 h2 => by simp only at h1; omega⟩ (by (repeat (first | exact hE.mono oM | refine KLt.up ?_ kL))) (by ((try simp (disch := decide) only [hA, go_sem]) <;> exact kH)) (fun e => Weak.refl _ _ _) ?_
 rintro g1 hE1 hEE1 hg1 ⟨i, j⟩ ⟨hij, hj, hlo, hhi⟩
 simp only at hij hj hlo hhi
 by_cases hlt : i < j
 ·have hw : IntKind.u64.wrap ((i : Int) + (j : Int)) = ((i + j : Nat) : Int) := by rw [IntKind.wrap_u64]; omega
  have hw2 : IntKind.i64.wrap ((i : Int) + (j : Int)) = (i : Int) + (j : Int) := wrap_id oM oM
  have hf : Int.fdiv ((i + j : Nat) : Int) 2 = (((i + j) / 2 : Nat) : Int) := by rw [Int.fdiv_eq_ediv_of_nonneg _ (by decide)]; omega
  have hf3 : Int.fdiv ((i + j : Nat) : Int) (2 ^ Int.toNat 1) = (((i + j) / 2 : Nat) : Int) := hf
  have hm : (i + j) / 2 < tm.length := by omega
  have hmg := eI_get hm
  have hw3 : IntKind.i64.wrap (((i + j) / 2 : Nat) : Int) = (((i + j) / 2 : Nat) : Int) := wrap_id oM oM
  simp (disch := (first | decide | omega)) only [hA, hg1, hw, hw2, hw3, hf, hf3, hmg, shOp, h10, go_sem]
  refine ACalls.nxt (cmpI_spec _ _ _ _) ?_
  by_cases hc : tm.getD ((i + j) / 2) 0 < a + 1
  ·have hcm : cmpN (tm.getD ((i + j) / 2) 0) (a + 1) = -1 := if_pos hc
   have d1 : decide ((-1 : Int) < 0) = true := rfl
   rw [hcm]
   have hw4 : IntKind.i64.wrap ((((i + j) / 2 : Nat) : Int) + 1) = (((i + j) / 2 + 1 : Nat) : Int) := by rw [wrap_id oM oM]; omega
   simp (disch := (first | decide | omega)) only [hA, hg1, d1, hw4, h10, go_sem]
   refine ⟨((i + j) / 2 + 1, j), ⟨by simp only; omega, hj, fun q hq => ?_, hhi⟩, by simp only; omega, ?_⟩
   ·simp only at hq
    have := hs q ((i + j) / 2) oM hm
    omega
   ·exact Weak.kround (p := r_bsf0) (k := 0) (by ((repeat refine (kAny_up rfl).trans ?_); exact hEE1)) (by ((try simp (disch := decide) only [hA, hg1, go_sem]) <;> exact kH)) rfl hE1 (by simp) kV hR kL
  ·have hcm : decide (cmpN (tm.getD ((i + j) / 2) 0) (a + 1) < 0) = false := by
    unfold cmpN
    rw [if_neg hc]
    split <;> rfl
   simp (disch := (first | decide | omega)) only [hA, hg1, hcm, h10, go_sem]
   refine ⟨(i, (i + j) / 2), ⟨by simp only; omega, by simp only; omega, hlo, fun q h1 h2 => ?_⟩, by simp only; omega, ?_⟩
   ·simp only at h1
    have := hs ((i + j) / 2) q h1 h2
    omega
   ·exact Weak.kround (p := r_bsf0) (k := 0) (by ((repeat refine (kAny_up rfl).trans ?_); exact hEE1)) (by ((try simp (disch := decide) only [hA, hg1, go_sem]) <;> exact kH)) rfl hE1 (by simp) kV hR kL
 ·obtain rfl : j = i := by omega
  have hle : leN tm a = j := leN_eq hj hlo (fun h => hhi j (Nat.le_refl _) h)
  have hnl : decide ((j : Int) < (j : Int)) = false := by simp
  by_cases hin : j < tm.length
  ·have d1 : decide ((j : Int) < (tm.length : Int)) = true := decide_eq_true oM
   have hmg := eI_get hin
   simp (disch := (first | decide | omega)) only [hA, hg1, hnl, d1, hmg, List.length_map, h10, go_sem]
   refine ACalls.nxt (cmpI_spec _ _ _ _) ?_
   have hc : (cmpN (tm.getD j 0) (a + 1) == 0) = fndN tm a := by
    unfold fndN cmpN
    rw [hle, decide_eq_true hin]
    have := hhi j (Nat.le_refl _) hin
    rw [if_neg oM]
    by_cases he : tm.getD j 0 = a + 1
    ·rw [if_neg oM, he]; simp
    ·rw [if_pos oM]
     have : (tm.getD j 0 == a + 1) = false := by simpa using he
     rw [this]; rfl
   simp (disch := (first | decide | omega)) only [hA, hg1, hc, go_sem]
   exact leave_pure (xs := [.v (.int .i64 j), .v (.bool (fndN tm a))]) (.inr rfl) (by simp (disch := (first | decide | omega)) only [resVs, resV, go_sem, hA, hg1]) kO hR hB ⟨by rw [hle]; rfl, rfl, rfl⟩
  ·have d1 : decide ((j : Int) < (tm.length : Int)) = false := decide_eq_false oM
   have hc : fndN tm a = false := by
    unfold fndN
    rw [hle, decide_eq_false hin]; rfl
   simp (disch := (first | decide | omega)) only [hA, hg1, hnl, d1, List.length_map, h10, go_sem]
   exact leave_pure (xs := [.v (.int .i64 j), .v (.bool false)]) (.inr rfl) (by simp (disch := (first | decide | omega)) only [resVs, resV, go_sem, hA, hg1]) kO hR hB ⟨by rw [hle, hc]; rfl, rfl, rfl⟩
theorem bsfS_spec (tm : List Int) (hn : tm.length ≤ 1000000) (hs : ∀ i j, i ≤ j → j < tm.length → tm.getD i 0 ≤ tm.getD j 0) (a : Int) (id ver : Nat) (b l : List Row) (hid : (b ++ l)[id]? = some (.live ver 1 (vs (tm.map eI)))) :
  ACalls Try.prog 27 [.sl id ver 0 tm.length, .v (.int .i64 (a + 1)), .fn 28 []] b l (fun r b' l' => r = .tup [.v (.int .i64 (leN tm a)), .v (.bool (fndN tm a))] ∧ b' = b ∧ l' = l) := by
 refine calls_kept a_bsf_ok rfl (by decide) ?_
 intro B g hB hR hE hA; simp only [KArgs] at hA
 have h10 : decide ((1 : Int) < 0) = false := rfl
 have hgid := fun l => hget_low0 (l := l) (hB.symm ▸ hid : B[id]? = some (.live ver 1 (vs (tm.map eI))))
 have hidl : id < B.length := (List.getElem?_eq_some_iff.1 (hB.symm ▸ hid : B[id]? = some (.live ver 1 (vs (tm.map eI))))).1
 have hleB := leN_le (l := tm) (a := a)
 simp (disch := (first | decide | omega)) only [a_bsf, hA, List.length_map, go_sem]
 refine loop_kept (ι := Nat × Nat) r_bsf0 (fun i => [(9, .v (.int .i64 i.1)), (10, .v (.int .i64 i.2))]) 0 (fun _ => [])
  (fun i => i.1 ≤ i.2 ∧ i.2 ≤ tm.length ∧ (∀ q, q < i.1 → tm.getD q 0 ≤ a) ∧ ∀ q, i.2 ≤ q → q < tm.length → a < tm.getD q 0) (fun i => i.2 - i.1) (0, tm.length) ⟨Nat.zero_le _, Nat.le_refl _, fun q hq => by simp only at hq; omega, fun q h1 h2 => by simp only at h1; omega⟩ (by (repeat (first | exact hE.mono oM | refine KLt.up ?_ kL))) (by ((try simp (disch := decide) only [hA, go_sem]) <;> exact kH)) (fun e => Weak.refl _ _ _) ?_
 rintro g1 hE1 hEE1 hg1 ⟨i, j⟩ ⟨hij, hj, hlo, hhi⟩
 simp only at hij hj hlo hhi
 by_cases hlt : i < j
 ·have hw : IntKind.u64.wrap ((i : Int) + (j : Int)) = ((i + j : Nat) : Int) := by rw [IntKind.wrap_u64]; omega
  have hw2 : IntKind.i64.wrap ((i : Int) + (j : Int)) = (i : Int) + (j : Int) := wrap_id oM oM
  have hf : Int.fdiv ((i + j : Nat) : Int) 2 = (((i + j) / 2 : Nat) : Int) := by rw [Int.fdiv_eq_ediv_of_nonneg _ (by decide)]; omega
  have hf3 : Int.fdiv ((i + j : Nat) : Int) (2 ^ Int.toNat 1) = (((i + j) / 2 : Nat) : Int) := hf
  have hm : (i + j) / 2 < tm.length := by omega
  have hmg := eI_get hm
  have hw3 : IntKind.i64.wrap (((i + j) / 2 : Nat) : Int) = (((i + j) / 2 : Nat) : Int) := wrap_id oM oM
  simp (disch := (first | decide | omega)) only [hA, hg1, hw, hw2, hw3, hf, hf3, hmg, shOp, h10, hgid, vs_get, go_sem]
  refine ACalls.nxt (cmpI_spec _ _ _ _) ?_
  by_cases hc : tm.getD ((i + j) / 2) 0 < a + 1
  ·have hcm : cmpN (tm.getD ((i + j) / 2) 0) (a + 1) = -1 := if_pos hc
   have d1 : decide ((-1 : Int) < 0) = true := rfl
   rw [hcm]
   have hw4 : IntKind.i64.wrap ((((i + j) / 2 : Nat) : Int) + 1) = (((i + j) / 2 + 1 : Nat) : Int) := by rw [wrap_id oM oM]; omega
   simp (disch := (first | decide | omega)) only [hA, hg1, d1, hw4, h10, hgid, vs_get, go_sem]
   refine ⟨((i + j) / 2 + 1, j), ⟨by simp only; omega, hj, fun q hq => ?_, hhi⟩, by simp only; omega, ?_⟩
   ·simp only at hq
    have := hs q ((i + j) / 2) oM hm
    omega
   ·exact Weak.kround (p := r_bsf0) (k := 0) (by ((repeat refine (kAny_up rfl).trans ?_); exact hEE1)) (by ((try simp (disch := decide) only [hA, hg1, go_sem]) <;> exact kH)) rfl hE1 (by simp) kV hR kL
  ·have hcm : decide (cmpN (tm.getD ((i + j) / 2) 0) (a + 1) < 0) = false := by
    unfold cmpN
    rw [if_neg hc]
    split <;> rfl
   simp (disch := (first | decide | omega)) only [hA, hg1, hcm, h10, hgid, vs_get, go_sem]
   refine ⟨(i, (i + j) / 2), ⟨by simp only; omega, by simp only; omega, hlo, fun q h1 h2 => ?_⟩, by simp only; omega, ?_⟩
   ·simp only at h1
    have := hs ((i + j) / 2) q h1 h2
    omega
   ·exact Weak.kround (p := r_bsf0) (k := 0) (by ((repeat refine (kAny_up rfl).trans ?_); exact hEE1)) (by ((try simp (disch := decide) only [hA, hg1, go_sem]) <;> exact kH)) rfl hE1 (by simp) kV hR kL
 ·obtain rfl : j = i := by omega
  have hle : leN tm a = j := leN_eq hj hlo (fun h => hhi j (Nat.le_refl _) h)
  have hnl : decide ((j : Int) < (j : Int)) = false := by simp
  by_cases hin : j < tm.length
  ·have d1 : decide ((j : Int) < (tm.length : Int)) = true := decide_eq_true oM
   have hmg := eI_get hin
   simp (disch := (first | decide | omega)) only [hA, hg1, hnl, d1, hmg, List.length_map, h10, hgid, vs_get, go_sem]
   refine ACalls.nxt (cmpI_spec _ _ _ _) ?_
   have hc : (cmpN (tm.getD j 0) (a + 1) == 0) = fndN tm a := by
    unfold fndN cmpN
    rw [hle, decide_eq_true hin]
    have := hhi j (Nat.le_refl _) hin
    rw [if_neg oM]
    by_cases he : tm.getD j 0 = a + 1
    ·rw [if_neg oM, he]; simp
    ·rw [if_pos oM]
     have : (tm.getD j 0 == a + 1) = false := by simpa using he
     rw [this]; rfl
   simp (disch := (first | decide | omega)) only [hA, hg1, hc, go_sem]
   exact leave_pure (xs := [.v (.int .i64 j), .v (.bool (fndN tm a))]) (.inr rfl) (by simp (disch := (first | decide | omega)) only [resVs, resV, go_sem, hA, hg1]) kO hR hB ⟨by rw [hle]; rfl, rfl, rfl⟩
  ·have d1 : decide ((j : Int) < (tm.length : Int)) = false := decide_eq_false oM
   have hc : fndN tm a = false := by
    unfold fndN
    rw [hle, decide_eq_false hin]; rfl
   simp (disch := (first | decide | omega)) only [hA, hg1, hnl, d1, List.length_map, h10, hgid, vs_get, go_sem]
   exact leave_pure (xs := [.v (.int .i64 j), .v (.bool false)]) (.inr rfl) (by simp (disch := (first | decide | omega)) only [resVs, resV, go_sem, hA, hg1]) kO hR hB ⟨by rw [hle, hc]; rfl, rfl, rfl⟩
def nextN (n : Nw) : Int × Bool := if nwB n = true ∧ leN n.tm n.now < n.tm.length then (n.tm.getD (leN n.tm n.now) 0, true) else (0, false)
set_option maxRecDepth 20000 in
theorem nNext_spec (n : Nw) (b l : List Row) : ACalls Try.prog 14 [.agg ((eNw n).map .v)] b l (fun r b' l' => r = .tup [.v (.int .i64 (nextN n).1), .v (.bool (nextN n).2)] ∧ b' = b ∧ l' = l) := by
 refine calls_kept a_nNext_ok rfl (by decide) ?_
 intro B g hB hR hE hA; simp only [KArgs] at hA
 have hV := nValid_spec n
 unfold eNw at hV
 simp only [List.map_cons, List.map_nil] at hV
 simp (disch := (first | decide | omega)) only [a_nNext, hA, eNw, go_sem]
 refine ACalls.nxt (hV _ _) ?_
 cases h1 : nwB n
 ·simp (disch := (first | decide | omega)) only [hA, go_sem]
  exact leave_pure (xs := [.v (.int .i64 0), .v (.bool false)]) (.inr rfl) (by simp (disch := (first | decide | omega)) only [resVs, resV, go_sem, hA]) kO hR hB ⟨by unfold nextN; rw [if_neg (fun h => by rw [h1] at h; cases h.1)]; rfl, rfl, rfl⟩
 have hv := nwB_iff.1 h1
 have hnow := hv.now
 have htl := hv.l
 have hlen := hv.len
 simp (disch := (first | decide | omega)) only [hA, go_sem]
 refine ACalls.nxt (bsfI_spec n.tm oM hv.sorted n.now _ _) ?_
 have hle := leN_le (l := n.tm) (a := n.now)
 by_cases h2 : leN n.tm n.now < n.tm.length
 ·have d2 : ((leN n.tm n.now : Int) == (n.tm.length : Int)) = false := by simp; omega
  have hg := eI_get h2
  simp (disch := (first | decide | omega)) only [hA, d2, hg, List.length_map, go_sem]
  exact leave_pure (xs := [.v (.int .i64 (n.tm.getD (leN n.tm n.now) 0)), .v (.bool true)]) (.inr rfl) (by simp (disch := (first | decide | omega)) only [resVs, resV, go_sem, hA]) kO hR hB ⟨by unfold nextN; rw [if_pos ⟨h1, h2⟩]; rfl, rfl, rfl⟩
 ·have d2 : ((leN n.tm n.now : Int) == (n.tm.length : Int)) = true := by simp; omega
  simp (disch := (first | decide | omega)) only [hA, d2, List.length_map, go_sem]
  exact leave_pure (xs := [.v (.int .i64 0), .v (.bool false)]) (.inr rfl) (by simp (disch := (first | decide | omega)) only [resVs, resV, go_sem, hA]) kO hR hB ⟨by unfold nextN; rw [if_neg (fun h => h2 h.2)]; rfl, rfl, rfl⟩
def nwA (n : Nw) : AV := .agg ((eNw n).map .v)
def zNw : AV := .agg [.v (.int .i64 0), .v (.bool false), .v .zsl, .v .zsl, .v .zsl]
theorem zNw_dv {n : Nat} {l : List Row} : Dv n l zNw (nwA nw0) :=
 Dv.aggL (.cons (.v _) (.cons (.v _) (.cons (.z 4) (.cons (.z 1) (.cons (.z 2) .nil)))))
def ownA (base : Nat) : Option Lv → AV
 | some z => z.av base
 | none => zNw
def ownR (base : Nat) : Option Lv → List Row
 | some z => z.rows base
 | none => []
def ownN : Option Lv → Nw
 | some z => z.nw
 | none => nw0
theorem own_dv {z : Option Lv} (h : ∀ y, z = some y → y.ok) (base : Nat) : Dv base (ownR base z) (ownA base z) (nwA (ownN z)) := by
 cases z with
 | none => exact zNw_dv
 | some y => exact Lv.dv (h y rfl) base
theorem ACalls.ownV {P : Program} {f : Nat} {args : List AV} {b l : List Row} {z : Option Lv} {e : IV} (hz : ∀ y, z = some y → y.ok)
  (h : ACalls P f args b l (fun r b' l' => r = .tup [ownA (b.length + l.length) z, .v e] ∧ b' = b ∧ l' = l ++ ownR (b.length + l.length) z)) :
  ACalls P f args b l (fun r b' l' => r = .tup [nwA (ownN z), .v e] ∧ b' = b ∧ l' = l) :=
 ACalls.deep (Dv.tupL (.cons (own_dv hz _) (.cons (.v _) .nil))) h
def newE (l : List (Int × Int)) : Int := if 1000 < l.length then 5 else if ftsB l = true then 0 else 1
def newR (fifo : Bool) (l : List (Int × Int)) : Nw := if newE l = 0 then ⟨0, fifo, [], [], l⟩ else nw0
theorem nNew_spec (fifo : Bool) (v : List (Int × Int)) (b l : List Row) : ACalls Try.prog 6 [.v (.bool fifo), .v (.isl 2 (v.map eFt))] b l (fun r b' l' => r = .tup [nwA (newR fifo v), .v (.int .i64 (newE v))] ∧ b' = b ∧ l' = l) := by
 refine calls_kept a_nNew_ok rfl (by decide) ?_
 intro B g hB hR hE hA; simp only [KArgs] at hA
 by_cases h1 : 1000 < v.length
 ·have d1 : decide ((1000 : Int) < (v.length : Int)) = true := decide_eq_true oM
  have he : newE v = 5 := if_pos h1
  simp (disch := (first | decide | omega)) only [a_nNew, hA, d1, List.length_map, setFrom, cellsOf, go_sem]
  refine leave_deep (.inr rfl) (xs := [zNw, .v (.int .i64 5)]) (y := .tup [nwA (newR fifo v), .v (.int .i64 (newE v))]) (by simp (disch := (first | decide | omega)) only [resVs, resV, hA, zNw, go_sem]) ?_ hR hB ⟨rfl, rfl, rfl⟩
  rw [he, show newR fifo v = nw0 from by unfold newR; rw [he]; rfl]
  exact Dv.tupL (.cons zNw_dv (.cons (.v _) .nil))
 have d1 : decide ((1000 : Int) < (v.length : Int)) = false := decide_eq_false oM
 simp (disch := (first | decide | omega)) only [a_nNew, hA, d1, List.length_map, go_sem]
 refine ACalls.nxt (nfats_spec v oM _ _) ?_
 cases h2 : ftsB v
 ·have he : newE v = 1 := by unfold newE; rw [if_neg h1, h2]; rfl
  simp (disch := (first | decide | omega)) only [hA, setFrom, cellsOf, go_sem]
  refine leave_deep (.inr rfl) (xs := [zNw, .v (.int .i64 1)]) (y := .tup [nwA (newR fifo v), .v (.int .i64 (newE v))]) (by simp (disch := (first | decide | omega)) only [resVs, resV, hA, zNw, go_sem]) ?_ hR hB ⟨rfl, rfl, rfl⟩
  rw [he, show newR fifo v = nw0 from by unfold newR; rw [he]; rfl]
  exact Dv.tupL (.cons zNw_dv (.cons (.v _) .nil))
 have he : newE v = 0 := by unfold newE; rw [if_neg h1, h2]; rfl
 simp (disch := (first | decide | omega)) only [hA, go_sem]
 refine ACalls.nxt (cloF_spec v oM _ _) ?_
 simp (disch := (first | decide | omega)) only [hA, setFrom, cellsOf, go_sem]
 refine leave_deep (.inr rfl) (xs := [.agg [.v (.int .i64 0), .v (.bool fifo), .v .zsl, .v .zsl, .sl (B.length + 1) 1 0 v.length], .v (.int .i64 0)]) (y := .tup [nwA (newR fifo v), .v (.int .i64 (newE v))]) (by simp (disch := (first | decide | omega)) only [resVs, resV, hA, go_sem]) ?_ hR hB ⟨rfl, rfl, rfl⟩
 rw [he, show newR fifo v = ⟨0, fifo, [], [], v⟩ from by unfold newR; rw [if_pos he]]
 exact Dv.tupL (.cons (Dv.aggL (.cons (.v _) (.cons (.v _) (.cons (.z 4) (.cons (.z 1) (.cons (Dv.slV (i := 1) rfl (by simp)) .nil)))))) (.cons (.v _) .nil))
def goE (n : Nw) (t : Int) : Int := if nwB n = true then (if t < 0 ∨ 1099511627776 < t then 2 else if t < n.now then 11 else 0) else 1
def goZ (n : Nw) (t : Int) : Option Lv := if goE n t = 0 then some { clone0 n with now := t } else none
def goN (n : Nw) (t : Int) : Nw := if goE n t = 0 then { n with now := t } else nw0
theorem goZ_ok {n : Nw} {t : Int} : ∀ y, goZ n t = some y → y.ok := by
 intro y h
 unfold goZ at h
 split at h
 ·cases h; exact ⟨(clone0_ok n).o, (clone0_ok n).bd⟩
 ·cases h
theorem goZ_nw {n : Nw} {t : Int} : ownN (goZ n t) = goN n t := by
 unfold goZ goN
 split
 ·have := clone0_nw n
  unfold ownN
  unfold Lv.nw at this ⊢
  simp only at this ⊢
  rw [Nw.eq_iff] at this
  simp only at this
  rw [Nw.eq_iff]
  exact ⟨rfl, this.2⟩
 ·rfl
theorem lvE_rn {z : Lv} (hz : z.ok) {n s m : Nat} (hm : z.bd.length + 3 ≤ m) {σ : Nat → Nat} (hσ : ∀ j, j < z.bd.length + 3 → σ j = j + s) {x : Ms × Nat} (hx : x ∈ z.xs) : RnL n m σ (lvE (n + s) x) (lvE n x) := by
 have hb := (List.getElem?_eq_some_iff.1 (hz.bd x hx)).1
 unfold lvE
 refine .cons (.v _) (.cons (.v _) (.cons (.v _) (.cons ?_ .nil)))
 rw [show n + s + (3 + x.2) = n + (3 + x.2 + s) by omega]
 exact Rn.slE (hσ _ oM) oM
theorem Lv.rnA {z : Lv} {n s m : Nat} (hm : z.bd.length + 3 ≤ m) {σ : Nat → Nat} (hσ : ∀ j, j < z.bd.length + 3 → σ j = j + s) : Rn n m σ (z.av (n + s)) (z.av n) := by
 unfold Lv.av
 refine Rn.aggL (.cons (.v _) (.cons (.v _) (.cons ?_ (.cons ?_ (.cons ?_ .nil)))))
 ·exact Rn.slE (i := s) (j := 0) (by rw [hσ 0 oM]; omega) oM
 ·rw [show n + s + 1 = n + (1 + s) by omega]
  exact Rn.slE (hσ 1 oM) oM
 ·rw [show n + s + 2 = n + (2 + s) by omega]
  exact Rn.slE (hσ 2 oM) oM
theorem Lv.rnR {z : Lv} (hz : z.ok) {n s m : Nat} (hm : z.bd.length + 3 ≤ m) {σ : Nat → Nat} (hσ : ∀ j, j < z.bd.length + 3 → σ j = j + s) {pre junk : List Row} (hp : pre.length = s) (j : Nat) (r' : Row) (h : (z.rows n)[j]? = some r') : ∃ r, (pre ++ (z.rows (n + s) ++ junk))[σ j]? = some r ∧ RnR n m σ r r' := by
 have hlen : (z.rows n).length = z.bd.length + 3 := by simp [Lv.rows]
 have hj := (List.getElem?_eq_some_iff.1 h).1
 rw [hlen] at hj
 rw [hσ j hj, List.getElem?_append_right oM, hp, Nat.add_sub_cancel, List.getElem?_append_left (by simp [Lv.rows]; omega)]
 match j, h with
 | 0, h =>
   cases h
   refine ⟨_, rfl, rfl, rfl, by simp, fun k r r' h1 h2 => ?_⟩
   rw [List.getElem?_map] at h1 h2
   cases hq : z.xs[k]? with
   | none => rw [hq] at h1; cases h1
   | some x =>
     rw [hq] at h1 h2
     cases h1; cases h2
     exact lvE_rn hz hm hσ (List.mem_of_getElem? hq)
 | 1, h => cases h; exact ⟨_, rfl, RnR.plain⟩
 | 2, h => cases h; exact ⟨_, rfl, RnR.plain⟩
 | j + 3, h =>
   have h : (z.bd.map bdR)[j]? = some r' := h
   refine ⟨r', h, ?_⟩
   rw [List.getElem?_map] at h
   cases hq : z.bd[j]? with
   | none => rw [hq] at h; cases h
   | some x => rw [hq] at h; cases h; exact RnR.plain
theorem leave_lv {e : List AV} {l junk : List Row} {rs : List ARes} {Q : AV → List Row → List Row → Prop} {B : List Row} {ex : AExit} (hex : ex = .normal ∨ ex = .ret) {z : Lv} (hz : z.ok) {s : Nat} {c : IV} (hx : resVs e B l rs = some [z.av (B.length + s), .v c]) (hl : l.drop s = z.rows (B.length + s) ++ junk)
  (hR : RowsLt B.length B) {b0 l0 : List Row} (hB : B = b0 ++ l0) (hq : Q (.tup [z.av B.length, .v c]) b0 (l0 ++ z.rows B.length)) : Leaves rs Q b0.length ex e B l := by
 have hσ : ∀ j, j < z.bd.length + 3 → (fun j => j + s) j = j + s := fun _ _ => rfl
 have hp : (l.take s).length = s := by
  have h := congrArg List.length hl
  rw [List.length_drop, List.length_append] at h
  simp only [Lv.rows, List.length_cons] at h
  rw [List.length_take]; omega
 have hl2 : l = l.take s ++ (z.rows (B.length + s) ++ junk) := by rw [← hl, List.take_append_drop]
 rw [hl2] at hx ⊢
 exact leave_ren hex hx (y := .tup [z.av B.length, .v c]) (l' := z.rows B.length) (m := z.bd.length + 3) (by simp [Lv.rows]) (fun j => j + s) (fun i j _ _ h => by have h : i + s = j + s := h; omega) (fun j r' h => Lv.rnR hz (Nat.le_refl _) hσ hp j r' h)
  (Rn.tupL (.cons (Lv.rnA (Nat.le_refl _) hσ) (.cons (.v _) .nil))) hR hB hq
set_option maxRecDepth 20000 in
set_option maxHeartbeats 1000000 in
theorem nGo_own (n : Nw) (t : Int) (b l : List Row) : ACalls Try.prog 12 [.agg ((eNw n).map .v), .v (.int .i64 t)] b l
  (fun r b' l' => r = .tup [ownA (b.length + l.length) (goZ n t), .v (.int .i64 (goE n t))] ∧ b' = b ∧ l' = l ++ ownR (b.length + l.length) (goZ n t)) := by
 refine calls_kept a_nGo_ok rfl (by decide) ?_
 intro B g hB hR hE hA; simp only [KArgs] at hA
 have hV := nValid_spec n
 have hC := nclone_spec n
 unfold eNw at hV hC
 simp only [List.map_cons, List.map_nil] at hV hC
 have bad : goE n t ≠ 0 → goZ n t = none := fun h => if_neg h
 simp (disch := (first | decide | omega)) only [a_nGo, hA, eNw, go_sem]
 refine ACalls.nxt (hV _ _) ?_
 cases h1 : nwB n
 ·have he : goE n t = 1 := by unfold goE; rw [h1]; rfl
  rw [bad (by rw [he]; decide), he]
  simp (disch := (first | decide | omega)) only [hA, setFrom, cellsOf, go_sem]
  exact leave_pure (.inr rfl) (xs := [zNw, .v (.int .i64 1)]) (by simp (disch := (first | decide | omega)) only [resVs, resV, hA, zNw, go_sem]) (by simp only [one, zNw, lts.down, Nat.reduceLT, Nat.reduceAdd]) hR hB ⟨rfl, rfl, by simp [ownR]⟩
 by_cases h2 : t < 0
 ·have he : goE n t = 2 := by unfold goE; rw [if_pos h1, if_pos (.inl h2)]
  rw [bad (by rw [he]; decide), he]
  have d2 := decide_eq_true h2
  simp (disch := (first | decide | omega)) only [hA, d2, setFrom, cellsOf, go_sem]
  exact leave_pure (.inr rfl) (xs := [zNw, .v (.int .i64 2)]) (by simp (disch := (first | decide | omega)) only [resVs, resV, hA, zNw, go_sem]) (by simp only [one, zNw, lts.down, Nat.reduceLT, Nat.reduceAdd]) hR hB ⟨rfl, rfl, by simp [ownR]⟩
 have d2 := decide_eq_false h2
 by_cases h3 : 1099511627776 < t
 ·have he : goE n t = 2 := by unfold goE; rw [if_pos h1, if_pos (.inr h3)]
  rw [bad (by rw [he]; decide), he]
  have d3 := decide_eq_true h3
  simp (disch := (first | decide | omega)) only [hA, d2, d3, setFrom, cellsOf, go_sem]
  exact leave_pure (.inr rfl) (xs := [zNw, .v (.int .i64 2)]) (by simp (disch := (first | decide | omega)) only [resVs, resV, hA, zNw, go_sem]) (by simp only [one, zNw, lts.down, Nat.reduceLT, Nat.reduceAdd]) hR hB ⟨rfl, rfl, by simp [ownR]⟩
 have d3 := decide_eq_false h3
 by_cases h4 : t < n.now
 ·have he : goE n t = 11 := by unfold goE; rw [if_pos h1, if_neg oM, if_pos h4]
  rw [bad (by rw [he]; decide), he]
  have d4 := decide_eq_true h4
  simp (disch := (first | decide | omega)) only [hA, d2, d3, d4, setFrom, cellsOf, go_sem]
  exact leave_pure (.inr rfl) (xs := [zNw, .v (.int .i64 11)]) (by simp (disch := (first | decide | omega)) only [resVs, resV, hA, zNw, go_sem]) (by simp only [one, zNw, lts.down, Nat.reduceLT, Nat.reduceAdd]) hR hB ⟨rfl, rfl, by simp [ownR]⟩
 have d4 := decide_eq_false h4
 have he : goE n t = 0 := by unfold goE; rw [if_pos h1, if_neg oM, if_neg h4]
 have hZ : goZ n t = some { clone0 n with now := t } := if_pos he
 have hok := goZ_ok _ hZ
 rw [hZ, he]
 simp (disch := (first | decide | omega)) only [hA, d2, d3, d4, go_sem]
 refine ACalls.nxt (hC (nwB_iff.1 h1).s _ _) ?_
 simp (disch := (first | decide | omega)) only [hA, Lv.av, setFrom, cellsOf, go_sem]
 refine leave_lv (.inr rfl) hok (s := 2) (c := .int .i64 0) (junk := []) (by simp (disch := (first | decide | omega)) only [resVs, resV, hA, Lv.av, go_sem]) ?_ hR hB ⟨by rw [hB, List.length_append]; rfl, rfl, by rw [hB, List.length_append]; rfl⟩
 simp only [List.append_nil, List.cons_append, List.nil_append]
 rfl
theorem nGo_spec (n : Nw) (t : Int) (b l : List Row) : ACalls Try.prog 12 [.agg ((eNw n).map .v), .v (.int .i64 t)] b l (fun r b' l' => r = .tup [nwA (goN n t), .v (.int .i64 (goE n t))] ∧ b' = b ∧ l' = l) := by
 rw [← goZ_nw]
 exact ACalls.ownV goZ_ok (nGo_own n t b l)
end Go.Proofs.Ytpkemmchpccjdaa
