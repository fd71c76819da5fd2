/- Texts of one proof, laid together: NH. No condition. -/
import Derived.Test.YtilcmenglgdljaaNO6
namespace Go.Proofs.Ytilcmenglgdljaa
set_option linter.unusedVariables false
set_option linter.unusedSimpArgs false
attribute [local go_sem ↓] run_skip run_region run_draw run_seq run_block run_exit run_ret run_cond atN_app seqC_normal seqC_exit seqC_ret seqQ_normal seqQ_exit seqQ_ret blkQ_normal blkQ_exit blkQ_ret runOps_nil runOps_cons runD_nil runD_cons grdO_true grdO_false grdD_true grdD_false ifC_true ifC_false opS_val opS_call opS_two opK_app dS_val dS_call dS_two dK_app kUp_same kUp_ne
attribute [local go_sem] rechks_nil rechks_cons rechk gcase_true gcase_false ex_val ex_val0 gd_none gd_some ev_t ev_c evs_nil evs_cons evo_some evo_none hget_at hget_first hsetB_at hsetB_first hsetL_at hsetL_first ofOpt_some aop aload astore aslice aappend aiaddr aiaddrA afaddr alen alenS acopy amm acall alookup amupdate alenM comma keyEq apick binV binVB binVS isSh intOp strOp boolOp shOp eqC eqF and2 cellsOf setFrom fillA fillS rd rdI elems mk bounds AV.cell List.all_cons List.all_nil Bool.and_true Bool.true_and Bool.and_self List.length_cons List.length_nil List.length_append Nat.reduceAdd Nat.reduceSub Nat.reduceMul Nat.zero_add Nat.add_zero List.cons_append List.nil_append List.append_assoc List.append_nil List.getElem?_cons_zero List.getElem?_cons_succ List.getElem?_nil List.set_cons_zero List.set_cons_succ List.drop_zero List.drop_succ_cons List.take_zero List.take_succ_cons List.take_nil List.drop_nil List.map_cons List.map_nil Option.map_some if_true if_false Bool.false_eq_true and_self true_and and_true Nat.reduceLeDiff Nat.reduceLT Nat.le_refl Nat.reduceEqDiff ite_true ite_false beq_self_eq_true beq_true beq_false Bool.not_true Bool.not_false Bool.true_beq Bool.false_beq map_vs vs_len vs_get vs_take vs_drop vs_snoc1 vs_snoc2 vs_snoc3 vs_snoc5 vs_set1 vs_set2 vs_rep wrap_id le_T lt_T le_F lt_F leI_T ltI_T leI_F ltI_F geI gtI get_T decide_true decide_false room List.getElem?_map List.length_map List.length_take Int.toNat_natCast Nat.min_def Nat.min_self nth_kOf put_kOf put_kNo kOv_cons kOv_nil KHas KArgs List.getElem_cons_zero List.getElem_cons_succ
def a_rin : AFunc := ⟨3,15,[.tmp 6],(.seq (.region [⟨some 6,.mv (.c (.v (.bool false))),none⟩]) (.seq (.region [⟨some 7,.mv (.t 0),none⟩,⟨some 8,.mv (.t 1),none⟩,⟨some 9,.bin .geq (.t 7) (.t 8),none⟩,⟨some 10,.mv (.t 9),none⟩,⟨some 11,.mv (.t 0),some (10,true)⟩,⟨some 12,.mv (.t 2),some (10,true)⟩,⟨some 13,.bin .leq (.t 11) (.t 12),some (10,true)⟩,⟨some 14,.pick (.t 10) (.t 13) (.c (.v (.bool false))),none⟩,⟨some 6,.mv (.t 14),none⟩]) .ret))⟩
theorem a_rin_ok : cFunc Try.prog 98 = some a_rin := by kernel_rfl
def a_rparty : AFunc := ⟨1,5,[.tmp 2],(.seq (.region [⟨some 2,.mv (.c (.v (.bool false))),none⟩]) (.seq (.region [⟨some 3,.mv (.t 0),none⟩,⟨some 4,.call (.c (.fn 98 [])) [(.t 3),(.c (.v (.int .i64 0))),(.c (.v (.int .i64 7)))],none⟩,⟨some 2,.mv (.t 4),none⟩]) .ret))⟩
theorem a_rparty_ok : cFunc Try.prog 39 = some a_rparty := by kernel_rfl
def a_rmsg : AFunc := ⟨1,47,[.tmp 2],(.seq (.region [⟨some 1,.box (.t 0),none⟩,⟨some 2,.mv (.c (.v (.bool false))),none⟩]) (.seq (.seq (.region [⟨some 4,.faddr 0 (.t 1),none⟩,⟨some 5,.load none (.t 4),none⟩,⟨some 6,.call (.c (.fn 39 [])) [(.t 5)],none⟩,⟨some 7,.not (.t 6),none⟩,⟨some 8,.mv (.t 7),none⟩,⟨some 9,.faddr 1 (.t 1),some (8,false)⟩,⟨some 10,.load none (.t 9),some (8,false)⟩,⟨some 11,.call (.c (.fn 39 [])) [(.t 10)],some (8,false)⟩,⟨some 12,.not (.t 11),some (8,false)⟩,⟨some 13,.pick (.t 8) (.c (.v (.bool true))) (.t 12),none⟩,⟨some 14,.mv (.t 13),none⟩,⟨some 15,.faddr 0 (.t 1),some (14,false)⟩,⟨some 16,.load none (.t 15),some (14,false)⟩,⟨some 17,.faddr 1 (.t 1),some (14,false)⟩,⟨some 18,.load none (.t 17),some (14,false)⟩,⟨some 19,.bin .eql (.t 16) (.t 18),some (14,false)⟩,⟨some 20,.pick (.t 14) (.c (.v (.bool true))) (.t 19),none⟩,⟨some 21,.mv (.t 20),none⟩,⟨some 22,.faddr 2 (.t 1),some (21,false)⟩,⟨some 23,.load none (.t 22),some (21,false)⟩,⟨some 24,.call (.c (.fn 98 [])) [(.t 23),(.c (.v (.int .i64 0))),(.c (.v (.int .i64 199)))],some (21,false)⟩,⟨some 25,.not (.t 24),some (21,false)⟩,⟨some 26,.pick (.t 21) (.c (.v (.bool true))) (.t 25),none⟩,⟨some 27,.mv (.t 26),none⟩,⟨some 28,.faddr 3 (.t 1),some (27,false)⟩,⟨some 29,.load none (.t 28),some (27,false)⟩,⟨some 30,.len (.t 29),some (27,false)⟩,⟨some 31,.bin .gtr (.t 30) (.c (.v (.int .i64 20))),some (27,false)⟩,⟨some 32,.pick (.t 27) (.c (.v (.bool true))) (.t 31),none⟩]) (.cond (.t 32) (.seq (.region [⟨some 2,.mv (.c (.v (.bool false))),none⟩]) .ret) .skip)) (.seq (.seq (.region [⟨some 3,.mv (.c (.v (.int .i64 0))),none⟩]) (.block 0 (.loop (.seq (.seq (.region [⟨some 33,.mv (.t 3),none⟩,⟨some 34,.faddr 3 (.t 1),none⟩,⟨some 35,.load none (.t 34),none⟩,⟨some 36,.len (.t 35),none⟩,⟨some 37,.bin .lss (.t 33) (.t 36),none⟩]) (.cond (.t 37) .skip (.exit 0))) (.seq (.block 1 (.seq (.region [⟨some 40,.faddr 3 (.t 1),none⟩,⟨some 41,.load none (.t 40),none⟩,⟨some 42,.mv (.t 3),none⟩,⟨some 43,.iaddr 1 (.t 41) (.t 42),none⟩,⟨some 44,.load none (.t 43),none⟩,⟨some 45,.call (.c (.fn 98 [])) [(.t 44),(.c (.v (.int .i64 (-1073741824)))),(.c (.v (.int .i64 1073741824)))],none⟩,⟨some 46,.not (.t 45),none⟩]) (.cond (.t 46) (.seq (.region [⟨some 2,.mv (.c (.v (.bool false))),none⟩]) .ret) .skip))) (.region [⟨some 38,.mv (.t 3),none⟩,⟨some 39,.bin .add (.t 38) (.c (.v (.int .i64 1))),none⟩,⟨some 3,.mv (.t 39),none⟩])))))) (.seq (.region [⟨some 2,.mv (.c (.v (.bool true))),none⟩]) .ret))))⟩
theorem a_rmsg_ok : cFunc Try.prog 31 = some a_rmsg := by kernel_rfl
def r_rmsg0 : List (Nat × Nat) := [(2, 3), (33, 46)]
def a_rfate : AFunc := ⟨1,11,[.tmp 2],(.seq (.region [⟨some 1,.box (.t 0),none⟩,⟨some 2,.mv (.c (.v (.bool false))),none⟩]) (.seq (.region [⟨some 3,.faddr 0 (.t 1),none⟩,⟨some 4,.load none (.t 3),none⟩,⟨some 5,.call (.c (.fn 98 [])) [(.t 4),(.c (.v (.int .i64 0))),(.c (.v (.int .i64 3)))],none⟩,⟨some 6,.mv (.t 5),none⟩,⟨some 7,.faddr 1 (.t 1),some (6,true)⟩,⟨some 8,.load none (.t 7),some (6,true)⟩,⟨some 9,.call (.c (.fn 98 [])) [(.t 8),(.c (.v (.int .i64 0))),(.c (.v (.int .i64 1000000)))],some (6,true)⟩,⟨some 10,.pick (.t 6) (.t 9) (.c (.v (.bool false))),none⟩,⟨some 2,.mv (.t 10),none⟩]) .ret))⟩
theorem a_rfate_ok : cFunc Try.prog 105 = some a_rfate := by kernel_rfl
def a_rfates : AFunc := ⟨1,16,[.tmp 2],(.seq (.region [⟨some 2,.mv (.c (.v (.bool false))),none⟩]) (.seq (.seq (.region [⟨some 3,.mv (.c (.v (.int .i64 0))),none⟩]) (.block 0 (.loop (.seq (.seq (.region [⟨some 4,.mv (.t 3),none⟩,⟨some 5,.mv (.t 0),none⟩,⟨some 6,.len (.t 5),none⟩,⟨some 7,.bin .lss (.t 4) (.t 6),none⟩]) (.cond (.t 7) .skip (.exit 0))) (.seq (.block 1 (.seq (.region [⟨some 10,.mv (.t 0),none⟩,⟨some 11,.mv (.t 3),none⟩,⟨some 12,.iaddr 2 (.t 10) (.t 11),none⟩,⟨some 13,.load (some 2) (.t 12),none⟩,⟨some 14,.call (.c (.fn 105 [])) [(.t 13)],none⟩,⟨some 15,.not (.t 14),none⟩]) (.cond (.t 15) (.seq (.region [⟨some 2,.mv (.c (.v (.bool false))),none⟩]) .ret) .skip))) (.region [⟨some 8,.mv (.t 3),none⟩,⟨some 9,.bin .add (.t 8) (.c (.v (.int .i64 1))),none⟩,⟨some 3,.mv (.t 9),none⟩])))))) (.seq (.region [⟨some 2,.mv (.c (.v (.bool true))),none⟩]) .ret)))⟩
theorem a_rfates_ok : cFunc Try.prog 42 = some a_rfates := by kernel_rfl
def r_rfates0 : List (Nat × Nat) := [(2, 15)]
def a_rnValid : AFunc := ⟨1,65,[.tmp 2],(.seq (.region [⟨some 1,.box (.t 0),none⟩,⟨some 2,.mv (.c (.v (.bool false))),none⟩]) (.seq (.seq (.region [⟨some 5,.faddr 0 (.t 1),none⟩,⟨some 6,.load none (.t 5),none⟩,⟨some 7,.call (.c (.fn 98 [])) [(.t 6),(.c (.v (.int .i64 0))),(.c (.v (.int .i64 1099511627776)))],none⟩,⟨some 8,.not (.t 7),none⟩,⟨some 9,.mv (.t 8),none⟩,⟨some 10,.faddr 2 (.t 1),some (9,false)⟩,⟨some 11,.load none (.t 10),some (9,false)⟩,⟨some 12,.len (.t 11),some (9,false)⟩,⟨some 13,.faddr 3 (.t 1),some (9,false)⟩,⟨some 14,.load none (.t 13),some (9,false)⟩,⟨some 15,.len (.t 14),some (9,false)⟩,⟨some 16,.bin .neq (.t 12) (.t 15),some (9,false)⟩,⟨some 17,.pick (.t 9) (.c (.v (.bool true))) (.t 16),none⟩,⟨some 18,.mv (.t 17),none⟩,⟨some 19,.faddr 2 (.t 1),some (18,false)⟩,⟨some 20,.load none (.t 19),some (18,false)⟩,⟨some 21,.len (.t 20),some (18,false)⟩,⟨some 22,.bin .gtr (.t 21) (.c (.v (.int .i64 1000))),some (18,false)⟩,⟨some 23,.pick (.t 18) (.c (.v (.bool true))) (.t 22),none⟩,⟨some 24,.mv (.t 23),none⟩,⟨some 25,.faddr 4 (.t 1),some (24,false)⟩,⟨some 26,.load none (.t 25),some (24,false)⟩,⟨some 27,.len (.t 26),some (24,false)⟩,⟨some 28,.bin .gtr (.t 27) (.c (.v (.int .i64 1000))),some (24,false)⟩,⟨some 29,.pick (.t 24) (.c (.v (.bool true))) (.t 28),none⟩,⟨some 30,.mv (.t 29),none⟩,⟨some 31,.faddr 4 (.t 1),some (30,false)⟩,⟨some 32,.load none (.t 31),some (30,false)⟩,⟨some 33,.call (.c (.fn 42 [])) [(.t 32)],some (30,false)⟩,⟨some 34,.not (.t 33),some (30,false)⟩,⟨some 35,.pick (.t 30) (.c (.v (.bool true))) (.t 34),none⟩]) (.cond (.t 35) (.seq (.region [⟨some 2,.mv (.c (.v (.bool false))),none⟩]) .ret) .skip)) (.seq (.region [⟨some 3,.mv (.c (.v (.int .i64 0))),none⟩]) (.seq (.seq (.region [⟨some 4,.mv (.c (.v (.int .i64 0))),none⟩]) (.block 0 (.loop (.seq (.seq (.region [⟨some 36,.mv (.t 4),none⟩,⟨some 37,.faddr 2 (.t 1),none⟩,⟨some 38,.load none (.t 37),none⟩,⟨some 39,.len (.t 38),none⟩,⟨some 40,.bin .lss (.t 36) (.t 39),none⟩]) (.cond (.t 40) .skip (.exit 0))) (.seq (.block 1 (.seq (.seq (.region [⟨some 43,.faddr 2 (.t 1),none⟩,⟨some 44,.load none (.t 43),none⟩,⟨some 45,.mv (.t 4),none⟩,⟨some 46,.iaddr 4 (.t 44) (.t 45),none⟩,⟨some 47,.load (some 4) (.t 46),none⟩,⟨some 48,.call (.c (.fn 31 [])) [(.t 47)],none⟩,⟨some 49,.not (.t 48),none⟩,⟨some 50,.mv (.t 49),none⟩,⟨some 51,.faddr 3 (.t 1),some (50,false)⟩,⟨some 52,.load none (.t 51),some (50,false)⟩,⟨some 53,.mv (.t 4),some (50,false)⟩,⟨some 54,.iaddr 1 (.t 52) (.t 53),some (50,false)⟩,⟨some 55,.load none (.t 54),some (50,false)⟩,⟨some 56,.mv (.t 3),some (50,false)⟩,⟨some 57,.call (.c (.fn 98 [])) [(.t 55),(.t 56),(.c (.v (.int .i64 1099512627776)))],some (50,false)⟩,⟨some 58,.not (.t 57),some (50,false)⟩,⟨some 59,.pick (.t 50) (.c (.v (.bool true))) (.t 58),none⟩]) (.cond (.t 59) (.seq (.region [⟨some 2,.mv (.c (.v (.bool false))),none⟩]) .ret) .skip)) (.region [⟨some 60,.faddr 3 (.t 1),none⟩,⟨some 61,.load none (.t 60),none⟩,⟨some 62,.mv (.t 4),none⟩,⟨some 63,.iaddr 1 (.t 61) (.t 62),none⟩,⟨some 64,.load none (.t 63),none⟩,⟨some 3,.mv (.t 64),none⟩]))) (.region [⟨some 41,.mv (.t 4),none⟩,⟨some 42,.bin .add (.t 41) (.c (.v (.int .i64 1))),none⟩,⟨some 4,.mv (.t 42),none⟩])))))) (.seq (.region [⟨some 2,.mv (.c (.v (.bool true))),none⟩]) .ret)))))⟩
theorem a_rnValid_ok : cFunc Try.prog 30 = some a_rnValid := by kernel_rfl
def r_rnValid0 : List (Nat × Nat) := [(2, 4), (36, 64)]

def inZ (x lo hi : Int) : Bool := decide (lo ≤ x ∧ x ≤ hi)
theorem rinZ_spec (x lo hi : Int) (b l : List Row) : ACalls Try.prog 98 [.v (.int .i64 x), .v (.int .i64 lo), .v (.int .i64 hi)] b l (fun r b' l' => r = .v (.bool (inZ x lo hi)) ∧ b' = b ∧ l' = l) := by
 refine calls_kept a_rin_ok rfl (by decide) ?_
 intro B g hB hR hE hA
 simp only [KArgs] at hA
 by_cases h1 : lo ≤ x
 ·have d1 := decide_eq_true h1
  by_cases h2 : x ≤ hi
  ·have d2 := decide_eq_true h2
   simp (disch := (first | decide | omega)) only [a_rin, hA, d1, d2, go_sem]
   exact leave_pure (xs := [.v (.bool true)]) (.inr rfl) (by simp (disch := (first | decide | omega)) only [resVs, resV, go_sem, hA]) kO hR hB ⟨by unfold inZ; rw [decide_eq_true (show lo ≤ x ∧ x ≤ hi from ⟨h1, h2⟩)]; rfl, rfl, rfl⟩
  ·have d2 := decide_eq_false h2
   simp (disch := (first | decide | omega)) only [a_rin, hA, d1, d2, go_sem]
   exact leave_pure (xs := [.v (.bool false)]) (.inr rfl) (by simp (disch := (first | decide | omega)) only [resVs, resV, go_sem, hA]) kO hR hB ⟨by unfold inZ; rw [decide_eq_false (show ¬ (lo ≤ x ∧ x ≤ hi) from fun h => h2 h.2)]; rfl, rfl, rfl⟩
 ·have d1 := decide_eq_false h1
  simp (disch := (first | decide | omega)) only [a_rin, hA, d1, go_sem]
  exact leave_pure (xs := [.v (.bool false)]) (.inr rfl) (by simp (disch := (first | decide | omega)) only [resVs, resV, go_sem, hA]) kO hR hB ⟨by unfold inZ; rw [decide_eq_false (show ¬ (lo ≤ x ∧ x ≤ hi) from fun h => h1 h.1)]; rfl, rfl, rfl⟩
theorem rin_spec (x lo hi : Int) (b l : List Row) : ACalls Try.prog 98 [.v (.int .i64 x), .v (.int .i64 lo), .v (.int .i64 hi)] b l (fun r b' l' => r = .v (.bool (decide (lo ≤ x ∧ x ≤ hi))) ∧ b' = b ∧ l' = l) := rinZ_spec x lo hi b l
theorem rparty_spec (p : Int) (b l : List Row) : ACalls Try.prog 39 [.v (.int .i64 p)] b l (fun r b' l' => r = .v (.bool (ptB p)) ∧ b' = b ∧ l' = l) := by
 refine calls_kept a_rparty_ok rfl (by decide) ?_
 intro B g hB hR hE hA
 simp only [KArgs] at hA
 simp (disch := (first | decide | omega)) only [a_rparty, hA, go_sem]
 refine ACalls.nxt (rin_spec p 0 7 _ _) ?_
 simp (disch := (first | decide | omega)) only [hA, go_sem]
 exact leave_pure (xs := [.v (.bool (decide (0 ≤ p ∧ p ≤ 7)))]) (.inr rfl) (by simp (disch := (first | decide | omega)) only [resVs, resV, go_sem, hA]) kO hR hB ⟨rfl, rfl, rfl⟩
set_option maxRecDepth 20000 in
set_option maxHeartbeats 1000000 in
theorem rmsg_spec (m : Ms) (b l : List Row) : ACalls Try.prog 31 [.agg [.v (.int .i64 m.fr), .v (.int .i64 m.to), .v (.int .i64 m.nu), .v (.isl 1 (m.body.map eI))]] b l (fun r b' l' => r = .v (.bool (msB m)) ∧ b' = b ∧ l' = l) := by
 refine calls_kept a_rmsg_ok rfl (by decide) ?_
 intro B g hB hR hE hA
 simp only [KArgs] at hA
 simp (disch := (first | decide | omega)) only [a_rmsg, hA, go_sem]
 refine ACalls.nxt (rparty_spec m.fr _ _) ?_
 cases h1 : ptB m.fr
 ·simp (disch := (first | decide | omega)) only [hA, go_sem]
  exact leave_pure (xs := [.v (.bool false)]) (.inr rfl) (by simp (disch := (first | decide | omega)) only [resVs, resV, go_sem, hA]) kO hR hB ⟨by unfold msB; rw [h1]; rfl, rfl, rfl⟩
 simp (disch := (first | decide | omega)) only [hA, go_sem]
 refine ACalls.nxt (rparty_spec m.to _ _) ?_
 cases h2 : ptB m.to
 ·simp (disch := (first | decide | omega)) only [hA, go_sem]
  exact leave_pure (xs := [.v (.bool false)]) (.inr rfl) (by simp (disch := (first | decide | omega)) only [resVs, resV, go_sem, hA]) kO hR hB ⟨by unfold msB; rw [h1, h2]; rfl, rfl, rfl⟩
 by_cases h3 : m.fr = m.to
 ·have d3 : (m.fr == m.to) = true := by rw [h3]; simp
  simp (disch := (first | decide | omega)) only [hA, d3, go_sem]
  exact leave_pure (xs := [.v (.bool false)]) (.inr rfl) (by simp (disch := (first | decide | omega)) only [resVs, resV, go_sem, hA]) kO hR hB ⟨by unfold msB; rw [h1, h2, decide_eq_false oM]; rfl, rfl, rfl⟩
 have d3 : (m.fr == m.to) = false := beq_eq_false_iff_ne.2 h3
 simp (disch := (first | decide | omega)) only [hA, d3, go_sem]
 refine ACalls.nxt (rin_spec m.nu 0 199 _ _) ?_
 by_cases h4 : 0 ≤ m.nu ∧ m.nu ≤ 199
 case neg =>
  rw [decide_eq_false h4]
  simp (disch := (first | decide | omega)) only [hA, go_sem]
  exact leave_pure (xs := [.v (.bool false)]) (.inr rfl) (by simp (disch := (first | decide | omega)) only [resVs, resV, go_sem, hA]) kO hR hB ⟨by unfold msB; rw [h1, h2, decide_eq_true h3, decide_eq_false h4]; rfl, rfl, rfl⟩
 rw [decide_eq_true h4]
 by_cases h6 : 20 < m.body.length
 ·have d6 : decide ((20 : Int) < (m.body.length : Int)) = true := decide_eq_true oM
  simp (disch := (first | decide | omega)) only [hA, d6, List.length_map, go_sem]
  exact leave_pure (xs := [.v (.bool false)]) (.inr rfl) (by simp (disch := (first | decide | omega)) only [resVs, resV, go_sem, hA]) kO hR hB ⟨by unfold msB; rw [h1, h2, decide_eq_true h3, decide_eq_true h4, decide_eq_false (show ¬ m.body.length ≤ 20 by omega)]; rfl, rfl, rfl⟩
 have d6 : decide ((20 : Int) < (m.body.length : Int)) = false := decide_eq_false oM
 have hms : msB m = m.body.all vlB := by unfold msB; rw [h1, h2, decide_eq_true h3, decide_eq_true h4, decide_eq_true (show m.body.length ≤ 20 by omega)]; rfl
 simp (disch := (first | decide | omega)) only [hA, d6, List.length_map, go_sem]
 refine loop_kept (ι := Nat) r_rmsg0 (fun i => [(3, .v (.int .i64 i))]) 1 (fun _ => [.live 0 4 [[.v (.int .i64 m.fr), .v (.int .i64 m.to), .v (.int .i64 m.nu), .v (.isl 1 (m.body.map eI))]]])
  (fun i => i ≤ m.body.length ∧ ∀ j (h : j < m.body.length), j < i → vlB m.body[j] = true) (fun i => m.body.length - i) 0 ⟨Nat.zero_le _, fun j _ hj => by omega⟩ (by (repeat (first | exact hE.mono oM | refine KLt.up ?_ kL))) (by ((try simp (disch := decide) only [hA, go_sem]) <;> exact kH)) (fun e => Weak.refl _ _ _) ?_
 rintro g1 hE1 hEE1 hg1 i ⟨hi, h0⟩
 by_cases hlt : i < m.body.length
 ·have hg := eI_get hlt
  rw [getD_at hlt] at hg
  simp (disch := (first | decide | omega)) only [hA, hg1, hg, List.length_map, go_sem]
  refine ACalls.nxt (rin_spec m.body[i] (-1073741824) 1073741824 _ _) ?_
  cases q : decide (-1073741824 ≤ m.body[i] ∧ m.body[i] ≤ 1073741824)
  ·simp (disch := (first | decide | omega)) only [hA, hg1, go_sem]
   exact leave_pure (xs := [.v (.bool false)]) (.inr rfl) (by simp (disch := (first | decide | omega)) only [resVs, resV, go_sem, hA, hg1]) kO hR hB ⟨by rw [hms, List.all_eq_false.2 ⟨m.body[i], List.getElem_mem hlt, by unfold vlB; rw [q]; simp⟩]; rfl, rfl, rfl⟩
  ·simp (disch := (first | decide | omega)) only [hA, hg1, go_sem]
   refine ⟨i + 1, ⟨hlt, fun j hj hji => ?_⟩, by simp only; omega, ?_⟩
   ·rcases Nat.lt_or_ge j i with h | h
    ·exact h0 j hj h
    ·obtain rfl : j = i := by omega
     exact q
   ·exact Weak.kround (p := r_rmsg0) (k := 1) (by ((repeat refine (kAny_up rfl).trans ?_); exact hEE1)) (by ((try simp (disch := decide) only [hA, go_sem]) <;> exact kH)) rfl hE1 (by simp) kV hR kL
 ·obtain rfl : i = m.body.length := by omega
  simp (disch := (first | decide | omega)) only [hA, hg1, List.length_map, go_sem]
  exact leave_pure (xs := [.v (.bool true)]) (.inr rfl) (by simp (disch := (first | decide | omega)) only [resVs, resV, go_sem, hA, hg1]) kO hR hB ⟨by rw [hms, List.all_eq_true.2 (fun x hx => by obtain ⟨j, hj, rfl⟩ := List.getElem_of_mem hx; exact h0 j hj hj)]; rfl, rfl, rfl⟩
theorem rfate_spec (f : Int × Int) (b l : List Row) : ACalls Try.prog 105 [.agg [.v (.int .i64 f.1), .v (.int .i64 f.2)]] b l (fun r b' l' => r = .v (.bool (ftB f)) ∧ b' = b ∧ l' = l) := by
 refine calls_kept a_rfate_ok rfl (by decide) ?_
 intro B g hB hR hE hA
 simp only [KArgs] at hA
 simp (disch := (first | decide | omega)) only [a_rfate, hA, go_sem]
 refine ACalls.nxt (rin_spec f.1 0 3 _ _) ?_
 cases q : decide (0 ≤ f.1 ∧ f.1 ≤ 3)
 ·simp (disch := (first | decide | omega)) only [hA, go_sem]
  exact leave_pure (xs := [.v (.bool false)]) (.inr rfl) (by simp (disch := (first | decide | omega)) only [resVs, resV, go_sem, hA]) kO hR hB ⟨by unfold ftB; rw [decide_eq_false (fun h => by rw [decide_eq_false_iff_not] at q; exact q h.1)]; rfl, rfl, rfl⟩
 ·simp (disch := (first | decide | omega)) only [hA, go_sem]
  refine ACalls.nxt (rin_spec f.2 0 1000000 _ _) ?_
  simp (disch := (first | decide | omega)) only [hA, go_sem]
  exact leave_pure (xs := [.v (.bool (decide (0 ≤ f.2 ∧ f.2 ≤ 1000000)))]) (.inr rfl) (by simp (disch := (first | decide | omega)) only [resVs, resV, go_sem, hA]) kO hR hB ⟨by unfold ftB; rw [decide_eq_true_iff] at q; simp only [q, true_and, one], rfl, rfl⟩
theorem rfates_spec (v : List (Int × Int)) (hn : v.length ≤ 1000000) (b l : List Row) : ACalls Try.prog 42 [.v (.isl 2 (v.map eFt))] b l (fun r b' l' => r = .v (.bool (ftsB v)) ∧ b' = b ∧ l' = l) := by
 refine calls_kept a_rfates_ok rfl (by decide) ?_
 intro B g hB hR hE hA
 simp only [KArgs] at hA
 simp (disch := (first | decide | omega)) only [a_rfates, hA, go_sem]
 refine loop_kept (ι := Nat) r_rfates0 (fun i => [(3, .v (.int .i64 i))]) 0 (fun _ => [])
  (fun i => i ≤ v.length ∧ ∀ j (h : j < v.length), j < i → ftB v[j] = true) (fun i => v.length - i) 0 ⟨Nat.zero_le _, fun j _ hj => by omega⟩ (by (repeat (first | exact hE.mono oM | refine KLt.up ?_ kL))) (by ((try simp (disch := decide) only [hA, go_sem]) <;> exact kH)) (fun e => Weak.refl _ _ _) ?_
 rintro g1 hE1 hEE1 hg1 i ⟨hi, h0⟩
 by_cases hlt : i < v.length
 ·have hg : (v.map eFt)[i]? = some [.int .i64 v[i].1, .int .i64 v[i].2] := by rw [List.getElem?_map, List.getElem?_eq_getElem hlt]; rfl
  simp (disch := (first | decide | omega)) only [hA, hg1, hg, List.length_map, go_sem]
  refine ACalls.nxt (rfate_spec v[i] _ _) ?_
  cases q : ftB v[i]
  ·simp (disch := (first | decide | omega)) only [hA, hg1, go_sem]
   exact leave_pure (xs := [.v (.bool false)]) (.inr rfl) (by simp (disch := (first | decide | omega)) only [resVs, resV, go_sem, hA, hg1]) kO hR hB ⟨by unfold ftsB; rw [List.all_eq_false.2 ⟨v[i], List.getElem_mem hlt, by rw [q]; simp⟩]; rfl, rfl, rfl⟩
  ·simp (disch := (first | decide | omega)) only [hA, hg1, go_sem]
   refine ⟨i + 1, ⟨hlt, fun j hj hji => ?_⟩, by simp only; omega, ?_⟩
   ·rcases Nat.lt_or_ge j i with h | h
    ·exact h0 j hj h
    ·obtain rfl : j = i := by omega
     exact q
   ·exact Weak.kround (p := r_rfates0) (k := 0) (by ((repeat refine (kAny_up rfl).trans ?_); exact hEE1)) (by ((try simp (disch := decide) only [hA, go_sem]) <;> exact kH)) rfl hE1 (by simp) kV hR kL
 ·obtain rfl : i = v.length := by omega
  simp (disch := (first | decide | omega)) only [hA, hg1, List.length_map, go_sem]
  exact leave_pure (xs := [.v (.bool true)]) (.inr rfl) (by simp (disch := (first | decide | omega)) only [resVs, resV, go_sem, hA, hg1]) kO hR hB ⟨by unfold ftsB; rw [List.all_eq_true.2 (fun x hx => by obtain ⟨j, hj, rfl⟩ := List.getElem_of_mem hx; exact h0 j hj hj)]; rfl, rfl, rfl⟩
def lastN (n : Nw) (i : Nat) : Int := if i = 0 then 0 else n.tm.getD (i - 1) 0
theorem mtB_in {n : Nw} {i : Nat} (hp : ∀ j, j < i → mtB n j = true) : mtB n i = (msB (n.l.getD i dfMs) && decide (lastN n i ≤ n.tm.getD i 0 ∧ n.tm.getD i 0 ≤ 1099512627776)) := by
 unfold mtB lastN
 congr 1
 by_cases h : i = 0
 ·subst h
  rw [if_pos rfl]
  rw [decide_eq_decide]
  omega
 ·rw [if_neg h]
  have h1 := hp (i - 1) oM
  unfold mtB at h1
  simp only [Bool.and_eq_true, decide_eq_true_eq] at h1
  rw [decide_eq_decide]
  have := h1.2.1
  constructor
  ·rintro ⟨a1, a2, a3⟩; exact ⟨a3 oM, a2⟩
  ·rintro ⟨a1, a2⟩; exact ⟨by omega, a2, fun _ => a1⟩
set_option maxRecDepth 20000 in
set_option maxHeartbeats 4000000 in
theorem rnValid_spec (n : Nw) (b l : List Row) : ACalls Try.prog 30 [.agg ((eNw n).map .v)] b l (fun r b' l' => r = .v (.bool (nwB n)) ∧ b' = b ∧ l' = l) := by
 refine calls_kept a_rnValid_ok rfl (by decide) ?_
 intro B g hB hR hE hA
 simp only [KArgs] at hA
 have F : ∀ {p : Prop} [Decidable p], ¬ p → decide p = false := fun h => decide_eq_false h
 simp (disch := (first | decide | omega)) only [a_rnValid, hA, eNw, go_sem]
 refine ACalls.nxt (rin_spec n.now 0 1099511627776 _ _) ?_
 cases e1 : decide (0 ≤ n.now ∧ n.now ≤ 1099511627776)
 ·simp (disch := (first | decide | omega)) only [hA, go_sem]
  exact leave_pure (xs := [.v (.bool false)]) (.inr rfl) (by simp (disch := (first | decide | omega)) only [resVs, resV, go_sem, hA]) kO hR hB ⟨by unfold nwB; rw [e1]; rfl, rfl, rfl⟩
 by_cases h3 : n.l.length = n.tm.length
 case neg =>
  have d3 : ((n.l.length : Int) != (n.tm.length : Int)) = true := by simp; omega
  simp (disch := (first | decide | omega)) only [hA, d3, List.length_map, go_sem]
  exact leave_pure (xs := [.v (.bool false)]) (.inr rfl) (by simp (disch := (first | decide | omega)) only [resVs, resV, go_sem, hA]) kO hR hB ⟨by unfold nwB; rw [e1, F h3]; rfl, rfl, rfl⟩
 have d3 : ((n.l.length : Int) != (n.tm.length : Int)) = false := by simp; omega
 have e3 : decide (n.l.length = n.tm.length) = true := decide_eq_true h3
 by_cases h4 : 1000 < n.l.length
 ·have d4 : decide ((1000 : Int) < (n.l.length : Int)) = true := decide_eq_true oM
  simp (disch := (first | decide | omega)) only [hA, d3, d4, List.length_map, go_sem]
  exact leave_pure (xs := [.v (.bool false)]) (.inr rfl) (by simp (disch := (first | decide | omega)) only [resVs, resV, go_sem, hA]) kO hR hB ⟨by unfold nwB; rw [e1, e3, F (show ¬ n.l.length ≤ 1000 by omega)]; rfl, rfl, rfl⟩
 have d4 : decide ((1000 : Int) < (n.l.length : Int)) = false := decide_eq_false oM
 have e4 : decide (n.l.length ≤ 1000) = true := decide_eq_true oM
 by_cases h5 : 1000 < n.fates.length
 ·have d5 : decide ((1000 : Int) < (n.fates.length : Int)) = true := decide_eq_true oM
  simp (disch := (first | decide | omega)) only [hA, d3, d4, d5, List.length_map, go_sem]
  exact leave_pure (xs := [.v (.bool false)]) (.inr rfl) (by simp (disch := (first | decide | omega)) only [resVs, resV, go_sem, hA]) kO hR hB ⟨by unfold nwB; rw [e1, e3, e4, F (show ¬ n.fates.length ≤ 1000 by omega)]; rfl, rfl, rfl⟩
 have d5 : decide ((1000 : Int) < (n.fates.length : Int)) = false := decide_eq_false oM
 have e5 : decide (n.fates.length ≤ 1000) = true := decide_eq_true oM
 simp (disch := (first | decide | omega)) only [hA, d3, d4, d5, List.length_map, go_sem]
 refine ACalls.nxt (rfates_spec n.fates oM _ _) ?_
 cases h6 : ftsB n.fates
 ·simp (disch := (first | decide | omega)) only [hA, go_sem]
  exact leave_pure (xs := [.v (.bool false)]) (.inr rfl) (by simp (disch := (first | decide | omega)) only [resVs, resV, go_sem, hA]) kO hR hB ⟨by unfold nwB; rw [e1, e3, e4, e5, h6]; rfl, rfl, rfl⟩
 have hall := nwB_mt (n := n) (by rw [e1, e3, e4, e5, h6]; rfl)
 have l0 : lastN n 0 = 0 := rfl
 simp (disch := (first | decide | omega)) only [hA, List.length_map, go_sem]
 refine loop_kept (ι := Nat) r_rnValid0 (fun i => [(3, .v (.int .i64 (lastN n i))), (4, .v (.int .i64 i))]) 1 (fun _ => [.live 0 5 [[.v (.int .i64 n.now), .v (.bool n.fifo), .v (.isl 4 (n.l.map eMs)), .v (.isl 1 (n.tm.map eI)), .v (.isl 2 (n.fates.map eFt))]]])
  (fun i => i ≤ n.l.length ∧ ∀ j, j < i → mtB n j = true) (fun i => n.l.length - i) 0 ⟨Nat.zero_le _, fun j hj => by omega⟩ (by (repeat (first | exact hE.mono oM | refine KLt.up ?_ kL))) (by ((try simp (disch := decide) only [hA, l0, go_sem]) <;> exact kH)) (fun e => Weak.refl _ _ _) ?_
 rintro g1 hE1 hEE1 hg1 i ⟨hi, h0⟩
 by_cases hlt : i < n.l.length
 ·have hm := eMs_get hlt
  have ht := eI_get (show i < n.tm.length by omega)
  have hmt := mtB_in h0
  rw [getD_at hlt] at hmt
  have hbad : mtB n i = false → nwB n = false := fun h => by
   rw [hall, List.all_eq_false]
   exact ⟨i, List.mem_range.2 hlt, by rw [h]; simp⟩
  simp (disch := (first | decide | omega)) only [hA, hg1, hm, List.length_map, go_sem]
  refine ACalls.nxt (rmsg_spec n.l[i] _ _) ?_
  cases q1 : msB n.l[i]
  ·simp (disch := (first | decide | omega)) only [hA, hg1, go_sem]
   exact leave_pure (xs := [.v (.bool false)]) (.inr rfl) (by simp (disch := (first | decide | omega)) only [resVs, resV, go_sem, hA, hg1]) kO hR hB ⟨by rw [hbad (by rw [hmt, q1]; rfl)]; rfl, rfl, rfl⟩
  simp (disch := (first | decide | omega)) only [hA, hg1, ht, go_sem]
  refine ACalls.nxt (rin_spec (n.tm.getD i 0) (lastN n i) 1099512627776 _ _) ?_
  cases q2 : decide (lastN n i ≤ n.tm.getD i 0 ∧ n.tm.getD i 0 ≤ 1099512627776)
  ·simp (disch := (first | decide | omega)) only [hA, hg1, go_sem]
   exact leave_pure (xs := [.v (.bool false)]) (.inr rfl) (by simp (disch := (first | decide | omega)) only [resVs, resV, go_sem, hA, hg1]) kO hR hB ⟨by rw [hbad (by rw [hmt, q1, q2]; rfl)]; rfl, rfl, rfl⟩
  have hla : lastN n (i + 1) = n.tm.getD i 0 := rfl
  simp (disch := (first | decide | omega)) only [hA, hg1, ht, go_sem]
  refine ⟨i + 1, ⟨hlt, fun j hj => ?_⟩, by simp only; omega, ?_⟩
  ·rcases Nat.lt_or_ge j i with hji | hji
   ·exact h0 j hji
   ·obtain rfl : j = i := by omega
    rw [hmt, q1, q2]; rfl
  ·exact Weak.kround (p := r_rnValid0) (k := 1) (by ((repeat refine (kAny_up rfl).trans ?_); exact hEE1)) (by ((try simp (disch := decide) only [hA, hla, go_sem]) <;> exact kH)) rfl hE1 (by simp) kV hR kL
 ·obtain rfl : i = n.l.length := by omega
  simp (disch := (first | decide | omega)) only [hA, hg1, List.length_map, go_sem]
  exact leave_pure (xs := [.v (.bool true)]) (.inr rfl) (by simp (disch := (first | decide | omega)) only [resVs, resV, go_sem, hA, hg1]) kO hR hB ⟨by rw [hall, List.all_eq_true.2 (fun j hj => h0 j (List.mem_range.1 hj))]; rfl, rfl, rfl⟩
end Go.Proofs.Ytilcmenglgdljaa
