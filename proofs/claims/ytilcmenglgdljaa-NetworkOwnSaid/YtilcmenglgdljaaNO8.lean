/- Texts of one proof, laid together: NI, NJ, NL, NS, NT. No condition. -/
import Derived.Test.YtilcmenglgdljaaNO7
import Derived.Test.YtilcmenglgdljaaNO3
import Derived.Test.YtilcmenglgdljaaNO5
import Derived.Test.YtilcmenglgdljaaProg
import Derived.KernelRfl
namespace Go.Proofs.Ytilcmenglgdljaa
set_option linter.unusedVariables false
set_option linter.unusedSimpArgs false
attribute [local go_sem ↓] run_skip run_region run_draw run_seq run_block run_exit run_ret run_cond atN_app seqC_normal seqC_exit seqC_ret seqQ_normal seqQ_exit seqQ_ret blkQ_normal blkQ_exit blkQ_ret runOps_nil runOps_cons runD_nil runD_cons grdO_true grdO_false grdD_true grdD_false ifC_true ifC_false opS_val opS_call opS_two opK_app dS_val dS_call dS_two dK_app kUp_same kUp_ne
attribute [local go_sem] rechks_nil rechks_cons rechk gcase_true gcase_false ex_val ex_val0 gd_none gd_some ev_t ev_c evs_nil evs_cons evo_some evo_none hget_at hget_first hsetB_at hsetB_first hsetL_at hsetL_first ofOpt_some aop aload astore aslice aappend aiaddr aiaddrA afaddr alen alenS acopy amm acall alookup amupdate alenM comma keyEq apick binV binVB binVS isSh intOp strOp boolOp shOp eqC eqF and2 cellsOf setFrom fillA fillS rd rdI elems mk bounds AV.cell List.all_cons List.all_nil Bool.and_true Bool.true_and Bool.and_self List.length_cons List.length_nil List.length_append Nat.reduceAdd Nat.reduceSub Nat.reduceMul Nat.zero_add Nat.add_zero List.cons_append List.nil_append List.append_assoc List.append_nil List.getElem?_cons_zero List.getElem?_cons_succ List.getElem?_nil List.set_cons_zero List.set_cons_succ List.drop_zero List.drop_succ_cons List.take_zero List.take_succ_cons List.take_nil List.drop_nil List.map_cons List.map_nil Option.map_some if_true if_false Bool.false_eq_true and_self true_and and_true Nat.reduceLeDiff Nat.reduceLT Nat.le_refl Nat.reduceEqDiff ite_true ite_false beq_self_eq_true beq_true beq_false Bool.not_true Bool.not_false Bool.true_beq Bool.false_beq map_vs vs_len vs_get vs_take vs_drop vs_snoc1 vs_snoc2 vs_snoc3 vs_snoc5 vs_set1 vs_set2 vs_rep wrap_id le_T lt_T le_F lt_F leI_T ltI_T leI_F ltI_F geI gtI get_T decide_true decide_false room List.getElem?_map List.length_map List.length_take Int.toNat_natCast Nat.min_def Nat.min_self nth_kOf put_kOf put_kNo kOv_cons kOv_nil KHas KArgs List.getElem_cons_zero List.getElem_cons_succ
def a_sameM : AFunc := ⟨2,52,[.tmp 4],(.seq (.region [⟨some 2,.box (.t 0),none⟩,⟨some 3,.box (.t 1),none⟩,⟨some 4,.mv (.c (.v (.bool false))),none⟩]) (.seq (.seq (.region [⟨some 6,.faddr 0 (.t 2),none⟩,⟨some 7,.load none (.t 6),none⟩,⟨some 8,.faddr 0 (.t 3),none⟩,⟨some 9,.load none (.t 8),none⟩,⟨some 10,.bin .neq (.t 7) (.t 9),none⟩,⟨some 11,.mv (.t 10),none⟩,⟨some 12,.faddr 1 (.t 2),some (11,false)⟩,⟨some 13,.load none (.t 12),some (11,false)⟩,⟨some 14,.faddr 1 (.t 3),some (11,false)⟩,⟨some 15,.load none (.t 14),some (11,false)⟩,⟨some 16,.bin .neq (.t 13) (.t 15),some (11,false)⟩,⟨some 17,.pick (.t 11) (.c (.v (.bool true))) (.t 16),none⟩,⟨some 18,.mv (.t 17),none⟩,⟨some 19,.faddr 2 (.t 2),some (18,false)⟩,⟨some 20,.load none (.t 19),some (18,false)⟩,⟨some 21,.faddr 2 (.t 3),some (18,false)⟩,⟨some 22,.load none (.t 21),some (18,false)⟩,⟨some 23,.bin .neq (.t 20) (.t 22),some (18,false)⟩,⟨some 24,.pick (.t 18) (.c (.v (.bool true))) (.t 23),none⟩,⟨some 25,.mv (.t 24),none⟩,⟨some 26,.faddr 3 (.t 2),some (25,false)⟩,⟨some 27,.load none (.t 26),some (25,false)⟩,⟨some 28,.len (.t 27),some (25,false)⟩,⟨some 29,.faddr 3 (.t 3),some (25,false)⟩,⟨some 30,.load none (.t 29),some (25,false)⟩,⟨some 31,.len (.t 30),some (25,false)⟩,⟨some 32,.bin .neq (.t 28) (.t 31),some (25,false)⟩,⟨some 33,.pick (.t 25) (.c (.v (.bool true))) (.t 32),none⟩]) (.cond (.t 33) (.seq (.region [⟨some 4,.mv (.c (.v (.bool false))),none⟩]) .ret) .skip)) (.seq (.seq (.region [⟨some 5,.mv (.c (.v (.int .i64 0))),none⟩]) (.block 0 (.loop (.seq (.seq (.region [⟨some 34,.mv (.t 5),none⟩,⟨some 35,.faddr 3 (.t 2),none⟩,⟨some 36,.load none (.t 35),none⟩,⟨some 37,.len (.t 36),none⟩,⟨some 38,.bin .lss (.t 34) (.t 37),none⟩]) (.cond (.t 38) .skip (.exit 0))) (.seq (.block 1 (.seq (.draw [⟨0,⟨some 41,.faddr 3 (.t 2),none⟩,[]⟩,⟨1,⟨some 42,.load none (.t 41),none⟩,[]⟩,⟨2,⟨some 43,.mv (.t 5),none⟩,[]⟩,⟨3,⟨some 44,.iaddr 1 (.t 42) (.t 43),none⟩,[]⟩,⟨4,⟨some 45,.load none (.t 44),none⟩,[]⟩,⟨5,⟨some 46,.faddr 3 (.t 3),none⟩,[]⟩,⟨6,⟨some 47,.load none (.t 46),none⟩,[]⟩,⟨7,⟨some 48,.mv (.t 5),none⟩,[]⟩,⟨8,⟨some 49,.iaddr 1 (.t 47) (.t 48),none⟩,[]⟩,⟨9,⟨some 50,.load none (.t 49),none⟩,[]⟩,⟨10,⟨some 51,.bin .neq (.t 45) (.t 50),none⟩,[]⟩]) (.cond (.t 51) (.seq (.region [⟨some 4,.mv (.c (.v (.bool false))),none⟩]) .ret) .skip))) (.region [⟨some 39,.mv (.t 5),none⟩,⟨some 40,.bin .add (.t 39) (.c (.v (.int .i64 1))),none⟩,⟨some 5,.mv (.t 40),none⟩])))))) (.seq (.region [⟨some 4,.mv (.c (.v (.bool true))),none⟩]) .ret))))⟩
theorem a_sameM_ok : cFunc Try.prog 37 = some a_sameM := by kernel_rfl
def r_sameM0 : List (Nat × Nat) := [(4, 5), (34, 51)]
def a_sameN : AFunc := ⟨2,102,[.tmp 4],(.seq (.region [⟨some 2,.box (.t 0),none⟩,⟨some 3,.box (.t 1),none⟩,⟨some 4,.mv (.c (.v (.bool false))),none⟩]) (.seq (.seq (.region [⟨some 8,.faddr 0 (.t 2),none⟩,⟨some 9,.load none (.t 8),none⟩,⟨some 10,.faddr 0 (.t 3),none⟩,⟨some 11,.load none (.t 10),none⟩,⟨some 12,.bin .neq (.t 9) (.t 11),none⟩,⟨some 13,.mv (.t 12),none⟩,⟨some 14,.faddr 1 (.t 2),some (13,false)⟩,⟨some 15,.load none (.t 14),some (13,false)⟩,⟨some 16,.faddr 1 (.t 3),some (13,false)⟩,⟨some 17,.load none (.t 16),some (13,false)⟩,⟨some 18,.binB .neq (.t 15) (.t 17),some (13,false)⟩,⟨some 19,.pick (.t 13) (.c (.v (.bool true))) (.t 18),none⟩,⟨some 20,.mv (.t 19),none⟩,⟨some 21,.faddr 2 (.t 2),some (20,false)⟩,⟨some 22,.load none (.t 21),some (20,false)⟩,⟨some 23,.len (.t 22),some (20,false)⟩,⟨some 24,.faddr 2 (.t 3),some (20,false)⟩,⟨some 25,.load none (.t 24),some (20,false)⟩,⟨some 26,.len (.t 25),some (20,false)⟩,⟨some 27,.bin .neq (.t 23) (.t 26),some (20,false)⟩,⟨some 28,.pick (.t 20) (.c (.v (.bool true))) (.t 27),none⟩,⟨some 29,.mv (.t 28),none⟩,⟨some 30,.faddr 3 (.t 2),some (29,false)⟩,⟨some 31,.load none (.t 30),some (29,false)⟩,⟨some 32,.len (.t 31),some (29,false)⟩,⟨some 33,.faddr 3 (.t 3),some (29,false)⟩,⟨some 34,.load none (.t 33),some (29,false)⟩,⟨some 35,.len (.t 34),some (29,false)⟩,⟨some 36,.bin .neq (.t 32) (.t 35),some (29,false)⟩,⟨some 37,.pick (.t 29) (.c (.v (.bool true))) (.t 36),none⟩,⟨some 38,.mv (.t 37),none⟩,⟨some 39,.faddr 4 (.t 2),some (38,false)⟩,⟨some 40,.load none (.t 39),some (38,false)⟩,⟨some 41,.len (.t 40),some (38,false)⟩,⟨some 42,.faddr 4 (.t 3),some (38,false)⟩,⟨some 43,.load none (.t 42),some (38,false)⟩,⟨some 44,.len (.t 43),some (38,false)⟩,⟨some 45,.bin .neq (.t 41) (.t 44),some (38,false)⟩,⟨some 46,.pick (.t 38) (.c (.v (.bool true))) (.t 45),none⟩]) (.cond (.t 46) (.seq (.region [⟨some 4,.mv (.c (.v (.bool false))),none⟩]) .ret) .skip)) (.seq (.seq (.region [⟨some 5,.mv (.c (.v (.int .i64 0))),none⟩]) (.block 0 (.loop (.seq (.seq (.region [⟨some 47,.mv (.t 5),none⟩,⟨some 48,.faddr 2 (.t 2),none⟩,⟨some 49,.load none (.t 48),none⟩,⟨some 50,.len (.t 49),none⟩,⟨some 51,.bin .lss (.t 47) (.t 50),none⟩]) (.cond (.t 51) .skip (.exit 0))) (.seq (.block 1 (.seq (.draw [⟨0,⟨some 54,.faddr 2 (.t 2),none⟩,[]⟩,⟨1,⟨some 55,.load none (.t 54),none⟩,[]⟩,⟨2,⟨some 56,.mv (.t 5),none⟩,[]⟩,⟨3,⟨some 57,.iaddr 4 (.t 55) (.t 56),none⟩,[]⟩,⟨4,⟨some 58,.load (some 4) (.t 57),none⟩,[]⟩,⟨5,⟨some 59,.faddr 2 (.t 3),none⟩,[]⟩,⟨6,⟨some 60,.load none (.t 59),none⟩,[]⟩,⟨7,⟨some 61,.mv (.t 5),none⟩,[]⟩,⟨8,⟨some 62,.iaddr 4 (.t 60) (.t 61),none⟩,[]⟩,⟨9,⟨some 63,.load (some 4) (.t 62),none⟩,[]⟩,⟨10,⟨some 64,.call (.c (.fn 37 [])) [(.t 58),(.t 63)],none⟩,[]⟩,⟨11,⟨some 65,.not (.t 64),none⟩,[]⟩]) (.cond (.t 65) (.seq (.region [⟨some 4,.mv (.c (.v (.bool false))),none⟩]) .ret) .skip))) (.region [⟨some 52,.mv (.t 5),none⟩,⟨some 53,.bin .add (.t 52) (.c (.v (.int .i64 1))),none⟩,⟨some 5,.mv (.t 53),none⟩])))))) (.seq (.seq (.region [⟨some 6,.mv (.c (.v (.int .i64 0))),none⟩]) (.block 2 (.loop (.seq (.seq (.region [⟨some 66,.mv (.t 6),none⟩,⟨some 67,.faddr 3 (.t 2),none⟩,⟨some 68,.load none (.t 67),none⟩,⟨some 69,.len (.t 68),none⟩,⟨some 70,.bin .lss (.t 66) (.t 69),none⟩]) (.cond (.t 70) .skip (.exit 2))) (.seq (.block 3 (.seq (.draw [⟨0,⟨some 73,.faddr 3 (.t 2),none⟩,[]⟩,⟨1,⟨some 74,.load none (.t 73),none⟩,[]⟩,⟨2,⟨some 75,.mv (.t 6),none⟩,[]⟩,⟨3,⟨some 76,.iaddr 1 (.t 74) (.t 75),none⟩,[]⟩,⟨4,⟨some 77,.load none (.t 76),none⟩,[]⟩,⟨5,⟨some 78,.faddr 3 (.t 3),none⟩,[]⟩,⟨6,⟨some 79,.load none (.t 78),none⟩,[]⟩,⟨7,⟨some 80,.mv (.t 6),none⟩,[]⟩,⟨8,⟨some 81,.iaddr 1 (.t 79) (.t 80),none⟩,[]⟩,⟨9,⟨some 82,.load none (.t 81),none⟩,[]⟩,⟨10,⟨some 83,.bin .neq (.t 77) (.t 82),none⟩,[]⟩]) (.cond (.t 83) (.seq (.region [⟨some 4,.mv (.c (.v (.bool false))),none⟩]) .ret) .skip))) (.region [⟨some 71,.mv (.t 6),none⟩,⟨some 72,.bin .add (.t 71) (.c (.v (.int .i64 1))),none⟩,⟨some 6,.mv (.t 72),none⟩])))))) (.seq (.seq (.region [⟨some 7,.mv (.c (.v (.int .i64 0))),none⟩]) (.block 4 (.loop (.seq (.seq (.region [⟨some 84,.mv (.t 7),none⟩,⟨some 85,.faddr 4 (.t 2),none⟩,⟨some 86,.load none (.t 85),none⟩,⟨some 87,.len (.t 86),none⟩,⟨some 88,.bin .lss (.t 84) (.t 87),none⟩]) (.cond (.t 88) .skip (.exit 4))) (.seq (.block 5 (.seq (.draw [⟨0,⟨some 91,.faddr 4 (.t 2),none⟩,[]⟩,⟨1,⟨some 92,.load none (.t 91),none⟩,[]⟩,⟨2,⟨some 93,.mv (.t 7),none⟩,[]⟩,⟨3,⟨some 94,.iaddr 2 (.t 92) (.t 93),none⟩,[]⟩,⟨4,⟨some 95,.load (some 2) (.t 94),none⟩,[]⟩,⟨5,⟨some 96,.faddr 4 (.t 3),none⟩,[]⟩,⟨6,⟨some 97,.load none (.t 96),none⟩,[]⟩,⟨7,⟨some 98,.mv (.t 7),none⟩,[]⟩,⟨8,⟨some 99,.iaddr 2 (.t 97) (.t 98),none⟩,[]⟩,⟨9,⟨some 100,.load (some 2) (.t 99),none⟩,[]⟩,⟨10,⟨some 101,.eqs true [.i,.i] (.t 95) (.t 100),none⟩,[]⟩]) (.cond (.t 101) (.seq (.region [⟨some 4,.mv (.c (.v (.bool false))),none⟩]) .ret) .skip))) (.region [⟨some 89,.mv (.t 7),none⟩,⟨some 90,.bin .add (.t 89) (.c (.v (.int .i64 1))),none⟩,⟨some 7,.mv (.t 90),none⟩])))))) (.seq (.region [⟨some 4,.mv (.c (.v (.bool true))),none⟩]) .ret))))))⟩
theorem a_sameN_ok : cFunc Try.prog 34 = some a_sameN := by kernel_rfl
def r_sameN0 : List (Nat × Nat) := [(4, 5), (47, 65)]
def r_sameN1 : List (Nat × Nat) := [(4, 4), (6, 6), (66, 83)]
def r_sameN2 : List (Nat × Nat) := [(4, 4), (7, 7), (84, 101)]
def a_great53 : AFunc := ⟨1,48,[.tmp 2],(.seq (.region [⟨some 1,.box (.t 0),none⟩,⟨some 2,.mv (.c (.v (.bool false))),none⟩]) (.seq (.region [⟨some 3,.faddr 2 (.t 1),none⟩,⟨some 4,.load none (.t 3),none⟩,⟨some 5,.len (.t 4),none⟩,⟨some 6,.bin .gtr (.t 5) (.c (.v (.int .i64 60))),none⟩,⟨some 7,.mv (.t 6),none⟩,⟨some 8,.faddr 2 (.t 1),some (7,true)⟩,⟨some 9,.load none (.t 8),some (7,true)⟩,⟨some 10,.len (.t 9),some (7,true)⟩,⟨some 11,.bin .lss (.t 10) (.c (.v (.int .i64 995))),some (7,true)⟩,⟨some 12,.pick (.t 7) (.t 11) (.c (.v (.bool false))),none⟩,⟨some 13,.mv (.t 12),none⟩,⟨some 14,.faddr 2 (.t 1),some (13,false)⟩,⟨some 15,.load none (.t 14),some (13,false)⟩,⟨some 16,.len (.t 15),some (13,false)⟩,⟨some 17,.bin .gtr (.t 16) (.c (.v (.int .i64 1100))),some (13,false)⟩,⟨some 18,.pick (.t 13) (.c (.v (.bool true))) (.t 17),none⟩,⟨some 19,.mv (.t 18),none⟩,⟨some 20,.faddr 3 (.t 1),some (19,false)⟩,⟨some 21,.load none (.t 20),some (19,false)⟩,⟨some 22,.len (.t 21),some (19,false)⟩,⟨some 23,.bin .gtr (.t 22) (.c (.v (.int .i64 1100))),some (19,false)⟩,⟨some 24,.pick (.t 19) (.c (.v (.bool true))) (.t 23),none⟩,⟨some 25,.mv (.t 24),none⟩,⟨some 26,.faddr 4 (.t 1),some (25,false)⟩,⟨some 27,.load none (.t 26),some (25,false)⟩,⟨some 28,.len (.t 27),some (25,false)⟩,⟨some 29,.bin .gtr (.t 28) (.c (.v (.int .i64 60))),some (25,false)⟩,⟨some 30,.mv (.t 29),some (25,false)⟩,⟨some 31,.faddr 4 (.t 1),some (30,true)⟩,⟨some 32,.load none (.t 31),some (30,true)⟩,⟨some 33,.len (.t 32),some (30,true)⟩,⟨some 34,.bin .leq (.t 33) (.c (.v (.int .i64 1000))),some (30,true)⟩,⟨some 35,.pick (.t 30) (.t 34) (.c (.v (.bool false))),some (25,false)⟩,⟨some 36,.pick (.t 25) (.c (.v (.bool true))) (.t 35),none⟩,⟨some 37,.mv (.t 36),none⟩,⟨some 38,.faddr 4 (.t 1),some (37,false)⟩,⟨some 39,.load none (.t 38),some (37,false)⟩,⟨some 40,.len (.t 39),some (37,false)⟩,⟨some 41,.bin .gtr (.t 40) (.c (.v (.int .i64 1100))),some (37,false)⟩,⟨some 42,.pick (.t 37) (.c (.v (.bool true))) (.t 41),none⟩,⟨some 43,.mv (.t 42),none⟩,⟨some 44,.faddr 2 (.t 1),some (43,false)⟩,⟨some 45,.load none (.t 44),some (43,false)⟩,⟨some 46,.call (.c (.fn 89 [])) [(.t 45),(.c (.fn 90 []))],some (43,false)⟩,⟨some 47,.pick (.t 43) (.c (.v (.bool true))) (.t 46),none⟩,⟨some 2,.mv (.t 47),none⟩]) .ret))⟩
theorem a_great53_ok : cFunc Try.prog 28 = some a_great53 := by kernel_rfl
def a_greatc53 : AFunc := ⟨1,7,[.tmp 2],(.seq (.region [⟨some 1,.box (.t 0),none⟩,⟨some 2,.mv (.c (.v (.bool false))),none⟩]) (.seq (.region [⟨some 3,.faddr 3 (.t 1),none⟩,⟨some 4,.load none (.t 3),none⟩,⟨some 5,.len (.t 4),none⟩,⟨some 6,.bin .gtr (.t 5) (.c (.v (.int .i64 40))),none⟩,⟨some 2,.mv (.t 6),none⟩]) .ret))⟩
theorem a_greatc53_ok : cFunc Try.prog 90 = some a_greatc53 := by kernel_rfl

noncomputable def eqB {α : Type} (a c : α) : Bool := @decide (a = c) (Classical.propDecidable _)
theorem eqB_T {α : Type} {a c : α} (h : a = c) : eqB a c = true := by unfold eqB; exact @decide_eq_true _ (Classical.propDecidable _) h
theorem eqB_F {α : Type} {a c : α} (h : a ≠ c) : eqB a c = false := by unfold eqB; exact @decide_eq_false _ (Classical.propDecidable _) h
theorem eqB_iff {α : Type} {a c : α} : eqB a c = true ↔ a = c := by unfold eqB; exact @decide_eq_true_iff _ (Classical.propDecidable _)
theorem ext_gD {α : Type} {d : α} {v w : List α} (hl : v.length = w.length) (h : ∀ i, i < v.length → v.getD i d = w.getD i d) : v = w := by
 refine List.ext_getElem hl (fun i h1 h2 => ?_)
 have := h i h1
 rwa [getD_at h1, getD_at h2] at this
set_option maxRecDepth 20000 in
set_option maxHeartbeats 2000000 in
theorem sameM_spec (a c : Ms) (hn : a.body.length ≤ 1000000) (b l : List Row) : ACalls Try.prog 37 [.agg [.v (.int .i64 a.fr), .v (.int .i64 a.to), .v (.int .i64 a.nu), .v (.isl 1 (a.body.map eI))], .agg [.v (.int .i64 c.fr), .v (.int .i64 c.to), .v (.int .i64 c.nu), .v (.isl 1 (c.body.map eI))]] b l (fun r b' l' => r = .v (.bool (eqB a c)) ∧ b' = b ∧ l' = l) := by
 refine calls_kept a_sameM_ok rfl (by decide) ?_
 intro B g hB hR hE hA
 simp only [KArgs] at hA
 by_cases h1 : a.fr = c.fr
 case neg =>
  have d1 : (a.fr != c.fr) = true := by simp [h1]
  simp (disch := (first | decide | omega)) only [a_sameM, hA, d1, go_sem]
  exact leave_pure (xs := [.v (.bool false)]) (.inr rfl) (by simp (disch := (first | decide | omega)) only [resVs, resV, go_sem, hA]) kO hR hB ⟨by rw [eqB_F (fun h => h1 (by rw [h]))]; rfl, rfl, rfl⟩
 have d1 : (a.fr != c.fr) = false := by simp [h1]
 by_cases h2 : a.to = c.to
 case neg =>
  have d2 : (a.to != c.to) = true := by simp [h2]
  simp (disch := (first | decide | omega)) only [a_sameM, hA, d1, d2, go_sem]
  exact leave_pure (xs := [.v (.bool false)]) (.inr rfl) (by simp (disch := (first | decide | omega)) only [resVs, resV, go_sem, hA]) kO hR hB ⟨by rw [eqB_F (fun h => h2 (by rw [h]))]; rfl, rfl, rfl⟩
 have d2 : (a.to != c.to) = false := by simp [h2]
 by_cases h3 : a.nu = c.nu
 case neg =>
  have d3 : (a.nu != c.nu) = true := by simp [h3]
  simp (disch := (first | decide | omega)) only [a_sameM, hA, d1, d2, d3, go_sem]
  exact leave_pure (xs := [.v (.bool false)]) (.inr rfl) (by simp (disch := (first | decide | omega)) only [resVs, resV, go_sem, hA]) kO hR hB ⟨by rw [eqB_F (fun h => h3 (by rw [h]))]; rfl, rfl, rfl⟩
 have d3 : (a.nu != c.nu) = false := by simp [h3]
 by_cases h4 : a.body.length = c.body.length
 case neg =>
  have d4 : ((a.body.length : Int) != (c.body.length : Int)) = true := by simp; omega
  simp (disch := (first | decide | omega)) only [a_sameM, hA, d1, d2, d3, d4, List.length_map, go_sem]
  exact leave_pure (xs := [.v (.bool false)]) (.inr rfl) (by simp (disch := (first | decide | omega)) only [resVs, resV, go_sem, hA]) kO hR hB ⟨by rw [eqB_F (fun h => h4 (by rw [h]))]; rfl, rfl, rfl⟩
 have d4 : ((a.body.length : Int) != (c.body.length : Int)) = false := by simp; omega
 simp (disch := (first | decide | omega)) only [a_sameM, hA, d1, d2, d3, d4, List.length_map, go_sem]
 refine loop_kept (ι := Nat) r_sameM0 (fun i => [(5, .v (.int .i64 i))]) 2 (fun _ => [.live 0 4 [[.v (.int .i64 a.fr), .v (.int .i64 a.to), .v (.int .i64 a.nu), .v (.isl 1 (a.body.map eI))]], .live 0 4 [[.v (.int .i64 c.fr), .v (.int .i64 c.to), .v (.int .i64 c.nu), .v (.isl 1 (c.body.map eI))]]])
  (fun i => i ≤ a.body.length ∧ ∀ j, j < i → a.body.getD j 0 = c.body.getD j 0) (fun i => a.body.length - i) 0 ⟨Nat.zero_le _, fun j hj => by omega⟩ (by (repeat (first | exact hE.mono oM | refine KLt.up ?_ kL))) (by ((try simp (disch := decide) only [hA, go_sem]) <;> exact kH)) (fun e => Weak.refl _ _ _) ?_
 rintro g1 hE1 hEE1 hg1 i ⟨hi, h0⟩
 by_cases hlt : i < a.body.length
 ·have ha := eI_get hlt
  have hc := eI_get (show i < c.body.length by omega)
  by_cases h5 : a.body.getD i 0 = c.body.getD i 0
  ·have d5 : (a.body.getD i 0 != c.body.getD i 0) = false := by rw [h5]; simp
   simp (disch := (first | decide | omega)) only [hA, hg1, ha, hc, d5, List.length_map, go_sem]
   refine ⟨i + 1, ⟨hlt, fun j hj => ?_⟩, by simp only; omega, ?_⟩
   ·rcases Nat.lt_or_ge j i with hji | hji
    ·exact h0 j hji
    ·obtain rfl : j = i := by omega
     exact h5
   ·exact Weak.kround (p := r_sameM0) (k := 2) (by ((repeat refine (kAny_up rfl).trans ?_); exact hEE1)) (by ((try simp (disch := decide) only [hA, go_sem]) <;> exact kH)) rfl hE1 (by simp) kV hR kL
  ·have d5 : (a.body.getD i 0 != c.body.getD i 0) = true := bne_iff_ne.2 h5
   simp (disch := (first | decide | omega)) only [hA, hg1, ha, hc, d5, List.length_map, go_sem]
   exact leave_pure (xs := [.v (.bool false)]) (.inr rfl) (by simp (disch := (first | decide | omega)) only [resVs, resV, go_sem, hA, hg1]) kO hR hB ⟨by rw [eqB_F (fun h => h5 (by rw [h]))]; rfl, rfl, rfl⟩
 ·obtain rfl : i = a.body.length := by omega
  simp (disch := (first | decide | omega)) only [hA, hg1, List.length_map, go_sem]
  have he : a = c := by
   have hb := ext_gD h4 h0
   cases a; cases c; simp_all
  exact leave_pure (xs := [.v (.bool true)]) (.inr rfl) (by simp (disch := (first | decide | omega)) only [resVs, resV, go_sem, hA, hg1]) kO hR hB ⟨by rw [eqB_T he]; rfl, rfl, rfl⟩
theorem eFt_get {l : List (Int × Int)} {i : Nat} (h : i < l.length) : (l.map eFt)[i]? = some [.int .i64 l[i].1, .int .i64 l[i].2] := by
 rw [List.getElem?_map, List.getElem?_eq_getElem h]; rfl
set_option maxRecDepth 20000 in
set_option maxHeartbeats 4000000 in
theorem sameN_spec (a c : Nw) (hS : NwS a) (b l : List Row) : ACalls Try.prog 34 [.agg ((eNw a).map .v), .agg ((eNw c).map .v)] b l (fun r b' l' => r = .v (.bool (eqB a c)) ∧ b' = b ∧ l' = l) := by
 refine calls_kept a_sameN_ok rfl (by decide) ?_
 intro B g hB hR hE hA
 simp only [KArgs] at hA
 have hal := hS.l
 have hat := hS.tm
 have haf := hS.fates
 by_cases h1 : a.now = c.now
 case neg =>
  have d1 : (a.now != c.now) = true := by simp [h1]
  simp (disch := (first | decide | omega)) only [a_sameN, hA, eNw, d1, go_sem]
  exact leave_pure (xs := [.v (.bool false)]) (.inr rfl) (by simp (disch := (first | decide | omega)) only [resVs, resV, go_sem, hA]) kO hR hB ⟨by rw [eqB_F (fun h => h1 (by rw [h]))]; rfl, rfl, rfl⟩
 have d1 : (a.now != c.now) = false := by simp [h1]
 by_cases h2 : a.fifo = c.fifo
 case neg =>
  have d2 : (!(a.fifo == c.fifo)) = true := by simp [h2]
  simp (disch := (first | decide | omega)) only [a_sameN, hA, eNw, d1, d2, go_sem]
  exact leave_pure (xs := [.v (.bool false)]) (.inr rfl) (by simp (disch := (first | decide | omega)) only [resVs, resV, go_sem, hA]) kO hR hB ⟨by rw [eqB_F (fun h => h2 (by rw [h]))]; rfl, rfl, rfl⟩
 have d2 : (!(a.fifo == c.fifo)) = false := by simp [h2]
 by_cases h3 : a.l.length = c.l.length
 case neg =>
  have d3 : ((a.l.length : Int) != (c.l.length : Int)) = true := by simp; omega
  simp (disch := (first | decide | omega)) only [a_sameN, hA, eNw, d1, d2, d3, List.length_map, go_sem]
  exact leave_pure (xs := [.v (.bool false)]) (.inr rfl) (by simp (disch := (first | decide | omega)) only [resVs, resV, go_sem, hA]) kO hR hB ⟨by rw [eqB_F (fun h => h3 (by rw [h]))]; rfl, rfl, rfl⟩
 have d3 : ((a.l.length : Int) != (c.l.length : Int)) = false := by simp; omega
 by_cases h4 : a.tm.length = c.tm.length
 case neg =>
  have d4 : ((a.tm.length : Int) != (c.tm.length : Int)) = true := by simp; omega
  simp (disch := (first | decide | omega)) only [a_sameN, hA, eNw, d1, d2, d3, d4, List.length_map, go_sem]
  exact leave_pure (xs := [.v (.bool false)]) (.inr rfl) (by simp (disch := (first | decide | omega)) only [resVs, resV, go_sem, hA]) kO hR hB ⟨by rw [eqB_F (fun h => h4 (by rw [h]))]; rfl, rfl, rfl⟩
 have d4 : ((a.tm.length : Int) != (c.tm.length : Int)) = false := by simp; omega
 by_cases h5 : a.fates.length = c.fates.length
 case neg =>
  have d5 : ((a.fates.length : Int) != (c.fates.length : Int)) = true := by simp; omega
  simp (disch := (first | decide | omega)) only [a_sameN, hA, eNw, d1, d2, d3, d4, d5, List.length_map, go_sem]
  exact leave_pure (xs := [.v (.bool false)]) (.inr rfl) (by simp (disch := (first | decide | omega)) only [resVs, resV, go_sem, hA]) kO hR hB ⟨by rw [eqB_F (fun h => h5 (by rw [h]))]; rfl, rfl, rfl⟩
 have d5 : ((a.fates.length : Int) != (c.fates.length : Int)) = false := by simp; omega
 simp (disch := (first | decide | omega)) only [a_sameN, hA, eNw, d1, d2, d3, d4, d5, List.length_map, go_sem]
 refine loop_kept (ι := Nat) r_sameN0 (fun i => [(5, .v (.int .i64 i))]) 2 (fun _ => [.live 0 5 [[.v (.int .i64 a.now), .v (.bool a.fifo), .v (.isl 4 (a.l.map eMs)), .v (.isl 1 (a.tm.map eI)), .v (.isl 2 (a.fates.map eFt))]], .live 0 5 [[.v (.int .i64 c.now), .v (.bool c.fifo), .v (.isl 4 (c.l.map eMs)), .v (.isl 1 (c.tm.map eI)), .v (.isl 2 (c.fates.map eFt))]]])
  (fun i => i ≤ a.l.length ∧ ∀ j, j < i → a.l.getD j dfMs = c.l.getD j dfMs) (fun i => a.l.length - i) 0 ⟨Nat.zero_le _, fun j hj => by omega⟩ (by (repeat (first | exact hE.mono oM | refine KLt.up ?_ kL))) (by ((try simp (disch := decide) only [hA, go_sem]) <;> exact kH)) (fun e => Weak.refl _ _ _) ?_
 rintro g1 hE1 hEE1 hg1 i ⟨hi, h0⟩
 by_cases hlt : i < a.l.length
 ·have ha := eMs_get hlt
  have hlc : i < c.l.length := by omega
  have hc := eMs_get hlc
  simp (disch := (first | decide | omega)) only [hA, hg1, ha, hc, List.length_map, go_sem]
  refine ACalls.nxt (sameM_spec a.l[i] c.l[i] (hS.body _ (List.getElem_mem hlt)) _ _) ?_
  cases q : eqB a.l[i] c.l[i]
  ·have hne : a ≠ c := fun h => by
    subst h
    rw [eqB_T rfl] at q; cases q
   simp (disch := (first | decide | omega)) only [hA, hg1, go_sem]
   exact leave_pure (xs := [.v (.bool false)]) (.inr rfl) (by simp (disch := (first | decide | omega)) only [resVs, resV, go_sem, hA, hg1]) kO hR hB ⟨by rw [eqB_F hne]; rfl, rfl, rfl⟩
  ·simp (disch := (first | decide | omega)) only [hA, hg1, go_sem]
   refine ⟨i + 1, ⟨hlt, fun j hj => ?_⟩, by simp only; omega, ?_⟩
   ·rcases Nat.lt_or_ge j i with hji | hji
    ·exact h0 j hji
    ·obtain rfl : j = i := by omega
     rw [getD_at hlt, getD_at hlc]; exact eqB_iff.1 q
   ·exact Weak.kround (p := r_sameN0) (k := 2) (by ((repeat refine (kAny_up rfl).trans ?_); exact hEE1)) (by ((try simp (disch := decide) only [hA, go_sem]) <;> exact kH)) rfl hE1 (by simp) kV hR kL
 obtain rfl : i = a.l.length := by omega
 have hL : a.l = c.l := ext_gD h3 h0
 simp (disch := (first | decide | omega)) only [hA, hg1, List.length_map, go_sem]
 refine loop_kept (ι := Nat) r_sameN1 (fun i => [(6, .v (.int .i64 i))]) 2 (fun _ => [.live 0 5 [[.v (.int .i64 a.now), .v (.bool a.fifo), .v (.isl 4 (a.l.map eMs)), .v (.isl 1 (a.tm.map eI)), .v (.isl 2 (a.fates.map eFt))]], .live 0 5 [[.v (.int .i64 c.now), .v (.bool c.fifo), .v (.isl 4 (c.l.map eMs)), .v (.isl 1 (c.tm.map eI)), .v (.isl 2 (c.fates.map eFt))]]])
  (fun i => i ≤ a.tm.length ∧ ∀ j, j < i → a.tm.getD j 0 = c.tm.getD j 0) (fun i => a.tm.length - i) 0 ⟨Nat.zero_le _, fun j hj => by omega⟩ (by (repeat (first | exact hE1.mono oM | refine KLt.up ?_ kL))) (by ((try simp (disch := decide) only [hA, hg1, go_sem]) <;> exact kH)) (fun e => Weak.refl _ _ _) ?_
 rintro g2 hE2 hEE2 hg2 i ⟨hi, h0⟩
 by_cases hlt : i < a.tm.length
 ·have ha := eI_get hlt
  have hc := eI_get (show i < c.tm.length by omega)
  by_cases h6 : a.tm.getD i 0 = c.tm.getD i 0
  ·have d6 : (a.tm.getD i 0 != c.tm.getD i 0) = false := by rw [h6]; simp
   simp (disch := (first | decide | omega)) only [hA, hg1, hg2, ha, hc, d6, List.length_map, go_sem]
   refine ⟨i + 1, ⟨hlt, fun j hj => ?_⟩, by simp only; omega, ?_⟩
   ·rcases Nat.lt_or_ge j i with hji | hji
    ·exact h0 j hji
    ·obtain rfl : j = i := by omega
     exact h6
   ·exact Weak.kround (p := r_sameN1) (k := 2) (by ((repeat refine (kAny_up rfl).trans ?_); exact hEE2)) (by ((try simp (disch := decide) only [hA, go_sem]) <;> exact kH)) rfl hE2 (by simp) kV hR kL
  ·have d6 : (a.tm.getD i 0 != c.tm.getD i 0) = true := bne_iff_ne.2 h6
   simp (disch := (first | decide | omega)) only [hA, hg1, hg2, ha, hc, d6, List.length_map, go_sem]
   exact leave_pure (xs := [.v (.bool false)]) (.inr rfl) (by simp (disch := (first | decide | omega)) only [resVs, resV, go_sem, hA, hg1, hg2]) kO hR hB ⟨by rw [eqB_F (fun h => h6 (by rw [h]))]; rfl, rfl, rfl⟩
 obtain rfl : i = a.tm.length := by omega
 have hT : a.tm = c.tm := ext_gD h4 h0
 simp (disch := (first | decide | omega)) only [hA, hg1, hg2, List.length_map, go_sem]
 refine loop_kept (ι := Nat) r_sameN2 (fun i => [(7, .v (.int .i64 i))]) 2 (fun _ => [.live 0 5 [[.v (.int .i64 a.now), .v (.bool a.fifo), .v (.isl 4 (a.l.map eMs)), .v (.isl 1 (a.tm.map eI)), .v (.isl 2 (a.fates.map eFt))]], .live 0 5 [[.v (.int .i64 c.now), .v (.bool c.fifo), .v (.isl 4 (c.l.map eMs)), .v (.isl 1 (c.tm.map eI)), .v (.isl 2 (c.fates.map eFt))]]])
  (fun i => i ≤ a.fates.length ∧ ∀ j, j < i → a.fates.getD j (0, 0) = c.fates.getD j (0, 0)) (fun i => a.fates.length - i) 0 ⟨Nat.zero_le _, fun j hj => by omega⟩ (by (repeat (first | exact hE2.mono oM | refine KLt.up ?_ kL))) (by ((try simp (disch := decide) only [hA, hg1, hg2, go_sem]) <;> exact kH)) (fun e => Weak.refl _ _ _) ?_
 rintro g3 hE3 hEE3 hg3 i ⟨hi, h0⟩
 by_cases hlt : i < a.fates.length
 ·have hlc : i < c.fates.length := by omega
  have ha := eFt_get hlt
  have hc := eFt_get hlc
  cases q1 : (a.fates[i].1 == c.fates[i].1)
  case' false =>
   have hne : a ≠ c := fun h => by subst h; simp at q1
   simp (disch := (first | decide | omega)) only [hA, hg1, hg2, hg3, ha, hc, q1, Bool.false_and, List.length_map, go_sem]
   exact leave_pure (xs := [.v (.bool false)]) (.inr rfl) (by simp (disch := (first | decide | omega)) only [resVs, resV, go_sem, hA, hg1, hg2, hg3]) kO hR hB ⟨by rw [eqB_F hne]; rfl, rfl, rfl⟩
  cases q2 : (a.fates[i].2 == c.fates[i].2)
  case' false =>
   have hne : a ≠ c := fun h => by subst h; simp at q2
   simp (disch := (first | decide | omega)) only [hA, hg1, hg2, hg3, ha, hc, q1, q2, List.length_map, go_sem]
   exact leave_pure (xs := [.v (.bool false)]) (.inr rfl) (by simp (disch := (first | decide | omega)) only [resVs, resV, go_sem, hA, hg1, hg2, hg3]) kO hR hB ⟨by rw [eqB_F hne]; rfl, rfl, rfl⟩
  simp (disch := (first | decide | omega)) only [hA, hg1, hg2, hg3, ha, hc, q1, q2, List.length_map, go_sem]
  refine ⟨i + 1, ⟨hlt, fun j hj => ?_⟩, by simp only; omega, ?_⟩
  ·rcases Nat.lt_or_ge j i with hji | hji
   ·exact h0 j hji
   ·obtain rfl : j = i := by omega
    rw [getD_at hlt, getD_at hlc]
    exact Prod.ext (by simpa using q1) (by simpa using q2)
  ·exact Weak.kround (p := r_sameN2) (k := 2) (by ((repeat refine (kAny_up rfl).trans ?_); exact hEE3)) (by ((try simp (disch := decide) only [hA, go_sem]) <;> exact kH)) rfl hE3 (by simp) kV hR kL
 obtain rfl : i = a.fates.length := by omega
 have hF : a.fates = c.fates := ext_gD h5 h0
 have he : a = c := Nw.eq_iff.2 ⟨h1, h2, hL, hT, hF⟩
 simp (disch := (first | decide | omega)) only [hA, hg1, hg2, hg3, List.length_map, go_sem]
 exact leave_pure (xs := [.v (.bool true)]) (.inr rfl) (by simp (disch := (first | decide | omega)) only [resVs, resV, go_sem, hA, hg1, hg2, hg3]) kO hR hB ⟨by rw [eqB_T he]; rfl, rfl, rfl⟩
def lgB (m : Ms) : Bool := decide (40 < m.body.length)
def grB (n : Nw) : Bool := decide ((60 < n.l.length ∧ n.l.length < 995) ∨ 1100 < n.l.length ∨ 1100 < n.tm.length ∨ (60 < n.fates.length ∧ n.fates.length ≤ 1000) ∨ 1100 < n.fates.length) || n.l.any lgB
theorem grB_s {n : Nw} (h : grB n = false) : NwS n := by
 unfold grB at h
 rw [Bool.or_eq_false_iff, decide_eq_false_iff_not] at h
 refine ⟨by omega, by omega, by omega, fun m hm => ?_⟩
 have := List.any_eq_false.1 h.2 m hm
 unfold lgB at this
 simp at this
 omega
theorem greatc53_spec (m : Ms) (b l : List Row) : ACalls Try.prog 90 [.agg [.v (.int .i64 m.fr), .v (.int .i64 m.to), .v (.int .i64 m.nu), .v (.isl 1 (m.body.map eI))]] b l (fun r b' l' => r = .v (.bool (lgB m)) ∧ b' = b ∧ l' = l) := by
 refine calls_kept a_greatc53_ok rfl (by decide) ?_
 intro B g hB hR hE hA
 simp only [KArgs] at hA
 by_cases h : 40 < m.body.length
 ·have d : decide ((40 : Int) < (m.body.length : Int)) = true := decide_eq_true oM
  simp (disch := (first | decide | omega)) only [a_greatc53, hA, d, List.length_map, go_sem]
  exact leave_pure (xs := [.v (.bool true)]) (.inr rfl) (by simp (disch := (first | decide | omega)) only [resVs, resV, go_sem, hA]) kO hR hB ⟨by unfold lgB; rw [decide_eq_true h]; rfl, rfl, rfl⟩
 ·have d : decide ((40 : Int) < (m.body.length : Int)) = false := decide_eq_false oM
  simp (disch := (first | decide | omega)) only [a_greatc53, hA, d, List.length_map, go_sem]
  exact leave_pure (xs := [.v (.bool false)]) (.inr rfl) (by simp (disch := (first | decide | omega)) only [resVs, resV, go_sem, hA]) kO hR hB ⟨by unfold lgB; rw [decide_eq_false h]; rfl, rfl, rfl⟩
set_option maxRecDepth 20000 in
set_option maxHeartbeats 2000000 in
theorem great53_spec (n : Nw) (b l : List Row) : ACalls Try.prog 28 [.agg ((eNw n).map .v)] b l (fun r b' l' => r = .v (.bool (grB n)) ∧ b' = b ∧ l' = l) := by
 refine calls_kept a_great53_ok rfl (by decide) ?_
 intro B g hB hR hE hA
 simp only [KArgs] at hA
 have T : ∀ {a c : Nat}, a < c → decide ((a : Int) < (c : Int)) = true := fun h => decide_eq_true oM
 have F : ∀ {a c : Nat}, ¬ a < c → decide ((a : Int) < (c : Int)) = false := fun h => decide_eq_false oM
 have yes : ((60 < n.l.length ∧ n.l.length < 995) ∨ 1100 < n.l.length ∨ 1100 < n.tm.length ∨ (60 < n.fates.length ∧ n.fates.length ≤ 1000) ∨ 1100 < n.fates.length) → grB n = true := fun h => by unfold grB; rw [decide_eq_true h]; rfl
 have no : ¬ ((60 < n.l.length ∧ n.l.length < 995) ∨ 1100 < n.l.length ∨ 1100 < n.tm.length ∨ (60 < n.fates.length ∧ n.fates.length ≤ 1000) ∨ 1100 < n.fates.length) → grB n = n.l.any lgB := fun h => by unfold grB; rw [decide_eq_false h]; rfl
 have hc : n.l.length ≤ 1000000 → ∀ b l, ACalls Try.prog 89 [.v (.isl 4 (n.l.map eMs)), .fn 90 []] b l (fun r b' l' => r = .v (.bool (n.l.any lgB)) ∧ b' = b ∧ l' = l) := fun hn b l => by
  have := contains_spec (P := Try.prog) (sz := 4) (f := 89) (g := 135) (by kernel_rfl) (by kernel_rfl) (n.l.map eMs) 90 [] (fun i => lgB (n.l.getD i dfMs)) (by intro row hr; obtain ⟨f, _, rfl⟩ := List.mem_map.1 hr; rfl) (by simpa using hn) b l (fun i row hi => by
   rw [List.getElem?_map] at hi
   cases hq : n.l[i]? with
   | none => rw [hq] at hi; cases hi
   | some m =>
     rw [hq] at hi; cases hi
     have := greatc53_spec m (b ++ l) []
     simp only [List.getD_eq_getElem?_getD, hq, Option.getD_some]
     exact this)
  rwa [List.length_map, any_range] at this
 by_cases a1 : 60 < n.l.length
 case' pos =>
  have d1 : decide ((60 : Int) < (n.l.length : Int)) = true := decide_eq_true oM
  by_cases a2 : n.l.length < 995
  case' pos =>
   have d2 : decide ((n.l.length : Int) < 995) = true := decide_eq_true oM
   simp (disch := (first | decide | omega)) only [a_great53, hA, eNw, d1, d2, List.length_map, go_sem]
   exact leave_pure (xs := [.v (.bool true)]) (.inr rfl) (by simp (disch := (first | decide | omega)) only [resVs, resV, go_sem, hA]) kO hR hB ⟨by rw [yes (.inl ⟨a1, a2⟩)]; rfl, rfl, rfl⟩
  have d2 : decide ((n.l.length : Int) < 995) = false := decide_eq_false oM
  have a3 : ¬ (60 < n.l.length ∧ n.l.length < 995) := fun h => a2 h.2
 case' neg =>
  have d1 : decide ((60 : Int) < (n.l.length : Int)) = false := decide_eq_false oM
  have d2 : True := trivial
  have a3 : ¬ (60 < n.l.length ∧ n.l.length < 995) := fun h => a1 h.1
 all_goals
  by_cases a4 : 1100 < n.l.length
  ·have d4 : decide ((1100 : Int) < (n.l.length : Int)) = true := decide_eq_true oM
   simp (disch := (first | decide | omega)) only [a_great53, hA, eNw, d1, d2, d4, List.length_map, go_sem]
   exact leave_pure (xs := [.v (.bool true)]) (.inr rfl) (by simp (disch := (first | decide | omega)) only [resVs, resV, go_sem, hA]) kO hR hB ⟨by rw [yes (.inr (.inl a4))]; rfl, rfl, rfl⟩
  have d4 : decide ((1100 : Int) < (n.l.length : Int)) = false := decide_eq_false oM
  by_cases a5 : 1100 < n.tm.length
  ·have d5 : decide ((1100 : Int) < (n.tm.length : Int)) = true := decide_eq_true oM
   simp (disch := (first | decide | omega)) only [a_great53, hA, eNw, d1, d2, d4, d5, List.length_map, go_sem]
   exact leave_pure (xs := [.v (.bool true)]) (.inr rfl) (by simp (disch := (first | decide | omega)) only [resVs, resV, go_sem, hA]) kO hR hB ⟨by rw [yes (.inr (.inr (.inl a5)))]; rfl, rfl, rfl⟩
  have d5 : decide ((1100 : Int) < (n.tm.length : Int)) = false := decide_eq_false oM
  by_cases a6 : 60 < n.fates.length
  case' pos =>
   have d6 : decide ((60 : Int) < (n.fates.length : Int)) = true := decide_eq_true oM
   by_cases a7 : n.fates.length ≤ 1000
   case' pos =>
    have d7 : decide ((n.fates.length : Int) ≤ 1000) = true := decide_eq_true oM
    simp (disch := (first | decide | omega)) only [a_great53, hA, eNw, d1, d2, d4, d5, d6, d7, List.length_map, go_sem]
    exact leave_pure (xs := [.v (.bool true)]) (.inr rfl) (by simp (disch := (first | decide | omega)) only [resVs, resV, go_sem, hA]) kO hR hB ⟨by rw [yes (.inr (.inr (.inr (.inl ⟨a6, a7⟩))))]; rfl, rfl, rfl⟩
   have d7 : decide ((n.fates.length : Int) ≤ 1000) = false := decide_eq_false oM
   have a8 : ¬ (60 < n.fates.length ∧ n.fates.length ≤ 1000) := fun h => a7 h.2
  case' neg =>
   have d6 : decide ((60 : Int) < (n.fates.length : Int)) = false := decide_eq_false oM
   have d7 : True := trivial
   have a8 : ¬ (60 < n.fates.length ∧ n.fates.length ≤ 1000) := fun h => a6 h.1
  all_goals
   by_cases a9 : 1100 < n.fates.length
   ·have d9 : decide ((1100 : Int) < (n.fates.length : Int)) = true := decide_eq_true oM
    simp (disch := (first | decide | omega)) only [a_great53, hA, eNw, d1, d2, d4, d5, d6, d7, d9, List.length_map, go_sem]
    exact leave_pure (xs := [.v (.bool true)]) (.inr rfl) (by simp (disch := (first | decide | omega)) only [resVs, resV, go_sem, hA]) kO hR hB ⟨by rw [yes (.inr (.inr (.inr (.inr a9))))]; rfl, rfl, rfl⟩
   have d9 : decide ((1100 : Int) < (n.fates.length : Int)) = false := decide_eq_false oM
   have hno := no oM
   simp (disch := (first | decide | omega)) only [a_great53, hA, eNw, d1, d2, d4, d5, d6, d7, d9, List.length_map, go_sem]
   refine ACalls.nxt (hc oM _ _) ?_
   simp (disch := (first | decide | omega)) only [hA, go_sem]
   exact leave_pure (xs := [.v (.bool (n.l.any lgB))]) (.inr rfl) (by simp (disch := (first | decide | omega)) only [resVs, resV, go_sem, hA]) kO hR hB ⟨by rw [hno]; rfl, rfl, rfl⟩
def nwRow (n : Nw) : Row := .live 0 5 [[.v (.int .i64 n.now), .v (.bool n.fifo), .v (.isl 4 (n.l.map eMs)), .v (.isl 1 (n.tm.map eI)), .v (.isl 2 (n.fates.map eFt))]]
def a_awake53 : AFunc := ⟨0,81,[.tmp 0],(.seq (.region [⟨some 0,.mv (.c (.v (.bool false))),none⟩]) (.seq (.seq (.region [⟨some 12,.bslice 1 [(.v (.bool false))] 2 [(0,(.c (.v (.bool false)))),(1,(.c (.v (.bool true))))],none⟩,⟨some 13,.len (.t 12),none⟩,⟨some 14,.mv (.c (.v (.int .i64 0))),none⟩]) (.block 0 (.loop (.seq (.region [⟨some 15,.bin .lss (.t 14) (.t 13),none⟩]) (.seq (.cond (.t 15) .skip (.exit 0)) (.seq (.block 1 (.seq (.region [⟨some 16,.iaddr 1 (.t 12) (.t 14),none⟩,⟨some 17,.load none (.t 16),none⟩,⟨some 2,.mv (.t 17),none⟩]) (.seq (.region [⟨some 19,.mv (.t 2),none⟩,⟨some 20,.build [(.v (.int .i64 0)),(.v (.int .i64 0))] [(0,1,(.c (.v (.int .i64 1)))),(1,1,(.c (.v (.int .i64 5))))],none⟩,⟨some 21,.build [(.v (.int .i64 0)),(.v (.int .i64 0))] [(0,1,(.c (.v (.int .i64 1))))],none⟩,⟨some 22,.bslice 2 [(.v (.int .i64 0)),(.v (.int .i64 0))] 2 [(0,(.t 20)),(1,(.t 21))],none⟩,⟨some 23,.call (.c (.fn 41 [])) [(.t 19),(.t 22)],none⟩,⟨some 18,.mv (.t 23),none⟩,⟨some 24,.extract 0 (.t 18),none⟩,⟨some 25,.extract 1 (.t 18),none⟩,⟨some 3,.alloc [(.v (.int .i64 0)),(.v (.bool false)),(.v .zsl),(.v .zsl),(.v .zsl)],none⟩,⟨none,.store 5 (.t 3) (.t 24),none⟩,⟨some 4,.mv (.t 25),none⟩]) (.seq (.region [⟨some 27,.load (some 5) (.t 3),none⟩,⟨some 28,.build [(.v (.int .i64 0)),(.v (.int .i64 0)),(.v (.int .i64 0)),(.v .zsl)] [(1,1,(.c (.v (.int .i64 1)))),(2,1,(.c (.v (.int .i64 7))))],none⟩,⟨some 29,.call (.c (.fn 29 [])) [(.t 27),(.t 28)],none⟩,⟨some 26,.mv (.t 29),none⟩,⟨some 30,.extract 0 (.t 26),none⟩,⟨some 31,.extract 1 (.t 26),none⟩,⟨none,.store 5 (.t 3) (.t 30),none⟩,⟨some 5,.mv (.t 31),none⟩]) (.seq (.region [⟨some 33,.load (some 5) (.t 3),none⟩,⟨some 34,.build [(.v (.int .i64 0)),(.v (.int .i64 0)),(.v (.int .i64 0)),(.v .zsl)] [(1,1,(.c (.v (.int .i64 1)))),(2,1,(.c (.v (.int .i64 8))))],none⟩,⟨some 35,.call (.c (.fn 29 [])) [(.t 33),(.t 34)],none⟩,⟨some 32,.mv (.t 35),none⟩,⟨some 36,.extract 0 (.t 32),none⟩,⟨some 37,.extract 1 (.t 32),none⟩,⟨none,.store 5 (.t 3) (.t 36),none⟩,⟨some 6,.mv (.t 37),none⟩]) (.seq (.region [⟨some 7,.mv (.c (.v (.int .i64 1))),none⟩]) (.seq (.seq (.region [⟨some 38,.mv (.t 2),none⟩]) (.cond (.t 38) (.region [⟨some 7,.mv (.c (.v (.int .i64 0))),none⟩]) .skip)) (.seq (.seq (.region [⟨some 39,.mv (.t 4),none⟩,⟨some 40,.bin .neq (.t 39) (.c (.v (.int .i64 0))),none⟩,⟨some 41,.mv (.t 40),none⟩,⟨some 42,.mv (.t 5),some (41,false)⟩,⟨some 43,.bin .neq (.t 42) (.c (.v (.int .i64 0))),some (41,false)⟩,⟨some 44,.pick (.t 41) (.c (.v (.bool true))) (.t 43),none⟩,⟨some 45,.mv (.t 44),none⟩,⟨some 46,.mv (.t 6),some (45,false)⟩,⟨some 47,.bin .neq (.t 46) (.c (.v (.int .i64 0))),some (45,false)⟩,⟨some 48,.pick (.t 45) (.c (.v (.bool true))) (.t 47),none⟩,⟨some 49,.mv (.t 48),none⟩,⟨some 50,.load (some 5) (.t 3),some (49,false)⟩,⟨some 51,.call (.c (.fn 45 [])) [(.t 50),(.c (.v (.int .i64 1)))],some (49,false)⟩,⟨some 52,.mv (.t 7),some (49,false)⟩,⟨some 53,.bin .neq (.t 51) (.t 52),some (49,false)⟩,⟨some 54,.pick (.t 49) (.c (.v (.bool true))) (.t 53),none⟩]) (.cond (.t 54) (.seq (.region [⟨some 0,.mv (.c (.v (.bool false))),none⟩]) .ret) .skip)) (.seq (.region [⟨some 56,.load (some 5) (.t 3),none⟩,⟨some 57,.call (.c (.fn 36 [])) [(.t 56),(.c (.v (.int .i64 5)))],none⟩,⟨some 55,.mv (.t 57),none⟩,⟨some 58,.extract 0 (.t 55),none⟩,⟨some 59,.extract 1 (.t 55),none⟩,⟨none,.store 5 (.t 3) (.t 58),none⟩,⟨some 8,.mv (.t 59),none⟩]) (.seq (.region [⟨some 61,.load (some 5) (.t 3),none⟩,⟨some 62,.call (.c (.fn 35 [])) [(.t 61),(.c (.v (.int .i64 1)))],none⟩,⟨some 60,.mv (.t 62),none⟩,⟨some 63,.extract 0 (.t 60),none⟩,⟨some 64,.extract 1 (.t 60),none⟩,⟨some 65,.extract 2 (.t 60),none⟩,⟨some 9,.alloc [(.v (.int .i64 0)),(.v (.bool false)),(.v .zsl),(.v .zsl),(.v .zsl)],none⟩,⟨some 10,.alloc [(.v (.int .i64 0)),(.v (.int .i64 0)),(.v (.int .i64 0)),(.v .zsl)],none⟩,⟨none,.store 5 (.t 9) (.t 63),none⟩,⟨none,.store 4 (.t 10) (.t 64),none⟩,⟨some 11,.mv (.t 65),none⟩]) (.seq (.draw [⟨0,⟨some 66,.mv (.t 8),none⟩,[]⟩,⟨1,⟨some 67,.bin .neq (.t 66) (.c (.v (.int .i64 0))),none⟩,[]⟩,⟨2,⟨some 68,.mv (.t 67),none⟩,[]⟩,⟨3,⟨some 69,.mv (.t 11),some (68,false)⟩,[]⟩,⟨4,⟨some 70,.bin .neq (.t 69) (.c (.v (.int .i64 0))),some (68,false)⟩,[]⟩,⟨5,⟨some 71,.pick (.t 68) (.c (.v (.bool true))) (.t 70),none⟩,[]⟩,⟨6,⟨some 72,.mv (.t 71),none⟩,[]⟩,⟨7,⟨some 73,.faddr 2 (.t 10),some (72,false)⟩,[]⟩,⟨8,⟨some 74,.load none (.t 73),some (72,false)⟩,[]⟩,⟨9,⟨some 75,.mv (.t 2),some (72,false)⟩,[]⟩,⟨10,⟨some 76,.call (.c (.fn 88 [])) [(.t 75)],some (72,false)⟩,[⟨some 73,.faddr 2 (.t 10),some (72,false)⟩,⟨some 74,.load none (.t 73),some (72,false)⟩]⟩,⟨11,⟨some 77,.bin .sub (.c (.v (.int .i64 8))) (.t 76),some (72,false)⟩,[]⟩,⟨12,⟨some 78,.bin .neq (.t 74) (.t 77),some (72,false)⟩,[]⟩,⟨13,⟨some 79,.pick (.t 72) (.c (.v (.bool true))) (.t 78),none⟩,[]⟩]) (.cond (.t 79) (.seq (.region [⟨some 0,.mv (.c (.v (.bool false))),none⟩]) .ret) .skip)))))))))))) (.region [⟨some 80,.bin .add (.t 14) (.c (.v (.int .i64 1))),none⟩,⟨some 14,.mv (.t 80),none⟩]))))))) (.seq (.region [⟨some 0,.mv (.c (.v (.bool true))),none⟩]) .ret)))⟩
theorem a_awake53_ok : cFunc Try.prog 27 = some a_awake53 := by kernel_rfl
def r_awake530 : List (Nat × Nat) := [(0, 0), (2, 11), (14, 80)]
def a_btoi53 : AFunc := ⟨1,4,[.tmp 2],(.seq (.region [⟨some 2,.mv (.c (.v (.int .i64 0))),none⟩]) (.seq (.seq (.region [⟨some 3,.mv (.t 0),none⟩]) (.cond (.t 3) (.seq (.region [⟨some 2,.mv (.c (.v (.int .i64 1))),none⟩]) .ret) .skip)) (.seq (.region [⟨some 2,.mv (.c (.v (.int .i64 0))),none⟩]) .ret)))⟩
theorem a_btoi53_ok : cFunc Try.prog 88 = some a_btoi53 := by kernel_rfl

def btZ (t : Bool) : Int := if t = true then 1 else 0
theorem btoi53_spec (t : Bool) (b l : List Row) : ACalls Try.prog 88 [.v (.bool t)] b l (fun r b' l' => r = .v (.int .i64 (btZ t)) ∧ b' = b ∧ l' = l) := by
 refine calls_kept a_btoi53_ok rfl (by decide) ?_
 intro B g hB hR hE hA
 simp only [KArgs] at hA
 cases t
 ·simp (disch := (first | decide | omega)) only [a_btoi53, hA, go_sem]
  exact leave_pure (xs := [.v (.int .i64 0)]) (.inr rfl) (by simp (disch := (first | decide | omega)) only [resVs, resV, go_sem, hA]) kO hR hB ⟨rfl, rfl, rfl⟩
 ·simp (disch := (first | decide | omega)) only [a_btoi53, hA, go_sem]
  exact leave_pure (xs := [.v (.int .i64 1)]) (.inr rfl) (by simp (disch := (first | decide | omega)) only [resVs, resV, go_sem, hA]) kO hR hB ⟨rfl, rfl, rfl⟩
def fs53 : List (Int × Int) := [(1, 5), (1, 0)]
def m7 : Ms := ⟨0, 1, 7, []⟩
def m8 : Ms := ⟨0, 1, 8, []⟩
def n53a (t : Bool) : Nw := newR t fs53
def n53b (t : Bool) : Nw := sndN (n53a t) m7
def n53c (t : Bool) : Nw := sndN (n53b t) m8
def n53d (t : Bool) : Nw := goN (n53c t) 5
theorem f53 (t : Bool) : newE fs53 = 0 ∧ sndE (n53a t) m7 = 0 ∧ sndE (n53b t) m8 = 0 ∧ (waitN (n53c t) 1 : Int) = (if t = true then 0 else 1) ∧ goE (n53c t) 5 = 0 ∧ rcE (n53d t) 1 = 0 ∧ (rcM (n53d t) 1).nu = 8 - btZ t := by
 cases t <;> exact ⟨by kernel_rfl, by kernel_rfl, by kernel_rfl, by kernel_rfl, by kernel_rfl, by kernel_rfl, by kernel_rfl⟩
theorem nwA_open (n : Nw) : nwA n = .agg [.v (.int .i64 n.now), .v (.bool n.fifo), .v (.isl 4 (n.l.map eMs)), .v (.isl 1 (n.tm.map eI)), .v (.isl 2 (n.fates.map eFt))] := rfl
theorem eMs_open (m : Ms) : (eMs m).map AV.v = [.v (.int .i64 m.fr), .v (.int .i64 m.to), .v (.int .i64 m.nu), .v (.isl 1 (m.body.map eI))] := rfl
theorem nSend_z (n : Nw) (to nu : Int) (b l : List Row) : ACalls Try.prog 29 [.agg [.v (.int .i64 n.now), .v (.bool n.fifo), .v (.isl 4 (n.l.map eMs)), .v (.isl 1 (n.tm.map eI)), .v (.isl 2 (n.fates.map eFt))], .agg [.v (.int .i64 0), .v (.int .i64 to), .v (.int .i64 nu), .v .zsl]] b l
  (fun r b' l' => r = .tup [nwA (sndN n ⟨0, to, nu, []⟩), .v (.int .i64 (sndE n ⟨0, to, nu, []⟩))] ∧ b' = b ∧ l' = l) := by
 refine (nSend_spec n ⟨0, to, nu, []⟩ b l).le rfl (fun i x y hx hy => ?_)
 match i, hx, hy with
 | 0, hx, hy => cases hx; cases hy; exact .refl _
 | 1, hx, hy =>
   cases hx; cases hy
   refine .agg _ _ rfl (fun j u v hu hv => ?_)
   match j, hu, hv with
   | 0, hu, hv => cases hu; cases hv; exact .refl _
   | 1, hu, hv => cases hu; cases hv; exact .refl _
   | 2, hu, hv => cases hu; cases hv; exact .refl _
   | 3, hu, hv => cases hu; cases hv; exact .v _ _ (.zsl 1)
set_option maxRecDepth 20000 in
set_option maxHeartbeats 4000000 in
theorem awake53_spec (b l : List Row) : ACalls Try.prog 27 [] b l (fun r b' l' => r = .v (.bool true) ∧ b' = b ∧ l' = l) := by
 refine calls_kept a_awake53_ok rfl (by decide) ?_
 intro B g hB hR hE hA
 simp only [KArgs] at hA
 simp (disch := (first | decide | omega)) only [a_awake53, hA, fillS, setFrom, cellsOf, go_sem]
 refine loop_kept (ι := Nat) r_awake530 (fun i => [(14, .v (.int .i64 i))]) 1 (fun _ => [.live 0 1 [[.v (.bool false)], [.v (.bool true)]]])
  (fun i => i ≤ 2) (fun i => 2 - i) 0 (Nat.zero_le _) (by (repeat (first | exact hE.mono oM | refine KLt.up ?_ kL))) (by ((try simp (disch := decide) only [hA, go_sem]) <;> exact kH)) (fun e => Weak.refl _ _ _) ?_
 intro g1 hE1 hEE1 hg1 i hi
 by_cases hlt : i < 2
 ·obtain ⟨t, ht⟩ : ∃ t : Bool, ([[AV.v (.bool false)], [AV.v (.bool true)]] : List (List AV))[i]? = some [.v (.bool t)] := by
   match i, hlt with
   | 0, _ => exact ⟨false, rfl⟩
   | 1, _ => exact ⟨true, rfl⟩
  obtain ⟨q1, q2, q3, q4, q5, q6, q7⟩ := f53 t
  have dlt : decide ((i : Int) < ((2 : Nat) : Int)) = true := decide_eq_true oM
  have hi2 : (0 ≤ (i : Int) ∧ (i : Int) < ((2 : Nat) : Int)) = True := eq_true oM
  have hi3 : ((i : Int) < ((2 : Nat) : Int)) = True := eq_true oM
  have hw : ∀ x : Int, (x != x) = false := fun x => by simp
  have key : ∀ (t' : Bool) (_ : t' = t), ACalls Try.prog 88 [.v (.bool t')] B [] (fun r b' l' => r = .v (.int .i64 (btZ t)) ∧ b' = B ∧ l' = []) := fun t' h => by subst h; exact btoi53_spec t' B []
  have e2 : sndE (newR t fs53) ⟨0, 1, 7, []⟩ = 0 := q2
  have e3 : sndE (sndN (newR t fs53) ⟨0, 1, 7, []⟩) ⟨0, 1, 8, []⟩ = 0 := q3
  have e4 : (waitN (sndN (sndN (newR t fs53) ⟨0, 1, 7, []⟩) ⟨0, 1, 8, []⟩) 1 : Int) = (if t = true then 0 else 1) := q4
  have e5 : goE (sndN (sndN (newR t fs53) ⟨0, 1, 7, []⟩) ⟨0, 1, 8, []⟩) 5 = 0 := q5
  have e6 : rcE (goN (sndN (sndN (newR t fs53) ⟨0, 1, 7, []⟩) ⟨0, 1, 8, []⟩) 5) 1 = 0 := q6
  have e7 : (rcM (goN (sndN (sndN (newR t fs53) ⟨0, 1, 7, []⟩) ⟨0, 1, 8, []⟩) 5) 1).nu = 8 - btZ t := q7
  have hbt : 0 ≤ btZ t ∧ btZ t ≤ 1 := by unfold btZ; split <;> omega
  simp (disch := (first | decide | omega)) only [hA, hg1, dlt, hi2, hi3, ht, fillA, fillS, setFrom, cellsOf, List.replicate_succ, List.replicate_zero, go_sem]
  refine ACalls.frzB (i := 1) (ver := 0) (sz := 2) (rows := fs53.map eFt) (args' := [.v (.bool t), .v (.isl 2 (fs53.map eFt))]) rfl (by simp [frz, frz0, fs53, eFt]) ?_
  refine ACalls.nxt (nNew_spec t fs53 _ _) ?_
  rw [q1]
  simp (disch := (first | decide | omega)) only [hA, hg1, nwA_open, setFrom, cellsOf, fillA, go_sem]
  refine ACalls.nxt (nSend_z (newR t fs53) 1 7 _ _) ?_
  rw [e2]
  obtain ⟨n1, hn1⟩ : ∃ n1, n1 = sndN (newR t fs53) ⟨0, 1, 7, []⟩ := ⟨_, rfl⟩
  rw [← hn1] at e3 e4 e5 e6 e7 ⊢
  simp (disch := (first | decide | omega)) only [hA, hg1, nwA_open, setFrom, cellsOf, fillA, go_sem]
  refine ACalls.nxt (nSend_z n1 1 8 _ _) ?_
  rw [e3]
  obtain ⟨n2, hn2⟩ : ∃ n2, n2 = sndN n1 ⟨0, 1, 8, []⟩ := ⟨_, rfl⟩
  rw [← hn2] at e4 e5 e6 e7 ⊢
  have hW := fun b l => nWait_spec n2 1 b l
  have hG := fun b l => nGo_spec n2 5 b l
  rw [e4] at hW
  rw [e5] at hG
  obtain ⟨n3, hn3⟩ : ∃ n3, n3 = goN n2 5 := ⟨_, rfl⟩
  rw [← hn3] at e6 e7 hG
  have hV := fun b l => nRecv_spec n3 1 b l
  rw [e6] at hV
  obtain ⟨n4, hn4⟩ : ∃ n4, n4 = rcN n3 1 := ⟨_, rfl⟩
  obtain ⟨mm, hmm⟩ : ∃ mm, mm = rcM n3 1 := ⟨_, rfl⟩
  rw [← hn4, ← hmm] at hV
  rw [← hmm] at e7
  unfold eNw at hW hG hV
  simp only [List.map_cons, List.map_nil] at hW hG hV
  clear hn1 hn2 hn3 hn4 hmm q1 q2 q3 q4 q5 q6 q7 e2 e3 e5 e6
  simp (disch := (first | decide | omega)) only [hA, hg1, nwA_open, setFrom, cellsOf, fillA, go_sem]
  cases t
  case' false =>
   have d1 : (if false = true then (0 : Int) else 1) = 1 := rfl
   rw [d1] at hW
   have hb : btZ false = 0 := rfl
   rw [hb] at e7
   have dd : ((1 : Int) != 1) = false := rfl
   have hne : (mm.nu != 8 - btZ false) = false := by rw [e7, hb]; rfl
   simp (disch := (first | decide | omega)) only [hA, hg1, nwA_open, setFrom, cellsOf, fillA, go_sem]
  case' true =>
   have d1 : (if true = true then (0 : Int) else 1) = 0 := rfl
   rw [d1] at hW
   have hb : btZ true = 1 := rfl
   rw [hb] at e7
   have dd : ((0 : Int) != 0) = false := rfl
   have hne : (mm.nu != 8 - btZ true) = false := by rw [e7, hb]; rfl
   simp (disch := (first | decide | omega)) only [hA, hg1, nwA_open, setFrom, cellsOf, fillA, go_sem]
  all_goals
   have z0 : ((0 : Int) != 0) = false := rfl
   simp (disch := (first | decide | omega)) only [hA, hg1, z0, nwA_open, setFrom, cellsOf, fillA, go_sem]
   refine ACalls.nxt (hW _ _) ?_
   simp (disch := (first | decide | omega)) only [hA, hg1, dd, z0, nwA_open, setFrom, cellsOf, fillA, go_sem]
   refine ACalls.nxt (hG _ _) ?_
   simp (disch := (first | decide | omega)) only [hA, hg1, nwA_open, setFrom, cellsOf, fillA, go_sem]
   refine ACalls.nxt (hV _ _) ?_
   simp (disch := (first | decide | omega)) only [hA, hg1, z0, nwA_open, eMs_open, setFrom, cellsOf, fillA, go_sem]
   refine ACalls.nxt (btoi53_spec _ _ _) ?_
   simp (disch := (first | decide | omega)) only [hA, hg1, hne, z0, nwA_open, eMs_open, setFrom, cellsOf, fillA, go_sem]
   refine ⟨i + 1, hlt, by simp only; omega, ?_⟩
   exact Weak.kround (p := r_awake530) (k := 1) (by ((repeat refine (kAny_up rfl).trans ?_); exact hEE1)) (by ((try simp (disch := decide) only [hA, hg1, go_sem]) <;> exact kH)) rfl hE1 (by simp) kV hR kL
 ·obtain rfl : i = 2 := by omega
  have dlt : decide (((2 : Nat) : Int) < ((2 : Nat) : Int)) = false := by simp
  simp (disch := (first | decide | omega)) only [hA, hg1, dlt, go_sem]
  exact leave_pure (xs := [.v (.bool true)]) (.inr rfl) (by simp (disch := (first | decide | omega)) only [resVs, resV, go_sem, hA, hg1]) kO hR hB ⟨rfl, rfl, rfl⟩
theorem nw0_s : NwS nw0 := ⟨by decide, by decide, by decide, fun m hm => by cases hm⟩
theorem sdR_s {n : Nw} (hv : NwV n) {m : Ms} (hm : m.body.length ≤ 1000000) : NwS (sdR n m) := by
 have h1 := hv.l
 have h2 := hv.len
 have h3 := hv.fl
 have h4 := head_ok hv
 have h5 : 0 ≤ copN n ∧ copN n ≤ 3 := h4.1
 have h6 := hv.s.body
 unfold sdR
 split
 ·unfold insN
  refine ⟨?_, ?_, ?_, fun x hx => ?_⟩
  ·simp only [List.length_append, List.length_take, List.length_drop, List.length_replicate]; omega
  ·simp only [List.length_append, List.length_take, List.length_drop, List.length_replicate]; omega
  ·simp only [List.length_drop]; omega
  ·simp only [List.mem_append, List.mem_replicate] at hx
   rcases hx with (hx | hx) | hx
   ·exact h6 x (List.mem_of_mem_take hx)
   ·rw [hx.2]; exact hm
   ·exact h6 x (List.mem_of_mem_drop hx)
 ·exact nw0_s
theorem eqB_refl {α : Type} (a : α) : eqB a a = true := eqB_T rfl
end Go.Proofs.Ytilcmenglgdljaa
namespace Go.Proofs.Ytilcmenglgdljaa
open Go.RowKit
set_option linter.unusedVariables false
theorem trn_i : TR Try.prog 3 1 (fun n : Int => [.int .i64 n]) (fun n => (Lit.int .i64 n).wf = true) := tr_int Try.underlying3
theorem trn_b : TR Try.prog 4 1 (fun n : Bool => [.bool n]) (fun _ => True) := tr_bool Try.underlying4
theorem trn_ints : TR Try.prog 32 1 (fun c : List Int => [.isl 1 (c.map eI)]) (fun c => c.length ≤ maxLen) := (tr_slice trn_i Try.underlying32 (by kernel_rfl) (by decide)).map id (fun _ => rfl) (fun _ h => h.1)
theorem tr_fate : TR Try.prog 90 2 eFt (fun _ => True) :=
 (tr_struct Try.underlying90 (trf_cons trn_i (by kernel_rfl) rfl (trf_cons trn_i (by kernel_rfl) rfl trf_nil))).map (fun y => (y.1, y.2.1)) (fun _ => rfl) (fun _ _ => trivial)
theorem tr_fates : TR Try.prog 57 1 (fun l : List (Int × Int) => [.isl 2 (l.map eFt)]) (fun l => l.length ≤ maxLen) :=
 (tr_slice tr_fate Try.underlying57 (by kernel_rfl) (by decide)).map id (fun _ => rfl) (fun _ h => h.1)
theorem tr_msg : TR Try.prog 61 4 eMs (fun m => m.body.length ≤ maxLen) :=
 (tr_struct Try.underlying61 (trf_cons trn_i (by kernel_rfl) rfl (trf_cons trn_i (by kernel_rfl) rfl (trf_cons trn_i (by kernel_rfl) rfl (trf_cons trn_ints (by kernel_rfl) rfl trf_nil))))).map
  (fun y => ⟨y.1, y.2.1, y.2.2.1, y.2.2.2.1⟩) (fun _ => rfl) (fun _ h => h.2.2.2.1)
theorem tr_msgs : TR Try.prog 56 1 (fun l : List Ms => [.isl 4 (l.map eMs)]) (fun l => l.length ≤ maxLen ∧ ∀ m ∈ l, m.body.length ≤ maxLen) :=
 tr_slice tr_msg Try.underlying56 (by kernel_rfl) (by decide)
theorem tr_net : TR Try.prog 59 5 eNw (fun n => (Lit.int .i64 n.now).wf = true ∧ n.l.length ≤ maxLen ∧ n.tm.length ≤ maxLen ∧ n.fates.length ≤ maxLen) :=
 (tr_struct Try.underlying59 (trf_cons trn_i (by kernel_rfl) rfl (trf_cons trn_b (by kernel_rfl) rfl (trf_cons tr_msgs (by kernel_rfl) rfl (trf_cons trn_ints (by kernel_rfl) rfl (trf_cons tr_fates (by kernel_rfl) rfl trf_nil)))))).map
  (fun y => ⟨y.1, y.2.1, y.2.2.1, y.2.2.2.1, y.2.2.2.2.1⟩) (fun _ => rfl) (fun _ h => ⟨h.1, h.2.2.1.1, h.2.2.2.1, h.2.2.2.2.1⟩)
end Go.Proofs.Ytilcmenglgdljaa
