/- Texts of one proof, laid together: Q6. No condition. -/
import Derived.Test.YtnihdkfmmbpilaaDoorPC21
import Derived.Test.YtnihdkfmmbpilaaDoorPC18
import Derived.Test.YtnihdkfmmbpilaaDoorPC15
namespace Go.Proofs.YtnihdkfmmbpilaaDoor
set_option linter.unusedVariables false
set_option linter.unusedSimpArgs false
attribute [local go_sem ↓] run_skip run_region run_draw run_both run_seq run_block run_exit run_ret run_cond atN_app seqC_normal seqC_exit seqC_ret seqQ_normal seqQ_exit seqQ_ret blkQ_normal blkQ_exit blkQ_ret runOps_nil runOps_cons runD_nil runD_cons grdO_true grdO_false grdD_true grdD_false ifC_true ifC_false opS_val opS_call opS_two opK_app dS_val dS_call dS_two dK_app kUp_same kUp_ne
attribute [local go_sem] rechks_nil rechks_cons rechk gcase_true gcase_false ex_val ex_val0 gd_none gd_some ev_t ev_c evs_nil evs_cons evo_some evo_none hget_at hget_first hsetB_at hsetB_first hsetL_at hsetL_first ofOpt_some aop aload astore aslice aappend aiaddr aiaddrA afaddr alen alenS acopy amm acall alookup amupdate alenM atostr aappz comma keyEq apick binV binVB binVS isSh intOp strOp boolOp shOp eqC eqF and2 cellsOf setFrom fillA fillS rd rdI elems mk bounds AV.cell List.all_cons List.all_nil Bool.and_true Bool.true_and Bool.and_self List.length_cons List.length_nil List.length_append Nat.reduceAdd Nat.reduceSub Nat.reduceMul Nat.zero_add Nat.add_zero List.cons_append List.nil_append List.append_assoc List.append_nil List.getElem?_cons_zero List.getElem?_cons_succ List.getElem?_nil List.set_cons_zero List.set_cons_succ List.drop_zero List.drop_succ_cons List.take_zero List.take_succ_cons List.take_nil List.drop_nil List.map_cons List.map_nil Option.map_some if_true if_false Bool.false_eq_true and_self true_and and_true Nat.reduceLeDiff Nat.reduceLT Nat.le_refl Nat.reduceEqDiff ite_true ite_false beq_self_eq_true beq_true beq_false Bool.not_true Bool.not_false Bool.true_beq Bool.false_beq map_vs vs_len vs_get vs_take vs_drop vs_snoc1 vs_snoc2 vs_snoc3 vs_snoc5 vs_set1 vs_set2 vs_rep wrap_id le_T lt_T le_F lt_F leI_T ltI_T leI_F ltI_F geI gtI get_T decide_true decide_false room List.getElem?_map List.length_map List.length_take Int.toNat_natCast Nat.min_def Nat.min_self nth_kOf put_kOf put_kNo kOv_cons kOv_nil KHas KArgs List.getElem_cons_zero List.getElem_cons_succ
def a_rFitS : AFunc := ⟨3,53,[.tmp 6],(.seq (.region [⟨some 3,.box (.t 0),none⟩,⟨some 6,.mv (.c (.v (.bool false))),none⟩]) (.seq (.seq (.region [⟨some 9,.mv (.t 2),none⟩,⟨some 10,.len (.t 9),none⟩,⟨some 11,.faddr 0 (.t 3),none⟩,⟨some 12,.load none (.t 11),none⟩,⟨some 13,.len (.t 12),none⟩,⟨some 14,.bin .neq (.t 10) (.t 13),none⟩]) (.cond (.t 14) (.seq (.region [⟨some 6,.mv (.c (.v (.bool false))),none⟩]) .ret) .skip)) (.seq (.seq (.region [⟨some 7,.mv (.c (.v (.int .i64 0))),none⟩]) (.block 0 (.loop (.seq (.seq (.region [⟨some 15,.mv (.t 7),none⟩,⟨some 16,.mv (.t 2),none⟩,⟨some 17,.len (.t 16),none⟩,⟨some 18,.bin .lss (.t 15) (.t 17),none⟩]) (.cond (.t 18) .skip (.exit 0))) (.seq (.block 1 (.seq (.seq (.draw [⟨0,⟨some 21,.mv (.t 2),none⟩,[]⟩,⟨1,⟨some 22,.mv (.t 7),none⟩,[]⟩,⟨2,⟨some 23,.iaddr 1 (.t 21) (.t 22),none⟩,[]⟩,⟨3,⟨some 24,.load none (.t 23),none⟩,[]⟩,⟨4,⟨some 25,.len (.t 24),none⟩,[]⟩,⟨5,⟨some 26,.faddr 0 (.t 3),none⟩,[]⟩,⟨6,⟨some 27,.load none (.t 26),none⟩,[]⟩,⟨7,⟨some 28,.mv (.t 7),none⟩,[]⟩,⟨8,⟨some 29,.iaddr 3 (.t 27) (.t 28),none⟩,[]⟩,⟨9,⟨some 30,.faddr 2 (.t 29),none⟩,[]⟩,⟨10,⟨some 31,.load none (.t 30),none⟩,[]⟩,⟨11,⟨some 32,.len (.t 31),none⟩,[]⟩,⟨12,⟨some 33,.bin .neq (.t 25) (.t 32),none⟩,[]⟩]) (.cond (.t 33) (.seq (.region [⟨some 6,.mv (.c (.v (.bool false))),none⟩]) .ret) .skip)) (.seq (.region [⟨some 8,.mv (.c (.v (.int .i64 0))),none⟩]) (.block 2 (.loop (.seq (.seq (.region [⟨some 34,.mv (.t 8),none⟩,⟨some 35,.mv (.t 2),none⟩,⟨some 36,.mv (.t 7),none⟩,⟨some 37,.iaddr 1 (.t 35) (.t 36),none⟩,⟨some 38,.load none (.t 37),none⟩,⟨some 39,.len (.t 38),none⟩,⟨some 40,.bin .lss (.t 34) (.t 39),none⟩]) (.cond (.t 40) .skip (.exit 2))) (.seq (.block 3 (.seq (.region [⟨some 43,.mv (.t 1),none⟩,⟨some 44,.mv (.t 2),none⟩,⟨some 45,.mv (.t 7),none⟩,⟨some 46,.iaddr 1 (.t 44) (.t 45),none⟩,⟨some 47,.load none (.t 46),none⟩,⟨some 48,.mv (.t 8),none⟩,⟨some 49,.iaddr 1 (.t 47) (.t 48),none⟩,⟨some 50,.load none (.t 49),none⟩,⟨some 51,.call (.c (.fn 71 [])) [(.t 43),(.t 50)],none⟩,⟨some 52,.not (.t 51),none⟩]) (.cond (.t 52) (.seq (.region [⟨some 6,.mv (.c (.v (.bool false))),none⟩]) .ret) .skip))) (.region [⟨some 41,.mv (.t 8),none⟩,⟨some 42,.bin .add (.t 41) (.c (.v (.int .i64 1))),none⟩,⟨some 8,.mv (.t 42),none⟩])))))))) (.region [⟨some 19,.mv (.t 7),none⟩,⟨some 20,.bin .add (.t 19) (.c (.v (.int .i64 1))),none⟩,⟨some 7,.mv (.t 20),none⟩])))))) (.seq (.region [⟨some 6,.mv (.c (.v (.bool true))),none⟩]) .ret))))⟩
theorem a_rFitS_ok : cFunc Tryd.prog 25 = some a_rFitS := by kernel_rfl
def r_rFitS0 : List (Nat × Nat) := [(6, 8), (15, 52)]
def r_rFitS1 : List (Nat × Nat) := [(6, 6), (8, 8), (34, 52)]
def a_rck : AFunc := ⟨3,85,[.tmp 6],(.seq (.region [⟨some 3,.box (.t 0),none⟩,⟨some 6,.mv (.c (.v (.bool false))),none⟩]) (.seq (.seq (.region [⟨some 11,.load (some 1) (.t 3),none⟩,⟨some 12,.call (.c (.fn 21 [])) [(.t 11)],none⟩,⟨some 13,.not (.t 12),none⟩,⟨some 14,.mv (.t 13),none⟩,⟨some 15,.mv (.t 1),some (14,false)⟩,⟨some 16,.call (.c (.fn 44 [])) [(.t 15)],some (14,false)⟩,⟨some 17,.not (.t 16),some (14,false)⟩,⟨some 18,.pick (.t 14) (.c (.v (.bool true))) (.t 17),none⟩,⟨some 19,.mv (.t 18),none⟩,⟨some 20,.load (some 1) (.t 3),some (19,false)⟩,⟨some 21,.mv (.t 1),some (19,false)⟩,⟨some 22,.mv (.t 2),some (19,false)⟩,⟨some 23,.call (.c (.fn 25 [])) [(.t 20),(.t 21),(.t 22)],some (19,false)⟩,⟨some 24,.not (.t 23),some (19,false)⟩,⟨some 25,.pick (.t 19) (.c (.v (.bool true))) (.t 24),none⟩]) (.cond (.t 25) (.seq (.region [⟨some 6,.mv (.c (.v (.bool false))),none⟩]) .ret) .skip)) (.seq (.region [⟨some 26,.load (some 1) (.t 3),none⟩,⟨some 27,.call (.c (.fn 20 [])) [(.t 26)],none⟩,⟨some 7,.mv (.t 27),none⟩]) (.seq (.region [⟨some 28,.load (some 1) (.t 3),none⟩,⟨some 29,.call (.c (.fn 45 [])) [(.t 28)],none⟩,⟨some 8,.mv (.t 29),none⟩]) (.seq (.seq (.region [⟨some 9,.mv (.c (.v (.int .i64 0))),none⟩]) (.block 0 (.loop (.seq (.seq (.region [⟨some 30,.mv (.t 9),none⟩,⟨some 31,.mv (.t 7),none⟩,⟨some 32,.len (.t 31),none⟩,⟨some 33,.bin .lss (.t 30) (.t 32),none⟩]) (.cond (.t 33) .skip (.exit 0))) (.seq (.block 1 (.seq (.region [⟨some 10,.mv (.c (.v (.int .i64 0))),none⟩]) (.block 2 (.loop (.seq (.seq (.region [⟨some 36,.mv (.t 10),none⟩,⟨some 37,.mv (.t 7),none⟩,⟨some 38,.len (.t 37),none⟩,⟨some 39,.bin .lss (.t 36) (.t 38),none⟩]) (.cond (.t 39) .skip (.exit 2))) (.seq (.block 3 (.seq (.draw [⟨0,⟨some 42,.mv (.t 8),none⟩,[]⟩,⟨1,⟨some 43,.mv (.t 9),none⟩,[]⟩,⟨2,⟨some 44,.iaddr 1 (.t 42) (.t 43),none⟩,[]⟩,⟨3,⟨some 45,.load none (.t 44),none⟩,[]⟩,⟨4,⟨some 46,.mv (.t 10),none⟩,[]⟩,⟨5,⟨some 47,.iaddr 1 (.t 45) (.t 46),none⟩,[]⟩,⟨6,⟨some 48,.load none (.t 47),none⟩,[]⟩,⟨7,⟨some 49,.mv (.t 48),none⟩,[]⟩,⟨8,⟨some 50,.mv (.t 2),some (49,true)⟩,[]⟩,⟨9,⟨some 51,.mv (.t 7),some (49,true)⟩,[]⟩,⟨10,⟨some 52,.mv (.t 9),some (49,true)⟩,[]⟩,⟨11,⟨some 53,.iaddr 2 (.t 51) (.t 52),some (49,true)⟩,[]⟩,⟨12,⟨some 54,.faddr 0 (.t 53),some (49,true)⟩,[]⟩,⟨13,⟨some 55,.load none (.t 54),some (49,true)⟩,[]⟩,⟨14,⟨some 56,.iaddr 1 (.t 50) (.t 55),some (49,true)⟩,[]⟩,⟨15,⟨some 57,.load none (.t 56),some (49,true)⟩,[]⟩,⟨16,⟨some 58,.mv (.t 7),some (49,true)⟩,[]⟩,⟨17,⟨some 59,.mv (.t 9),some (49,true)⟩,[]⟩,⟨18,⟨some 60,.iaddr 2 (.t 58) (.t 59),some (49,true)⟩,[]⟩,⟨19,⟨some 61,.faddr 1 (.t 60),some (49,true)⟩,[]⟩,⟨20,⟨some 62,.load none (.t 61),some (49,true)⟩,[]⟩,⟨21,⟨some 63,.bin .sub (.t 62) (.c (.v (.int .i64 1))),some (49,true)⟩,[]⟩,⟨22,⟨some 64,.iaddr 1 (.t 57) (.t 63),some (49,true)⟩,[]⟩,⟨23,⟨some 65,.load none (.t 64),some (49,true)⟩,[]⟩,⟨24,⟨some 66,.mv (.t 2),some (49,true)⟩,[]⟩,⟨25,⟨some 67,.mv (.t 7),some (49,true)⟩,[]⟩,⟨26,⟨some 68,.mv (.t 10),some (49,true)⟩,[]⟩,⟨27,⟨some 69,.iaddr 2 (.t 67) (.t 68),some (49,true)⟩,[]⟩,⟨28,⟨some 70,.faddr 0 (.t 69),some (49,true)⟩,[]⟩,⟨29,⟨some 71,.load none (.t 70),some (49,true)⟩,[]⟩,⟨30,⟨some 72,.iaddr 1 (.t 66) (.t 71),some (49,true)⟩,[]⟩,⟨31,⟨some 73,.load none (.t 72),some (49,true)⟩,[]⟩,⟨32,⟨some 74,.mv (.t 7),some (49,true)⟩,[]⟩,⟨33,⟨some 75,.mv (.t 10),some (49,true)⟩,[]⟩,⟨34,⟨some 76,.iaddr 2 (.t 74) (.t 75),some (49,true)⟩,[]⟩,⟨35,⟨some 77,.faddr 1 (.t 76),some (49,true)⟩,[]⟩,⟨36,⟨some 78,.load none (.t 77),some (49,true)⟩,[]⟩,⟨37,⟨some 79,.bin .sub (.t 78) (.c (.v (.int .i64 1))),some (49,true)⟩,[]⟩,⟨38,⟨some 80,.iaddr 1 (.t 73) (.t 79),some (49,true)⟩,[]⟩,⟨39,⟨some 81,.load none (.t 80),some (49,true)⟩,[]⟩,⟨40,⟨some 82,.call (.c (.fn 46 [])) [(.t 65),(.t 81)],some (49,true)⟩,[]⟩,⟨41,⟨some 83,.bin .neq (.t 82) (.c (.v (.int .i64 (-1)))),some (49,true)⟩,[]⟩,⟨42,⟨some 84,.pick (.t 49) (.t 83) (.c (.v (.bool false))),none⟩,[]⟩]) (.cond (.t 84) (.seq (.region [⟨some 6,.mv (.c (.v (.bool false))),none⟩]) .ret) .skip))) (.region [⟨some 40,.mv (.t 10),none⟩,⟨some 41,.bin .add (.t 40) (.c (.v (.int .i64 1))),none⟩,⟨some 10,.mv (.t 41),none⟩]))))))) (.region [⟨some 34,.mv (.t 9),none⟩,⟨some 35,.bin .add (.t 34) (.c (.v (.int .i64 1))),none⟩,⟨some 9,.mv (.t 35),none⟩])))))) (.seq (.region [⟨some 6,.mv (.c (.v (.bool true))),none⟩]) .ret))))))⟩
theorem a_rck_ok : cFunc Tryd.prog 13 = some a_rck := by kernel_rfl
def r_rck0 : List (Nat × Nat) := [(6, 6), (9, 10), (30, 84)]
def r_rck1 : List (Nat × Nat) := [(6, 6), (10, 10), (36, 84)]
def a_pckI : AFunc := ⟨3,93,[.tmp 6],(.seq (.region [⟨some 3,.box (.t 0),none⟩,⟨some 4,.box (.t 1),none⟩,⟨some 6,.mv (.c (.v (.bool false))),none⟩]) (.seq (.seq (.region [⟨some 18,.load (some 1) (.t 3),none⟩,⟨some 19,.load none (.t 4),none⟩,⟨some 20,.call (.c (.fn 37 [])) [(.t 18),(.t 19)],none⟩,⟨some 21,.bin .neq (.t 20) (.c (.v (.int .i64 0))),none⟩,⟨some 22,.mv (.t 21),none⟩,⟨some 23,.mv (.t 2),some (22,false)⟩,⟨some 24,.len (.t 23),some (22,false)⟩,⟨some 25,.faddr 0 (.t 3),some (22,false)⟩,⟨some 26,.load none (.t 25),some (22,false)⟩,⟨some 27,.len (.t 26),some (22,false)⟩,⟨some 28,.bin .neq (.t 24) (.t 27),some (22,false)⟩,⟨some 29,.pick (.t 22) (.c (.v (.bool true))) (.t 28),none⟩]) (.cond (.t 29) (.seq (.region [⟨some 6,.mv (.c (.v (.bool false))),none⟩]) .ret) .skip)) (.seq (.seq (.region [⟨some 30,.mv (.t 2),none⟩,⟨some 31,.len (.t 30),none⟩,⟨some 32,.mv (.c (.v (.int .i64 0))),none⟩]) (.block 0 (.loop (.seq (.region [⟨some 33,.bin .lss (.t 32) (.t 31),none⟩]) (.seq (.cond (.t 33) .skip (.exit 0)) (.seq (.block 1 (.seq (.region [⟨some 34,.mv (.t 32),none⟩,⟨some 35,.iaddr 1 (.t 30) (.t 32),none⟩,⟨some 36,.load none (.t 35),none⟩,⟨some 7,.mv (.t 34),none⟩,⟨some 8,.mv (.t 36),none⟩]) (.seq (.region [⟨some 37,.mv (.t 8),none⟩,⟨some 38,.len (.t 37),none⟩,⟨some 39,.faddr 0 (.t 3),none⟩,⟨some 40,.load none (.t 39),none⟩,⟨some 41,.mv (.t 7),none⟩,⟨some 42,.iaddr 3 (.t 40) (.t 41),none⟩,⟨some 43,.faddr 2 (.t 42),none⟩,⟨some 44,.load none (.t 43),none⟩,⟨some 45,.len (.t 44),none⟩,⟨some 46,.bin .neq (.t 38) (.t 45),none⟩,⟨some 47,.mv (.t 46),none⟩,⟨some 48,.mv (.t 8),some (47,false)⟩,⟨some 49,.mkfn 38 [(.t 4)],some (47,false)⟩,⟨some 50,.call (.c (.fn 10 [])) [(.t 48),(.t 49)],some (47,false)⟩,⟨some 51,.pick (.t 47) (.c (.v (.bool true))) (.t 50),none⟩]) (.cond (.t 51) (.seq (.region [⟨some 6,.mv (.c (.v (.bool false))),none⟩]) .ret) .skip)))) (.region [⟨some 52,.bin .add (.t 32) (.c (.v (.int .i64 1))),none⟩,⟨some 32,.mv (.t 52),none⟩]))))))) (.seq (.region [⟨some 54,.load (some 1) (.t 3),none⟩,⟨some 55,.call (.c (.fn 40 [])) [(.t 54)],none⟩,⟨some 53,.mv (.t 55),none⟩,⟨some 56,.extract 0 (.t 53),none⟩,⟨some 57,.extract 1 (.t 53),none⟩,⟨some 9,.alloc [(.v .zsl)],none⟩,⟨none,.store 1 (.t 9) (.t 56),none⟩,⟨some 10,.mv (.t 57),none⟩]) (.seq (.region [⟨some 58,.mv (.t 2),none⟩,⟨some 59,.call (.c (.fn 41 [])) [(.t 58)],none⟩,⟨some 11,.mv (.t 59),none⟩]) (.seq (.seq (.region [⟨some 60,.faddr 0 (.t 9),none⟩,⟨some 61,.load none (.t 60),none⟩,⟨some 62,.len (.t 61),none⟩,⟨some 63,.mv (.c (.v (.int .i64 0))),none⟩]) (.block 2 (.loop (.seq (.region [⟨some 64,.bin .lss (.t 63) (.t 62),none⟩]) (.seq (.cond (.t 64) .skip (.exit 2)) (.seq (.block 3 (.seq (.region [⟨some 65,.mv (.t 63),none⟩,⟨some 66,.iaddr 2 (.t 61) (.t 63),none⟩,⟨some 67,.load (some 2) (.t 66),none⟩,⟨some 13,.alloc [(.v (.int .i64 0)),(.v .zsl)],none⟩,⟨some 12,.mv (.t 65),none⟩,⟨none,.store 2 (.t 13) (.t 67),none⟩]) (.seq (.region [⟨some 69,.load (some 2) (.t 13),none⟩,⟨some 70,.call (.c (.fn 42 [])) [(.t 69)],none⟩,⟨some 68,.mv (.t 70),none⟩,⟨some 71,.extract 0 (.t 68),none⟩,⟨some 72,.extract 1 (.t 68),none⟩,⟨some 14,.mv (.t 71),none⟩,⟨some 15,.mv (.t 72),none⟩]) (.seq (.region [⟨some 73,.mv (.t 14),none⟩,⟨some 74,.len (.t 73),none⟩,⟨some 75,.mv (.c (.v (.int .i64 0))),none⟩]) (.block 4 (.loop (.seq (.region [⟨some 76,.bin .lss (.t 75) (.t 74),none⟩]) (.seq (.cond (.t 76) .skip (.exit 4)) (.seq (.block 5 (.seq (.region [⟨some 77,.iaddr 1 (.t 73) (.t 75),none⟩,⟨some 78,.load none (.t 77),none⟩,⟨some 17,.mv (.t 78),none⟩]) (.seq (.draw [⟨0,⟨some 79,.mv (.t 11),none⟩,[]⟩,⟨1,⟨some 80,.mv (.t 12),none⟩,[]⟩,⟨2,⟨some 81,.iaddr 3 (.t 79) (.t 80),none⟩,[]⟩,⟨3,⟨some 82,.faddr 2 (.t 81),none⟩,[]⟩,⟨4,⟨some 83,.load none (.t 82),none⟩,[]⟩,⟨5,⟨some 84,.mv (.t 11),none⟩,[]⟩,⟨6,⟨some 85,.mv (.t 17),none⟩,[]⟩,⟨7,⟨some 86,.iaddr 3 (.t 84) (.t 85),none⟩,[]⟩,⟨8,⟨some 87,.faddr 2 (.t 86),none⟩,[]⟩,⟨9,⟨some 88,.load none (.t 87),none⟩,[]⟩,⟨10,⟨some 89,.call (.c (.fn 43 [])) [(.t 83),(.t 88)],none⟩,[]⟩,⟨11,⟨some 90,.bin .neq (.t 89) (.c (.v (.int .i64 (-1)))),none⟩,[]⟩]) (.cond (.t 90) (.seq (.region [⟨some 6,.mv (.c (.v (.bool false))),none⟩]) .ret) .skip)))) (.region [⟨some 91,.bin .add (.t 75) (.c (.v (.int .i64 1))),none⟩,⟨some 75,.mv (.t 91),none⟩])))))))))) (.region [⟨some 92,.bin .add (.t 63) (.c (.v (.int .i64 1))),none⟩,⟨some 63,.mv (.t 92),none⟩]))))))) (.seq (.region [⟨some 6,.mv (.c (.v (.bool true))),none⟩]) .ret)))))))⟩
theorem a_pckI_ok : cFunc Tryd.prog 12 = some a_pckI := by kernel_rfl
def r_pckI0 : List (Nat × Nat) := [(6, 8), (32, 52)]
def r_pckI1 : List (Nat × Nat) := [(6, 6), (12, 15), (17, 17), (63, 92)]
def r_pckI2 : List (Nat × Nat) := [(6, 6), (17, 17), (75, 91)]
def a_PChecks : AFunc := ⟨3,33,[.tmp 6],(.seq (.region [⟨some 3,.box (.t 0),none⟩,⟨some 6,.mv (.c (.v (.bool false))),none⟩]) (.seq (.seq (.region [⟨some 7,.call (.c (.fn 6 [])) [],none⟩,⟨some 8,.not (.t 7),none⟩,⟨some 9,.mv (.t 8),none⟩,⟨some 10,.load (some 1) (.t 3),some (9,false)⟩,⟨some 11,.call (.c (.fn 7 [])) [(.t 10)],some (9,false)⟩,⟨some 12,.not (.t 11),some (9,false)⟩,⟨some 13,.pick (.t 9) (.c (.v (.bool true))) (.t 12),none⟩,⟨some 14,.mv (.t 13),none⟩,⟨some 15,.mv (.t 2),some (14,false)⟩,⟨some 16,.len (.t 15),some (14,false)⟩,⟨some 17,.bin .gtr (.t 16) (.c (.v (.int .i64 12))),some (14,false)⟩,⟨some 18,.pick (.t 14) (.c (.v (.bool true))) (.t 17),none⟩,⟨some 19,.mv (.t 18),none⟩,⟨some 20,.mv (.t 2),some (19,false)⟩,⟨some 21,.call (.c (.fn 8 [])) [(.t 20),(.c (.fn 9 []))],some (19,false)⟩,⟨some 22,.pick (.t 19) (.c (.v (.bool true))) (.t 21),none⟩]) (.cond (.t 22) (.seq (.region [⟨some 23,.call (.c (.fn 6 [])) [],none⟩,⟨some 6,.mv (.t 23),none⟩]) .ret) .skip)) (.seq (.draw [⟨0,⟨some 24,.load (some 1) (.t 3),none⟩,[]⟩,⟨1,⟨some 25,.mv (.t 1),none⟩,[]⟩,⟨2,⟨some 26,.mv (.t 2),none⟩,[]⟩,⟨4,⟨some 28,.load (some 1) (.t 3),none⟩,[]⟩,⟨5,⟨some 29,.mv (.t 1),none⟩,[]⟩,⟨6,⟨some 30,.mv (.t 2),none⟩,[]⟩,⟨3,⟨some 27,.call (.c (.fn 12 [])) [(.t 24),(.t 25),(.t 26)],none⟩,[⟨some 28,.load (some 1) (.t 3),none⟩,⟨some 29,.mv (.t 1),none⟩,⟨some 30,.mv (.t 2),none⟩]⟩,⟨7,⟨some 31,.call (.c (.fn 13 [])) [(.t 28),(.t 29),(.t 30)],none⟩,[]⟩,⟨8,⟨some 32,.binB .eql (.t 27) (.t 31),none⟩,[]⟩,⟨9,⟨some 6,.mv (.t 32),none⟩,[]⟩]) .ret)))⟩
theorem a_PChecks_ok : cFunc Tryd.prog 3 = some a_PChecks := by kernel_rfl

theorem rFitS_spec (t : Tr) (hS : Small t) (k : Nat) (hk8 : k ≤ 8) (S : List (List (List Int))) (hSl : S.length ≤ 1000000 ∧ ∀ r ∈ S, r.length ≤ 1000000 ∧ ∀ v ∈ r, v.length ≤ 1000000) (b l : List Row) :
  ACalls Tryd.prog 25 [.agg [.v (eT t)], .v (.int .i64 k), .v (.isl 1 (S.map eMq))] b l (fun r b' l' => r = .v (.bool (fitB t k S)) ∧ b' = b ∧ l' = l) := by
 refine calls_kept a_rFitS_ok rfl (by decide) ?_
 intro B g hB hR hE hA
 simp only [KArgs] at hA
 have hnp := hS.np
 by_cases hlS : S.length = t.length
 case neg =>
  have hd : ((S.length : Int) != (t.length : Int)) = true := by simp; omega
  have hf : fitB t k S = false := by unfold fitB; rw [decide_eq_false hlS]; rfl
  simp (disch := (first | decide | omega)) only [a_rFitS, hA, eT, List.length_map, hd, go_sem]
  exact leave_pure (xs := [.v (.bool false)]) (.inr rfl) (by simp (disch := (first | decide | omega)) only [resVs, resV, go_sem, hA]) kO hR hB ⟨by rw [hf]; rfl, rfl, rfl⟩
 have hd : ((S.length : Int) != (t.length : Int)) = false := by simp [hlS]
 simp (disch := (first | decide | omega)) only [a_rFitS, hA, eT, List.length_map, hd, go_sem]
 refine loop_kept (ι := Nat) r_rFitS0 (fun p => [(7, .v (.int .i64 p))]) 1 (fun _ => [.live 0 1 [[.v (.isl 3 (t.map ePr))]]])
  (fun p => p ≤ S.length ∧ ∀ q, q < p → okR t k S q = true) (fun p => S.length - p) 0 ⟨Nat.zero_le _, fun q hq => by omega⟩ (by (repeat (first | exact hE.mono oM | refine KLt.up ?_ kL))) (by ((try simp (disch := decide) only [hA, go_sem]) <;> exact kH)) (fun e => Weak.refl _ _ _) ?_
 rintro g1 hE1 hEE1 hg1 p ⟨hp, hpq⟩
 by_cases hpl : p < S.length
 ·have hpt : p < t.length := by omega
  have heo := evsOf_lt hpt
  have hne := hS.ne _ (List.getElem_mem hpt)
  have hgp : (S.map eMq)[p]? = some [.isl 1 (S[p].map eRw)] := by rw [List.getElem?_map, List.getElem?_eq_getElem hpl]; rfl
  have hrS := hSl.2 _ (List.getElem_mem hpl)
  by_cases hrow : S[p].length = t[p].evs.length
  case neg =>
   have hdr : ((S[p].length : Int) != (t[p].evs.length : Int)) = true := by simp; omega
   have hf : fitB t k S = false := by
    rw [Bool.eq_false_iff]
    intro h
    have := (fitB_sh h).1.2 p hpt
    rw [getD_at hpl, heo] at this
    exact hrow this
   simp (disch := (first | decide | omega)) only [hA, hg1, ePr, hgp, hdr, List.length_map, go_sem]
   exact leave_pure (xs := [.v (.bool false)]) (.inr rfl) (by simp (disch := (first | decide | omega)) only [resVs, resV, go_sem, hA, hg1]) kO hR hB ⟨by rw [hf]; rfl, rfl, rfl⟩
  have hdr : ((S[p].length : Int) != (t[p].evs.length : Int)) = false := by simp [hrow]
  simp (disch := (first | decide | omega)) only [hA, hg1, ePr, hgp, hdr, List.length_map, go_sem]
  refine loop_kept (ι := Nat) r_rFitS1 (fun i => [(8, .v (.int .i64 i))]) 1 (fun _ => [.live 0 1 [[.v (.isl 3 (t.map ePr))]]])
   (fun i => i ≤ S[p].length ∧ ∀ j, j < i → okV k (S[p].getD j []) = true) (fun i => S[p].length - i) 0 ⟨Nat.zero_le _, fun q hq => by omega⟩ (by (repeat (first | exact hE1.mono oM | refine KLt.up ?_ kL))) (by ((try simp (disch := decide) only [hA, hg1, go_sem]) <;> exact kH)) (fun e => Weak.refl _ _ _) ?_
  rintro g2 hE2 hEE2 hg2 i ⟨hi, hij⟩
  by_cases hil : i < S[p].length
  ·have hvl := hrS.2 _ (List.getElem_mem hil)
   have hgi : (S[p].map eRw)[i]? = some [.isl 1 (S[p][i].map eI)] := by rw [List.getElem?_map, List.getElem?_eq_getElem hil]; rfl
   have hst := fun b l => rStamp18_spec k S[p][i] oM hvl b l
   change ∀ b l, ACalls _ _ _ _ _ (fun r b' l' => r = AV.v (.bool (okV k S[p][i])) ∧ b' = b ∧ l' = l) at hst
   cases hok : okV k S[p][i] with
   | true =>
     rw [hok] at hst
     simp (disch := (first | decide | omega)) only [hA, hg1, hg2, hgp, hgi, List.length_map, go_sem]
     refine ACalls.nxt (hst _ _) ?_
     simp (disch := (first | decide | omega)) only [hA, hg1, hg2, go_sem]
     refine ⟨i + 1, ⟨hil, fun q hq => ?_⟩, by simp only; omega, ?_⟩
     ·rcases Nat.lt_or_ge q i with h | h
      ·exact hij q h
      ·have : q = i := by omega
       rw [this, getD_at hil]; exact hok
     exact Weak.kround (p := r_rFitS1) (k := 1) (by ((repeat refine (kAny_up rfl).trans ?_); exact hEE2)) (by ((try simp (disch := decide) only [hA, go_sem]) <;> exact kH)) rfl hE2 (by simp) kV hR kL
   | false =>
     rw [hok] at hst
     have hf : fitB t k S = false := by
      rw [Bool.eq_false_iff]
      intro h
      have := (fitB_sh h).2 (p, i + 1) (mem_ids2.2 ⟨hpt, by rw [heo]; omega⟩)
      have e : cuB S (p, i + 1) = S[p][i] := by unfold cuB; rw [getD_at hpl]; exact getD_at hil
      rw [e, hok] at this
      cases this
     simp (disch := (first | decide | omega)) only [hA, hg1, hg2, hgp, hgi, List.length_map, go_sem]
     refine ACalls.nxt (hst _ _) ?_
     simp (disch := (first | decide | omega)) only [hA, hg1, hg2, go_sem]
     exact leave_pure (xs := [.v (.bool false)]) (.inr rfl) (by simp (disch := (first | decide | omega)) only [resVs, resV, go_sem, hA, hg1, hg2]) kO hR hB ⟨by rw [hf]; rfl, rfl, rfl⟩
  ·obtain rfl : i = S[p].length := by omega
   have hok : okR t k S p = true := by
    unfold okR
    rw [getD_at hpl, heo, decide_eq_true hrow, Bool.true_and, List.all_eq_true]
    exact fun q hq => hij q (List.mem_range.1 hq)
   simp (disch := (first | decide | omega)) only [hA, hg1, hg2, hgp, List.length_map, go_sem]
   refine ⟨p + 1, ⟨hpl, fun q hq => ?_⟩, by simp only; omega, ?_⟩
   ·rcases Nat.lt_or_ge q p with h | h
    ·exact hpq q h
    ·have : q = p := by omega
     rw [this]; exact hok
   exact Weak.kround (p := r_rFitS0) (k := 1) (by ((repeat refine (kAny_up rfl).trans ?_); refine (kAny_sub hg2 (kIn_sub rfl)).trans ?_; (repeat refine (kAny_up rfl).trans ?_); exact hEE1)) (by ((try simp (disch := decide) only [hA, hg1, go_sem]) <;> exact kH)) rfl hE1 (by simp) kV hR kL
 ·obtain rfl : p = S.length := by omega
  have hfit : fitB t k S = true := by
   unfold fitB
   rw [decide_eq_true hlS, Bool.true_and, List.all_eq_true]
   exact fun q hq => hpq q (List.mem_range.1 hq)
  simp (disch := (first | decide | omega)) only [hA, hg1, List.length_map, go_sem]
  exact leave_pure (xs := [.v (.bool true)]) (.inr rfl) (by simp (disch := (first | decide | omega)) only [resVs, resV, go_sem, hA, hg1]) kO hR hB ⟨by rw [hfit]; rfl, rfl, rfl⟩
theorem keep_false2 {t : Tr} {S : List (List (List Int))} {i j : Nat} (hi : i < (ids t).length) (hj : j < (ids t).length) (h : kpB t S i j = false) : keepB t S = false := by
 rw [Bool.eq_false_iff]
 intro hk
 unfold keepB at hk
 rw [List.all_eq_true] at hk
 have h3 := List.all_eq_true.1 (hk i (List.mem_range.2 hi)) j (List.mem_range.2 hj)
 rw [h] at h3
 cases h3
set_option maxRecDepth 20000 in
set_option maxHeartbeats 8000000 in
theorem rcheck_spec (t : Tr) (hS : Small t) (hN : Nm t) (hC : validL t = true → (ids t).length ≤ 512) (k : Int) (S : List (List (List Int))) (hSl : S.length ≤ 1000000 ∧ ∀ r ∈ S, r.length ≤ 1000000 ∧ ∀ v ∈ r, v.length ≤ 1000000) (b l : List Row) :
  ACalls Tryd.prog 13 [.agg [.v (eT t)], .v (.int .i64 k), .v (.isl 1 (S.map eMq))] b l (fun r b' l' => r = .v (.bool (chkB t k S)) ∧ b' = b ∧ l' = l) := by
 refine calls_kept a_rck_ok rfl (by decide) ?_
 intro B g hB hR hE hA
 simp only [KArgs] at hA
 have hva := fun b l => rvalid_specS t hS.sm hN b l
 cases hval : validL t with
 | false =>
   rw [hval] at hva
   have hc : chkB t k S = false := by unfold chkB; rw [hval]; rfl
   simp (disch := (first | decide | omega)) only [a_rck, hA, go_sem]
   refine ACalls.nxt (hva _ _) ?_
   simp (disch := (first | decide | omega)) only [hA, go_sem]
   exact leave_pure (xs := [.v (.bool false)]) (.inr rfl) (by simp (disch := (first | decide | omega)) only [resVs, resV, go_sem, hA]) kO hR hB ⟨by rw [hc]; rfl, rfl, rfl⟩
 | true =>
   rw [hval] at hva
   have hsz := fun b l => rSize18_spec k b l
   by_cases hk : 1 ≤ k ∧ k ≤ 8
   case neg =>
    rw [decide_eq_false hk] at hsz
    have hc : chkB t k S = false := by unfold chkB; rw [hval, decide_eq_false hk]; rfl
    simp (disch := (first | decide | omega)) only [a_rck, hA, go_sem]
    refine ACalls.nxt (hva _ _) ?_
    simp (disch := (first | decide | omega)) only [hA, go_sem]
    refine ACalls.nxt (hsz _ _) ?_
    simp (disch := (first | decide | omega)) only [hA, go_sem]
    exact leave_pure (xs := [.v (.bool false)]) (.inr rfl) (by simp (disch := (first | decide | omega)) only [resVs, resV, go_sem, hA]) kO hR hB ⟨by rw [hc]; rfl, rfl, rfl⟩
   rw [decide_eq_true hk] at hsz
   have hchk : chkB t k S = (fitB t k.toNat S && keepB t S) := by
    unfold chkB
    rw [hval, decide_eq_true hk]
    rfl
   obtain ⟨k, rfl⟩ : ∃ n : Nat, k = n := ⟨k.toNat, by omega⟩
   rw [Int.toNat_natCast] at hchk
   rw [hchk]
   have hC := hC hval
   have hv := vok hval
   have hfi := fun b l => rFitS_spec t hS k oM S hSl b l
   cases hfit : fitB t k S with
   | false =>
     rw [hfit] at hfi
     simp (disch := (first | decide | omega)) only [a_rck, hA, go_sem]
     refine ACalls.nxt (hva _ _) ?_
     simp (disch := (first | decide | omega)) only [hA, go_sem]
     refine ACalls.nxt (hsz _ _) ?_
     simp (disch := (first | decide | omega)) only [hA, go_sem]
     refine ACalls.nxt (hfi _ _) ?_
     simp (disch := (first | decide | omega)) only [hA, go_sem]
     exact leave_pure (xs := [.v (.bool false)]) (.inr rfl) (by simp (disch := (first | decide | omega)) only [resVs, resV, go_sem, hA]) kO hR hB ⟨rfl, rfl, rfl⟩
   | true =>
     rw [hfit] at hfi
     obtain ⟨hsh, hok⟩ := fitB_sh hfit
     have hev := fun b l => rEv18_spec t hS oM b l
     have hor := fun b l => rOrd18_spec t hv hS hN oM b l
     have hgE : ∀ i, i < (ids t).length → ((ids t).map eId)[i]? = some [.int .i64 (idN t i).1, .int .i64 (idN t i).2] := fun i hi => by
      rw [List.getElem?_map, List.getElem?_eq_getElem hi]
      unfold idN
      rw [getD_at hi]; rfl
     have hgH : ∀ i, i < (ids t).length → (hbV t)[i]? = some [.isl 1 (bR (ids t).length (hpB t i))] := fun i hi => fl_get hi
     have hHl : (hbV t).length = (ids t).length := fl_len
     obtain ⟨EV, hEV⟩ : ∃ EV, (ids t).map eId = EV := ⟨_, rfl⟩
     have hEl : EV.length = (ids t).length := by rw [← hEV, List.length_map]
     obtain ⟨HV, hHV⟩ : ∃ HV, hbV t = HV := ⟨_, rfl⟩
     rw [hEV] at hev hgE
     rw [hHV] at hor hgH hHl
     have hst : ∀ i, i < (ids t).length → ∃ p q, idN t i = (p, q + 1) ∧ p ≤ 1000000 ∧ q ≤ 1000000 ∧ (S.map eMq)[p]? = some [.isl 1 ((S.getD p []).map eRw)] ∧ ((S.getD p []).map eRw)[q]? = some [.isl 1 ((cuB S (idN t i)).map eI)] ∧ (cuB S (idN t i)).length = k ∧ p < S.length ∧ q < (S.getD p []).length := fun i hi => by
      have hx : idN t i ∈ ids t := by unfold idN; rw [getD_at hi]; exact List.getElem_mem hi
      obtain ⟨⟨p, q⟩, hpq⟩ : ∃ y, idN t i = y := ⟨_, rfl⟩
      rw [hpq] at hx ⊢
      obtain ⟨q, rfl⟩ : ∃ j, q = j + 1 := ⟨q - 1, by have := mem_pos hx; simp only at this; omega⟩
      obtain ⟨hp, hq⟩ := mem_ids2.1 hx
      have h1 : p < S.length := by rw [hsh.1]; exact hp
      have h2 : q < (S.getD p []).length := by rw [hsh.2 p hp]; exact hq
      have h3 : (S.getD p []).length ≤ 1000000 := by rw [getD_at h1]; exact (hSl.2 _ (List.getElem_mem h1)).1
      refine ⟨p, q, rfl, by omega, by omega, by rw [List.getElem?_map, List.getElem?_eq_getElem h1, getD_at h1]; rfl, ?_, okV_len (hok _ hx), h1, h2⟩
      rw [List.getElem?_map, List.getElem?_eq_getElem h2]
      unfold cuB
      rw [getD_at (show q + 1 - 1 < (S.getD p []).length from h2)]; rfl
     simp (disch := (first | decide | omega)) only [a_rck, hA, go_sem]
     refine ACalls.nxt (hva _ _) ?_
     simp (disch := (first | decide | omega)) only [hA, go_sem]
     refine ACalls.nxt (hsz _ _) ?_
     simp (disch := (first | decide | omega)) only [hA, go_sem]
     refine ACalls.nxt (hfi _ _) ?_
     simp (disch := (first | decide | omega)) only [hA, go_sem]
     refine ACalls.nxt (hev _ _) ?_
     simp (disch := (first | decide | omega)) only [hA, go_sem]
     refine ACalls.nxt (hor _ _) ?_
     simp (disch := (first | decide | omega)) only [hA, go_sem]
     refine loop_kept (ι := Nat) r_rck0 (fun i => [(9, .v (.int .i64 i))]) 1 (fun _ => [.live 0 1 [[.v (eT t)]]])
      (fun i => i ≤ (ids t).length ∧ ∀ a, a < i → ∀ j, j < (ids t).length → kpB t S a j = true) (fun i => (ids t).length - i) 0 ⟨Nat.zero_le _, fun a ha => by omega⟩ (by (repeat (first | exact hE.mono oM | refine KLt.up ?_ kL))) (by ((try simp (disch := decide) only [hA, go_sem]) <;> exact kH)) (fun e => Weak.refl _ _ _) ?_
     rintro g1 hE1 hEE1 hg1 i ⟨hi, hia⟩
     by_cases hil : i < (ids t).length
     ·obtain ⟨p, q, h1, h1a, h1b, h2, h3, h4, h5, h6⟩ := hst i hil
      have gi := hgE i hil
      have gh := hgH i hil
      rw [h1] at gi
      have qq : ((q + 1 : Nat) : Int) - 1 = (q : Int) := by omega
      have hbl : (bR (ids t).length (hpB t i)).length = (ids t).length := bR_len
      simp (disch := (first | decide | omega)) only [hA, hg1, hEl, go_sem]
      refine loop_kept (ι := Nat) r_rck1 (fun j => [(10, .v (.int .i64 j))]) 1 (fun _ => [.live 0 1 [[.v (eT t)]]])
       (fun j => j ≤ (ids t).length ∧ ∀ a, a < j → kpB t S i a = true) (fun j => (ids t).length - j) 0 ⟨Nat.zero_le _, fun a ha => by omega⟩ (by (repeat (first | exact hE1.mono oM | refine KLt.up ?_ kL))) (by ((try simp (disch := decide) only [hA, hg1, go_sem]) <;> exact kH)) (fun e => Weak.refl _ _ _) ?_
      rintro g2 hE2 hEE2 hg2 j ⟨hj, hja⟩
      by_cases hjl : j < (ids t).length
      ·obtain ⟨p', q', k1, k1a, k1b, k2, k3, k4, k5, k6⟩ := hst j hjl
       have gj := hgE j hjl
       rw [k1] at gj
       have qq' : ((q' + 1 : Nat) : Int) - 1 = (q' : Int) := by omega
       have gb := bR_get (n := (ids t).length) (f := hpB t i) hjl
       have goOn : ∀ (e : kpB t S i j = true), j + 1 ≤ (ids t).length ∧ ∀ a, a < j + 1 → kpB t S i a = true := fun e => ⟨hjl, fun a ha => by
        rcases Nat.lt_or_ge a j with h | h
        ·exact hja a h
        ·have : a = j := by omega
         rw [this]; exact e⟩
       cases hb : hpB t i j with
       | false =>
         rw [hb] at gb
         have hkp : kpB t S i j = true := by unfold kpB; rw [hb]; rfl
         simp (disch := (first | decide | omega)) only [hA, hg1, hg2, hEl, hHl, gh, gb, hbl, go_sem]
         refine ⟨j + 1, goOn hkp, by simp only; omega, ?_⟩
         exact Weak.kround (p := r_rck1) (k := 1) (by ((repeat refine (kAny_up rfl).trans ?_); exact hEE2)) (by ((try simp (disch := decide) only [hA, go_sem]) <;> exact kH)) rfl hE2 (by simp) kV hR kL
       | true =>
         rw [hb] at gb
         have hcmp := fun b l => rCompare18_spec (cuB S (idN t i)) (cuB S (idN t j)) oM oM b l
         obtain ⟨z, hz⟩ : ∃ z, cmpV (cuB S (idN t i)) (cuB S (idN t j)) = z := ⟨_, rfl⟩
         rw [hz] at hcmp
         by_cases hzz : z = -1
         ·have hbz : (z != -1) = false := by simp [hzz]
          have hkp : kpB t S i j = true := by unfold kpB; rw [hb, hz, hzz]; rfl
          simp (disch := (first | decide | omega)) only [hA, hg1, hg2, hEl, hHl, gh, gb, hbl, gi, gj, qq, qq', h2, h3, k2, k3, List.length_map, go_sem]
          refine ACalls.nxt (hcmp _ _) ?_
          simp (disch := (first | decide | omega)) only [hA, hg1, hg2, hbz, go_sem]
          refine ⟨j + 1, goOn hkp, by simp only; omega, ?_⟩
          exact Weak.kround (p := r_rck1) (k := 1) (by ((repeat refine (kAny_up rfl).trans ?_); exact hEE2)) (by ((try simp (disch := decide) only [hA, go_sem]) <;> exact kH)) rfl hE2 (by simp) kV hR kL
         ·have hbz : (z != -1) = true := by simpa using hzz
          have hkp : kpB t S i j = false := by unfold kpB; rw [hb, hz, decide_eq_false hzz]; rfl
          have hf := keep_false2 hil hjl hkp
          simp (disch := (first | decide | omega)) only [hA, hg1, hg2, hEl, hHl, gh, gb, hbl, gi, gj, qq, qq', h2, h3, k2, k3, List.length_map, go_sem]
          refine ACalls.nxt (hcmp _ _) ?_
          simp (disch := (first | decide | omega)) only [hA, hg1, hg2, hbz, go_sem]
          exact leave_pure (xs := [.v (.bool false)]) (.inr rfl) (by simp (disch := (first | decide | omega)) only [resVs, resV, go_sem, hA, hg1, hg2]) kO hR hB ⟨by rw [hf]; rfl, rfl, rfl⟩
      ·obtain rfl : j = (ids t).length := by omega
       simp (disch := (first | decide | omega)) only [hA, hg1, hg2, hEl, go_sem]
       refine ⟨i + 1, ⟨hil, fun a ha => ?_⟩, by simp only; omega, ?_⟩
       ·rcases Nat.lt_or_ge a i with h | h
        ·exact hia a h
        ·have : a = i := by omega
         rw [this]; exact hja
       exact Weak.kround (p := r_rck0) (k := 1) (by ((repeat refine (kAny_up rfl).trans ?_); refine (kAny_sub hg2 (kIn_sub rfl)).trans ?_; (repeat refine (kAny_up rfl).trans ?_); exact hEE1)) (by ((try simp (disch := decide) only [hA, hg1, go_sem]) <;> exact kH)) rfl hE1 (by simp) kV hR kL
     ·obtain rfl : i = (ids t).length := by omega
      have hk : keepB t S = true := by
       unfold keepB
       rw [List.all_eq_true]
       intro a ha
       rw [List.all_eq_true]
       exact fun j hj => hia a (List.mem_range.1 ha) j (List.mem_range.1 hj)
      simp (disch := (first | decide | omega)) only [hA, hg1, hEl, go_sem]
      exact leave_pure (xs := [.v (.bool true)]) (.inr rfl) (by simp (disch := (first | decide | omega)) only [resVs, resV, go_sem, hA, hg1]) kO hR hB ⟨by rw [hk]; rfl, rfl, rfl⟩
theorem pcheck_inv (t : Tr) (hS : Sm t) (hN : Nm t) (hval : validL t = false) (k : Int) (y : IV) (b l : List Row) :
  ACalls Tryd.prog 12 [.agg [.v (eT t)], .v (.int .i64 k), .v y] b l (fun r b' l' => r = .v (.bool false) ∧ b' = b ∧ l' = l) := by
 refine calls_kept a_pckI_ok rfl (by decide) ?_
 intro B g hB hR hE hA
 simp only [KArgs] at hA
 have hn0 : ((1 : Int) != 0) = true := rfl
 simp (disch := (first | decide | omega)) only [a_pckI, hA, go_sem]
 refine ACalls.nxt (pgiven_inv t hS hN hval k _ _) ?_
 simp (disch := (first | decide | omega)) only [hA, hn0, go_sem]
 exact leave_pure (xs := [.v (.bool false)]) (.inr rfl) (by simp (disch := (first | decide | omega)) only [resVs, resV, go_sem, hA]) kO hR hB ⟨rfl, rfl, rfl⟩
theorem rcheck_inv (t : Tr) (hS : Sm t) (hN : Nm t) (hval : validL t = false) (k : Int) (y : IV) (b l : List Row) :
  ACalls Tryd.prog 13 [.agg [.v (eT t)], .v (.int .i64 k), .v y] b l (fun r b' l' => r = .v (.bool false) ∧ b' = b ∧ l' = l) := by
 refine calls_kept a_rck_ok rfl (by decide) ?_
 intro B g hB hR hE hA
 simp only [KArgs] at hA
 have hva := fun b l => rvalid_specS t hS hN b l
 rw [hval] at hva
 simp (disch := (first | decide | omega)) only [a_rck, hA, go_sem]
 refine ACalls.nxt (hva _ _) ?_
 simp (disch := (first | decide | omega)) only [hA, go_sem]
 exact leave_pure (xs := [.v (.bool false)]) (.inr rfl) (by simp (disch := (first | decide | omega)) only [resVs, resV, go_sem, hA]) kO hR hB ⟨rfl, rfl, rfl⟩
set_option maxRecDepth 20000 in
set_option maxHeartbeats 8000000 in
theorem plausibleChecks_run (t : Tr) (k : Int) (S : List (List (List Int))) (hT : t.length ≤ 9223372036854775807) (hM : ∀ x ∈ t, x.evs.length ≤ 9223372036854775807) (hN : Nm t) (b l : List Row) :
  ACalls Tryd.prog 3 [.agg [.v (eT t)], .v (.int .i64 k), .v (.isl 1 (S.map eMq))] b l (fun r b' l' => r = .v (.bool true) ∧ b' = b ∧ l' = l) := by
 refine calls_kept a_PChecks_ok rfl (by decide) ?_
 intro B g hB hR hE hA
 simp only [KArgs] at hA
 have haw := fun b l => awake18_spec b l
 have out : ∀ (z : Bool), (z == z) = true := fun z => by cases z <;> rfl
 simp (disch := (first | decide | omega)) only [a_PChecks, hA, go_sem]
 refine ACalls.nxt (haw _ _) ?_
 simp (disch := (first | decide | omega)) only [hA, go_sem]
 refine ACalls.nxt (few18W_spec t hT hM _ _) ?_
 cases hf : few18W t with
 | false =>
   simp (disch := (first | decide | omega)) only [hA, go_sem]
   refine ACalls.nxt (haw _ _) ?_
   simp (disch := (first | decide | omega)) only [hA, go_sem]
   exact leave_pure (xs := [.v (.bool true)]) (.inr rfl) (by simp (disch := (first | decide | omega)) only [resVs, resV, go_sem, hA]) kO hR hB ⟨rfl, rfl, rfl⟩
 | true =>
   by_cases h12 : 12 < S.length
   ·have hd : decide ((S.length : Int) > 12) = true := decide_eq_true oM
    have hd' : decide ((12 : Int) < (S.length : Int)) = true := hd
    simp (disch := (first | decide | omega)) only [hA, hd, hd', List.length_map, go_sem]
    refine ACalls.nxt (haw _ _) ?_
    simp (disch := (first | decide | omega)) only [hA, go_sem]
    exact leave_pure (xs := [.v (.bool true)]) (.inr rfl) (by simp (disch := (first | decide | omega)) only [resVs, resV, go_sem, hA]) kO hR hB ⟨rfl, rfl, rfl⟩
   have hd : decide ((S.length : Int) > 12) = false := decide_eq_false oM
   have hd' : decide ((12 : Int) < (S.length : Int)) = false := hd
   have hco := fun b l => containsR_spec S 9 [] (fun i => lgM (S.getD i [])) oM b l (fun i hi => by rw [getD_at hi]; exact pcG1_spec S[i] _ _)
   cases hany : (List.range S.length).any fun i => lgM (S.getD i []) with
   | true =>
     rw [hany] at hco
     simp (disch := (first | decide | omega)) only [hA, hd, hd', List.length_map, go_sem]
     refine ACalls.nxt (hco _ _) ?_
     simp (disch := (first | decide | omega)) only [hA, go_sem]
     refine ACalls.nxt (haw _ _) ?_
     simp (disch := (first | decide | omega)) only [hA, go_sem]
     exact leave_pure (xs := [.v (.bool true)]) (.inr rfl) (by simp (disch := (first | decide | omega)) only [resVs, resV, go_sem, hA]) kO hR hB ⟨rfl, rfl, rfl⟩
   | false =>
     rw [hany] at hco
     have hSm := few18W_sm hM hf
     have hsizes : ∀ r ∈ S, r.length ≤ 1000000 ∧ ∀ v ∈ r, v.length ≤ 1000000 := fun r hr => by
      obtain ⟨i, hi, rfl⟩ := List.getElem_of_mem hr
      have h1 := List.any_eq_false.1 hany i (List.mem_range.2 hi)
      rw [getD_at hi] at h1
      unfold lgM at h1
      simp only [Bool.or_eq_true, decide_eq_true_eq, not_or] at h1
      refine ⟨by omega, fun v hv => ?_⟩
      obtain ⟨j, hj, rfl⟩ := List.getElem_of_mem hv
      have h2 := h1.2
      rw [Bool.not_eq_true, List.any_eq_false] at h2
      have h3 := h2 j (List.mem_range.2 hj)
      rw [getD_at hj] at h3
      simp only [decide_eq_true_eq] at h3
      omega
     have hc : ∃ z, (∀ b l, ACalls Tryd.prog 12 [.agg [.v (eT t)], .v (.int .i64 k), .v (.isl 1 (S.map eMq))] b l (fun r b' l' => r = .v (.bool z) ∧ b' = b ∧ l' = l)) ∧
       ∀ b l, ACalls Tryd.prog 13 [.agg [.v (eT t)], .v (.int .i64 k), .v (.isl 1 (S.map eMq))] b l (fun r b' l' => r = .v (.bool z) ∧ b' = b ∧ l' = l) := by
      cases hval : validL t with
      | false => exact ⟨false, fun b l => pcheck_inv t hSm hN hval k _ b l, fun b l => rcheck_inv t hSm hN hval k _ b l⟩
      | true =>
        obtain ⟨h10, hS, h40⟩ := few18W_in hM hf hval
        exact ⟨chkB t k S, fun b l => pcheck_spec t hS hN (fun _ => by omega) k S ⟨by omega, fun r hr => (hsizes r hr).1⟩ b l, fun b l => rcheck_spec t hS hN (fun _ => by omega) k S ⟨by omega, hsizes⟩ b l⟩
     obtain ⟨z, hc1, hc2⟩ := hc
     have hz := out z
     simp (disch := (first | decide | omega)) only [hA, hd, hd', List.length_map, go_sem]
     refine ACalls.nxt (hco _ _) ?_
     simp (disch := (first | decide | omega)) only [hA, go_sem]
     refine ACalls.nxt (hc1 _ _) ?_
     simp (disch := (first | decide | omega)) only [hA, go_sem]
     refine ACalls.nxt (hc2 _ _) ?_
     simp (disch := (first | decide | omega)) only [hA, hz, go_sem]
     exact leave_pure (xs := [.v (.bool true)]) (.inr rfl) (by simp (disch := (first | decide | omega)) only [resVs, resV, go_sem, hA]) kO hR hB ⟨rfl, rfl, rfl⟩
end Go.Proofs.YtnihdkfmmbpilaaDoor
