/- Texts of one proof, laid together: GD, GE, GF, GI. No condition. -/
import Derived.Test.YtnihdkfmmbpilaaDoorIC1
import Derived.Test.YtnihdkfmmbpilaaDoorIC3
import Derived.Test.YtnihdkfmmbpilaaDoorProg
import Derived.KernelRfl
namespace Go.Proofs.YtnihdkfmmbpilaaDoor
set_option linter.unusedVariables false
set_option linter.unusedSimpArgs false
attribute [local go_sem ↓] run_skip run_region run_draw run_both run_seq run_block run_exit run_ret run_cond atN_app seqC_normal seqC_exit seqC_ret seqQ_normal seqQ_exit seqQ_ret blkQ_normal blkQ_exit blkQ_ret runOps_nil runOps_cons runD_nil runD_cons grdO_true grdO_false grdD_true grdD_false ifC_true ifC_false opS_val opS_call opS_two opK_app dS_val dS_call dS_two dK_app kUp_same kUp_ne
attribute [local go_sem] rechks_nil rechks_cons rechk gcase_true gcase_false ex_val ex_val0 gd_none gd_some ev_t ev_c evs_nil evs_cons evo_some evo_none hget_at hget_first hsetB_at hsetB_first hsetL_at hsetL_first ofOpt_some aop aload astore aslice aappend aiaddr aiaddrA afaddr alen alenS acopy amm acall alookup amupdate alenM atostr aappz comma keyEq apick binV binVB binVS isSh intOp strOp boolOp shOp eqC eqF and2 cellsOf setFrom fillA fillS rd rdI elems mk bounds AV.cell List.all_cons List.all_nil Bool.and_true Bool.true_and Bool.and_self List.length_cons List.length_nil List.length_append Nat.reduceAdd Nat.reduceSub Nat.reduceMul Nat.zero_add Nat.add_zero List.cons_append List.nil_append List.append_assoc List.append_nil List.getElem?_cons_zero List.getElem?_cons_succ List.getElem?_nil List.set_cons_zero List.set_cons_succ List.drop_zero List.drop_succ_cons List.take_zero List.take_succ_cons List.take_nil List.drop_nil List.map_cons List.map_nil Option.map_some if_true if_false Bool.false_eq_true and_self true_and and_true Nat.reduceLeDiff Nat.reduceLT Nat.le_refl Nat.reduceEqDiff ite_true ite_false beq_self_eq_true beq_true beq_false Bool.not_true Bool.not_false Bool.true_beq Bool.false_beq map_vs vs_len vs_get vs_take vs_drop vs_snoc1 vs_snoc2 vs_snoc3 vs_snoc5 vs_set1 vs_set2 vs_rep wrap_id le_T lt_T le_F lt_F leI_T ltI_T leI_F ltI_F geI gtI get_T decide_true decide_false room List.getElem?_map List.length_map List.length_take Int.toNat_natCast Nat.min_def Nat.min_self nth_kOf put_kOf put_kNo kOv_cons kOv_nil KHas KArgs List.getElem_cons_zero List.getElem_cons_succ
def a_leafId : AFunc := ⟨1,5,[.cell 2 (some 2)],(.seq (.region [⟨some 2,.alloc [(.v (.int .i64 0)),(.v .zsl)],none⟩]) (.seq (.region [⟨some 3,.mv (.t 0),none⟩,⟨some 4,.build [(.v (.int .i64 0)),(.v .zsl)] [(0,1,(.t 3))],none⟩,⟨none,.store 2 (.t 2) (.t 4),none⟩]) .ret))⟩
theorem a_leafId_ok : cFunc Tryd.prog 48 = some a_leafId := by kernel_rfl
def a_nodeId : AFunc := ⟨2,9,[.cell 4 (some 2)],(.seq (.region [⟨some 2,.box (.t 0),none⟩,⟨some 3,.box (.t 1),none⟩,⟨some 4,.alloc [(.v (.int .i64 0)),(.v .zsl)],none⟩]) (.seq (.region [⟨some 5,.load (some 2) (.t 2),none⟩,⟨some 6,.load (some 2) (.t 3),none⟩,⟨some 7,.bslice 2 [(.v (.int .i64 0)),(.v .zsl)] 2 [(0,(.t 5)),(1,(.t 6))],none⟩,⟨some 8,.build [(.v (.int .i64 0)),(.v .zsl)] [(1,1,(.t 7))],none⟩,⟨none,.store 2 (.t 4) (.t 8),none⟩]) .ret))⟩
theorem a_nodeId_ok : cFunc Tryd.prog 93 = some a_nodeId := by kernel_rfl
def a_leafTree : AFunc := ⟨1,5,[.cell 2 (some 2)],(.seq (.region [⟨some 2,.alloc [(.v (.int .i64 0)),(.v .zsl)],none⟩]) (.seq (.region [⟨some 3,.mv (.t 0),none⟩,⟨some 4,.build [(.v (.int .i64 0)),(.v .zsl)] [(0,1,(.t 3))],none⟩,⟨none,.store 2 (.t 2) (.t 4),none⟩]) .ret))⟩
theorem a_leafTree_ok : cFunc Tryd.prog 49 = some a_leafTree := by kernel_rfl
def a_nodeTree : AFunc := ⟨3,12,[.cell 6 (some 2)],(.seq (.region [⟨some 4,.box (.t 1),none⟩,⟨some 5,.box (.t 2),none⟩,⟨some 6,.alloc [(.v (.int .i64 0)),(.v .zsl)],none⟩]) (.seq (.region [⟨some 7,.mv (.t 0),none⟩,⟨some 8,.load (some 2) (.t 4),none⟩,⟨some 9,.load (some 2) (.t 5),none⟩,⟨some 10,.bslice 2 [(.v (.int .i64 0)),(.v .zsl)] 2 [(0,(.t 8)),(1,(.t 9))],none⟩,⟨some 11,.build [(.v (.int .i64 0)),(.v .zsl)] [(0,1,(.t 7)),(1,1,(.t 10))],none⟩,⟨none,.store 2 (.t 6) (.t 11),none⟩]) .ret))⟩
theorem a_nodeTree_ok : cFunc Tryd.prog 95 = some a_nodeTree := by kernel_rfl
def a_isLeafI : AFunc := ⟨2,15,[.tmp 4],(.seq (.region [⟨some 2,.box (.t 0),none⟩,⟨some 4,.mv (.c (.v (.bool false))),none⟩]) (.seq (.region [⟨some 5,.faddr 1 (.t 2),none⟩,⟨some 6,.load none (.t 5),none⟩,⟨some 7,.len (.t 6),none⟩,⟨some 8,.bin .eql (.t 7) (.c (.v (.int .i64 0))),none⟩,⟨some 9,.mv (.t 8),none⟩,⟨some 10,.faddr 0 (.t 2),some (9,true)⟩,⟨some 11,.load none (.t 10),some (9,true)⟩,⟨some 12,.mv (.t 1),some (9,true)⟩,⟨some 13,.bin .eql (.t 11) (.t 12),some (9,true)⟩,⟨some 14,.pick (.t 9) (.t 13) (.c (.v (.bool false))),none⟩,⟨some 4,.mv (.t 14),none⟩]) .ret))⟩
theorem a_isLeafI_ok : cFunc Tryd.prog 57 = some a_isLeafI := by kernel_rfl
def a_validIdI : AFunc := ⟨2,69,[.tmp 4],(.seq (.region [⟨some 2,.box (.t 0),none⟩,⟨some 4,.mv (.c (.v (.bool false))),none⟩]) (.seq (.block 0 (.seq (.region [⟨some 8,.faddr 1 (.t 2),none⟩,⟨some 9,.load none (.t 8),none⟩,⟨some 10,.len (.t 9),none⟩,⟨some 11,.bin .eql (.t 10) (.c (.v (.int .i64 0))),none⟩,⟨some 7,.mv (.t 11),none⟩]) (.cond (.t 7) (.seq (.region [⟨some 12,.faddr 0 (.t 2),none⟩,⟨some 13,.load none (.t 12),none⟩,⟨some 14,.bin .eql (.t 13) (.c (.v (.int .i64 0))),none⟩,⟨some 15,.mv (.t 14),none⟩,⟨some 16,.faddr 0 (.t 2),some (15,false)⟩,⟨some 17,.load none (.t 16),some (15,false)⟩,⟨some 18,.bin .eql (.t 17) (.c (.v (.int .i64 1))),some (15,false)⟩,⟨some 19,.pick (.t 15) (.c (.v (.bool true))) (.t 18),none⟩,⟨some 4,.mv (.t 19),none⟩]) .ret) (.seq (.region [⟨some 21,.faddr 1 (.t 2),none⟩,⟨some 22,.load none (.t 21),none⟩,⟨some 23,.len (.t 22),none⟩,⟨some 24,.bin .neq (.t 23) (.c (.v (.int .i64 2))),none⟩,⟨some 25,.mv (.t 24),none⟩,⟨some 26,.faddr 0 (.t 2),some (25,false)⟩,⟨some 27,.load none (.t 26),some (25,false)⟩,⟨some 28,.bin .neq (.t 27) (.c (.v (.int .i64 0))),some (25,false)⟩,⟨some 29,.pick (.t 25) (.c (.v (.bool true))) (.t 28),none⟩,⟨some 30,.mv (.t 29),none⟩,⟨some 31,.mv (.t 1),some (30,false)⟩,⟨some 32,.bin .eql (.t 31) (.c (.v (.int .i64 0))),some (30,false)⟩,⟨some 33,.pick (.t 30) (.c (.v (.bool true))) (.t 32),none⟩,⟨some 20,.mv (.t 33),none⟩]) (.cond (.t 20) (.seq (.region [⟨some 4,.mv (.c (.v (.bool false))),none⟩]) .ret) .skip))))) (.seq (.draw [⟨0,⟨some 34,.faddr 1 (.t 2),none⟩,[]⟩,⟨1,⟨some 35,.load none (.t 34),none⟩,[]⟩,⟨2,⟨some 36,.iaddr 2 (.t 35) (.c (.v (.int .i64 0))),none⟩,[]⟩,⟨3,⟨some 37,.load (some 2) (.t 36),none⟩,[]⟩,⟨4,⟨some 38,.faddr 1 (.t 2),none⟩,[]⟩,⟨5,⟨some 39,.load none (.t 38),none⟩,[]⟩,⟨6,⟨some 40,.iaddr 2 (.t 39) (.c (.v (.int .i64 1))),none⟩,[]⟩,⟨7,⟨some 41,.load (some 2) (.t 40),none⟩,[]⟩,⟨8,⟨some 5,.alloc [(.v (.int .i64 0)),(.v .zsl)],none⟩,[⟨some 34,.faddr 1 (.t 2),none⟩,⟨some 35,.load none (.t 34),none⟩,⟨some 36,.iaddr 2 (.t 35) (.c (.v (.int .i64 0))),none⟩,⟨some 37,.load (some 2) (.t 36),none⟩,⟨some 38,.faddr 1 (.t 2),none⟩,⟨some 39,.load none (.t 38),none⟩,⟨some 40,.iaddr 2 (.t 39) (.c (.v (.int .i64 1))),none⟩,⟨some 41,.load (some 2) (.t 40),none⟩]⟩,⟨9,⟨some 6,.alloc [(.v (.int .i64 0)),(.v .zsl)],none⟩,[⟨some 34,.faddr 1 (.t 2),none⟩,⟨some 35,.load none (.t 34),none⟩,⟨some 36,.iaddr 2 (.t 35) (.c (.v (.int .i64 0))),none⟩,⟨some 37,.load (some 2) (.t 36),none⟩,⟨some 38,.faddr 1 (.t 2),none⟩,⟨some 39,.load none (.t 38),none⟩,⟨some 40,.iaddr 2 (.t 39) (.c (.v (.int .i64 1))),none⟩,⟨some 41,.load (some 2) (.t 40),none⟩]⟩,⟨10,⟨none,.store 2 (.t 5) (.t 37),none⟩,[⟨some 38,.faddr 1 (.t 2),none⟩,⟨some 39,.load none (.t 38),none⟩,⟨some 40,.iaddr 2 (.t 39) (.c (.v (.int .i64 1))),none⟩,⟨some 41,.load (some 2) (.t 40),none⟩]⟩,⟨11,⟨none,.store 2 (.t 6) (.t 41),none⟩,[]⟩]) (.seq (.seq (.region [⟨some 42,.faddr 1 (.t 5),none⟩,⟨some 43,.load none (.t 42),none⟩,⟨some 44,.len (.t 43),none⟩,⟨some 45,.bin .eql (.t 44) (.c (.v (.int .i64 0))),none⟩,⟨some 46,.mv (.t 45),none⟩,⟨some 47,.faddr 1 (.t 6),some (46,true)⟩,⟨some 48,.load none (.t 47),some (46,true)⟩,⟨some 49,.len (.t 48),some (46,true)⟩,⟨some 50,.bin .eql (.t 49) (.c (.v (.int .i64 0))),some (46,true)⟩,⟨some 51,.pick (.t 46) (.t 50) (.c (.v (.bool false))),none⟩,⟨some 52,.mv (.t 51),none⟩,⟨some 53,.faddr 0 (.t 5),some (52,true)⟩,⟨some 54,.load none (.t 53),some (52,true)⟩,⟨some 55,.faddr 0 (.t 6),some (52,true)⟩,⟨some 56,.load none (.t 55),some (52,true)⟩,⟨some 57,.bin .eql (.t 54) (.t 56),some (52,true)⟩,⟨some 58,.pick (.t 52) (.t 57) (.c (.v (.bool false))),none⟩]) (.cond (.t 58) (.seq (.region [⟨some 4,.mv (.c (.v (.bool false))),none⟩]) .ret) .skip)) (.seq (.region [⟨some 59,.load (some 2) (.t 5),none⟩,⟨some 60,.mv (.t 1),none⟩,⟨some 61,.bin .sub (.t 60) (.c (.v (.int .i64 1))),none⟩,⟨some 62,.call (.c (.fn 94 [])) [(.t 59),(.t 61)],none⟩,⟨some 63,.mv (.t 62),none⟩,⟨some 64,.load (some 2) (.t 6),some (63,true)⟩,⟨some 65,.mv (.t 1),some (63,true)⟩,⟨some 66,.bin .sub (.t 65) (.c (.v (.int .i64 1))),some (63,true)⟩,⟨some 67,.call (.c (.fn 94 [])) [(.t 64),(.t 66)],some (63,true)⟩,⟨some 68,.pick (.t 63) (.t 67) (.c (.v (.bool false))),none⟩,⟨some 4,.mv (.t 68),none⟩]) .ret)))))⟩
theorem a_validIdI_ok : cFunc Tryd.prog 94 = some a_validIdI := by kernel_rfl
def a_ValidId : AFunc := ⟨1,5,[.tmp 2],(.seq (.region [⟨some 1,.box (.t 0),none⟩,⟨some 2,.mv (.c (.v (.bool false))),none⟩]) (.seq (.region [⟨some 3,.load (some 2) (.t 1),none⟩,⟨some 4,.call (.c (.fn 94 [])) [(.t 3),(.c (.v (.int .i64 16)))],none⟩,⟨some 2,.mv (.t 4),none⟩]) .ret))⟩
theorem a_ValidId_ok : cFunc Tryd.prog 53 = some a_ValidId := by kernel_rfl
def a_normalId : AFunc := ⟨2,28,[.cell 4 (some 2)],(.seq (.region [⟨some 2,.box (.t 0),none⟩,⟨some 3,.box (.t 1),none⟩,⟨some 4,.alloc [(.v (.int .i64 0)),(.v .zsl)],none⟩]) (.seq (.seq (.region [⟨some 5,.faddr 1 (.t 2),none⟩,⟨some 6,.load none (.t 5),none⟩,⟨some 7,.len (.t 6),none⟩,⟨some 8,.bin .eql (.t 7) (.c (.v (.int .i64 0))),none⟩,⟨some 9,.mv (.t 8),none⟩,⟨some 10,.faddr 1 (.t 3),some (9,true)⟩,⟨some 11,.load none (.t 10),some (9,true)⟩,⟨some 12,.len (.t 11),some (9,true)⟩,⟨some 13,.bin .eql (.t 12) (.c (.v (.int .i64 0))),some (9,true)⟩,⟨some 14,.pick (.t 9) (.t 13) (.c (.v (.bool false))),none⟩,⟨some 15,.mv (.t 14),none⟩,⟨some 16,.faddr 0 (.t 2),some (15,true)⟩,⟨some 17,.load none (.t 16),some (15,true)⟩,⟨some 18,.faddr 0 (.t 3),some (15,true)⟩,⟨some 19,.load none (.t 18),some (15,true)⟩,⟨some 20,.bin .eql (.t 17) (.t 19),some (15,true)⟩,⟨some 21,.pick (.t 15) (.t 20) (.c (.v (.bool false))),none⟩]) (.cond (.t 21) (.seq (.region [⟨some 22,.faddr 0 (.t 2),none⟩,⟨some 23,.load none (.t 22),none⟩,⟨some 24,.call (.c (.fn 48 [])) [(.t 23)],none⟩,⟨none,.store 2 (.t 4) (.t 24),none⟩]) .ret) .skip)) (.seq (.region [⟨some 25,.load (some 2) (.t 2),none⟩,⟨some 26,.load (some 2) (.t 3),none⟩,⟨some 27,.call (.c (.fn 93 [])) [(.t 25),(.t 26)],none⟩,⟨none,.store 2 (.t 4) (.t 27),none⟩]) .ret)))⟩
theorem a_normalId_ok : cFunc Tryd.prog 96 = some a_normalId := by kernel_rfl
def a_liftI : AFunc := ⟨2,11,[.cell 4 (some 2)],(.seq (.region [⟨some 2,.box (.t 0),none⟩,⟨some 4,.alloc [(.v (.int .i64 0)),(.v .zsl)],none⟩]) (.seq (.region [⟨some 5,.faddr 0 (.t 2),none⟩,⟨some 6,.load none (.t 5),none⟩,⟨some 7,.mv (.t 1),none⟩,⟨some 8,.bin .add (.t 6) (.t 7),none⟩,⟨some 9,.faddr 0 (.t 2),none⟩,⟨none,.store 1 (.t 9) (.t 8),none⟩]) (.seq (.region [⟨some 10,.load (some 2) (.t 2),none⟩,⟨none,.store 2 (.t 4) (.t 10),none⟩]) .ret)))⟩
theorem a_liftI_ok : cFunc Tryd.prog 99 = some a_liftI := by kernel_rfl
def a_normalTree : AFunc := ⟨3,47,[.cell 6 (some 2)],(.seq (.region [⟨some 4,.box (.t 1),none⟩,⟨some 5,.box (.t 2),none⟩,⟨some 6,.alloc [(.v (.int .i64 0)),(.v .zsl)],none⟩]) (.seq (.seq (.region [⟨some 8,.faddr 1 (.t 4),none⟩,⟨some 9,.load none (.t 8),none⟩,⟨some 10,.len (.t 9),none⟩,⟨some 11,.bin .eql (.t 10) (.c (.v (.int .i64 0))),none⟩,⟨some 12,.mv (.t 11),none⟩,⟨some 13,.faddr 1 (.t 5),some (12,true)⟩,⟨some 14,.load none (.t 13),some (12,true)⟩,⟨some 15,.len (.t 14),some (12,true)⟩,⟨some 16,.bin .eql (.t 15) (.c (.v (.int .i64 0))),some (12,true)⟩,⟨some 17,.pick (.t 12) (.t 16) (.c (.v (.bool false))),none⟩,⟨some 18,.mv (.t 17),none⟩,⟨some 19,.faddr 0 (.t 4),some (18,true)⟩,⟨some 20,.load none (.t 19),some (18,true)⟩,⟨some 21,.faddr 0 (.t 5),some (18,true)⟩,⟨some 22,.load none (.t 21),some (18,true)⟩,⟨some 23,.bin .eql (.t 20) (.t 22),some (18,true)⟩,⟨some 24,.pick (.t 18) (.t 23) (.c (.v (.bool false))),none⟩]) (.cond (.t 24) (.seq (.region [⟨some 25,.mv (.t 0),none⟩,⟨some 26,.faddr 0 (.t 4),none⟩,⟨some 27,.load none (.t 26),none⟩,⟨some 28,.bin .add (.t 25) (.t 27),none⟩,⟨some 29,.call (.c (.fn 49 [])) [(.t 28)],none⟩,⟨none,.store 2 (.t 6) (.t 29),none⟩]) .ret) .skip)) (.seq (.region [⟨some 30,.faddr 0 (.t 4),none⟩,⟨some 31,.load none (.t 30),none⟩,⟨some 32,.faddr 0 (.t 5),none⟩,⟨some 33,.load none (.t 32),none⟩,⟨some 34,.mm false (.t 31) (.t 33),none⟩,⟨some 7,.mv (.t 34),none⟩]) (.seq (.draw [⟨0,⟨some 35,.mv (.t 0),none⟩,[]⟩,⟨1,⟨some 36,.mv (.t 7),none⟩,[]⟩,⟨2,⟨some 37,.bin .add (.t 35) (.t 36),none⟩,[]⟩,⟨3,⟨some 38,.load (some 2) (.t 4),none⟩,[]⟩,⟨4,⟨some 39,.mv (.t 7),none⟩,[]⟩,⟨5,⟨some 40,.neg (.t 39),none⟩,[]⟩,⟨7,⟨some 42,.load (some 2) (.t 5),none⟩,[]⟩,⟨8,⟨some 43,.mv (.t 7),none⟩,[]⟩,⟨9,⟨some 44,.neg (.t 43),none⟩,[]⟩,⟨6,⟨some 41,.call (.c (.fn 99 [])) [(.t 38),(.t 40)],none⟩,[⟨some 35,.mv (.t 0),none⟩,⟨some 36,.mv (.t 7),none⟩,⟨some 37,.bin .add (.t 35) (.t 36),none⟩,⟨some 42,.load (some 2) (.t 5),none⟩,⟨some 43,.mv (.t 7),none⟩,⟨some 44,.neg (.t 43),none⟩]⟩,⟨10,⟨some 45,.call (.c (.fn 99 [])) [(.t 42),(.t 44)],none⟩,[⟨some 35,.mv (.t 0),none⟩,⟨some 36,.mv (.t 7),none⟩,⟨some 37,.bin .add (.t 35) (.t 36),none⟩]⟩,⟨11,⟨some 46,.call (.c (.fn 95 [])) [(.t 37),(.t 41),(.t 45)],none⟩,[]⟩,⟨12,⟨none,.store 2 (.t 6) (.t 46),none⟩,[]⟩]) .ret))))⟩
theorem a_normalTree_ok : cFunc Tryd.prog 98 = some a_normalTree := by kernel_rfl
def a_greatI : AFunc := ⟨1,23,[.tmp 2],(.seq (.region [⟨some 1,.box (.t 0),none⟩,⟨some 2,.mv (.c (.v (.int .i64 0))),none⟩]) (.seq (.seq (.region [⟨some 3,.faddr 1 (.t 1),none⟩,⟨some 4,.load none (.t 3),none⟩,⟨some 5,.len (.t 4),none⟩,⟨some 6,.bin .eql (.t 5) (.c (.v (.int .i64 0))),none⟩]) (.cond (.t 6) (.seq (.region [⟨some 7,.faddr 0 (.t 1),none⟩,⟨some 8,.load none (.t 7),none⟩,⟨some 2,.mv (.t 8),none⟩]) .ret) .skip)) (.seq (.draw [⟨0,⟨some 9,.faddr 0 (.t 1),none⟩,[]⟩,⟨1,⟨some 10,.load none (.t 9),none⟩,[]⟩,⟨2,⟨some 11,.faddr 1 (.t 1),none⟩,[]⟩,⟨3,⟨some 12,.load none (.t 11),none⟩,[]⟩,⟨4,⟨some 13,.iaddr 2 (.t 12) (.c (.v (.int .i64 0))),none⟩,[]⟩,⟨5,⟨some 14,.load (some 2) (.t 13),none⟩,[]⟩,⟨7,⟨some 16,.faddr 1 (.t 1),none⟩,[]⟩,⟨8,⟨some 17,.load none (.t 16),none⟩,[]⟩,⟨9,⟨some 18,.iaddr 2 (.t 17) (.c (.v (.int .i64 1))),none⟩,[]⟩,⟨10,⟨some 19,.load (some 2) (.t 18),none⟩,[]⟩,⟨6,⟨some 15,.call (.c (.fn 61 [])) [(.t 14)],none⟩,[⟨some 9,.faddr 0 (.t 1),none⟩,⟨some 10,.load none (.t 9),none⟩,⟨some 16,.faddr 1 (.t 1),none⟩,⟨some 17,.load none (.t 16),none⟩,⟨some 18,.iaddr 2 (.t 17) (.c (.v (.int .i64 1))),none⟩,⟨some 19,.load (some 2) (.t 18),none⟩]⟩,⟨11,⟨some 20,.call (.c (.fn 61 [])) [(.t 19)],none⟩,[⟨some 9,.faddr 0 (.t 1),none⟩,⟨some 10,.load none (.t 9),none⟩]⟩,⟨12,⟨some 21,.mm true (.t 15) (.t 20),none⟩,[]⟩,⟨13,⟨some 22,.bin .add (.t 10) (.t 21),none⟩,[]⟩,⟨14,⟨some 2,.mv (.t 22),none⟩,[]⟩]) .ret)))⟩
theorem a_greatI_ok : cFunc Tryd.prog 61 = some a_greatI := by kernel_rfl
def a_leastI : AFunc := ⟨1,23,[.tmp 2],(.seq (.region [⟨some 1,.box (.t 0),none⟩,⟨some 2,.mv (.c (.v (.int .i64 0))),none⟩]) (.seq (.seq (.region [⟨some 3,.faddr 1 (.t 1),none⟩,⟨some 4,.load none (.t 3),none⟩,⟨some 5,.len (.t 4),none⟩,⟨some 6,.bin .eql (.t 5) (.c (.v (.int .i64 0))),none⟩]) (.cond (.t 6) (.seq (.region [⟨some 7,.faddr 0 (.t 1),none⟩,⟨some 8,.load none (.t 7),none⟩,⟨some 2,.mv (.t 8),none⟩]) .ret) .skip)) (.seq (.draw [⟨0,⟨some 9,.faddr 0 (.t 1),none⟩,[]⟩,⟨1,⟨some 10,.load none (.t 9),none⟩,[]⟩,⟨2,⟨some 11,.faddr 1 (.t 1),none⟩,[]⟩,⟨3,⟨some 12,.load none (.t 11),none⟩,[]⟩,⟨4,⟨some 13,.iaddr 2 (.t 12) (.c (.v (.int .i64 0))),none⟩,[]⟩,⟨5,⟨some 14,.load (some 2) (.t 13),none⟩,[]⟩,⟨7,⟨some 16,.faddr 1 (.t 1),none⟩,[]⟩,⟨8,⟨some 17,.load none (.t 16),none⟩,[]⟩,⟨9,⟨some 18,.iaddr 2 (.t 17) (.c (.v (.int .i64 1))),none⟩,[]⟩,⟨10,⟨some 19,.load (some 2) (.t 18),none⟩,[]⟩,⟨6,⟨some 15,.call (.c (.fn 100 [])) [(.t 14)],none⟩,[⟨some 9,.faddr 0 (.t 1),none⟩,⟨some 10,.load none (.t 9),none⟩,⟨some 16,.faddr 1 (.t 1),none⟩,⟨some 17,.load none (.t 16),none⟩,⟨some 18,.iaddr 2 (.t 17) (.c (.v (.int .i64 1))),none⟩,⟨some 19,.load (some 2) (.t 18),none⟩]⟩,⟨11,⟨some 20,.call (.c (.fn 100 [])) [(.t 19)],none⟩,[⟨some 9,.faddr 0 (.t 1),none⟩,⟨some 10,.load none (.t 9),none⟩]⟩,⟨12,⟨some 21,.mm false (.t 15) (.t 20),none⟩,[]⟩,⟨13,⟨some 22,.bin .add (.t 10) (.t 21),none⟩,[]⟩,⟨14,⟨some 2,.mv (.t 22),none⟩,[]⟩]) .ret)))⟩
theorem a_leastI_ok : cFunc Tryd.prog 100 = some a_leastI := by kernel_rfl

def bI (b : Bool) : Int := if b = true then 1 else 0
def iLf : ITI → Int
 | .leaf b => bI b
 | .node _ _ => 0
def iLs : ITI → IV
 | .leaf _ => .zsl
 | .node l r => .isl 2 [[.int .i64 (iLf l), iLs l], [.int .i64 (iLf r), iLs r]]
def iA (i : ITI) : AV := .agg [.v (.int .i64 (iLf i)), .v (iLs i)]
def tLs : ITT → IV
 | .leaf _ => .zsl
 | .node _ l r => .isl 2 [[.int .i64 (tN l), tLs l], [.int .i64 (tN r), tLs r]]
def tA (x : ITT) : AV := .agg [.v (.int .i64 (tN x)), .v (tLs x)]
theorem tN_l (n : Nat) : tN (.leaf n) = n := rfl
theorem tN_n (n : Nat) (x y : ITT) : tN (.node n x y) = n := rfl
theorem iLf_l (b : Bool) : iLf (.leaf b) = bI b := rfl
theorem iLf_n (x y : ITI) : iLf (.node x y) = 0 := rfl
theorem it0 : Int.toNat 0 = 0 := rfl
theorem it1 : Int.toNat 1 = 1 := rfl
theorem z20 : (((2 : Nat) : Int) == 0) = false := rfl
theorem z20i : ((2 : Int) == 0) = false := rfl
theorem z22 : (((2 : Nat) : Int) != 2) = false := rfl
theorem z22i : ((2 : Int) != 2) = false := rfl
theorem z00 : ((0 : Int) == 0) = true := rfl
theorem z10 : ((1 : Int) == 0) = false := rfl
theorem z01 : ((0 : Int) == 1) = false := rfl
theorem z11 : ((1 : Int) == 1) = true := rfl
theorem y00 : ((0 : Int) != 0) = false := rfl
theorem y02 : ((0 : Int) != 2) = true := rfl
theorem bI_t : bI true = 1 := rfl
theorem bI_f : bI false = 0 := rfl
attribute [local go_sem] it0 it1 z20 z20i z22 z22i z00 z10 z01 z11 y00 y02
theorem leafId_spec (b0 : Bool) (n : Int) (hn : n = bI b0) (b l : List Row) : ACalls Tryd.prog 48 [.v (.int .i64 n)] b l (fun r b' l' => r = iA (.leaf b0) ∧ b' = b ∧ l' = l) := by
 subst hn
 refine calls_kept a_leafId_ok rfl (by decide) ?_
 intro B g hB hR hE hA; simp only [KArgs] at hA
 simp (disch := (first | decide | omega)) only [a_leafId, hA, setFrom, cellsOf, go_sem]
 exact leave_pure (xs := [.agg [.v (.int .i64 (bI b0)), .v .zsl]]) (.inr rfl) (by simp (disch := (first | decide | omega)) only [resVs, resV, go_sem, hA, setFrom, cellsOf]) kO hR hB ⟨rfl, rfl, rfl⟩
theorem leafTree_spec (n : Nat) (b l : List Row) : ACalls Tryd.prog 49 [.v (.int .i64 (n : Nat))] b l (fun r b' l' => r = tA (.leaf n) ∧ b' = b ∧ l' = l) := by
 refine calls_kept a_leafTree_ok rfl (by decide) ?_
 intro B g hB hR hE hA; simp only [KArgs] at hA
 simp (disch := (first | decide | omega)) only [a_leafTree, hA, setFrom, cellsOf, go_sem]
 exact leave_pure (xs := [.agg [.v (.int .i64 n), .v .zsl]]) (.inr rfl) (by simp (disch := (first | decide | omega)) only [resVs, resV, go_sem, hA, setFrom, cellsOf]) kO hR hB ⟨rfl, rfl, rfl⟩
theorem nodeId_spec (i j : ITI) (b l : List Row) : ACalls Tryd.prog 93 [iA i, iA j] b l (fun r b' l' => r = iA (.node i j) ∧ b' = b ∧ l' = l) := by
 refine calls_kept a_nodeId_ok rfl (by decide) ?_
 intro B g hB hR hE hA; simp only [KArgs] at hA
 simp only [iA] at hA
 simp (disch := (first | decide | omega)) only [a_nodeId, hA, setFrom, cellsOf, List.replicate_succ, List.replicate_zero, go_sem]
 exact leave_deep (.inr rfl) (xs := [.agg [.v (.int .i64 0), .sl (B.length + 3) 0 0 2]]) (by simp (disch := (first | decide | omega)) only [resVs, resV, hA, setFrom, cellsOf, go_sem]) (Dv.aggL (.cons (.v _) (.cons (Dv.slV (i := 3) (rows := [[.int .i64 (iLf i), iLs i], [.int .i64 (iLf j), iLs j]]) rfl rfl) .nil))) hR hB ⟨rfl, rfl, rfl⟩
theorem nodeTree_spec (n : Nat) (x y : ITT) (b l : List Row) : ACalls Tryd.prog 95 [.v (.int .i64 n), tA x, tA y] b l (fun r b' l' => r = tA (.node n x y) ∧ b' = b ∧ l' = l) := by
 refine calls_kept a_nodeTree_ok rfl (by decide) ?_
 intro B g hB hR hE hA; simp only [KArgs] at hA
 simp only [tA] at hA
 simp (disch := (first | decide | omega)) only [a_nodeTree, hA, setFrom, cellsOf, List.replicate_succ, List.replicate_zero, go_sem]
 exact leave_deep (.inr rfl) (xs := [.agg [.v (.int .i64 n), .sl (B.length + 3) 0 0 2]]) (by simp (disch := (first | decide | omega)) only [resVs, resV, hA, setFrom, cellsOf, go_sem]) (Dv.aggL (.cons (.v _) (.cons (Dv.slV (i := 3) (rows := [[.int .i64 (tN x), tLs x], [.int .i64 (tN y), tLs y]]) rfl rfl) .nil))) hR hB ⟨rfl, rfl, rfl⟩
theorem isLeaf_spec (i : ITI) (b0 : Bool) (n : Int) (hn : n = bI b0) (b l : List Row) : ACalls Tryd.prog 57 [iA i, .v (.int .i64 n)] b l (fun r b' l' => r = .v (.bool (decide (i = .leaf b0))) ∧ b' = b ∧ l' = l) := by
 subst hn
 refine calls_kept a_isLeafI_ok rfl (by decide) ?_
 intro B g hB hR hE hA; simp only [KArgs] at hA
 simp only [iA] at hA
 cases i with
 | leaf a =>
   have hq : (bI a == bI b0) = decide (ITI.leaf a = .leaf b0) := by cases a <;> cases b0 <;> rfl
   simp only [iLf_l, iLf_n, iLs] at hA
   simp (disch := (first | decide | omega)) only [a_isLeafI, hA, z00, hq, go_sem]
   exact leave_pure (xs := [.v (.bool (decide (ITI.leaf a = .leaf b0)))]) (.inr rfl) (by simp (disch := (first | decide | omega)) only [resVs, resV, go_sem, hA]) kO hR hB ⟨rfl, rfl, rfl⟩
 | node i j =>
   have hq : decide (ITI.node i j = .leaf b0) = false := decide_eq_false (fun h => by cases h)
   simp only [iLf_l, iLf_n, iLs] at hA
   simp (disch := (first | decide | omega)) only [a_isLeafI, hA, z20, z20i, go_sem]
   exact leave_pure (xs := [.v (.bool false)]) (.inr rfl) (by simp (disch := (first | decide | omega)) only [resVs, resV, go_sem, hA]) kO hR hB ⟨by rw [hq]; rfl, rfl, rfl⟩
theorem lift_spec (x : ITT) (k : Int) (n : Nat) (hk : (tN x : Int) + k = n) (hn : n ≤ 1000000000) (b l : List Row) : ACalls Tryd.prog 99 [tA x, .v (.int .i64 k)] b l (fun r b' l' => r = .agg [.v (.int .i64 n), .v (tLs x)] ∧ b' = b ∧ l' = l) := by
 refine calls_kept a_liftI_ok rfl (by decide) ?_
 intro B g hB hR hE hA; simp only [KArgs] at hA
 simp only [tA] at hA
 simp (disch := (first | decide | omega)) only [a_liftI, hA, hk, setFrom, cellsOf, go_sem]
 exact leave_pure (xs := [.agg [.v (.int .i64 n), .v (tLs x)]]) (.inr rfl) (by simp (disch := (first | decide | omega)) only [resVs, resV, go_sem, hA, setFrom, cellsOf]) kO hR hB ⟨rfl, rfl, rfl⟩
theorem lift_tA (k : Nat) (x : ITT) : tA (tLift k x) = .agg [.v (.int .i64 ((tN x + k : Nat) : Int)), .v (tLs x)] := by cases x <;> rfl
theorem sink_tA (k : Nat) (x : ITT) : tA (tSink k x) = .agg [.v (.int .i64 ((tN x - k : Nat) : Int)), .v (tLs x)] := by cases x <;> rfl
theorem tN_le (x : ITT) : tN x ≤ tMax x := by cases x <;> simp [tN, tMax]
theorem great_spec : ∀ (x : ITT), tMax x ≤ 1000000000 → ∀ (b l : List Row), ACalls Tryd.prog 61 [tA x] b l (fun r b' l' => r = .v (.int .i64 (tMax x)) ∧ b' = b ∧ l' = l)
 | .leaf n, hx, b, l => by
   refine calls_kept a_greatI_ok rfl (by decide) ?_
   intro B g hB hR hE hA; simp only [KArgs] at hA
   simp only [tA, tN_l, tN_n, tLs] at hA
   simp (disch := (first | decide | omega)) only [a_greatI, hA, z00, go_sem]
   exact leave_pure (xs := [.v (.int .i64 n)]) (.inr rfl) (by simp (disch := (first | decide | omega)) only [resVs, resV, go_sem, hA]) kO hR hB ⟨rfl, rfl, rfl⟩
 | .node n x y, hx, b, l => by
   simp only [tMax] at hx
   have h1 := great_spec x oM
   have h2 := great_spec y oM
   refine calls_kept a_greatI_ok rfl (by decide) ?_
   intro B g hB hR hE hA; simp only [KArgs] at hA
   simp only [tA, tN_l, tN_n, tLs] at hA h1 h2
   have hm : (if (tMax y : Int) > (tMax x : Int) then (tMax y : Int) else (tMax x : Int)) = ((max (tMax x) (tMax y) : Nat) : Int) := by split <;> omega
   have hs : (n : Int) + ((max (tMax x) (tMax y) : Nat) : Int) = ((n + max (tMax x) (tMax y) : Nat) : Int) := by omega
   simp (disch := (first | decide | omega)) only [a_greatI, hA, z20, z20i, it0, it1, go_sem]
   refine ACalls.nxt (h1 _ _) ?_
   simp (disch := (first | decide | omega)) only [hA, go_sem]
   refine ACalls.nxt (h2 _ _) ?_
   simp (disch := (first | decide | omega)) only [hA, hm, hs, go_sem]
   exact leave_pure (xs := [.v (.int .i64 ((n + max (tMax x) (tMax y) : Nat) : Int))]) (.inr rfl) (by simp (disch := (first | decide | omega)) only [resVs, resV, go_sem, hA]) kO hR hB ⟨rfl, rfl, rfl⟩
theorem least_spec : ∀ (x : ITT), tMax x ≤ 1000000000 → ∀ (b l : List Row), ACalls Tryd.prog 100 [tA x] b l (fun r b' l' => r = .v (.int .i64 (tMin x)) ∧ b' = b ∧ l' = l)
 | .leaf n, hx, b, l => by
   refine calls_kept a_leastI_ok rfl (by decide) ?_
   intro B g hB hR hE hA; simp only [KArgs] at hA
   simp only [tA, tN_l, tN_n, tLs] at hA
   simp (disch := (first | decide | omega)) only [a_leastI, hA, go_sem]
   exact leave_pure (xs := [.v (.int .i64 n)]) (.inr rfl) (by simp (disch := (first | decide | omega)) only [resVs, resV, go_sem, hA]) kO hR hB ⟨rfl, rfl, rfl⟩
 | .node n x y, hx, b, l => by
   simp only [tMax] at hx
   have h1 := least_spec x oM
   have h2 := least_spec y oM
   have m1 := tMin_le x
   have m2 := tMin_le y
   refine calls_kept a_leastI_ok rfl (by decide) ?_
   intro B g hB hR hE hA; simp only [KArgs] at hA
   simp only [tA, tN_l, tN_n, tLs] at hA h1 h2
   obtain ⟨mm, hmm⟩ : ∃ mm, min (tMin x) (tMin y) = mm := ⟨_, rfl⟩
   have hq : tMin (.node n x y) = n + mm := by rw [← hmm]; rfl
   rw [hq]
   have hm : (if (tMin y : Int) < (tMin x : Int) then (tMin y : Int) else (tMin x : Int)) = (mm : Int) := by split <;> omega
   have hs : (n : Int) + (mm : Int) = ((n + mm : Nat) : Int) := by omega
   simp (disch := (first | decide | omega)) only [a_leastI, hA, go_sem]
   refine ACalls.nxt (h1 _ _) ?_
   simp (disch := (first | decide | omega)) only [hA, go_sem]
   refine ACalls.nxt (h2 _ _) ?_
   simp (disch := (first | decide | omega)) only [hA, hm, hs, go_sem]
   exact leave_pure (xs := [.v (.int .i64 ((n + mm : Nat) : Int))]) (.inr rfl) (by simp (disch := (first | decide | omega)) only [resVs, resV, go_sem, hA]) kO hR hB ⟨rfl, rfl, rfl⟩
theorem normalId_spec (i j : ITI) (b l : List Row) : ACalls Tryd.prog 96 [iA i, iA j] b l (fun r b' l' => r = iA (nId i j) ∧ b' = b ∧ l' = l) := by
 refine calls_kept a_normalId_ok rfl (by decide) ?_
 intro B g hB hR hE hA; simp only [KArgs] at hA
 have go : ∀ (h : nId i j = .node i j), ∀ b l, ACalls Tryd.prog 93 [iA i, iA j] b l (fun r b' l' => r = iA (nId i j) ∧ b' = b ∧ l' = l) := fun h b l => by rw [h]; exact nodeId_spec i j b l
 cases i with
 | node x y =>
   have hn := go rfl
   have hq : nId (.node x y) j = .node (.node x y) j := rfl
   simp only [hq, iA, iLf_l, iLf_n, iLs] at hA hn ⊢
   simp (disch := (first | decide | omega)) only [a_normalId, hA, go_sem]
   refine ACalls.nxt (hn _ _) ?_
   simp (disch := (first | decide | omega)) only [hA, setFrom, cellsOf, go_sem]
   exact leave_pure (xs := [.agg [.v (.int .i64 0), .v (.isl 2 [[.int .i64 0, .isl 2 [[.int .i64 (iLf x), iLs x], [.int .i64 (iLf y), iLs y]]], [.int .i64 (iLf j), iLs j]])]]) (.inr rfl) (by simp (disch := (first | decide | omega)) only [resVs, resV, go_sem, hA, setFrom, cellsOf]) kO hR hB ⟨rfl, rfl, rfl⟩
 | leaf a =>
   cases j with
   | node x y =>
     have hn := go rfl
     have hq : nId (.leaf a) (.node x y) = .node (.leaf a) (.node x y) := rfl
     simp only [hq, iA, iLf_l, iLf_n, iLs] at hA hn ⊢
     simp (disch := (first | decide | omega)) only [a_normalId, hA, go_sem]
     refine ACalls.nxt (hn _ _) ?_
     simp (disch := (first | decide | omega)) only [hA, setFrom, cellsOf, go_sem]
     exact leave_pure (xs := [.agg [.v (.int .i64 0), .v (.isl 2 [[.int .i64 (bI a), .zsl], [.int .i64 0, .isl 2 [[.int .i64 (iLf x), iLs x], [.int .i64 (iLf y), iLs y]]]])]]) (.inr rfl) (by simp (disch := (first | decide | omega)) only [resVs, resV, go_sem, hA, setFrom, cellsOf]) kO hR hB ⟨rfl, rfl, rfl⟩
   | leaf c =>
     by_cases hac : a = c
     ·subst hac
      have hl := fun b l => leafId_spec a (bI a) rfl b l
      have hq : nId (.leaf a) (.leaf a) = .leaf a := if_pos rfl
      have hb : (bI a == bI a) = true := by simp
      simp only [hq, iA, iLf_l, iLf_n, iLs] at hA hl ⊢
      simp (disch := (first | decide | omega)) only [a_normalId, hA, hb, go_sem]
      refine ACalls.nxt (hl _ _) ?_
      simp (disch := (first | decide | omega)) only [hA, setFrom, cellsOf, go_sem]
      exact leave_pure (xs := [.agg [.v (.int .i64 (bI a)), .v .zsl]]) (.inr rfl) (by simp (disch := (first | decide | omega)) only [resVs, resV, go_sem, hA, setFrom, cellsOf]) kO hR hB ⟨rfl, rfl, rfl⟩
     ·have hq : nId (.leaf a) (.leaf c) = .node (.leaf a) (.leaf c) := if_neg hac
      have hn := go hq
      have hb : (bI a == bI c) = false := by cases a <;> cases c <;> first | rfl | exact absurd rfl hac
      simp only [hq, iA, iLf_l, iLf_n, iLs] at hA hn ⊢
      simp (disch := (first | decide | omega)) only [a_normalId, hA, hb, go_sem]
      refine ACalls.nxt (hn _ _) ?_
      simp (disch := (first | decide | omega)) only [hA, setFrom, cellsOf, go_sem]
      exact leave_pure (xs := [.agg [.v (.int .i64 0), .v (.isl 2 [[.int .i64 (bI a), .zsl], [.int .i64 (bI c), .zsl]])]]) (.inr rfl) (by simp (disch := (first | decide | omega)) only [resVs, resV, go_sem, hA, setFrom, cellsOf]) kO hR hB ⟨rfl, rfl, rfl⟩
theorem lf_zs {x : ITT} (h : tLf x = true) : tLs x = .zsl := by cases x <;> first | rfl | cases h
theorem lf_isl {x : ITT} (h : tLf x = false) : ∃ r, tLs x = .isl 2 r ∧ r.length = 2 := by cases x <;> first | exact ⟨_, rfl, rfl⟩ | cases h
theorem normalTree_spec (n : Nat) (x y : ITT) (hx : n + tMax x ≤ 1000000000) (hy : n + tMax y ≤ 1000000000) (b l : List Row) : ACalls Tryd.prog 98 [.v (.int .i64 n), tA x, tA y] b l (fun r b' l' => r = tA (nTr n x y) ∧ b' = b ∧ l' = l) := by
 refine calls_kept a_normalTree_ok rfl (by decide) ?_
 intro B g hB hR hE hA; simp only [KArgs] at hA
 have nx := tN_le x
 have ny := tN_le y
 by_cases hc : tLf x = true ∧ tLf y = true ∧ tN x = tN y
 ·have hq : nTr n x y = .leaf (n + tN x) := if_pos hc
  have e1 := lf_zs hc.1
  have e2 := lf_zs hc.2.1
  have e3 : (((tN x : Nat) : Int) == ((tN y : Nat) : Int)) = true := by rw [hc.2.2]; simp
  have hs : (n : Int) + (tN x : Int) = ((n + tN x : Nat) : Int) := by omega
  have hl := fun b l => leafTree_spec (n + tN x) b l
  simp only [tA, e1, e2, tN_l, tLs] at hA hl
  rw [hq]
  simp (disch := (first | decide | omega)) only [a_normalTree, hA, e3, hs, go_sem]
  refine ACalls.nxt (hl _ _) ?_
  simp (disch := (first | decide | omega)) only [hA, setFrom, cellsOf, go_sem]
  exact leave_pure (xs := [.agg [.v (.int .i64 ((n + tN x : Nat) : Int)), .v .zsl]]) (.inr rfl) (by simp (disch := (first | decide | omega)) only [resVs, resV, go_sem, hA, setFrom, cellsOf]) kO hR hB ⟨rfl, rfl, rfl⟩
 ·have hq : nTr n x y = .node (n + min (tN x) (tN y)) (tSink (min (tN x) (tN y)) x) (tSink (min (tN x) (tN y)) y) := if_neg hc
  rw [hq]
  obtain ⟨m, hm⟩ : ∃ m, min (tN x) (tN y) = m := ⟨_, rfl⟩
  rw [hm]
  have hmm : (if (tN y : Int) < (tN x : Int) then (tN y : Int) else (tN x : Int)) = (m : Int) := by split <;> omega
  have h1 := fun b l => lift_spec x (0 - (m : Int)) (tN x - m) oM oM b l
  have h2 := fun b l => lift_spec y (0 - (m : Int)) (tN y - m) oM oM b l
  have h3 := fun b l => nodeTree_spec (n + m) (tSink m x) (tSink m y) b l
  have hs : (n : Int) + (m : Int) = ((n + m : Nat) : Int) := by omega
  rw [sink_tA, sink_tA] at h3
  have hT : tLs (.node (n + m) (tSink m x) (tSink m y)) = .isl 2 [[.int .i64 ((tN x - m : Nat) : Int), tLs x], [.int .i64 ((tN y - m : Nat) : Int), tLs y]] := by cases x <;> cases y <;> rfl
  obtain ⟨RV, hRV⟩ : ∃ V, tLs (.node (n + m) (tSink m x) (tSink m y)) = V := ⟨_, rfl⟩
  simp only [tA, tN_n, hRV] at hA h1 h2 h3 ⊢
  cases ex : tLf x with
  | false =>
    obtain ⟨r1, q1, q2⟩ := lf_isl ex
    simp only [q1] at hA h1 h3
    simp (disch := (first | decide | omega)) only [a_normalTree, hA, q2, hmm, hs, go_sem]
    refine ACalls.nxt (h1 _ _) ?_
    simp (disch := (first | decide | omega)) only [hA, hs, go_sem]
    refine ACalls.nxt (h2 _ _) ?_
    simp (disch := (first | decide | omega)) only [hA, hs, go_sem]
    refine ACalls.nxt (h3 _ _) ?_
    simp (disch := (first | decide | omega)) only [hA, setFrom, cellsOf, go_sem]
    exact leave_pure (xs := [.agg [.v (.int .i64 ((n + m : Nat) : Int)), .v RV]]) (.inr rfl) (by simp (disch := (first | decide | omega)) only [resVs, resV, go_sem, hA, setFrom, cellsOf]) kO hR hB ⟨rfl, rfl, rfl⟩
  | true =>
    have e1 := lf_zs ex
    cases ey : tLf y with
    | false =>
      obtain ⟨r1, q1, q2⟩ := lf_isl ey
      simp only [q1, e1] at hA h1 h2 h3
      simp (disch := (first | decide | omega)) only [a_normalTree, hA, q2, hmm, hs, go_sem]
      refine ACalls.nxt (h1 _ _) ?_
      simp (disch := (first | decide | omega)) only [hA, hs, go_sem]
      refine ACalls.nxt (h2 _ _) ?_
      simp (disch := (first | decide | omega)) only [hA, hs, go_sem]
      refine ACalls.nxt (h3 _ _) ?_
      simp (disch := (first | decide | omega)) only [hA, setFrom, cellsOf, go_sem]
      exact leave_pure (xs := [.agg [.v (.int .i64 ((n + m : Nat) : Int)), .v RV]]) (.inr rfl) (by simp (disch := (first | decide | omega)) only [resVs, resV, go_sem, hA, setFrom, cellsOf]) kO hR hB ⟨rfl, rfl, rfl⟩
    | true =>
      have e2 := lf_zs ey
      have e3 : (((tN x : Nat) : Int) == ((tN y : Nat) : Int)) = false := by
       rw [beq_eq_false_iff_ne]; intro h; exact hc ⟨ex, ey, by omega⟩
      simp only [e1, e2] at hA h1 h2 h3
      simp (disch := (first | decide | omega)) only [a_normalTree, hA, e3, hmm, hs, go_sem]
      refine ACalls.nxt (h1 _ _) ?_
      simp (disch := (first | decide | omega)) only [hA, hs, go_sem]
      refine ACalls.nxt (h2 _ _) ?_
      simp (disch := (first | decide | omega)) only [hA, hs, go_sem]
      refine ACalls.nxt (h3 _ _) ?_
      simp (disch := (first | decide | omega)) only [hA, setFrom, cellsOf, go_sem]
      exact leave_pure (xs := [.agg [.v (.int .i64 ((n + m : Nat) : Int)), .v RV]]) (.inr rfl) (by simp (disch := (first | decide | omega)) only [resVs, resV, go_sem, hA, setFrom, cellsOf]) kO hR hB ⟨rfl, rfl, rfl⟩
theorem validIdI_spec : ∀ (i : ITI) (d : Nat), INm i → d ≤ 1000000 → ∀ (b l : List Row), ACalls Tryd.prog 94 [iA i, .v (.int .i64 d)] b l (fun r b' l' => r = .v (.bool (decide (iDep i ≤ d))) ∧ b' = b ∧ l' = l)
 | .leaf a, d, hi, hd, b, l => by
   refine calls_kept a_validIdI_ok rfl (by decide) ?_
   intro B g hB hR hE hA; simp only [KArgs] at hA
   have hq : decide (iDep (.leaf a) ≤ d) = true := decide_eq_true (Nat.zero_le _)
   rw [hq]
   cases a
   all_goals
    simp only [iA, iLf_l, iLf_n, iLs, bI_t, bI_f] at hA
    simp (disch := (first | decide | omega)) only [a_validIdI, hA, go_sem]
    exact leave_pure (xs := [.v (.bool true)]) (.inr rfl) (by simp (disch := (first | decide | omega)) only [resVs, resV, go_sem, hA]) kO hR hB ⟨rfl, rfl, rfl⟩
 | .node x y, d, hi, hd, b, l => by
   refine calls_kept a_validIdI_ok rfl (by decide) ?_
   intro B g hB hR hE hA; simp only [KArgs] at hA
   have hx := hi.2.1
   have hy := hi.2.2
   simp only [iA, iLf_l, iLf_n, iLs] at hA
   cases d with
   | zero =>
     have hq : decide (iDep (.node x y) ≤ 0) = false := decide_eq_false (by simp [iDep])
     have hz : (((0 : Nat) : Int) == 0) = true := rfl
     rw [hq]
     simp (disch := (first | decide | omega)) only [a_validIdI, hA, hz, go_sem]
     exact leave_pure (xs := [.v (.bool false)]) (.inr rfl) (by simp (disch := (first | decide | omega)) only [resVs, resV, go_sem, hA]) kO hR hB ⟨rfl, rfl, rfl⟩
   | succ d =>
     have hz : (((d + 1 : Nat) : Int) == 0) = false := by rw [beq_eq_false_iff_ne]; omega
     have hs : ((d + 1 : Nat) : Int) - 1 = (d : Int) := by omega
     have hq : decide (iDep (.node x y) ≤ d + 1) = (decide (iDep x ≤ d) && decide (iDep y ≤ d)) := by
      rw [← Bool.decide_and, decide_eq_decide]; simp only [iDep]; omega
     have h1 := validIdI_spec x d hx oM
     have h2 := validIdI_spec y d hy oM
     rw [hq]
     have fin : ∀ (q1 : Bool) (k1 : ∀ b l, ACalls Tryd.prog 94 [iA x, .v (.int .i64 d)] b l (fun r b' l' => r = .v (.bool q1) ∧ b' = b ∧ l' = l)), True := fun _ _ => trivial
     obtain ⟨q1, e1⟩ : ∃ q, decide (iDep x ≤ d) = q := ⟨_, rfl⟩
     obtain ⟨q2, e2⟩ : ∃ q, decide (iDep y ≤ d) = q := ⟨_, rfl⟩
     rw [e1] at h1 ⊢
     rw [e2] at h2 ⊢
     cases x with
     | node x1 x2 =>
       simp only [iA, iLf_l, iLf_n, iLs] at hA h1 h2
       cases q1
       ·simp (disch := (first | decide | omega)) only [a_validIdI, hA, hz, hs, setFrom, cellsOf, go_sem]
        refine ACalls.nxt (h1 _ _) ?_
        simp (disch := (first | decide | omega)) only [hA, go_sem]
        exact leave_pure (xs := [.v (.bool false)]) (.inr rfl) (by simp (disch := (first | decide | omega)) only [resVs, resV, go_sem, hA]) kO hR hB ⟨rfl, rfl, rfl⟩
       ·simp (disch := (first | decide | omega)) only [a_validIdI, hA, hz, hs, setFrom, cellsOf, go_sem]
        refine ACalls.nxt (h1 _ _) ?_
        simp (disch := (first | decide | omega)) only [hA, hs, go_sem]
        refine ACalls.nxt (h2 _ _) ?_
        simp (disch := (first | decide | omega)) only [hA, go_sem]
        exact leave_pure (xs := [.v (.bool q2)]) (.inr rfl) (by simp (disch := (first | decide | omega)) only [resVs, resV, go_sem, hA]) kO hR hB ⟨rfl, rfl, rfl⟩
     | leaf a =>
       cases y with
       | node y1 y2 =>
         simp only [iA, iLf_l, iLf_n, iLs] at hA h1 h2
         cases q1
         ·simp (disch := (first | decide | omega)) only [a_validIdI, hA, hz, hs, setFrom, cellsOf, go_sem]
          refine ACalls.nxt (h1 _ _) ?_
          simp (disch := (first | decide | omega)) only [hA, go_sem]
          exact leave_pure (xs := [.v (.bool false)]) (.inr rfl) (by simp (disch := (first | decide | omega)) only [resVs, resV, go_sem, hA]) kO hR hB ⟨rfl, rfl, rfl⟩
         ·simp (disch := (first | decide | omega)) only [a_validIdI, hA, hz, hs, setFrom, cellsOf, go_sem]
          refine ACalls.nxt (h1 _ _) ?_
          simp (disch := (first | decide | omega)) only [hA, hs, go_sem]
          refine ACalls.nxt (h2 _ _) ?_
          simp (disch := (first | decide | omega)) only [hA, go_sem]
          exact leave_pure (xs := [.v (.bool q2)]) (.inr rfl) (by simp (disch := (first | decide | omega)) only [resVs, resV, go_sem, hA]) kO hR hB ⟨rfl, rfl, rfl⟩
       | leaf c =>
         have hb : (bI a == bI c) = false := by
          have : a ≠ c := fun h => hi.1 ⟨a, rfl, by rw [h]⟩
          cases a <;> cases c <;> first | rfl | exact absurd rfl this
         simp only [iA, iLf_l, iLf_n, iLs] at hA h1 h2
         cases q1
         ·simp (disch := (first | decide | omega)) only [a_validIdI, hA, hz, hs, hb, setFrom, cellsOf, go_sem]
          refine ACalls.nxt (h1 _ _) ?_
          simp (disch := (first | decide | omega)) only [hA, go_sem]
          exact leave_pure (xs := [.v (.bool false)]) (.inr rfl) (by simp (disch := (first | decide | omega)) only [resVs, resV, go_sem, hA]) kO hR hB ⟨rfl, rfl, rfl⟩
         ·simp (disch := (first | decide | omega)) only [a_validIdI, hA, hz, hs, hb, setFrom, cellsOf, go_sem]
          refine ACalls.nxt (h1 _ _) ?_
          simp (disch := (first | decide | omega)) only [hA, hs, go_sem]
          refine ACalls.nxt (h2 _ _) ?_
          simp (disch := (first | decide | omega)) only [hA, go_sem]
          exact leave_pure (xs := [.v (.bool q2)]) (.inr rfl) (by simp (disch := (first | decide | omega)) only [resVs, resV, go_sem, hA]) kO hR hB ⟨rfl, rfl, rfl⟩
theorem ValidId_spec (i : ITI) (hi : INm i) (b l : List Row) : ACalls Tryd.prog 53 [iA i] b l (fun r b' l' => r = .v (.bool (decide (iDep i ≤ 16))) ∧ b' = b ∧ l' = l) := by
 refine calls_kept a_ValidId_ok rfl (by decide) ?_
 intro B g hB hR hE hA; simp only [KArgs] at hA
 have h1 := fun b l => validIdI_spec i 16 hi oM b l
 have e : ((16 : Nat) : Int) = 16 := rfl
 simp only [iA, e] at hA h1
 simp (disch := (first | decide | omega)) only [a_ValidId, hA, setFrom, cellsOf, go_sem]
 refine ACalls.nxt (h1 _ _) ?_
 simp (disch := (first | decide | omega)) only [hA, go_sem]
 exact leave_pure (xs := [.v (.bool (decide (iDep i ≤ 16)))]) (.inr rfl) (by simp (disch := (first | decide | omega)) only [resVs, resV, go_sem, hA]) kO hR hB ⟨rfl, rfl, rfl⟩
set_option maxRecDepth 20000
def a_validTreeI : AFunc := ⟨3,86,[.tmp 6],(.seq (.region [⟨some 3,.box (.t 0),none⟩,⟨some 6,.mv (.c (.v (.bool false))),none⟩]) (.seq (.seq (.region [⟨some 9,.faddr 0 (.t 3),none⟩,⟨some 10,.load none (.t 9),none⟩,⟨some 11,.bin .lss (.t 10) (.c (.v (.int .i64 0))),none⟩,⟨some 12,.mv (.t 11),none⟩,⟨some 13,.faddr 0 (.t 3),some (12,false)⟩,⟨some 14,.load none (.t 13),some (12,false)⟩,⟨some 15,.mv (.t 2),some (12,false)⟩,⟨some 16,.bin .gtr (.t 14) (.t 15),some (12,false)⟩,⟨some 17,.pick (.t 12) (.c (.v (.bool true))) (.t 16),none⟩]) (.cond (.t 17) (.seq (.region [⟨some 6,.mv (.c (.v (.bool false))),none⟩]) .ret) .skip)) (.seq (.seq (.region [⟨some 18,.faddr 1 (.t 3),none⟩,⟨some 19,.load none (.t 18),none⟩,⟨some 20,.len (.t 19),none⟩,⟨some 21,.bin .eql (.t 20) (.c (.v (.int .i64 0))),none⟩]) (.cond (.t 21) (.seq (.region [⟨some 6,.mv (.c (.v (.bool true))),none⟩]) .ret) .skip)) (.seq (.seq (.region [⟨some 22,.faddr 1 (.t 3),none⟩,⟨some 23,.load none (.t 22),none⟩,⟨some 24,.len (.t 23),none⟩,⟨some 25,.bin .neq (.t 24) (.c (.v (.int .i64 2))),none⟩,⟨some 26,.mv (.t 25),none⟩,⟨some 27,.mv (.t 1),some (26,false)⟩,⟨some 28,.bin .eql (.t 27) (.c (.v (.int .i64 0))),some (26,false)⟩,⟨some 29,.pick (.t 26) (.c (.v (.bool true))) (.t 28),none⟩]) (.cond (.t 29) (.seq (.region [⟨some 6,.mv (.c (.v (.bool false))),none⟩]) .ret) .skip)) (.seq (.draw [⟨0,⟨some 30,.faddr 1 (.t 3),none⟩,[]⟩,⟨1,⟨some 31,.load none (.t 30),none⟩,[]⟩,⟨2,⟨some 32,.iaddr 2 (.t 31) (.c (.v (.int .i64 0))),none⟩,[]⟩,⟨3,⟨some 33,.load (some 2) (.t 32),none⟩,[]⟩,⟨4,⟨some 34,.faddr 1 (.t 3),none⟩,[]⟩,⟨5,⟨some 35,.load none (.t 34),none⟩,[]⟩,⟨6,⟨some 36,.iaddr 2 (.t 35) (.c (.v (.int .i64 1))),none⟩,[]⟩,⟨7,⟨some 37,.load (some 2) (.t 36),none⟩,[]⟩,⟨8,⟨some 7,.alloc [(.v (.int .i64 0)),(.v .zsl)],none⟩,[⟨some 30,.faddr 1 (.t 3),none⟩,⟨some 31,.load none (.t 30),none⟩,⟨some 32,.iaddr 2 (.t 31) (.c (.v (.int .i64 0))),none⟩,⟨some 33,.load (some 2) (.t 32),none⟩,⟨some 34,.faddr 1 (.t 3),none⟩,⟨some 35,.load none (.t 34),none⟩,⟨some 36,.iaddr 2 (.t 35) (.c (.v (.int .i64 1))),none⟩,⟨some 37,.load (some 2) (.t 36),none⟩]⟩,⟨9,⟨some 8,.alloc [(.v (.int .i64 0)),(.v .zsl)],none⟩,[⟨some 30,.faddr 1 (.t 3),none⟩,⟨some 31,.load none (.t 30),none⟩,⟨some 32,.iaddr 2 (.t 31) (.c (.v (.int .i64 0))),none⟩,⟨some 33,.load (some 2) (.t 32),none⟩,⟨some 34,.faddr 1 (.t 3),none⟩,⟨some 35,.load none (.t 34),none⟩,⟨some 36,.iaddr 2 (.t 35) (.c (.v (.int .i64 1))),none⟩,⟨some 37,.load (some 2) (.t 36),none⟩]⟩,⟨10,⟨none,.store 2 (.t 7) (.t 33),none⟩,[⟨some 34,.faddr 1 (.t 3),none⟩,⟨some 35,.load none (.t 34),none⟩,⟨some 36,.iaddr 2 (.t 35) (.c (.v (.int .i64 1))),none⟩,⟨some 37,.load (some 2) (.t 36),none⟩]⟩,⟨11,⟨none,.store 2 (.t 8) (.t 37),none⟩,[]⟩]) (.seq (.seq (.region [⟨some 38,.faddr 0 (.t 7),none⟩,⟨some 39,.load none (.t 38),none⟩,⟨some 40,.bin .neq (.t 39) (.c (.v (.int .i64 0))),none⟩,⟨some 41,.mv (.t 40),none⟩,⟨some 42,.faddr 0 (.t 8),some (41,true)⟩,⟨some 43,.load none (.t 42),some (41,true)⟩,⟨some 44,.bin .neq (.t 43) (.c (.v (.int .i64 0))),some (41,true)⟩,⟨some 45,.pick (.t 41) (.t 44) (.c (.v (.bool false))),none⟩,⟨some 46,.mv (.t 45),none⟩,⟨some 47,.faddr 0 (.t 7),some (46,false)⟩,⟨some 48,.load none (.t 47),some (46,false)⟩,⟨some 49,.bin .eql (.t 48) (.c (.v (.int .i64 0))),some (46,false)⟩,⟨some 50,.mv (.t 49),some (46,false)⟩,⟨some 51,.faddr 0 (.t 8),some (50,true)⟩,⟨some 52,.load none (.t 51),some (50,true)⟩,⟨some 53,.bin .eql (.t 52) (.c (.v (.int .i64 0))),some (50,true)⟩,⟨some 54,.pick (.t 50) (.t 53) (.c (.v (.bool false))),some (46,false)⟩,⟨some 55,.mv (.t 54),some (46,false)⟩,⟨some 56,.faddr 1 (.t 7),some (55,true)⟩,⟨some 57,.load none (.t 56),some (55,true)⟩,⟨some 58,.len (.t 57),some (55,true)⟩,⟨some 59,.bin .eql (.t 58) (.c (.v (.int .i64 0))),some (55,true)⟩,⟨some 60,.pick (.t 55) (.t 59) (.c (.v (.bool false))),some (46,false)⟩,⟨some 61,.mv (.t 60),some (46,false)⟩,⟨some 62,.faddr 1 (.t 8),some (61,true)⟩,⟨some 63,.load none (.t 62),some (61,true)⟩,⟨some 64,.len (.t 63),some (61,true)⟩,⟨some 65,.bin .eql (.t 64) (.c (.v (.int .i64 0))),some (61,true)⟩,⟨some 66,.pick (.t 61) (.t 65) (.c (.v (.bool false))),some (46,false)⟩,⟨some 67,.pick (.t 46) (.c (.v (.bool true))) (.t 66),none⟩]) (.cond (.t 67) (.seq (.region [⟨some 6,.mv (.c (.v (.bool false))),none⟩]) .ret) .skip)) (.seq (.region [⟨some 68,.load (some 2) (.t 7),none⟩,⟨some 69,.mv (.t 1),none⟩,⟨some 70,.bin .sub (.t 69) (.c (.v (.int .i64 1))),none⟩,⟨some 71,.mv (.t 2),none⟩,⟨some 72,.faddr 0 (.t 3),none⟩,⟨some 73,.load none (.t 72),none⟩,⟨some 74,.bin .sub (.t 71) (.t 73),none⟩,⟨some 75,.call (.c (.fn 103 [])) [(.t 68),(.t 70),(.t 74)],none⟩,⟨some 76,.mv (.t 75),none⟩,⟨some 77,.load (some 2) (.t 8),some (76,true)⟩,⟨some 78,.mv (.t 1),some (76,true)⟩,⟨some 79,.bin .sub (.t 78) (.c (.v (.int .i64 1))),some (76,true)⟩,⟨some 80,.mv (.t 2),some (76,true)⟩,⟨some 81,.faddr 0 (.t 3),some (76,true)⟩,⟨some 82,.load none (.t 81),some (76,true)⟩,⟨some 83,.bin .sub (.t 80) (.t 82),some (76,true)⟩,⟨some 84,.call (.c (.fn 103 [])) [(.t 77),(.t 79),(.t 83)],some (76,true)⟩,⟨some 85,.pick (.t 76) (.t 84) (.c (.v (.bool false))),none⟩,⟨some 6,.mv (.t 85),none⟩]) .ret)))))))⟩
theorem a_validTreeI_ok : cFunc Tryd.prog 103 = some a_validTreeI := by kernel_rfl
def a_ValidTree : AFunc := ⟨1,5,[.tmp 2],(.seq (.region [⟨some 1,.box (.t 0),none⟩,⟨some 2,.mv (.c (.v (.bool false))),none⟩]) (.seq (.region [⟨some 3,.load (some 2) (.t 1),none⟩,⟨some 4,.call (.c (.fn 103 [])) [(.t 3),(.c (.v (.int .i64 16))),(.c (.v (.int .i64 1073741824)))],none⟩,⟨some 2,.mv (.t 4),none⟩]) .ret))⟩
theorem a_ValidTree_ok : cFunc Tryd.prog 62 = some a_ValidTree := by kernel_rfl
def a_validI : AFunc := ⟨1,11,[.tmp 2],(.seq (.region [⟨some 1,.box (.t 0),none⟩,⟨some 2,.mv (.c (.v (.bool false))),none⟩]) (.seq (.region [⟨some 3,.faddr 0 (.t 1),none⟩,⟨some 4,.load (some 2) (.t 3),none⟩,⟨some 5,.call (.c (.fn 53 [])) [(.t 4)],none⟩,⟨some 6,.mv (.t 5),none⟩,⟨some 7,.faddr 2 (.t 1),some (6,true)⟩,⟨some 8,.load (some 2) (.t 7),some (6,true)⟩,⟨some 9,.call (.c (.fn 62 [])) [(.t 8)],some (6,true)⟩,⟨some 10,.pick (.t 6) (.t 9) (.c (.v (.bool false))),none⟩,⟨some 2,.mv (.t 10),none⟩]) .ret))⟩
theorem a_validI_ok : cFunc Tryd.prog 50 = some a_validI := by kernel_rfl
def a_SeedI : AFunc := ⟨0,4,[.cell 0 (some 4)],(.seq (.region [⟨some 0,.alloc [(.v (.int .i64 0)),(.v .zsl),(.v (.int .i64 0)),(.v .zsl)],none⟩]) (.seq (.region [⟨some 1,.call (.c (.fn 48 [])) [(.c (.v (.int .i64 1)))],none⟩,⟨some 2,.call (.c (.fn 49 [])) [(.c (.v (.int .i64 0)))],none⟩,⟨some 3,.build [(.v (.int .i64 0)),(.v .zsl),(.v (.int .i64 0)),(.v .zsl)] [(0,2,(.t 1)),(2,2,(.t 2))],none⟩,⟨none,.store 4 (.t 0) (.t 3),none⟩]) .ret))⟩
theorem a_SeedI_ok : cFunc Tryd.prog 15 = some a_SeedI := by kernel_rfl
def a_copiedId : AFunc := ⟨1,21,[.cell 2 (some 2)],(.seq (.region [⟨some 1,.box (.t 0),none⟩,⟨some 2,.alloc [(.v (.int .i64 0)),(.v .zsl)],none⟩]) (.seq (.seq (.region [⟨some 3,.faddr 1 (.t 1),none⟩,⟨some 4,.load none (.t 3),none⟩,⟨some 5,.len (.t 4),none⟩,⟨some 6,.bin .eql (.t 5) (.c (.v (.int .i64 0))),none⟩]) (.cond (.t 6) (.seq (.region [⟨some 7,.faddr 0 (.t 1),none⟩,⟨some 8,.load none (.t 7),none⟩,⟨some 9,.call (.c (.fn 48 [])) [(.t 8)],none⟩,⟨none,.store 2 (.t 2) (.t 9),none⟩]) .ret) .skip)) (.seq (.draw [⟨0,⟨some 10,.faddr 1 (.t 1),none⟩,[]⟩,⟨1,⟨some 11,.load none (.t 10),none⟩,[]⟩,⟨2,⟨some 12,.iaddr 2 (.t 11) (.c (.v (.int .i64 0))),none⟩,[]⟩,⟨3,⟨some 13,.load (some 2) (.t 12),none⟩,[]⟩,⟨5,⟨some 15,.faddr 1 (.t 1),none⟩,[]⟩,⟨6,⟨some 16,.load none (.t 15),none⟩,[]⟩,⟨7,⟨some 17,.iaddr 2 (.t 16) (.c (.v (.int .i64 1))),none⟩,[]⟩,⟨8,⟨some 18,.load (some 2) (.t 17),none⟩,[]⟩,⟨4,⟨some 14,.call (.c (.fn 52 [])) [(.t 13)],none⟩,[⟨some 15,.faddr 1 (.t 1),none⟩,⟨some 16,.load none (.t 15),none⟩,⟨some 17,.iaddr 2 (.t 16) (.c (.v (.int .i64 1))),none⟩,⟨some 18,.load (some 2) (.t 17),none⟩]⟩,⟨9,⟨some 19,.call (.c (.fn 52 [])) [(.t 18)],none⟩,[]⟩,⟨10,⟨some 20,.call (.c (.fn 93 [])) [(.t 14),(.t 19)],none⟩,[]⟩,⟨11,⟨none,.store 2 (.t 2) (.t 20),none⟩,[]⟩]) .ret)))⟩
theorem a_copiedId_ok : cFunc Tryd.prog 52 = some a_copiedId := by kernel_rfl
def a_copiedTree : AFunc := ⟨1,23,[.cell 2 (some 2)],(.seq (.region [⟨some 1,.box (.t 0),none⟩,⟨some 2,.alloc [(.v (.int .i64 0)),(.v .zsl)],none⟩]) (.seq (.seq (.region [⟨some 3,.faddr 1 (.t 1),none⟩,⟨some 4,.load none (.t 3),none⟩,⟨some 5,.len (.t 4),none⟩,⟨some 6,.bin .eql (.t 5) (.c (.v (.int .i64 0))),none⟩]) (.cond (.t 6) (.seq (.region [⟨some 7,.faddr 0 (.t 1),none⟩,⟨some 8,.load none (.t 7),none⟩,⟨some 9,.call (.c (.fn 49 [])) [(.t 8)],none⟩,⟨none,.store 2 (.t 2) (.t 9),none⟩]) .ret) .skip)) (.seq (.draw [⟨0,⟨some 10,.faddr 0 (.t 1),none⟩,[]⟩,⟨1,⟨some 11,.load none (.t 10),none⟩,[]⟩,⟨2,⟨some 12,.faddr 1 (.t 1),none⟩,[]⟩,⟨3,⟨some 13,.load none (.t 12),none⟩,[]⟩,⟨4,⟨some 14,.iaddr 2 (.t 13) (.c (.v (.int .i64 0))),none⟩,[]⟩,⟨5,⟨some 15,.load (some 2) (.t 14),none⟩,[]⟩,⟨7,⟨some 17,.faddr 1 (.t 1),none⟩,[]⟩,⟨8,⟨some 18,.load none (.t 17),none⟩,[]⟩,⟨9,⟨some 19,.iaddr 2 (.t 18) (.c (.v (.int .i64 1))),none⟩,[]⟩,⟨10,⟨some 20,.load (some 2) (.t 19),none⟩,[]⟩,⟨6,⟨some 16,.call (.c (.fn 54 [])) [(.t 15)],none⟩,[⟨some 10,.faddr 0 (.t 1),none⟩,⟨some 11,.load none (.t 10),none⟩,⟨some 17,.faddr 1 (.t 1),none⟩,⟨some 18,.load none (.t 17),none⟩,⟨some 19,.iaddr 2 (.t 18) (.c (.v (.int .i64 1))),none⟩,⟨some 20,.load (some 2) (.t 19),none⟩]⟩,⟨11,⟨some 21,.call (.c (.fn 54 [])) [(.t 20)],none⟩,[⟨some 10,.faddr 0 (.t 1),none⟩,⟨some 11,.load none (.t 10),none⟩]⟩,⟨12,⟨some 22,.call (.c (.fn 95 [])) [(.t 11),(.t 16),(.t 21)],none⟩,[]⟩,⟨13,⟨none,.store 2 (.t 2) (.t 22),none⟩,[]⟩]) .ret)))⟩
theorem a_copiedTree_ok : cFunc Tryd.prog 54 = some a_copiedTree := by kernel_rfl
def a_partsI : AFunc := ⟨1,18,[.cell 2 (some 2),.cell 3 (some 2)],(.seq (.region [⟨some 1,.box (.t 0),none⟩,⟨some 2,.alloc [(.v (.int .i64 0)),(.v .zsl)],none⟩,⟨some 3,.alloc [(.v (.int .i64 0)),(.v .zsl)],none⟩]) (.seq (.seq (.region [⟨some 4,.faddr 1 (.t 1),none⟩,⟨some 5,.load none (.t 4),none⟩,⟨some 6,.len (.t 5),none⟩,⟨some 7,.bin .eql (.t 6) (.c (.v (.int .i64 0))),none⟩]) (.cond (.t 7) (.seq (.region [⟨some 8,.call (.c (.fn 49 [])) [(.c (.v (.int .i64 0)))],none⟩,⟨some 9,.call (.c (.fn 49 [])) [(.c (.v (.int .i64 0)))],none⟩,⟨none,.store 2 (.t 2) (.t 8),none⟩,⟨none,.store 2 (.t 3) (.t 9),none⟩]) .ret) .skip)) (.seq (.draw [⟨0,⟨some 10,.faddr 1 (.t 1),none⟩,[]⟩,⟨1,⟨some 11,.load none (.t 10),none⟩,[]⟩,⟨2,⟨some 12,.iaddr 2 (.t 11) (.c (.v (.int .i64 0))),none⟩,[]⟩,⟨3,⟨some 13,.load (some 2) (.t 12),none⟩,[]⟩,⟨4,⟨some 14,.faddr 1 (.t 1),none⟩,[]⟩,⟨5,⟨some 15,.load none (.t 14),none⟩,[]⟩,⟨6,⟨some 16,.iaddr 2 (.t 15) (.c (.v (.int .i64 1))),none⟩,[]⟩,⟨7,⟨some 17,.load (some 2) (.t 16),none⟩,[]⟩,⟨8,⟨none,.store 2 (.t 2) (.t 13),none⟩,[⟨some 14,.faddr 1 (.t 1),none⟩,⟨some 15,.load none (.t 14),none⟩,⟨some 16,.iaddr 2 (.t 15) (.c (.v (.int .i64 1))),none⟩,⟨some 17,.load (some 2) (.t 16),none⟩]⟩,⟨9,⟨none,.store 2 (.t 3) (.t 17),none⟩,[]⟩]) .ret)))⟩
theorem a_partsI_ok : cFunc Tryd.prog 97 = some a_partsI := by kernel_rfl
def a_mergeI : AFunc := ⟨2,61,[.cell 4 (some 2)],(.seq (.region [⟨some 2,.box (.t 0),none⟩,⟨some 3,.box (.t 1),none⟩,⟨some 4,.alloc [(.v (.int .i64 0)),(.v .zsl)],none⟩]) (.seq (.seq (.region [⟨some 10,.faddr 1 (.t 2),none⟩,⟨some 11,.load none (.t 10),none⟩,⟨some 12,.len (.t 11),none⟩,⟨some 13,.bin .eql (.t 12) (.c (.v (.int .i64 0))),none⟩,⟨some 14,.mv (.t 13),none⟩,⟨some 15,.faddr 1 (.t 3),some (14,true)⟩,⟨some 16,.load none (.t 15),some (14,true)⟩,⟨some 17,.len (.t 16),some (14,true)⟩,⟨some 18,.bin .eql (.t 17) (.c (.v (.int .i64 0))),some (14,true)⟩,⟨some 19,.pick (.t 14) (.t 18) (.c (.v (.bool false))),none⟩]) (.cond (.t 19) (.seq (.region [⟨some 20,.faddr 0 (.t 2),none⟩,⟨some 21,.load none (.t 20),none⟩,⟨some 22,.faddr 0 (.t 3),none⟩,⟨some 23,.load none (.t 22),none⟩,⟨some 24,.mm true (.t 21) (.t 23),none⟩,⟨some 25,.call (.c (.fn 49 [])) [(.t 24)],none⟩,⟨none,.store 2 (.t 4) (.t 25),none⟩]) .ret) .skip)) (.seq (.seq (.region [⟨some 26,.faddr 0 (.t 2),none⟩,⟨some 27,.load none (.t 26),none⟩,⟨some 28,.faddr 0 (.t 3),none⟩,⟨some 29,.load none (.t 28),none⟩,⟨some 30,.bin .gtr (.t 27) (.t 29),none⟩]) (.cond (.t 30) (.region [⟨some 31,.load (some 2) (.t 3),none⟩,⟨some 32,.load (some 2) (.t 2),none⟩,⟨none,.store 2 (.t 2) (.t 31),none⟩,⟨none,.store 2 (.t 3) (.t 32),none⟩]) .skip)) (.seq (.region [⟨some 34,.load (some 2) (.t 2),none⟩,⟨some 35,.call (.c (.fn 97 [])) [(.t 34)],none⟩,⟨some 33,.mv (.t 35),none⟩,⟨some 36,.extract 0 (.t 33),none⟩,⟨some 37,.extract 1 (.t 33),none⟩,⟨some 5,.alloc [(.v (.int .i64 0)),(.v .zsl)],none⟩,⟨some 6,.alloc [(.v (.int .i64 0)),(.v .zsl)],none⟩,⟨none,.store 2 (.t 5) (.t 36),none⟩,⟨none,.store 2 (.t 6) (.t 37),none⟩]) (.seq (.region [⟨some 39,.load (some 2) (.t 3),none⟩,⟨some 40,.call (.c (.fn 97 [])) [(.t 39)],none⟩,⟨some 38,.mv (.t 40),none⟩,⟨some 41,.extract 0 (.t 38),none⟩,⟨some 42,.extract 1 (.t 38),none⟩,⟨some 7,.alloc [(.v (.int .i64 0)),(.v .zsl)],none⟩,⟨some 8,.alloc [(.v (.int .i64 0)),(.v .zsl)],none⟩,⟨none,.store 2 (.t 7) (.t 41),none⟩,⟨none,.store 2 (.t 8) (.t 42),none⟩]) (.seq (.region [⟨some 43,.faddr 0 (.t 3),none⟩,⟨some 44,.load none (.t 43),none⟩,⟨some 45,.faddr 0 (.t 2),none⟩,⟨some 46,.load none (.t 45),none⟩,⟨some 47,.bin .sub (.t 44) (.t 46),none⟩,⟨some 9,.mv (.t 47),none⟩]) (.seq (.draw [⟨0,⟨some 48,.faddr 0 (.t 2),none⟩,[]⟩,⟨1,⟨some 49,.load none (.t 48),none⟩,[]⟩,⟨2,⟨some 50,.load (some 2) (.t 5),none⟩,[]⟩,⟨3,⟨some 51,.load (some 2) (.t 7),none⟩,[]⟩,⟨4,⟨some 52,.mv (.t 9),none⟩,[]⟩,⟨7,⟨some 55,.load (some 2) (.t 6),none⟩,[]⟩,⟨8,⟨some 56,.load (some 2) (.t 8),none⟩,[]⟩,⟨9,⟨some 57,.mv (.t 9),none⟩,[]⟩,⟨5,⟨some 53,.call (.c (.fn 99 [])) [(.t 51),(.t 52)],none⟩,[⟨some 48,.faddr 0 (.t 2),none⟩,⟨some 49,.load none (.t 48),none⟩,⟨some 50,.load (some 2) (.t 5),none⟩,⟨some 55,.load (some 2) (.t 6),none⟩,⟨some 56,.load (some 2) (.t 8),none⟩,⟨some 57,.mv (.t 9),none⟩]⟩,⟨6,⟨some 54,.call (.c (.fn 56 [])) [(.t 50),(.t 53)],none⟩,[⟨some 48,.faddr 0 (.t 2),none⟩,⟨some 49,.load none (.t 48),none⟩,⟨some 55,.load (some 2) (.t 6),none⟩,⟨some 56,.load (some 2) (.t 8),none⟩,⟨some 57,.mv (.t 9),none⟩]⟩,⟨10,⟨some 58,.call (.c (.fn 99 [])) [(.t 56),(.t 57)],none⟩,[⟨some 48,.faddr 0 (.t 2),none⟩,⟨some 49,.load none (.t 48),none⟩,⟨some 55,.load (some 2) (.t 6),none⟩]⟩,⟨11,⟨some 59,.call (.c (.fn 56 [])) [(.t 55),(.t 58)],none⟩,[⟨some 48,.faddr 0 (.t 2),none⟩,⟨some 49,.load none (.t 48),none⟩]⟩,⟨12,⟨some 60,.call (.c (.fn 98 [])) [(.t 49),(.t 54),(.t 59)],none⟩,[]⟩,⟨13,⟨none,.store 2 (.t 4) (.t 60),none⟩,[]⟩]) .ret)))))))⟩
theorem a_mergeI_ok : cFunc Tryd.prog 56 = some a_mergeI := by kernel_rfl
def a_leqI : AFunc := ⟨3,50,[.tmp 6],(.seq (.region [⟨some 3,.box (.t 0),none⟩,⟨some 4,.box (.t 1),none⟩,⟨some 6,.mv (.c (.v (.bool false))),none⟩]) (.seq (.region [⟨some 11,.mv (.t 2),none⟩,⟨some 12,.faddr 0 (.t 4),none⟩,⟨some 13,.load none (.t 12),none⟩,⟨some 14,.faddr 0 (.t 3),none⟩,⟨some 15,.load none (.t 14),none⟩,⟨some 16,.bin .sub (.t 13) (.t 15),none⟩,⟨some 17,.bin .add (.t 11) (.t 16),none⟩,⟨some 2,.mv (.t 17),none⟩]) (.seq (.seq (.region [⟨some 18,.faddr 1 (.t 3),none⟩,⟨some 19,.load none (.t 18),none⟩,⟨some 20,.len (.t 19),none⟩,⟨some 21,.bin .eql (.t 20) (.c (.v (.int .i64 0))),none⟩,⟨some 22,.mv (.t 21),none⟩,⟨some 23,.faddr 1 (.t 4),some (22,true)⟩,⟨some 24,.load none (.t 23),some (22,true)⟩,⟨some 25,.len (.t 24),some (22,true)⟩,⟨some 26,.bin .eql (.t 25) (.c (.v (.int .i64 0))),some (22,true)⟩,⟨some 27,.pick (.t 22) (.t 26) (.c (.v (.bool false))),none⟩]) (.cond (.t 27) (.seq (.region [⟨some 28,.mv (.t 2),none⟩,⟨some 29,.bin .geq (.t 28) (.c (.v (.int .i64 0))),none⟩,⟨some 6,.mv (.t 29),none⟩]) .ret) .skip)) (.seq (.region [⟨some 31,.load (some 2) (.t 3),none⟩,⟨some 32,.call (.c (.fn 97 [])) [(.t 31)],none⟩,⟨some 30,.mv (.t 32),none⟩,⟨some 33,.extract 0 (.t 30),none⟩,⟨some 34,.extract 1 (.t 30),none⟩,⟨some 7,.alloc [(.v (.int .i64 0)),(.v .zsl)],none⟩,⟨some 8,.alloc [(.v (.int .i64 0)),(.v .zsl)],none⟩,⟨none,.store 2 (.t 7) (.t 33),none⟩,⟨none,.store 2 (.t 8) (.t 34),none⟩]) (.seq (.region [⟨some 36,.load (some 2) (.t 4),none⟩,⟨some 37,.call (.c (.fn 97 [])) [(.t 36)],none⟩,⟨some 35,.mv (.t 37),none⟩,⟨some 38,.extract 0 (.t 35),none⟩,⟨some 39,.extract 1 (.t 35),none⟩,⟨some 9,.alloc [(.v (.int .i64 0)),(.v .zsl)],none⟩,⟨some 10,.alloc [(.v (.int .i64 0)),(.v .zsl)],none⟩,⟨none,.store 2 (.t 9) (.t 38),none⟩,⟨none,.store 2 (.t 10) (.t 39),none⟩]) (.seq (.region [⟨some 40,.load (some 2) (.t 7),none⟩,⟨some 41,.load (some 2) (.t 9),none⟩,⟨some 42,.mv (.t 2),none⟩,⟨some 43,.call (.c (.fn 63 [])) [(.t 40),(.t 41),(.t 42)],none⟩,⟨some 44,.mv (.t 43),none⟩,⟨some 45,.load (some 2) (.t 8),some (44,true)⟩,⟨some 46,.load (some 2) (.t 10),some (44,true)⟩,⟨some 47,.mv (.t 2),some (44,true)⟩,⟨some 48,.call (.c (.fn 63 [])) [(.t 45),(.t 46),(.t 47)],some (44,true)⟩,⟨some 49,.pick (.t 44) (.t 48) (.c (.v (.bool false))),none⟩,⟨some 6,.mv (.t 49),none⟩]) .ret))))))⟩
theorem a_leqI_ok : cFunc Tryd.prog 63 = some a_leqI := by kernel_rfl
def a_LeqI : AFunc := ⟨2,17,[.tmp 4,.tmp 5],(.seq (.region [⟨some 2,.box (.t 0),none⟩,⟨some 3,.box (.t 1),none⟩,⟨some 4,.mv (.c (.v (.bool false))),none⟩,⟨some 5,.mv (.c (.v (.int .i64 0))),none⟩]) (.seq (.seq (.region [⟨some 6,.load (some 2) (.t 2),none⟩,⟨some 7,.call (.c (.fn 62 [])) [(.t 6)],none⟩,⟨some 8,.not (.t 7),none⟩,⟨some 9,.mv (.t 8),none⟩,⟨some 10,.load (some 2) (.t 3),some (9,false)⟩,⟨some 11,.call (.c (.fn 62 [])) [(.t 10)],some (9,false)⟩,⟨some 12,.not (.t 11),some (9,false)⟩,⟨some 13,.pick (.t 9) (.c (.v (.bool true))) (.t 12),none⟩]) (.cond (.t 13) (.seq (.region [⟨some 4,.mv (.c (.v (.bool false))),none⟩,⟨some 5,.mv (.c (.v (.int .i64 1))),none⟩]) .ret) .skip)) (.seq (.region [⟨some 14,.load (some 2) (.t 2),none⟩,⟨some 15,.load (some 2) (.t 3),none⟩,⟨some 16,.call (.c (.fn 63 [])) [(.t 14),(.t 15),(.c (.v (.int .i64 0)))],none⟩,⟨some 4,.mv (.t 16),none⟩,⟨some 5,.mv (.c (.v (.int .i64 0))),none⟩]) .ret)))⟩
theorem a_LeqI_ok : cFunc Tryd.prog 19 = some a_LeqI := by kernel_rfl

set_option maxHeartbeats 2000000 in
theorem validTreeI_spec : ∀ (x : ITT) (d lim : Nat), TNm x → tDep x ≤ d → d ≤ 1000000 → tMax x ≤ lim → lim ≤ 1073741824 → ∀ (b l : List Row), ACalls Tryd.prog 103 [tA x, .v (.int .i64 d), .v (.int .i64 lim)] b l (fun r b' l' => r = .v (.bool true) ∧ b' = b ∧ l' = l)
 | .leaf n, d, lim, hn, hd, hd2, hm, hl, b, l => by
   refine calls_kept a_validTreeI_ok rfl (by decide) ?_
   intro B g hB hR hE hA; simp only [KArgs] at hA
   simp only [tMax] at hm
   have c1 : decide ((n : Int) < 0) = false := decide_eq_false oM
   have c2 : decide ((n : Int) > (lim : Int)) = false := decide_eq_false oM
   have c2' : decide ((lim : Int) < (n : Int)) = false := c2
   simp only [tA, tN_l, tN_n, tLs] at hA
   simp (disch := (first | decide | omega)) only [a_validTreeI, hA, c1, c2, c2', go_sem]
   exact leave_pure (xs := [.v (.bool true)]) (.inr rfl) (by simp (disch := (first | decide | omega)) only [resVs, resV, go_sem, hA]) kO hR hB ⟨rfl, rfl, rfl⟩
 | .node n x y, d, lim, hn, hd, hd2, hm, hl, b, l => by
   refine calls_kept a_validTreeI_ok rfl (by decide) ?_
   intro B g hB hR hE hA; simp only [KArgs] at hA
   simp only [tMax] at hm
   simp only [tDep] at hd
   obtain ⟨d, rfl⟩ : ∃ e, d = e + 1 := ⟨d - 1, by omega⟩
   have nx := tN_le x
   have ny := tN_le y
   have c1 : decide ((n : Int) < 0) = false := decide_eq_false oM
   have c2 : decide ((n : Int) > (lim : Int)) = false := decide_eq_false oM
   have c2' : decide ((lim : Int) < (n : Int)) = false := c2
   have hz : (((d + 1 : Nat) : Int) == 0) = false := by rw [beq_eq_false_iff_ne]; omega
   have hs : ((d + 1 : Nat) : Int) - 1 = (d : Int) := by omega
   have hs2 : (lim : Int) - (n : Int) = ((lim - n : Nat) : Int) := by omega
   have h1 := validTreeI_spec x d (lim - n) hn.2.2.1 oM oM oM oM
   have h2 := validTreeI_spec y d (lim - n) hn.2.2.2 oM oM oM oM
   by_cases hx0 : tN x = 0
   ·have e1 : (((tN x : Nat) : Int) == 0) = true := by rw [hx0]; rfl
    have e1' : (((tN x : Nat) : Int) != 0) = false := by rw [hx0]; rfl
    by_cases hy0 : tN y = 0
    ·have e2 : (((tN y : Nat) : Int) == 0) = true := by rw [hy0]; rfl
     cases ex : tLf x with
     | false =>
       obtain ⟨r1, q1, q2⟩ := lf_isl ex
       simp only [tA, tN_l, tN_n, tLs, q1] at hA h1 h2
       simp (disch := (first | decide | omega)) only [a_validTreeI, hA, c1, c2, c2', hz, hs, hs2, e1, e1', e2, q2, setFrom, cellsOf, go_sem]
       refine ACalls.nxt (h1 _ _) ?_
       simp (disch := (first | decide | omega)) only [hA, hs, hs2, go_sem]
       refine ACalls.nxt (h2 _ _) ?_
       simp (disch := (first | decide | omega)) only [hA, go_sem]
       exact leave_pure (xs := [.v (.bool true)]) (.inr rfl) (by simp (disch := (first | decide | omega)) only [resVs, resV, go_sem, hA]) kO hR hB ⟨rfl, rfl, rfl⟩
     | true =>
       have e3 := lf_zs ex
       cases ey : tLf y with
       | false =>
         obtain ⟨r1, q1, q2⟩ := lf_isl ey
         simp only [tA, tN_l, tN_n, tLs, q1, e3] at hA h1 h2
         simp (disch := (first | decide | omega)) only [a_validTreeI, hA, c1, c2, c2', hz, hs, hs2, e1, e1', e2, q2, setFrom, cellsOf, go_sem]
         refine ACalls.nxt (h1 _ _) ?_
         simp (disch := (first | decide | omega)) only [hA, hs, hs2, go_sem]
         refine ACalls.nxt (h2 _ _) ?_
         simp (disch := (first | decide | omega)) only [hA, go_sem]
         exact leave_pure (xs := [.v (.bool true)]) (.inr rfl) (by simp (disch := (first | decide | omega)) only [resVs, resV, go_sem, hA]) kO hR hB ⟨rfl, rfl, rfl⟩
       | true =>
         exfalso
         refine hn.2.1 ⟨?_, ?_⟩
         ·cases x with
          | leaf a => rw [tN_l] at hx0; rw [hx0]
          | node => cases ex
         ·cases y with
          | leaf a => rw [tN_l] at hy0; rw [hy0]
          | node => cases ey
    ·have e2 : (((tN y : Nat) : Int) == 0) = false := by rw [beq_eq_false_iff_ne]; omega
     simp only [tA, tN_l, tN_n, tLs] at hA h1 h2
     simp (disch := (first | decide | omega)) only [a_validTreeI, hA, c1, c2, c2', hz, hs, hs2, e1, e1', e2, setFrom, cellsOf, go_sem]
     refine ACalls.nxt (h1 _ _) ?_
     simp (disch := (first | decide | omega)) only [hA, hs, hs2, go_sem]
     refine ACalls.nxt (h2 _ _) ?_
     simp (disch := (first | decide | omega)) only [hA, go_sem]
     exact leave_pure (xs := [.v (.bool true)]) (.inr rfl) (by simp (disch := (first | decide | omega)) only [resVs, resV, go_sem, hA]) kO hR hB ⟨rfl, rfl, rfl⟩
   ·have hy0 : tN y = 0 := hn.1.resolve_left hx0
    have e1 : (((tN x : Nat) : Int) == 0) = false := by rw [beq_eq_false_iff_ne]; omega
    have e1' : (((tN x : Nat) : Int) != 0) = true := by rw [bne_iff_ne]; omega
    have e2' : (((tN y : Nat) : Int) != 0) = false := by rw [hy0]; rfl
    simp only [tA, tN_l, tN_n, tLs] at hA h1 h2
    simp (disch := (first | decide | omega)) only [a_validTreeI, hA, c1, c2, c2', hz, hs, hs2, e1, e1', e2', setFrom, cellsOf, go_sem]
    refine ACalls.nxt (h1 _ _) ?_
    simp (disch := (first | decide | omega)) only [hA, hs, hs2, go_sem]
    refine ACalls.nxt (h2 _ _) ?_
    simp (disch := (first | decide | omega)) only [hA, go_sem]
    exact leave_pure (xs := [.v (.bool true)]) (.inr rfl) (by simp (disch := (first | decide | omega)) only [resVs, resV, go_sem, hA]) kO hR hB ⟨rfl, rfl, rfl⟩
theorem ValidTree_spec (x : ITT) (hn : TNm x) (hd : tDep x ≤ 16) (hm : tMax x ≤ 1000) (b l : List Row) : ACalls Tryd.prog 62 [tA x] b l (fun r b' l' => r = .v (.bool true) ∧ b' = b ∧ l' = l) := by
 refine calls_kept a_ValidTree_ok rfl (by decide) ?_
 intro B g hB hR hE hA; simp only [KArgs] at hA
 have h1 := fun b l => validTreeI_spec x 16 1073741824 hn hd oM oM oM b l
 have e : ((16 : Nat) : Int) = 16 := rfl
 have e2 : ((1073741824 : Nat) : Int) = 1073741824 := rfl
 simp only [tA, e, e2] at hA h1
 simp (disch := (first | decide | omega)) only [a_ValidTree, hA, setFrom, cellsOf, go_sem]
 refine ACalls.nxt (h1 _ _) ?_
 simp (disch := (first | decide | omega)) only [hA, go_sem]
 exact leave_pure (xs := [.v (.bool true)]) (.inr rfl) (by simp (disch := (first | decide | omega)) only [resVs, resV, go_sem, hA]) kO hR hB ⟨rfl, rfl, rfl⟩
def sA (i : ITI) (x : ITT) : AV := .agg [.v (.int .i64 (iLf i)), .v (iLs i), .v (.int .i64 (tN x)), .v (tLs x)]
structure GoodS (i : ITI) (x : ITT) : Prop where
 ni : INm i
 di : iDep i ≤ 16
 nx : TNm x
 dx : tDep x ≤ 16
 mx : tMax x ≤ 1000
theorem validI_spec {i : ITI} {x : ITT} (h : GoodS i x) (b l : List Row) : ACalls Tryd.prog 50 [sA i x] b l (fun r b' l' => r = .v (.bool true) ∧ b' = b ∧ l' = l) := by
 refine calls_kept a_validI_ok rfl (by decide) ?_
 intro B g hB hR hE hA; simp only [KArgs] at hA
 have h1 := fun b l => ValidId_spec i h.ni b l
 have h2 := fun b l => ValidTree_spec x h.nx h.dx h.mx b l
 rw [decide_eq_true h.di] at h1
 simp only [iA, tA, sA] at hA h1 h2
 simp (disch := (first | decide | omega)) only [a_validI, hA, setFrom, cellsOf, go_sem]
 refine ACalls.nxt (h1 _ _) ?_
 simp (disch := (first | decide | omega)) only [hA, go_sem]
 refine ACalls.nxt (h2 _ _) ?_
 simp (disch := (first | decide | omega)) only [hA, go_sem]
 exact leave_pure (xs := [.v (.bool true)]) (.inr rfl) (by simp (disch := (first | decide | omega)) only [resVs, resV, go_sem, hA]) kO hR hB ⟨rfl, rfl, rfl⟩
theorem seed_spec (b l : List Row) : ACalls Tryd.prog 15 [] b l (fun r b' l' => r = sA (.leaf true) (.leaf 0) ∧ b' = b ∧ l' = l) := by
 refine calls_kept a_SeedI_ok rfl (by decide) ?_
 intro B g hB hR hE hA; simp only [KArgs] at hA
 have h1 := fun b l => leafId_spec true 1 rfl b l
 have h2 := fun b l => leafTree_spec 0 b l
 have e : ((0 : Nat) : Int) = 0 := rfl
 simp only [iA, tA, iLf_l, iLs, tN_l, tLs, bI_t, e] at h1 h2
 simp (disch := (first | decide | omega)) only [a_SeedI, hA, go_sem]
 refine ACalls.nxt (h1 _ _) ?_
 simp (disch := (first | decide | omega)) only [hA, go_sem]
 refine ACalls.nxt (h2 _ _) ?_
 simp (disch := (first | decide | omega)) only [hA, setFrom, cellsOf, go_sem]
 exact leave_pure (xs := [.agg [.v (.int .i64 1), .v .zsl, .v (.int .i64 0), .v .zsl]]) (.inr rfl) (by simp (disch := (first | decide | omega)) only [resVs, resV, go_sem, hA, setFrom, cellsOf]) kO hR hB ⟨rfl, rfl, rfl⟩
theorem copiedId_spec : ∀ (i : ITI) (b l : List Row), ACalls Tryd.prog 52 [iA i] b l (fun r b' l' => r = iA i ∧ b' = b ∧ l' = l)
 | .leaf a, b, l => by
   refine calls_kept a_copiedId_ok rfl (by decide) ?_
   intro B g hB hR hE hA; simp only [KArgs] at hA
   have h1 := fun b l => leafId_spec a (bI a) rfl b l
   simp only [iA, iLf_l, iLs] at hA h1 ⊢
   simp (disch := (first | decide | omega)) only [a_copiedId, hA, go_sem]
   refine ACalls.nxt (h1 _ _) ?_
   simp (disch := (first | decide | omega)) only [hA, setFrom, cellsOf, go_sem]
   exact leave_pure (xs := [.agg [.v (.int .i64 (bI a)), .v .zsl]]) (.inr rfl) (by simp (disch := (first | decide | omega)) only [resVs, resV, go_sem, hA, setFrom, cellsOf]) kO hR hB ⟨rfl, rfl, rfl⟩
 | .node x y, b, l => by
   have h1 := copiedId_spec x
   have h2 := copiedId_spec y
   refine calls_kept a_copiedId_ok rfl (by decide) ?_
   intro B g hB hR hE hA; simp only [KArgs] at hA
   have h3 := fun b l => nodeId_spec x y b l
   simp only [iA, iLf_n, iLs] at hA h1 h2 h3 ⊢
   simp (disch := (first | decide | omega)) only [a_copiedId, hA, go_sem]
   refine ACalls.nxt (h1 _ _) ?_
   simp (disch := (first | decide | omega)) only [hA, go_sem]
   refine ACalls.nxt (h2 _ _) ?_
   simp (disch := (first | decide | omega)) only [hA, go_sem]
   refine ACalls.nxt (h3 _ _) ?_
   simp (disch := (first | decide | omega)) only [hA, setFrom, cellsOf, go_sem]
   exact leave_pure (xs := [.agg [.v (.int .i64 0), .v (.isl 2 [[.int .i64 (iLf x), iLs x], [.int .i64 (iLf y), iLs y]])]]) (.inr rfl) (by simp (disch := (first | decide | omega)) only [resVs, resV, go_sem, hA, setFrom, cellsOf]) kO hR hB ⟨rfl, rfl, rfl⟩
theorem copiedTree_spec : ∀ (x : ITT) (b l : List Row), ACalls Tryd.prog 54 [tA x] b l (fun r b' l' => r = tA x ∧ b' = b ∧ l' = l)
 | .leaf n, b, l => by
   refine calls_kept a_copiedTree_ok rfl (by decide) ?_
   intro B g hB hR hE hA; simp only [KArgs] at hA
   have h1 := fun b l => leafTree_spec n b l
   simp only [tA, tN_l, tLs] at hA h1 ⊢
   simp (disch := (first | decide | omega)) only [a_copiedTree, hA, go_sem]
   refine ACalls.nxt (h1 _ _) ?_
   simp (disch := (first | decide | omega)) only [hA, setFrom, cellsOf, go_sem]
   exact leave_pure (xs := [.agg [.v (.int .i64 n), .v .zsl]]) (.inr rfl) (by simp (disch := (first | decide | omega)) only [resVs, resV, go_sem, hA, setFrom, cellsOf]) kO hR hB ⟨rfl, rfl, rfl⟩
 | .node n x y, b, l => by
   have h1 := copiedTree_spec x
   have h2 := copiedTree_spec y
   refine calls_kept a_copiedTree_ok rfl (by decide) ?_
   intro B g hB hR hE hA; simp only [KArgs] at hA
   have h3 := fun b l => nodeTree_spec n x y b l
   simp only [tA, tN_n, tLs] at hA h1 h2 h3 ⊢
   simp (disch := (first | decide | omega)) only [a_copiedTree, hA, go_sem]
   refine ACalls.nxt (h1 _ _) ?_
   simp (disch := (first | decide | omega)) only [hA, go_sem]
   refine ACalls.nxt (h2 _ _) ?_
   simp (disch := (first | decide | omega)) only [hA, go_sem]
   refine ACalls.nxt (h3 _ _) ?_
   simp (disch := (first | decide | omega)) only [hA, setFrom, cellsOf, go_sem]
   exact leave_pure (xs := [.agg [.v (.int .i64 n), .v (.isl 2 [[.int .i64 (tN x), tLs x], [.int .i64 (tN y), tLs y]])]]) (.inr rfl) (by simp (disch := (first | decide | omega)) only [resVs, resV, go_sem, hA, setFrom, cellsOf]) kO hR hB ⟨rfl, rfl, rfl⟩
theorem parts_spec (x : ITT) (b l : List Row) : ACalls Tryd.prog 97 [tA x] b l (fun r b' l' => r = .tup [tA (tL x), tA (tR x)] ∧ b' = b ∧ l' = l) := by
 refine calls_kept a_partsI_ok rfl (by decide) ?_
 intro B g hB hR hE hA; simp only [KArgs] at hA
 cases x with
 | leaf n =>
   have h1 := fun b l => leafTree_spec 0 b l
   have e : ((0 : Nat) : Int) = 0 := rfl
   simp only [tA, tL, tR, tN_l, tLs, e] at hA h1 ⊢
   simp (disch := (first | decide | omega)) only [a_partsI, hA, go_sem]
   refine ACalls.nxt (h1 _ _) ?_
   simp (disch := (first | decide | omega)) only [hA, go_sem]
   refine ACalls.nxt (h1 _ _) ?_
   simp (disch := (first | decide | omega)) only [hA, setFrom, cellsOf, go_sem]
   exact leave_pure (xs := [.agg [.v (.int .i64 0), .v .zsl], .agg [.v (.int .i64 0), .v .zsl]]) (.inr rfl) (by simp (disch := (first | decide | omega)) only [resVs, resV, go_sem, hA, setFrom, cellsOf]) kO hR hB ⟨rfl, rfl, rfl⟩
 | node n x y =>
   simp only [tA, tL, tR, tN_n, tLs] at hA ⊢
   simp (disch := (first | decide | omega)) only [a_partsI, hA, setFrom, cellsOf, go_sem]
   exact leave_pure (xs := [.agg [.v (.int .i64 (tN x)), .v (tLs x)], .agg [.v (.int .i64 (tN y)), .v (tLs y)]]) (.inr rfl) (by simp (disch := (first | decide | omega)) only [resVs, resV, go_sem, hA, setFrom, cellsOf]) kO hR hB ⟨rfl, rfl, rfl⟩
theorem lift_max (k : Nat) (x : ITT) : tMax (tLift k x) = tMax x + k := by cases x <;> simp [tLift, tMax]; omega
theorem parts_max (x : ITT) : tN x + tMax (tL x) ≤ tMax x ∧ tN x + tMax (tR x) ≤ tMax x := by cases x <;> simp [tN, tL, tR, tMax]; omega
theorem mrg_max : ∀ (n : Nat) (a b : ITT), tSz a + tSz b ≤ n → tMax (tMrg n a b) ≤ max (tMax a) (tMax b) := fun n a b h => max_le fun p => by
 rw [mrg_val n a b h p]
 have := max_val a p
 have := max_val b p
 omega
set_option maxHeartbeats 4000000 in
theorem merge_spec : ∀ (n : Nat) (a c : ITT), tSz a + tSz c ≤ n → tMax a ≤ 1000000 → tMax c ≤ 1000000 → ∀ (b l : List Row), ACalls Tryd.prog 56 [tA a, tA c] b l (fun r b' l' => r = tA (tMrg n a c) ∧ b' = b ∧ l' = l)
 | 0, a, c, h, _, _, b, l => by have := sz_pos a; omega
 | n + 1, a, c, h, ha, hc, b, l => by
   have ih := merge_spec n
   refine calls_kept a_mergeI_ok rfl (by decide) ?_
   intro B g hB hR hE hA; simp only [KArgs] at hA
   have na := tN_le a
   have nc := tN_le c
   by_cases hl : tLf a = true ∧ tLf c = true
   ·have hq : tMrg (n + 1) a c = .leaf (max (tN a) (tN c)) := by unfold tMrg; rw [if_pos hl]
    have e1 := lf_zs hl.1
    have e2 := lf_zs hl.2
    have hm : (if (tN c : Int) > (tN a : Int) then (tN c : Int) else (tN a : Int)) = ((max (tN a) (tN c) : Nat) : Int) := by split <;> omega
    have h1 := fun b l => leafTree_spec (max (tN a) (tN c)) b l
    rw [hq]
    simp only [tA, e1, e2, tN_l, tLs] at hA h1 ⊢
    simp (disch := (first | decide | omega)) only [a_mergeI, hA, hm, go_sem]
    refine ACalls.nxt (h1 _ _) ?_
    simp (disch := (first | decide | omega)) only [hA, setFrom, cellsOf, go_sem]
    exact leave_pure (xs := [.agg [.v (.int .i64 ((max (tN a) (tN c) : Nat) : Int)), .v .zsl]]) (.inr rfl) (by simp (disch := (first | decide | omega)) only [resVs, resV, go_sem, hA, setFrom, cellsOf]) kO hR hB ⟨rfl, rfl, rfl⟩
   ·have hsz := parts_sz hl
    have hsz2 := parts_sz (fun h => hl ⟨h.2, h.1⟩ : ¬ (tLf c = true ∧ tLf a = true))
    have pa := parts_max a
    have pc := parts_max c
    have la := tN_le (tL a)
    have lc := tN_le (tL c)
    have ra := tN_le (tR a)
    have rc := tN_le (tR c)
    have hpa := fun b l => parts_spec a b l
    have hpc := fun b l => parts_spec c b l
    have key : ∀ (g1 : Bool), decide ((tN a : Int) > (tN c : Int)) = g1 → g1 = decide (tN c < tN a) := fun g1 h => by rw [← h, decide_eq_decide]; omega
    by_cases hgt : tN c < tN a
    ·have hd : decide ((tN a : Int) > (tN c : Int)) = true := decide_eq_true oM
     have hd' : decide ((tN c : Int) < (tN a : Int)) = true := hd
     have hq : tMrg (n + 1) a c = nTr (tN c) (tMrg n (tL c) (tLift (tN a - tN c) (tL a))) (tMrg n (tR c) (tLift (tN a - tN c) (tR a))) := by
      conv => lhs; unfold tMrg
      rw [if_neg hl, if_pos hgt]
     have s1 : tSz (tL c) + tSz (tLift (tN a - tN c) (tL a)) ≤ n := by rw [lift_sz]; omega
     have s2 : tSz (tR c) + tSz (tLift (tN a - tN c) (tR a)) ≤ n := by rw [lift_sz]; omega
     have m1 := mrg_max n _ _ s1
     have m2 := mrg_max n _ _ s2
     rw [lift_max] at m1 m2
     have i1 := ih _ _ s1 oM (by rw [lift_max]; omega)
     have i2 := ih _ _ s2 oM (by rw [lift_max]; omega)
     have l1 := fun b l => lift_spec (tL a) ((tN a : Int) - (tN c : Int)) (tN (tL a) + (tN a - tN c)) oM oM b l
     have l2 := fun b l => lift_spec (tR a) ((tN a : Int) - (tN c : Int)) (tN (tR a) + (tN a - tN c)) oM oM b l
     have nt := fun b l => normalTree_spec (tN c) (tMrg n (tL c) (tLift (tN a - tN c) (tL a))) (tMrg n (tR c) (tLift (tN a - tN c) (tR a))) oM oM b l
     rw [hq]
     rw [lift_tA] at i1 i2
     obtain ⟨M1, hM1⟩ : ∃ M, tMrg n (tL c) (tLift (tN a - tN c) (tL a)) = M := ⟨_, rfl⟩
     obtain ⟨M2, hM2⟩ : ∃ M, tMrg n (tR c) (tLift (tN a - tN c) (tR a)) = M := ⟨_, rfl⟩
     rw [hM1] at i1 nt ⊢
     rw [hM2] at i2 nt ⊢
     simp only [tA] at hA i1 i2 l1 l2 nt hpa hpc ⊢
     have fin : ∀ (za zc : IV) (Z : Bool), True := fun _ _ _ => trivial
     cases ea : tLf a with
     | false =>
       obtain ⟨r1, q1, q2⟩ := lf_isl ea
       simp only [q1] at hA hpa
       simp (disch := (first | decide | omega)) only [a_mergeI, hA, q2, hd, hd', setFrom, cellsOf, go_sem]
       refine ACalls.nxt (hpc _ _) ?_
       simp (disch := (first | decide | omega)) only [hA, setFrom, cellsOf, go_sem]
       refine ACalls.nxt (hpa _ _) ?_
       simp (disch := (first | decide | omega)) only [hA, setFrom, cellsOf, go_sem]
       refine ACalls.nxt (l1 _ _) ?_
       simp (disch := (first | decide | omega)) only [hA, setFrom, cellsOf, go_sem]
       refine ACalls.nxt (i1 _ _) ?_
       simp (disch := (first | decide | omega)) only [hA, setFrom, cellsOf, go_sem]
       refine ACalls.nxt (l2 _ _) ?_
       simp (disch := (first | decide | omega)) only [hA, setFrom, cellsOf, go_sem]
       refine ACalls.nxt (i2 _ _) ?_
       simp (disch := (first | decide | omega)) only [hA, setFrom, cellsOf, go_sem]
       refine ACalls.nxt (nt _ _) ?_
       simp (disch := (first | decide | omega)) only [hA, setFrom, cellsOf, go_sem]
       exact leave_pure (xs := [.agg [.v (.int .i64 (tN (nTr (tN c) M1 M2))), .v (tLs (nTr (tN c) M1 M2))]]) (.inr rfl) (by simp (disch := (first | decide | omega)) only [resVs, resV, go_sem, hA, setFrom, cellsOf]) kO hR hB ⟨rfl, rfl, rfl⟩
     | true =>
       have e1 := lf_zs ea
       have ec : tLf c = false := by cases h : tLf c with
        | false => rfl
        | true => exact absurd ⟨ea, h⟩ hl
       obtain ⟨r1, q1, q2⟩ := lf_isl ec
       simp only [q1, e1] at hA hpa hpc
       simp (disch := (first | decide | omega)) only [a_mergeI, hA, q2, hd, hd', setFrom, cellsOf, go_sem]
       refine ACalls.nxt (hpc _ _) ?_
       simp (disch := (first | decide | omega)) only [hA, setFrom, cellsOf, go_sem]
       refine ACalls.nxt (hpa _ _) ?_
       simp (disch := (first | decide | omega)) only [hA, setFrom, cellsOf, go_sem]
       refine ACalls.nxt (l1 _ _) ?_
       simp (disch := (first | decide | omega)) only [hA, setFrom, cellsOf, go_sem]
       refine ACalls.nxt (i1 _ _) ?_
       simp (disch := (first | decide | omega)) only [hA, setFrom, cellsOf, go_sem]
       refine ACalls.nxt (l2 _ _) ?_
       simp (disch := (first | decide | omega)) only [hA, setFrom, cellsOf, go_sem]
       refine ACalls.nxt (i2 _ _) ?_
       simp (disch := (first | decide | omega)) only [hA, setFrom, cellsOf, go_sem]
       refine ACalls.nxt (nt _ _) ?_
       simp (disch := (first | decide | omega)) only [hA, setFrom, cellsOf, go_sem]
       exact leave_pure (xs := [.agg [.v (.int .i64 (tN (nTr (tN c) M1 M2))), .v (tLs (nTr (tN c) M1 M2))]]) (.inr rfl) (by simp (disch := (first | decide | omega)) only [resVs, resV, go_sem, hA, setFrom, cellsOf]) kO hR hB ⟨rfl, rfl, rfl⟩
    ·have hd : decide ((tN a : Int) > (tN c : Int)) = false := decide_eq_false oM
     have hd' : decide ((tN c : Int) < (tN a : Int)) = false := hd
     have hq : tMrg (n + 1) a c = nTr (tN a) (tMrg n (tL a) (tLift (tN c - tN a) (tL c))) (tMrg n (tR a) (tLift (tN c - tN a) (tR c))) := by
      conv => lhs; unfold tMrg
      rw [if_neg hl, if_neg hgt]
     have s1 : tSz (tL a) + tSz (tLift (tN c - tN a) (tL c)) ≤ n := by rw [lift_sz]; omega
     have s2 : tSz (tR a) + tSz (tLift (tN c - tN a) (tR c)) ≤ n := by rw [lift_sz]; omega
     have m1 := mrg_max n _ _ s1
     have m2 := mrg_max n _ _ s2
     rw [lift_max] at m1 m2
     have i1 := ih _ _ s1 oM (by rw [lift_max]; omega)
     have i2 := ih _ _ s2 oM (by rw [lift_max]; omega)
     have l1 := fun b l => lift_spec (tL c) ((tN c : Int) - (tN a : Int)) (tN (tL c) + (tN c - tN a)) oM oM b l
     have l2 := fun b l => lift_spec (tR c) ((tN c : Int) - (tN a : Int)) (tN (tR c) + (tN c - tN a)) oM oM b l
     have nt := fun b l => normalTree_spec (tN a) (tMrg n (tL a) (tLift (tN c - tN a) (tL c))) (tMrg n (tR a) (tLift (tN c - tN a) (tR c))) oM oM b l
     rw [hq]
     rw [lift_tA] at i1 i2
     obtain ⟨M1, hM1⟩ : ∃ M, tMrg n (tL a) (tLift (tN c - tN a) (tL c)) = M := ⟨_, rfl⟩
     obtain ⟨M2, hM2⟩ : ∃ M, tMrg n (tR a) (tLift (tN c - tN a) (tR c)) = M := ⟨_, rfl⟩
     rw [hM1] at i1 nt ⊢
     rw [hM2] at i2 nt ⊢
     simp only [tA] at hA i1 i2 l1 l2 nt hpa hpc ⊢
     cases ea : tLf a with
     | false =>
       obtain ⟨r1, q1, q2⟩ := lf_isl ea
       simp only [q1] at hA hpa
       simp (disch := (first | decide | omega)) only [a_mergeI, hA, q2, hd, hd', setFrom, cellsOf, go_sem]
       refine ACalls.nxt (hpa _ _) ?_
       simp (disch := (first | decide | omega)) only [hA, setFrom, cellsOf, go_sem]
       refine ACalls.nxt (hpc _ _) ?_
       simp (disch := (first | decide | omega)) only [hA, setFrom, cellsOf, go_sem]
       refine ACalls.nxt (l1 _ _) ?_
       simp (disch := (first | decide | omega)) only [hA, setFrom, cellsOf, go_sem]
       refine ACalls.nxt (i1 _ _) ?_
       simp (disch := (first | decide | omega)) only [hA, setFrom, cellsOf, go_sem]
       refine ACalls.nxt (l2 _ _) ?_
       simp (disch := (first | decide | omega)) only [hA, setFrom, cellsOf, go_sem]
       refine ACalls.nxt (i2 _ _) ?_
       simp (disch := (first | decide | omega)) only [hA, setFrom, cellsOf, go_sem]
       refine ACalls.nxt (nt _ _) ?_
       simp (disch := (first | decide | omega)) only [hA, setFrom, cellsOf, go_sem]
       exact leave_pure (xs := [.agg [.v (.int .i64 (tN (nTr (tN a) M1 M2))), .v (tLs (nTr (tN a) M1 M2))]]) (.inr rfl) (by simp (disch := (first | decide | omega)) only [resVs, resV, go_sem, hA, setFrom, cellsOf]) kO hR hB ⟨rfl, rfl, rfl⟩
     | true =>
       have e1 := lf_zs ea
       have ec : tLf c = false := by cases h : tLf c with
        | false => rfl
        | true => exact absurd ⟨ea, h⟩ hl
       obtain ⟨r1, q1, q2⟩ := lf_isl ec
       simp only [q1, e1] at hA hpa hpc
       simp (disch := (first | decide | omega)) only [a_mergeI, hA, q2, hd, hd', setFrom, cellsOf, go_sem]
       refine ACalls.nxt (hpa _ _) ?_
       simp (disch := (first | decide | omega)) only [hA, setFrom, cellsOf, go_sem]
       refine ACalls.nxt (hpc _ _) ?_
       simp (disch := (first | decide | omega)) only [hA, setFrom, cellsOf, go_sem]
       refine ACalls.nxt (l1 _ _) ?_
       simp (disch := (first | decide | omega)) only [hA, setFrom, cellsOf, go_sem]
       refine ACalls.nxt (i1 _ _) ?_
       simp (disch := (first | decide | omega)) only [hA, setFrom, cellsOf, go_sem]
       refine ACalls.nxt (l2 _ _) ?_
       simp (disch := (first | decide | omega)) only [hA, setFrom, cellsOf, go_sem]
       refine ACalls.nxt (i2 _ _) ?_
       simp (disch := (first | decide | omega)) only [hA, setFrom, cellsOf, go_sem]
       refine ACalls.nxt (nt _ _) ?_
       simp (disch := (first | decide | omega)) only [hA, setFrom, cellsOf, go_sem]
       exact leave_pure (xs := [.agg [.v (.int .i64 (tN (nTr (tN a) M1 M2))), .v (tLs (nTr (tN a) M1 M2))]]) (.inr rfl) (by simp (disch := (first | decide | omega)) only [resVs, resV, go_sem, hA, setFrom, cellsOf]) kO hR hB ⟨rfl, rfl, rfl⟩
set_option maxHeartbeats 2000000 in
theorem leq_spec : ∀ (n : Nat) (a c : ITT) (k : Int), tSz a + tSz c ≤ n → (k + tMax c + tMax a ≤ 1000000000 ∧ -1000000000 ≤ k - tMax a - tMax c) → ∀ (b l : List Row), ACalls Tryd.prog 63 [tA a, tA c, .v (.int .i64 k)] b l (fun r b' l' => r = .v (.bool (tLeq n a c k)) ∧ b' = b ∧ l' = l)
 | 0, a, c, k, h, _, b, l => by have := sz_pos a; omega
 | n + 1, a, c, k, h, hk, b, l => by
   have ih := leq_spec n
   refine calls_kept a_leqI_ok rfl (by decide) ?_
   intro B g hB hR hE hA; simp only [KArgs] at hA
   have na := tN_le a
   have nc := tN_le c
   obtain ⟨k', hk'⟩ : ∃ k', k + ((tN c : Int) - (tN a : Int)) = k' := ⟨_, rfl⟩
   by_cases hl : tLf a = true ∧ tLf c = true
   ·have hq : tLeq (n + 1) a c k = decide (0 ≤ k') := by unfold tLeq; rw [if_pos hl, hk']
    have e1 := lf_zs hl.1
    have e2 := lf_zs hl.2
    have hd : decide (k' ≥ 0) = decide (0 ≤ k') := rfl
    rw [hq]
    simp only [tA, e1, e2] at hA
    simp (disch := (first | decide | omega)) only [a_leqI, hA, hk', hd, go_sem]
    exact leave_pure (xs := [.v (.bool (decide (0 ≤ k')))]) (.inr rfl) (by simp (disch := (first | decide | omega)) only [resVs, resV, go_sem, hA]) kO hR hB ⟨rfl, rfl, rfl⟩
   ·have hsz := parts_sz hl
    have hq : tLeq (n + 1) a c k = (tLeq n (tL a) (tL c) k' && tLeq n (tR a) (tR c) k') := by
     conv => lhs; unfold tLeq
     rw [if_neg hl, hk']
    have pa := parts_max a
    have pc := parts_max c
    have i1 := ih (tL a) (tL c) k' oM oM
    have i2 := ih (tR a) (tR c) k' oM oM
    have hpa := fun b l => parts_spec a b l
    have hpc := fun b l => parts_spec c b l
    rw [hq]
    obtain ⟨q1, hq1⟩ : ∃ q, tLeq n (tL a) (tL c) k' = q := ⟨_, rfl⟩
    obtain ⟨q2, hq2⟩ : ∃ q, tLeq n (tR a) (tR c) k' = q := ⟨_, rfl⟩
    rw [hq1] at i1 ⊢
    rw [hq2] at i2 ⊢
    simp only [tA] at hA i1 i2 hpa hpc
    cases ea : tLf a with
    | false =>
      obtain ⟨r1, w1, w2⟩ := lf_isl ea
      simp only [w1] at hA hpa
      cases q1
      all_goals
       simp (disch := (first | decide | omega)) only [a_leqI, hA, w2, hk', setFrom, cellsOf, go_sem]
       refine ACalls.nxt (hpa _ _) ?_
       simp (disch := (first | decide | omega)) only [hA, setFrom, cellsOf, go_sem]
       refine ACalls.nxt (hpc _ _) ?_
       simp (disch := (first | decide | omega)) only [hA, setFrom, cellsOf, go_sem]
       refine ACalls.nxt (i1 _ _) ?_
       simp (disch := (first | decide | omega)) only [hA, go_sem]
      case false => exact leave_pure (xs := [.v (.bool false)]) (.inr rfl) (by simp (disch := (first | decide | omega)) only [resVs, resV, go_sem, hA]) kO hR hB ⟨rfl, rfl, rfl⟩
      refine ACalls.nxt (i2 _ _) ?_
      simp (disch := (first | decide | omega)) only [hA, go_sem]
      exact leave_pure (xs := [.v (.bool q2)]) (.inr rfl) (by simp (disch := (first | decide | omega)) only [resVs, resV, go_sem, hA]) kO hR hB ⟨rfl, rfl, rfl⟩
    | true =>
      have e1 := lf_zs ea
      have ec : tLf c = false := by cases h : tLf c with
       | false => rfl
       | true => exact absurd ⟨ea, h⟩ hl
      obtain ⟨r1, w1, w2⟩ := lf_isl ec
      simp only [w1, e1] at hA hpa hpc
      cases q1
      all_goals
       simp (disch := (first | decide | omega)) only [a_leqI, hA, w2, hk', setFrom, cellsOf, go_sem]
       refine ACalls.nxt (hpa _ _) ?_
       simp (disch := (first | decide | omega)) only [hA, setFrom, cellsOf, go_sem]
       refine ACalls.nxt (hpc _ _) ?_
       simp (disch := (first | decide | omega)) only [hA, setFrom, cellsOf, go_sem]
       refine ACalls.nxt (i1 _ _) ?_
       simp (disch := (first | decide | omega)) only [hA, go_sem]
      case false => exact leave_pure (xs := [.v (.bool false)]) (.inr rfl) (by simp (disch := (first | decide | omega)) only [resVs, resV, go_sem, hA]) kO hR hB ⟨rfl, rfl, rfl⟩
      refine ACalls.nxt (i2 _ _) ?_
      simp (disch := (first | decide | omega)) only [hA, go_sem]
      exact leave_pure (xs := [.v (.bool q2)]) (.inr rfl) (by simp (disch := (first | decide | omega)) only [resVs, resV, go_sem, hA]) kO hR hB ⟨rfl, rfl, rfl⟩
theorem Leq_spec (a c : ITT) (ha : TNm a ∧ tDep a ≤ 16 ∧ tMax a ≤ 1000) (hc : TNm c ∧ tDep c ≤ 16 ∧ tMax c ≤ 1000) (b l : List Row) : ACalls Tryd.prog 19 [tA a, tA c] b l (fun r b' l' => r = .tup [.v (.bool (tLeq (tSz a + tSz c) a c 0)), .v (.int .i64 0)] ∧ b' = b ∧ l' = l) := by
 refine calls_kept a_LeqI_ok rfl (by decide) ?_
 intro B g hB hR hE hA; simp only [KArgs] at hA
 have v1 := fun b l => ValidTree_spec a ha.1 ha.2.1 ha.2.2 b l
 have v2 := fun b l => ValidTree_spec c hc.1 hc.2.1 hc.2.2 b l
 have ha3 := ha.2.2
 have hc3 := hc.2.2
 have h1 := fun b l => leq_spec (tSz a + tSz c) a c 0 (Nat.le_refl _) oM b l
 simp only [tA] at hA v1 v2 h1
 simp (disch := (first | decide | omega)) only [a_LeqI, hA, setFrom, cellsOf, go_sem]
 refine ACalls.nxt (v1 _ _) ?_
 simp (disch := (first | decide | omega)) only [hA, go_sem]
 refine ACalls.nxt (v2 _ _) ?_
 simp (disch := (first | decide | omega)) only [hA, go_sem]
 refine ACalls.nxt (h1 _ _) ?_
 simp (disch := (first | decide | omega)) only [hA, go_sem]
 exact leave_pure (xs := [.v (.bool (tLeq (tSz a + tSz c) a c 0)), .v (.int .i64 0)]) (.inr rfl) (by simp (disch := (first | decide | omega)) only [resVs, resV, go_sem, hA]) kO hR hB ⟨rfl, rfl, rfl⟩
set_option maxRecDepth 20000
def a_splitI : AFunc := ⟨1,67,[.cell 2 (some 2),.cell 3 (some 2)],(.seq (.region [⟨some 1,.box (.t 0),none⟩,⟨some 2,.alloc [(.v (.int .i64 0)),(.v .zsl)],none⟩,⟨some 3,.alloc [(.v (.int .i64 0)),(.v .zsl)],none⟩]) (.seq (.seq (.region [⟨some 10,.faddr 1 (.t 1),none⟩,⟨some 11,.load none (.t 10),none⟩,⟨some 12,.len (.t 11),none⟩,⟨some 13,.bin .eql (.t 12) (.c (.v (.int .i64 0))),none⟩]) (.cond (.t 13) (.seq (.seq (.region [⟨some 14,.faddr 0 (.t 1),none⟩,⟨some 15,.load none (.t 14),none⟩,⟨some 16,.bin .eql (.t 15) (.c (.v (.int .i64 0))),none⟩]) (.cond (.t 16) (.seq (.draw [⟨0,⟨some 17,.load (some 2) (.t 1),none⟩,[]⟩,⟨1,⟨some 18,.load (some 2) (.t 1),none⟩,[]⟩,⟨2,⟨none,.store 2 (.t 2) (.t 17),none⟩,[⟨some 18,.load (some 2) (.t 1),none⟩]⟩,⟨3,⟨none,.store 2 (.t 3) (.t 18),none⟩,[]⟩]) .ret) .skip)) (.seq (.region [⟨some 19,.call (.c (.fn 48 [])) [(.c (.v (.int .i64 1)))],none⟩,⟨some 20,.call (.c (.fn 48 [])) [(.c (.v (.int .i64 0)))],none⟩,⟨some 21,.call (.c (.fn 93 [])) [(.t 19),(.t 20)],none⟩,⟨some 22,.call (.c (.fn 48 [])) [(.c (.v (.int .i64 0)))],none⟩,⟨some 23,.call (.c (.fn 48 [])) [(.c (.v (.int .i64 1)))],none⟩,⟨some 24,.call (.c (.fn 93 [])) [(.t 22),(.t 23)],none⟩,⟨none,.store 2 (.t 2) (.t 21),none⟩,⟨none,.store 2 (.t 3) (.t 24),none⟩]) .ret)) .skip)) (.seq (.draw [⟨0,⟨some 25,.faddr 1 (.t 1),none⟩,[]⟩,⟨1,⟨some 26,.load none (.t 25),none⟩,[]⟩,⟨2,⟨some 27,.iaddr 2 (.t 26) (.c (.v (.int .i64 0))),none⟩,[]⟩,⟨3,⟨some 28,.load (some 2) (.t 27),none⟩,[]⟩,⟨4,⟨some 29,.faddr 1 (.t 1),none⟩,[]⟩,⟨5,⟨some 30,.load none (.t 29),none⟩,[]⟩,⟨6,⟨some 31,.iaddr 2 (.t 30) (.c (.v (.int .i64 1))),none⟩,[]⟩,⟨7,⟨some 32,.load (some 2) (.t 31),none⟩,[]⟩,⟨8,⟨some 4,.alloc [(.v (.int .i64 0)),(.v .zsl)],none⟩,[⟨some 25,.faddr 1 (.t 1),none⟩,⟨some 26,.load none (.t 25),none⟩,⟨some 27,.iaddr 2 (.t 26) (.c (.v (.int .i64 0))),none⟩,⟨some 28,.load (some 2) (.t 27),none⟩,⟨some 29,.faddr 1 (.t 1),none⟩,⟨some 30,.load none (.t 29),none⟩,⟨some 31,.iaddr 2 (.t 30) (.c (.v (.int .i64 1))),none⟩,⟨some 32,.load (some 2) (.t 31),none⟩]⟩,⟨9,⟨some 5,.alloc [(.v (.int .i64 0)),(.v .zsl)],none⟩,[⟨some 25,.faddr 1 (.t 1),none⟩,⟨some 26,.load none (.t 25),none⟩,⟨some 27,.iaddr 2 (.t 26) (.c (.v (.int .i64 0))),none⟩,⟨some 28,.load (some 2) (.t 27),none⟩,⟨some 29,.faddr 1 (.t 1),none⟩,⟨some 30,.load none (.t 29),none⟩,⟨some 31,.iaddr 2 (.t 30) (.c (.v (.int .i64 1))),none⟩,⟨some 32,.load (some 2) (.t 31),none⟩]⟩,⟨10,⟨none,.store 2 (.t 4) (.t 28),none⟩,[⟨some 29,.faddr 1 (.t 1),none⟩,⟨some 30,.load none (.t 29),none⟩,⟨some 31,.iaddr 2 (.t 30) (.c (.v (.int .i64 1))),none⟩,⟨some 32,.load (some 2) (.t 31),none⟩]⟩,⟨11,⟨none,.store 2 (.t 5) (.t 32),none⟩,[]⟩]) (.seq (.block 0 (.seq (.region [⟨some 34,.load (some 2) (.t 4),none⟩,⟨some 35,.call (.c (.fn 57 [])) [(.t 34),(.c (.v (.int .i64 0)))],none⟩,⟨some 33,.mv (.t 35),none⟩]) (.cond (.t 33) (.seq (.region [⟨some 37,.load (some 2) (.t 5),none⟩,⟨some 38,.call (.c (.fn 51 [])) [(.t 37)],none⟩,⟨some 36,.mv (.t 38),none⟩,⟨some 39,.extract 0 (.t 36),none⟩,⟨some 40,.extract 1 (.t 36),none⟩,⟨some 6,.alloc [(.v (.int .i64 0)),(.v .zsl)],none⟩,⟨some 7,.alloc [(.v (.int .i64 0)),(.v .zsl)],none⟩,⟨none,.store 2 (.t 6) (.t 39),none⟩,⟨none,.store 2 (.t 7) (.t 40),none⟩]) (.seq (.draw [⟨0,⟨some 41,.load (some 2) (.t 4),none⟩,[]⟩,⟨1,⟨some 42,.load (some 2) (.t 6),none⟩,[]⟩,⟨3,⟨some 44,.load (some 2) (.t 4),none⟩,[]⟩,⟨4,⟨some 45,.load (some 2) (.t 7),none⟩,[]⟩,⟨2,⟨some 43,.call (.c (.fn 93 [])) [(.t 41),(.t 42)],none⟩,[⟨some 44,.load (some 2) (.t 4),none⟩,⟨some 45,.load (some 2) (.t 7),none⟩]⟩,⟨5,⟨some 46,.call (.c (.fn 93 [])) [(.t 44),(.t 45)],none⟩,[]⟩,⟨6,⟨none,.store 2 (.t 2) (.t 43),none⟩,[]⟩,⟨7,⟨none,.store 2 (.t 3) (.t 46),none⟩,[]⟩]) .ret)) (.seq (.region [⟨some 48,.load (some 2) (.t 5),none⟩,⟨some 49,.call (.c (.fn 57 [])) [(.t 48),(.c (.v (.int .i64 0)))],none⟩,⟨some 47,.mv (.t 49),none⟩]) (.cond (.t 47) (.seq (.region [⟨some 51,.load (some 2) (.t 4),none⟩,⟨some 52,.call (.c (.fn 51 [])) [(.t 51)],none⟩,⟨some 50,.mv (.t 52),none⟩,⟨some 53,.extract 0 (.t 50),none⟩,⟨some 54,.extract 1 (.t 50),none⟩,⟨some 8,.alloc [(.v (.int .i64 0)),(.v .zsl)],none⟩,⟨some 9,.alloc [(.v (.int .i64 0)),(.v .zsl)],none⟩,⟨none,.store 2 (.t 8) (.t 53),none⟩,⟨none,.store 2 (.t 9) (.t 54),none⟩]) (.seq (.draw [⟨0,⟨some 55,.load (some 2) (.t 8),none⟩,[]⟩,⟨1,⟨some 56,.load (some 2) (.t 5),none⟩,[]⟩,⟨3,⟨some 58,.load (some 2) (.t 9),none⟩,[]⟩,⟨4,⟨some 59,.load (some 2) (.t 5),none⟩,[]⟩,⟨2,⟨some 57,.call (.c (.fn 93 [])) [(.t 55),(.t 56)],none⟩,[⟨some 58,.load (some 2) (.t 9),none⟩,⟨some 59,.load (some 2) (.t 5),none⟩]⟩,⟨5,⟨some 60,.call (.c (.fn 93 [])) [(.t 58),(.t 59)],none⟩,[]⟩,⟨6,⟨none,.store 2 (.t 2) (.t 57),none⟩,[]⟩,⟨7,⟨none,.store 2 (.t 3) (.t 60),none⟩,[]⟩]) .ret)) .skip))))) (.seq (.draw [⟨0,⟨some 61,.load (some 2) (.t 4),none⟩,[]⟩,⟨4,⟨some 65,.load (some 2) (.t 5),none⟩,[]⟩,⟨1,⟨some 62,.call (.c (.fn 48 [])) [(.c (.v (.int .i64 0)))],none⟩,[⟨some 61,.load (some 2) (.t 4),none⟩,⟨some 65,.load (some 2) (.t 5),none⟩]⟩,⟨2,⟨some 63,.call (.c (.fn 93 [])) [(.t 61),(.t 62)],none⟩,[⟨some 65,.load (some 2) (.t 5),none⟩]⟩,⟨3,⟨some 64,.call (.c (.fn 48 [])) [(.c (.v (.int .i64 0)))],none⟩,[⟨some 65,.load (some 2) (.t 5),none⟩]⟩,⟨5,⟨some 66,.call (.c (.fn 93 [])) [(.t 64),(.t 65)],none⟩,[]⟩,⟨6,⟨none,.store 2 (.t 2) (.t 63),none⟩,[]⟩,⟨7,⟨none,.store 2 (.t 3) (.t 66),none⟩,[]⟩]) .ret)))))⟩
theorem a_splitI_ok : cFunc Tryd.prog 51 = some a_splitI := by kernel_rfl
def a_sumI : AFunc := ⟨2,61,[.cell 4 (some 2),.tmp 5],(.seq (.region [⟨some 2,.box (.t 0),none⟩,⟨some 3,.box (.t 1),none⟩,⟨some 4,.alloc [(.v (.int .i64 0)),(.v .zsl)],none⟩,⟨some 5,.mv (.c (.v (.bool false))),none⟩]) (.seq (.block 0 (.seq (.region [⟨some 11,.load (some 2) (.t 2),none⟩,⟨some 12,.call (.c (.fn 57 [])) [(.t 11),(.c (.v (.int .i64 0)))],none⟩,⟨some 10,.mv (.t 12),none⟩]) (.cond (.t 10) (.seq (.region [⟨some 13,.load (some 2) (.t 3),none⟩,⟨none,.store 2 (.t 4) (.t 13),none⟩,⟨some 5,.mv (.c (.v (.bool true))),none⟩]) .ret) (.seq (.region [⟨some 15,.load (some 2) (.t 3),none⟩,⟨some 16,.call (.c (.fn 57 [])) [(.t 15),(.c (.v (.int .i64 0)))],none⟩,⟨some 14,.mv (.t 16),none⟩]) (.cond (.t 14) (.seq (.region [⟨some 17,.load (some 2) (.t 2),none⟩,⟨none,.store 2 (.t 4) (.t 17),none⟩,⟨some 5,.mv (.c (.v (.bool true))),none⟩]) .ret) (.seq (.region [⟨some 19,.faddr 1 (.t 2),none⟩,⟨some 20,.load none (.t 19),none⟩,⟨some 21,.len (.t 20),none⟩,⟨some 22,.bin .eql (.t 21) (.c (.v (.int .i64 0))),none⟩,⟨some 23,.mv (.t 22),none⟩,⟨some 24,.faddr 1 (.t 3),some (23,false)⟩,⟨some 25,.load none (.t 24),some (23,false)⟩,⟨some 26,.len (.t 25),some (23,false)⟩,⟨some 27,.bin .eql (.t 26) (.c (.v (.int .i64 0))),some (23,false)⟩,⟨some 28,.pick (.t 23) (.c (.v (.bool true))) (.t 27),none⟩,⟨some 18,.mv (.t 28),none⟩]) (.cond (.t 18) (.seq (.region [⟨some 29,.build [(.v (.int .i64 0)),(.v .zsl)] [],none⟩,⟨none,.store 2 (.t 4) (.t 29),none⟩,⟨some 5,.mv (.c (.v (.bool false))),none⟩]) .ret) .skip))))))) (.seq (.draw [⟨0,⟨some 31,.faddr 1 (.t 2),none⟩,[]⟩,⟨1,⟨some 32,.load none (.t 31),none⟩,[]⟩,⟨2,⟨some 33,.iaddr 2 (.t 32) (.c (.v (.int .i64 0))),none⟩,[]⟩,⟨3,⟨some 34,.load (some 2) (.t 33),none⟩,[]⟩,⟨4,⟨some 35,.faddr 1 (.t 3),none⟩,[]⟩,⟨5,⟨some 36,.load none (.t 35),none⟩,[]⟩,⟨6,⟨some 37,.iaddr 2 (.t 36) (.c (.v (.int .i64 0))),none⟩,[]⟩,⟨7,⟨some 38,.load (some 2) (.t 37),none⟩,[]⟩,⟨8,⟨some 39,.call (.c (.fn 55 [])) [(.t 34),(.t 38)],none⟩,[]⟩,⟨9,⟨some 30,.mv (.t 39),none⟩,[]⟩,⟨10,⟨some 40,.extract 0 (.t 30),none⟩,[]⟩,⟨11,⟨some 41,.extract 1 (.t 30),none⟩,[]⟩,⟨12,⟨some 6,.alloc [(.v (.int .i64 0)),(.v .zsl)],none⟩,[⟨some 31,.faddr 1 (.t 2),none⟩,⟨some 32,.load none (.t 31),none⟩,⟨some 33,.iaddr 2 (.t 32) (.c (.v (.int .i64 0))),none⟩,⟨some 34,.load (some 2) (.t 33),none⟩,⟨some 35,.faddr 1 (.t 3),none⟩,⟨some 36,.load none (.t 35),none⟩,⟨some 37,.iaddr 2 (.t 36) (.c (.v (.int .i64 0))),none⟩,⟨some 38,.load (some 2) (.t 37),none⟩,⟨some 30,.mv (.t 39),none⟩,⟨some 40,.extract 0 (.t 30),none⟩,⟨some 41,.extract 1 (.t 30),none⟩]⟩,⟨13,⟨none,.store 2 (.t 6) (.t 40),none⟩,[⟨some 41,.extract 1 (.t 30),none⟩]⟩,⟨14,⟨some 7,.mv (.t 41),none⟩,[]⟩]) (.seq (.draw [⟨0,⟨some 43,.faddr 1 (.t 2),none⟩,[]⟩,⟨1,⟨some 44,.load none (.t 43),none⟩,[]⟩,⟨2,⟨some 45,.iaddr 2 (.t 44) (.c (.v (.int .i64 1))),none⟩,[]⟩,⟨3,⟨some 46,.load (some 2) (.t 45),none⟩,[]⟩,⟨4,⟨some 47,.faddr 1 (.t 3),none⟩,[]⟩,⟨5,⟨some 48,.load none (.t 47),none⟩,[]⟩,⟨6,⟨some 49,.iaddr 2 (.t 48) (.c (.v (.int .i64 1))),none⟩,[]⟩,⟨7,⟨some 50,.load (some 2) (.t 49),none⟩,[]⟩,⟨8,⟨some 51,.call (.c (.fn 55 [])) [(.t 46),(.t 50)],none⟩,[]⟩,⟨9,⟨some 42,.mv (.t 51),none⟩,[]⟩,⟨10,⟨some 52,.extract 0 (.t 42),none⟩,[]⟩,⟨11,⟨some 53,.extract 1 (.t 42),none⟩,[]⟩,⟨12,⟨some 8,.alloc [(.v (.int .i64 0)),(.v .zsl)],none⟩,[⟨some 43,.faddr 1 (.t 2),none⟩,⟨some 44,.load none (.t 43),none⟩,⟨some 45,.iaddr 2 (.t 44) (.c (.v (.int .i64 1))),none⟩,⟨some 46,.load (some 2) (.t 45),none⟩,⟨some 47,.faddr 1 (.t 3),none⟩,⟨some 48,.load none (.t 47),none⟩,⟨some 49,.iaddr 2 (.t 48) (.c (.v (.int .i64 1))),none⟩,⟨some 50,.load (some 2) (.t 49),none⟩,⟨some 42,.mv (.t 51),none⟩,⟨some 52,.extract 0 (.t 42),none⟩,⟨some 53,.extract 1 (.t 42),none⟩]⟩,⟨13,⟨none,.store 2 (.t 8) (.t 52),none⟩,[⟨some 53,.extract 1 (.t 42),none⟩]⟩,⟨14,⟨some 9,.mv (.t 53),none⟩,[]⟩]) (.seq (.region [⟨some 54,.load (some 2) (.t 6),none⟩,⟨some 55,.load (some 2) (.t 8),none⟩,⟨some 56,.call (.c (.fn 96 [])) [(.t 54),(.t 55)],none⟩,⟨some 57,.mv (.t 7),none⟩,⟨some 58,.mv (.t 57),none⟩,⟨some 59,.mv (.t 9),some (58,true)⟩,⟨some 60,.pick (.t 58) (.t 59) (.c (.v (.bool false))),none⟩,⟨none,.store 2 (.t 4) (.t 56),none⟩,⟨some 5,.mv (.t 60),none⟩]) .ret)))))⟩
theorem a_sumI_ok : cFunc Tryd.prog 55 = some a_sumI := by kernel_rfl
def a_sameI : AFunc := ⟨2,39,[.tmp 4],(.seq (.region [⟨some 2,.box (.t 0),none⟩,⟨some 3,.box (.t 1),none⟩,⟨some 4,.mv (.c (.v (.bool false))),none⟩]) (.seq (.seq (.region [⟨some 6,.faddr 0 (.t 2),none⟩,⟨some 7,.load none (.t 6),none⟩,⟨some 8,.faddr 0 (.t 3),none⟩,⟨some 9,.load none (.t 8),none⟩,⟨some 10,.bin .neq (.t 7) (.t 9),none⟩,⟨some 11,.mv (.t 10),none⟩,⟨some 12,.faddr 1 (.t 2),some (11,false)⟩,⟨some 13,.load none (.t 12),some (11,false)⟩,⟨some 14,.len (.t 13),some (11,false)⟩,⟨some 15,.faddr 1 (.t 3),some (11,false)⟩,⟨some 16,.load none (.t 15),some (11,false)⟩,⟨some 17,.len (.t 16),some (11,false)⟩,⟨some 18,.bin .neq (.t 14) (.t 17),some (11,false)⟩,⟨some 19,.pick (.t 11) (.c (.v (.bool true))) (.t 18),none⟩]) (.cond (.t 19) (.seq (.region [⟨some 4,.mv (.c (.v (.bool false))),none⟩]) .ret) .skip)) (.seq (.seq (.region [⟨some 20,.faddr 1 (.t 2),none⟩,⟨some 21,.load none (.t 20),none⟩,⟨some 22,.len (.t 21),none⟩,⟨some 23,.mv (.c (.v (.int .i64 0))),none⟩]) (.block 0 (.loop (.seq (.region [⟨some 24,.bin .lss (.t 23) (.t 22),none⟩]) (.seq (.cond (.t 24) .skip (.exit 0)) (.seq (.block 1 (.seq (.region [⟨some 25,.mv (.t 23),none⟩,⟨some 5,.mv (.t 25),none⟩]) (.seq (.draw [⟨0,⟨some 26,.faddr 1 (.t 2),none⟩,[]⟩,⟨1,⟨some 27,.load none (.t 26),none⟩,[]⟩,⟨2,⟨some 28,.mv (.t 5),none⟩,[]⟩,⟨3,⟨some 29,.iaddr 2 (.t 27) (.t 28),none⟩,[]⟩,⟨4,⟨some 30,.load (some 2) (.t 29),none⟩,[]⟩,⟨5,⟨some 31,.faddr 1 (.t 3),none⟩,[]⟩,⟨6,⟨some 32,.load none (.t 31),none⟩,[]⟩,⟨7,⟨some 33,.mv (.t 5),none⟩,[]⟩,⟨8,⟨some 34,.iaddr 2 (.t 32) (.t 33),none⟩,[]⟩,⟨9,⟨some 35,.load (some 2) (.t 34),none⟩,[]⟩,⟨10,⟨some 36,.call (.c (.fn 59 [])) [(.t 30),(.t 35)],none⟩,[]⟩,⟨11,⟨some 37,.not (.t 36),none⟩,[]⟩]) (.cond (.t 37) (.seq (.region [⟨some 4,.mv (.c (.v (.bool false))),none⟩]) .ret) .skip)))) (.region [⟨some 38,.bin .add (.t 23) (.c (.v (.int .i64 1))),none⟩,⟨some 23,.mv (.t 38),none⟩]))))))) (.seq (.region [⟨some 4,.mv (.c (.v (.bool true))),none⟩]) .ret))))⟩
theorem a_sameI_ok : cFunc Tryd.prog 59 = some a_sameI := by kernel_rfl
def r_sameI0 : List (Nat × Nat) := [(4, 5), (23, 38)]

set_option maxHeartbeats 2000000 in
theorem split_spec : ∀ (i : ITI) (b l : List Row), ACalls Tryd.prog 51 [iA i] b l (fun r b' l' => r = .tup [iA (iSplit i).1, iA (iSplit i).2] ∧ b' = b ∧ l' = l)
 | .leaf false, b, l => by
   refine calls_kept a_splitI_ok rfl (by decide) ?_
   intro B g hB hR hE hA; simp only [KArgs] at hA
   have hq : iSplit (.leaf false) = (.leaf false, .leaf false) := rfl
   rw [hq]
   simp only [iA, iLf_l, iLs, bI_f] at hA ⊢
   simp (disch := (first | decide | omega)) only [a_splitI, hA, setFrom, cellsOf, go_sem]
   exact leave_pure (xs := [.agg [.v (.int .i64 0), .v .zsl], .agg [.v (.int .i64 0), .v .zsl]]) (.inr rfl) (by simp (disch := (first | decide | omega)) only [resVs, resV, go_sem, hA, setFrom, cellsOf]) kO hR hB ⟨rfl, rfl, rfl⟩
 | .leaf true, b, l => by
   refine calls_kept a_splitI_ok rfl (by decide) ?_
   intro B g hB hR hE hA; simp only [KArgs] at hA
   have hq : iSplit (.leaf true) = (.node (.leaf true) (.leaf false), .node (.leaf false) (.leaf true)) := rfl
   have h1 := fun b l => leafId_spec true 1 rfl b l
   have h0 := fun b l => leafId_spec false 0 rfl b l
   have n1 := fun b l => nodeId_spec (.leaf true) (.leaf false) b l
   have n2 := fun b l => nodeId_spec (.leaf false) (.leaf true) b l
   rw [hq]
   simp only [iA, iLf_l, iLf_n, iLs, bI_f, bI_t] at hA h1 h0 n1 n2 ⊢
   simp (disch := (first | decide | omega)) only [a_splitI, hA, go_sem]
   refine ACalls.nxt (h1 _ _) ?_
   simp (disch := (first | decide | omega)) only [hA, go_sem]
   refine ACalls.nxt (h0 _ _) ?_
   simp (disch := (first | decide | omega)) only [hA, go_sem]
   refine ACalls.nxt (n1 _ _) ?_
   simp (disch := (first | decide | omega)) only [hA, go_sem]
   refine ACalls.nxt (h0 _ _) ?_
   simp (disch := (first | decide | omega)) only [hA, go_sem]
   refine ACalls.nxt (h1 _ _) ?_
   simp (disch := (first | decide | omega)) only [hA, go_sem]
   refine ACalls.nxt (n2 _ _) ?_
   simp (disch := (first | decide | omega)) only [hA, setFrom, cellsOf, go_sem]
   exact leave_pure (xs := [.agg [.v (.int .i64 0), .v (.isl 2 [[.int .i64 1, .zsl], [.int .i64 0, .zsl]])], .agg [.v (.int .i64 0), .v (.isl 2 [[.int .i64 0, .zsl], [.int .i64 1, .zsl]])]]) (.inr rfl) (by simp (disch := (first | decide | omega)) only [resVs, resV, go_sem, hA, setFrom, cellsOf]) kO hR hB ⟨rfl, rfl, rfl⟩
 | .node x y, b, l => by
   have ix := split_spec x
   have iy := split_spec y
   refine calls_kept a_splitI_ok rfl (by decide) ?_
   intro B g hB hR hE hA; simp only [KArgs] at hA
   have d1 := fun b l => isLeaf_spec x false 0 rfl b l
   have d2 := fun b l => isLeaf_spec y false 0 rfl b l
   have l0 := fun b l => leafId_spec false 0 rfl b l
   by_cases hx : x = .leaf false
   ·have hq : iSplit (.node x y) = (.node x (iSplit y).1, .node x (iSplit y).2) := by conv => lhs; unfold iSplit; rw [if_pos hx]
    have n1 := fun b l => nodeId_spec x (iSplit y).1 b l
    have n2 := fun b l => nodeId_spec x (iSplit y).2 b l
    rw [decide_eq_true hx] at d1
    rw [hq]
    simp only
    obtain ⟨u, hu⟩ : ∃ u, (iSplit y).1 = u := ⟨_, rfl⟩
    obtain ⟨v, hv⟩ : ∃ v, (iSplit y).2 = v := ⟨_, rfl⟩
    rw [hu, hv] at iy ⊢
    rw [hu] at n1
    rw [hv] at n2
    simp only [iA, iLf_n, iLs] at hA iy n1 n2 d1 ⊢
    simp (disch := (first | decide | omega)) only [a_splitI, hA, setFrom, cellsOf, go_sem]
    refine ACalls.nxt (d1 _ _) ?_
    simp (disch := (first | decide | omega)) only [hA, setFrom, cellsOf, go_sem]
    refine ACalls.nxt (iy _ _) ?_
    simp (disch := (first | decide | omega)) only [hA, setFrom, cellsOf, go_sem]
    refine ACalls.nxt (n1 _ _) ?_
    simp (disch := (first | decide | omega)) only [hA, setFrom, cellsOf, go_sem]
    refine ACalls.nxt (n2 _ _) ?_
    simp (disch := (first | decide | omega)) only [hA, setFrom, cellsOf, go_sem]
    exact leave_pure (xs := [.agg [.v (.int .i64 0), .v (.isl 2 [[.int .i64 (iLf x), iLs x], [.int .i64 (iLf u), iLs u]])], .agg [.v (.int .i64 0), .v (.isl 2 [[.int .i64 (iLf x), iLs x], [.int .i64 (iLf v), iLs v]])]]) (.inr rfl) (by simp (disch := (first | decide | omega)) only [resVs, resV, go_sem, hA, setFrom, cellsOf]) kO hR hB ⟨rfl, rfl, rfl⟩
   ·rw [decide_eq_false hx] at d1
    by_cases hy : y = .leaf false
    ·have hq : iSplit (.node x y) = (.node (iSplit x).1 y, .node (iSplit x).2 y) := by conv => lhs; unfold iSplit; rw [if_neg hx, if_pos hy]
     have n1 := fun b l => nodeId_spec (iSplit x).1 y b l
     have n2 := fun b l => nodeId_spec (iSplit x).2 y b l
     rw [decide_eq_true hy] at d2
     rw [hq]
     simp only
     obtain ⟨u, hu⟩ : ∃ u, (iSplit x).1 = u := ⟨_, rfl⟩
     obtain ⟨v, hv⟩ : ∃ v, (iSplit x).2 = v := ⟨_, rfl⟩
     rw [hu, hv] at ix ⊢
     rw [hu] at n1
     rw [hv] at n2
     simp only [iA, iLf_n, iLs] at hA ix n1 n2 d1 d2 ⊢
     simp (disch := (first | decide | omega)) only [a_splitI, hA, setFrom, cellsOf, go_sem]
     refine ACalls.nxt (d1 _ _) ?_
     simp (disch := (first | decide | omega)) only [hA, setFrom, cellsOf, go_sem]
     refine ACalls.nxt (d2 _ _) ?_
     simp (disch := (first | decide | omega)) only [hA, setFrom, cellsOf, go_sem]
     refine ACalls.nxt (ix _ _) ?_
     simp (disch := (first | decide | omega)) only [hA, setFrom, cellsOf, go_sem]
     refine ACalls.nxt (n1 _ _) ?_
     simp (disch := (first | decide | omega)) only [hA, setFrom, cellsOf, go_sem]
     refine ACalls.nxt (n2 _ _) ?_
     simp (disch := (first | decide | omega)) only [hA, setFrom, cellsOf, go_sem]
     exact leave_pure (xs := [.agg [.v (.int .i64 0), .v (.isl 2 [[.int .i64 (iLf u), iLs u], [.int .i64 (iLf y), iLs y]])], .agg [.v (.int .i64 0), .v (.isl 2 [[.int .i64 (iLf v), iLs v], [.int .i64 (iLf y), iLs y]])]]) (.inr rfl) (by simp (disch := (first | decide | omega)) only [resVs, resV, go_sem, hA, setFrom, cellsOf]) kO hR hB ⟨rfl, rfl, rfl⟩
    ·have hq : iSplit (.node x y) = (.node x (.leaf false), .node (.leaf false) y) := by conv => lhs; unfold iSplit; rw [if_neg hx, if_neg hy]
     have n1 := fun b l => nodeId_spec x (.leaf false) b l
     have n2 := fun b l => nodeId_spec (.leaf false) y b l
     rw [decide_eq_false hy] at d2
     rw [hq]
     simp only [iA, iLf_n, iLf_l, iLs, bI_f] at hA n1 n2 d1 d2 l0 ⊢
     simp (disch := (first | decide | omega)) only [a_splitI, hA, setFrom, cellsOf, go_sem]
     refine ACalls.nxt (d1 _ _) ?_
     simp (disch := (first | decide | omega)) only [hA, setFrom, cellsOf, go_sem]
     refine ACalls.nxt (d2 _ _) ?_
     simp (disch := (first | decide | omega)) only [hA, setFrom, cellsOf, go_sem]
     refine ACalls.nxt (l0 _ _) ?_
     simp (disch := (first | decide | omega)) only [hA, setFrom, cellsOf, go_sem]
     refine ACalls.nxt (n1 _ _) ?_
     simp (disch := (first | decide | omega)) only [hA, setFrom, cellsOf, go_sem]
     refine ACalls.nxt (l0 _ _) ?_
     simp (disch := (first | decide | omega)) only [hA, setFrom, cellsOf, go_sem]
     refine ACalls.nxt (n2 _ _) ?_
     simp (disch := (first | decide | omega)) only [hA, setFrom, cellsOf, go_sem]
     exact leave_pure (xs := [.agg [.v (.int .i64 0), .v (.isl 2 [[.int .i64 (iLf x), iLs x], [.int .i64 0, .zsl]])], .agg [.v (.int .i64 0), .v (.isl 2 [[.int .i64 0, .zsl], [.int .i64 (iLf y), iLs y]])]]) (.inr rfl) (by simp (disch := (first | decide | omega)) only [resVs, resV, go_sem, hA, setFrom, cellsOf]) kO hR hB ⟨rfl, rfl, rfl⟩
set_option maxHeartbeats 2000000 in
theorem sum_spec : ∀ (a c : ITI) (b l : List Row), ACalls Tryd.prog 55 [iA a, iA c] b l (fun r b' l' => r = .tup [iA (iSum a c).1, .v (.bool (iSum a c).2)] ∧ b' = b ∧ l' = l)
 | a, c, b, l => by
   have hrec : ∀ a1 a2 c1 c2, a = .node a1 a2 → c = .node c1 c2 → (∀ b l, ACalls Tryd.prog 55 [iA a1, iA c1] b l (fun r b' l' => r = .tup [iA (iSum a1 c1).1, .v (.bool (iSum a1 c1).2)] ∧ b' = b ∧ l' = l)) ∧ (∀ b l, ACalls Tryd.prog 55 [iA a2, iA c2] b l (fun r b' l' => r = .tup [iA (iSum a2 c2).1, .v (.bool (iSum a2 c2).2)] ∧ b' = b ∧ l' = l)) :=
    fun a1 a2 c1 c2 h1 h2 => ⟨sum_spec a1 c1, sum_spec a2 c2⟩
   refine calls_kept a_sumI_ok rfl (by decide) ?_
   intro B g hB hR hE hA; simp only [KArgs] at hA
   have d1 := fun b l => isLeaf_spec a false 0 rfl b l
   have d2 := fun b l => isLeaf_spec c false 0 rfl b l
   by_cases ha : a = .leaf false
   ·have hq : iSum a c = (c, true) := by rw [ha]; simp [iSum]
    rw [decide_eq_true ha] at d1
    rw [hq]
    simp only [iA] at hA d1 ⊢
    simp (disch := (first | decide | omega)) only [a_sumI, hA, setFrom, cellsOf, go_sem]
    refine ACalls.nxt (d1 _ _) ?_
    simp (disch := (first | decide | omega)) only [hA, setFrom, cellsOf, go_sem]
    exact leave_pure (xs := [.agg [.v (.int .i64 (iLf c)), .v (iLs c)], .v (.bool true)]) (.inr rfl) (by simp (disch := (first | decide | omega)) only [resVs, resV, go_sem, hA, setFrom, cellsOf]) kO hR hB ⟨rfl, rfl, rfl⟩
   rw [decide_eq_false ha] at d1
   by_cases hc : c = .leaf false
   ·have hq : iSum a c = (a, true) := by
     rw [hc]
     cases a with
     | leaf q => cases q <;> first | exact absurd rfl ha | rfl
     | node => rfl
    rw [decide_eq_true hc] at d2
    rw [hq]
    simp only [iA] at hA d1 d2 ⊢
    simp (disch := (first | decide | omega)) only [a_sumI, hA, setFrom, cellsOf, go_sem]
    refine ACalls.nxt (d1 _ _) ?_
    simp (disch := (first | decide | omega)) only [hA, setFrom, cellsOf, go_sem]
    refine ACalls.nxt (d2 _ _) ?_
    simp (disch := (first | decide | omega)) only [hA, setFrom, cellsOf, go_sem]
    exact leave_pure (xs := [.agg [.v (.int .i64 (iLf a)), .v (iLs a)], .v (.bool true)]) (.inr rfl) (by simp (disch := (first | decide | omega)) only [resVs, resV, go_sem, hA, setFrom, cellsOf]) kO hR hB ⟨rfl, rfl, rfl⟩
   rw [decide_eq_false hc] at d2
   cases a with
   | leaf q =>
     have hq : iSum (.leaf q) c = (.leaf false, false) := by
      cases q with
      | false => exact absurd rfl ha
      | true => cases c with
        | leaf w => cases w <;> first | exact absurd rfl hc | rfl
        | node => rfl
     rw [hq]
     simp only [iA, iLf_l, iLs] at hA d1 d2 ⊢
     simp (disch := (first | decide | omega)) only [a_sumI, hA, setFrom, cellsOf, go_sem]
     refine ACalls.nxt (d1 _ _) ?_
     simp (disch := (first | decide | omega)) only [hA, setFrom, cellsOf, go_sem]
     refine ACalls.nxt (d2 _ _) ?_
     simp (disch := (first | decide | omega)) only [hA, setFrom, cellsOf, go_sem]
     exact leave_pure (xs := [.agg [.v (.int .i64 0), .v .zsl], .v (.bool false)]) (.inr rfl) (by simp (disch := (first | decide | omega)) only [resVs, resV, go_sem, hA, setFrom, cellsOf]) kO hR hB ⟨rfl, rfl, rfl⟩
   | node a1 a2 =>
     cases c with
     | leaf w =>
       have hq : iSum (.node a1 a2) (.leaf w) = (.leaf false, false) := by cases w <;> first | exact absurd rfl hc | rfl
       rw [hq]
       simp only [iA, iLf_l, iLf_n, iLs] at hA d1 d2 ⊢
       simp (disch := (first | decide | omega)) only [a_sumI, hA, setFrom, cellsOf, go_sem]
       refine ACalls.nxt (d1 _ _) ?_
       simp (disch := (first | decide | omega)) only [hA, setFrom, cellsOf, go_sem]
       refine ACalls.nxt (d2 _ _) ?_
       simp (disch := (first | decide | omega)) only [hA, setFrom, cellsOf, go_sem]
       exact leave_pure (xs := [.agg [.v (.int .i64 0), .v .zsl], .v (.bool false)]) (.inr rfl) (by simp (disch := (first | decide | omega)) only [resVs, resV, go_sem, hA, setFrom, cellsOf]) kO hR hB ⟨rfl, rfl, rfl⟩
     | node c1 c2 =>
       obtain ⟨r1, r2⟩ := hrec a1 a2 c1 c2 rfl rfl
       have hq : iSum (.node a1 a2) (.node c1 c2) = (nId (iSum a1 c1).1 (iSum a2 c2).1, (iSum a1 c1).2 && (iSum a2 c2).2) := rfl
       have nm := fun b l => normalId_spec (iSum a1 c1).1 (iSum a2 c2).1 b l
       rw [hq]
       obtain ⟨⟨u, p⟩, hu⟩ : ∃ u, iSum a1 c1 = u := ⟨_, rfl⟩
       obtain ⟨⟨v, q⟩, hv⟩ : ∃ v, iSum a2 c2 = v := ⟨_, rfl⟩
       rw [hu] at r1 nm ⊢
       rw [hv] at r2 nm ⊢
       simp only at nm ⊢
       obtain ⟨N, hN⟩ : ∃ N, nId u v = N := ⟨_, rfl⟩
       rw [hN] at nm ⊢
       simp only [iA, iLf_n, iLs] at hA d1 d2 r1 r2 nm ⊢
       cases p
       all_goals
        simp (disch := (first | decide | omega)) only [a_sumI, hA, setFrom, cellsOf, go_sem]
        refine ACalls.nxt (d1 _ _) ?_
        simp (disch := (first | decide | omega)) only [hA, setFrom, cellsOf, go_sem]
        refine ACalls.nxt (d2 _ _) ?_
        simp (disch := (first | decide | omega)) only [hA, setFrom, cellsOf, go_sem]
        refine ACalls.nxt (r1 _ _) ?_
        simp (disch := (first | decide | omega)) only [hA, setFrom, cellsOf, go_sem]
        refine ACalls.nxt (r2 _ _) ?_
        simp (disch := (first | decide | omega)) only [hA, setFrom, cellsOf, go_sem]
        refine ACalls.nxt (nm _ _) ?_
        simp (disch := (first | decide | omega)) only [hA, setFrom, cellsOf, go_sem]
       ·exact leave_pure (xs := [.agg [.v (.int .i64 (iLf N)), .v (iLs N)], .v (.bool false)]) (.inr rfl) (by simp (disch := (first | decide | omega)) only [resVs, resV, go_sem, hA, setFrom, cellsOf]) kO hR hB ⟨rfl, rfl, rfl⟩
       ·exact leave_pure (xs := [.agg [.v (.int .i64 (iLf N)), .v (iLs N)], .v (.bool q)]) (.inr rfl) (by simp (disch := (first | decide | omega)) only [resVs, resV, go_sem, hA, setFrom, cellsOf]) kO hR hB ⟨rfl, rfl, rfl⟩
theorem same_spec : ∀ (x y : ITT) (b l : List Row), ACalls Tryd.prog 59 [tA x, tA y] b l (fun r b' l' => r = .v (.bool (decide (x = y))) ∧ b' = b ∧ l' = l)
 | .leaf n, y, b, l => by
   refine calls_kept a_sameI_ok rfl (by decide) ?_
   intro B g hB hR hE hA; simp only [KArgs] at hA
   have y00' : (((0 : Nat) : Int) != 0) = false := rfl
   by_cases hn : n = tN y
   ·have hd : ((n : Int) != (tN y : Int)) = false := by simp; omega
    cases y with
    | leaf m =>
      have hq : decide (ITT.leaf n = .leaf m) = true := decide_eq_true (by rw [hn]; rfl)
      rw [hq]
      rw [tN_l] at hd
      simp only [tA, tN_l, tLs] at hA
      simp (disch := (first | decide | omega)) only [a_sameI, hA, hd, go_sem]
      refine loop_kept (ι := Nat) r_sameI0 (fun i => [(23, .v (.int .i64 0))]) 2 (fun _ => [.live 0 2 [[.v (.int .i64 n), .v .zsl]], .live 0 2 [[.v (.int .i64 m), .v .zsl]]])
       (fun i => True) (fun i => 0) 0 trivial (by (repeat (first | exact hE.mono oM | refine KLt.up ?_ kL))) (by ((try simp (disch := decide) only [hA, go_sem]) <;> exact kH)) (fun e => Weak.refl _ _ _) ?_
      intro g1 hE1 hEE1 hg1 i hi
      simp (disch := (first | decide | omega)) only [hA, hg1, go_sem]
      exact leave_pure (xs := [.v (.bool true)]) (.inr rfl) (by simp (disch := (first | decide | omega)) only [resVs, resV, go_sem, hA, hg1]) kO hR hB ⟨rfl, rfl, rfl⟩
    | node m y1 y2 =>
      have hq : decide (ITT.leaf n = .node m y1 y2) = false := decide_eq_false (fun h => by cases h)
      have z02 : ((0 : Int) != ((2 : Nat) : Int)) = true := rfl
      have z02i : ((0 : Int) != (2 : Int)) = true := rfl
      rw [hq]
      rw [tN_n] at hd
      simp only [tA, tN_l, tN_n, tLs] at hA
      simp (disch := (first | decide | omega)) only [a_sameI, hA, hd, z02, z02i, go_sem]
      exact leave_pure (xs := [.v (.bool false)]) (.inr rfl) (by simp (disch := (first | decide | omega)) only [resVs, resV, go_sem, hA]) kO hR hB ⟨rfl, rfl, rfl⟩
   ·have hd : ((n : Int) != (tN y : Int)) = true := by simp; omega
    have hq : decide (ITT.leaf n = y) = false := decide_eq_false (fun h => hn (by rw [← h]; rfl))
    rw [hq]
    simp only [tA, tN_l, tLs] at hA
    simp (disch := (first | decide | omega)) only [a_sameI, hA, hd, go_sem]
    exact leave_pure (xs := [.v (.bool false)]) (.inr rfl) (by simp (disch := (first | decide | omega)) only [resVs, resV, go_sem, hA]) kO hR hB ⟨rfl, rfl, rfl⟩
 | .node n x1 x2, y, b, l => by
   have i1 := same_spec x1
   have i2 := same_spec x2
   refine calls_kept a_sameI_ok rfl (by decide) ?_
   intro B g hB hR hE hA; simp only [KArgs] at hA
   by_cases hn : n = tN y
   ·have hd : ((n : Int) != (tN y : Int)) = false := by simp; omega
    cases y with
    | leaf m =>
      have hq : decide (ITT.node n x1 x2 = .leaf m) = false := decide_eq_false (fun h => by cases h)
      have z02 : (((2 : Nat) : Int) != 0) = true := rfl
      have z02i : ((2 : Int) != 0) = true := rfl
      rw [hq]
      rw [tN_l] at hd
      simp only [tA, tN_l, tN_n, tLs] at hA
      simp (disch := (first | decide | omega)) only [a_sameI, hA, hd, z02, z02i, go_sem]
      exact leave_pure (xs := [.v (.bool false)]) (.inr rfl) (by simp (disch := (first | decide | omega)) only [resVs, resV, go_sem, hA]) kO hR hB ⟨rfl, rfl, rfl⟩
    | node m y1 y2 =>
      have hq : decide (ITT.node n x1 x2 = .node m y1 y2) = (decide (x1 = y1) && decide (x2 = y2)) := by
       rw [← Bool.decide_and, decide_eq_decide]
       rw [tN_n] at hn
       simp [hn]
      have z22n : (((2 : Nat) : Int) != ((2 : Nat) : Int)) = false := rfl
      have z22j : ((2 : Int) != (2 : Int)) = false := rfl
      have j1 := fun b l => i1 y1 b l
      have j2 := fun b l => i2 y2 b l
      rw [hq]
      rw [tN_n] at hd
      simp only [tA, tN_n, tLs] at hA j1 j2
      obtain ⟨q1, e1⟩ : ∃ q, decide (x1 = y1) = q := ⟨_, rfl⟩
      obtain ⟨q2, e2⟩ : ∃ q, decide (x2 = y2) = q := ⟨_, rfl⟩
      rw [e1] at j1 ⊢
      rw [e2] at j2 ⊢
      have c0 : decide ((0 : Int) < 2) = true := rfl
      have c1 : decide ((1 : Int) < 2) = true := rfl
      have c2 : decide ((2 : Int) < 2) = false := rfl
      simp (disch := (first | decide | omega)) only [a_sameI, hA, hd, z22n, z22j, go_sem]
      refine loop_kept (ι := Nat) r_sameI0 (fun i => [(23, .v (.int .i64 i))]) 2 (fun _ => [.live 0 2 [[.v (.int .i64 n), .v (.isl 2 [[.int .i64 (tN x1), tLs x1], [.int .i64 (tN x2), tLs x2]])]], .live 0 2 [[.v (.int .i64 m), .v (.isl 2 [[.int .i64 (tN y1), tLs y1], [.int .i64 (tN y2), tLs y2]])]]])
       (fun i => i ≤ 2 ∧ (0 < i → q1 = true) ∧ (1 < i → q2 = true)) (fun i => 2 - i) 0 ⟨by omega, fun h => by omega, fun h => by omega⟩ (by (repeat (first | exact hE.mono oM | refine KLt.up ?_ kL))) (by ((try simp (disch := decide) only [hA, go_sem]) <;> exact kH)) (fun e => Weak.refl _ _ _) ?_
      rintro g1 hE1 hEE1 hg1 i ⟨hi, k1, k2⟩
      match i, hi, k1, k2 with
      | 0, hi, k1, k2 =>
        have e00 : ((0 : Nat) : Int) = 0 := rfl
        cases q1
        ·simp (disch := (first | decide | omega)) only [hA, hg1, e00, c0, setFrom, cellsOf, go_sem]
         refine ACalls.nxt (j1 _ _) ?_
         simp (disch := (first | decide | omega)) only [hA, hg1, go_sem]
         exact leave_pure (xs := [.v (.bool false)]) (.inr rfl) (by simp (disch := (first | decide | omega)) only [resVs, resV, go_sem, hA, hg1]) kO hR hB ⟨rfl, rfl, rfl⟩
        ·simp (disch := (first | decide | omega)) only [hA, hg1, e00, c0, setFrom, cellsOf, go_sem]
         refine ACalls.nxt (j1 _ _) ?_
         simp (disch := (first | decide | omega)) only [hA, hg1, go_sem]
         refine ⟨1, ⟨by omega, fun _ => trivial, fun h => by omega⟩, by simp only; omega, ?_⟩
         exact Weak.kround (p := r_sameI0) (k := 2) (by ((repeat refine (kAny_up rfl).trans ?_); exact hEE1)) (by ((try simp (disch := decide) only [hA, go_sem]) <;> exact kH)) rfl hE1 (by simp) kV hR kL
      | 1, hi, k1, k2 =>
        have e11 : ((1 : Nat) : Int) = 1 := rfl
        have := k1 oM
        subst this
        cases q2
        ·simp (disch := (first | decide | omega)) only [hA, hg1, e11, c1, setFrom, cellsOf, go_sem]
         refine ACalls.nxt (j2 _ _) ?_
         simp (disch := (first | decide | omega)) only [hA, hg1, go_sem]
         exact leave_pure (xs := [.v (.bool false)]) (.inr rfl) (by simp (disch := (first | decide | omega)) only [resVs, resV, go_sem, hA, hg1]) kO hR hB ⟨rfl, rfl, rfl⟩
        ·simp (disch := (first | decide | omega)) only [hA, hg1, e11, c1, setFrom, cellsOf, go_sem]
         refine ACalls.nxt (j2 _ _) ?_
         simp (disch := (first | decide | omega)) only [hA, hg1, go_sem]
         refine ⟨2, ⟨by omega, fun _ => trivial, fun _ => trivial⟩, by simp only; omega, ?_⟩
         exact Weak.kround (p := r_sameI0) (k := 2) (by ((repeat refine (kAny_up rfl).trans ?_); exact hEE1)) (by ((try simp (disch := decide) only [hA, go_sem]) <;> exact kH)) rfl hE1 (by simp) kV hR kL
      | 2, hi, k1, k2 =>
        have e22 : ((2 : Nat) : Int) = 2 := rfl
        have := k1 oM
        subst this
        have := k2 oM
        subst this
        simp (disch := (first | decide | omega)) only [hA, hg1, e22, c2, go_sem]
        exact leave_pure (xs := [.v (.bool true)]) (.inr rfl) (by simp (disch := (first | decide | omega)) only [resVs, resV, go_sem, hA, hg1]) kO hR hB ⟨rfl, rfl, rfl⟩
      | i + 3, hi, k1, k2 => exact absurd hi oM
   ·have hd : ((n : Int) != (tN y : Int)) = true := by simp; omega
    have hq : decide (ITT.node n x1 x2 = y) = false := decide_eq_false (fun h => hn (by rw [← h]; rfl))
    rw [hq]
    simp only [tA, tN_n, tLs] at hA
    simp (disch := (first | decide | omega)) only [a_sameI, hA, hd, go_sem]
    exact leave_pure (xs := [.v (.bool false)]) (.inr rfl) (by simp (disch := (first | decide | omega)) only [resVs, resV, go_sem, hA]) kO hR hB ⟨rfl, rfl, rfl⟩
set_option maxRecDepth 20000
def a_fillI : AFunc := ⟨2,92,[.cell 4 (some 2)],(.seq (.region [⟨some 2,.box (.t 0),none⟩,⟨some 3,.box (.t 1),none⟩,⟨some 4,.alloc [(.v (.int .i64 0)),(.v .zsl)],none⟩]) (.seq (.block 0 (.seq (.region [⟨some 10,.load (some 2) (.t 2),none⟩,⟨some 11,.call (.c (.fn 57 [])) [(.t 10),(.c (.v (.int .i64 0)))],none⟩,⟨some 9,.mv (.t 11),none⟩]) (.cond (.t 9) (.seq (.region [⟨some 12,.load (some 2) (.t 3),none⟩,⟨none,.store 2 (.t 4) (.t 12),none⟩]) .ret) (.seq (.region [⟨some 14,.load (some 2) (.t 2),none⟩,⟨some 15,.call (.c (.fn 57 [])) [(.t 14),(.c (.v (.int .i64 1)))],none⟩,⟨some 13,.mv (.t 15),none⟩]) (.cond (.t 13) (.seq (.region [⟨some 16,.load (some 2) (.t 3),none⟩,⟨some 17,.call (.c (.fn 61 [])) [(.t 16)],none⟩,⟨some 18,.call (.c (.fn 49 [])) [(.t 17)],none⟩,⟨none,.store 2 (.t 4) (.t 18),none⟩]) .ret) (.seq (.region [⟨some 20,.faddr 1 (.t 3),none⟩,⟨some 21,.load none (.t 20),none⟩,⟨some 22,.len (.t 21),none⟩,⟨some 23,.bin .eql (.t 22) (.c (.v (.int .i64 0))),none⟩,⟨some 19,.mv (.t 23),none⟩]) (.cond (.t 19) (.seq (.region [⟨some 24,.load (some 2) (.t 3),none⟩,⟨none,.store 2 (.t 4) (.t 24),none⟩]) .ret) .skip))))))) (.seq (.draw [⟨0,⟨some 25,.faddr 1 (.t 3),none⟩,[]⟩,⟨1,⟨some 26,.load none (.t 25),none⟩,[]⟩,⟨2,⟨some 27,.iaddr 2 (.t 26) (.c (.v (.int .i64 0))),none⟩,[]⟩,⟨3,⟨some 28,.load (some 2) (.t 27),none⟩,[]⟩,⟨4,⟨some 29,.faddr 1 (.t 3),none⟩,[]⟩,⟨5,⟨some 30,.load none (.t 29),none⟩,[]⟩,⟨6,⟨some 31,.iaddr 2 (.t 30) (.c (.v (.int .i64 1))),none⟩,[]⟩,⟨7,⟨some 32,.load (some 2) (.t 31),none⟩,[]⟩,⟨8,⟨some 5,.alloc [(.v (.int .i64 0)),(.v .zsl)],none⟩,[⟨some 25,.faddr 1 (.t 3),none⟩,⟨some 26,.load none (.t 25),none⟩,⟨some 27,.iaddr 2 (.t 26) (.c (.v (.int .i64 0))),none⟩,⟨some 28,.load (some 2) (.t 27),none⟩,⟨some 29,.faddr 1 (.t 3),none⟩,⟨some 30,.load none (.t 29),none⟩,⟨some 31,.iaddr 2 (.t 30) (.c (.v (.int .i64 1))),none⟩,⟨some 32,.load (some 2) (.t 31),none⟩]⟩,⟨9,⟨some 6,.alloc [(.v (.int .i64 0)),(.v .zsl)],none⟩,[⟨some 25,.faddr 1 (.t 3),none⟩,⟨some 26,.load none (.t 25),none⟩,⟨some 27,.iaddr 2 (.t 26) (.c (.v (.int .i64 0))),none⟩,⟨some 28,.load (some 2) (.t 27),none⟩,⟨some 29,.faddr 1 (.t 3),none⟩,⟨some 30,.load none (.t 29),none⟩,⟨some 31,.iaddr 2 (.t 30) (.c (.v (.int .i64 1))),none⟩,⟨some 32,.load (some 2) (.t 31),none⟩]⟩,⟨10,⟨none,.store 2 (.t 5) (.t 28),none⟩,[⟨some 29,.faddr 1 (.t 3),none⟩,⟨some 30,.load none (.t 29),none⟩,⟨some 31,.iaddr 2 (.t 30) (.c (.v (.int .i64 1))),none⟩,⟨some 32,.load (some 2) (.t 31),none⟩]⟩,⟨11,⟨none,.store 2 (.t 6) (.t 32),none⟩,[]⟩]) (.seq (.block 1 (.seq (.region [⟨some 34,.faddr 1 (.t 2),none⟩,⟨some 35,.load none (.t 34),none⟩,⟨some 36,.iaddr 2 (.t 35) (.c (.v (.int .i64 0))),none⟩,⟨some 37,.load (some 2) (.t 36),none⟩,⟨some 38,.call (.c (.fn 57 [])) [(.t 37),(.c (.v (.int .i64 1)))],none⟩,⟨some 33,.mv (.t 38),none⟩]) (.cond (.t 33) (.seq (.draw [⟨0,⟨some 39,.faddr 1 (.t 2),none⟩,[]⟩,⟨1,⟨some 40,.load none (.t 39),none⟩,[]⟩,⟨2,⟨some 41,.iaddr 2 (.t 40) (.c (.v (.int .i64 1))),none⟩,[]⟩,⟨3,⟨some 42,.load (some 2) (.t 41),none⟩,[]⟩,⟨4,⟨some 43,.load (some 2) (.t 6),none⟩,[]⟩,⟨5,⟨some 44,.call (.c (.fn 58 [])) [(.t 42),(.t 43)],none⟩,[]⟩,⟨6,⟨some 7,.alloc [(.v (.int .i64 0)),(.v .zsl)],none⟩,[⟨some 39,.faddr 1 (.t 2),none⟩,⟨some 40,.load none (.t 39),none⟩,⟨some 41,.iaddr 2 (.t 40) (.c (.v (.int .i64 1))),none⟩,⟨some 42,.load (some 2) (.t 41),none⟩,⟨some 43,.load (some 2) (.t 6),none⟩]⟩,⟨7,⟨none,.store 2 (.t 7) (.t 44),none⟩,[]⟩]) (.seq (.draw [⟨0,⟨some 45,.faddr 0 (.t 3),none⟩,[]⟩,⟨1,⟨some 46,.load none (.t 45),none⟩,[]⟩,⟨2,⟨some 47,.load (some 2) (.t 5),none⟩,[]⟩,⟨4,⟨some 49,.load (some 2) (.t 7),none⟩,[]⟩,⟨8,⟨some 53,.load (some 2) (.t 7),none⟩,[]⟩,⟨3,⟨some 48,.call (.c (.fn 61 [])) [(.t 47)],none⟩,[⟨some 45,.faddr 0 (.t 3),none⟩,⟨some 46,.load none (.t 45),none⟩,⟨some 49,.load (some 2) (.t 7),none⟩,⟨some 53,.load (some 2) (.t 7),none⟩]⟩,⟨5,⟨some 50,.call (.c (.fn 100 [])) [(.t 49)],none⟩,[⟨some 45,.faddr 0 (.t 3),none⟩,⟨some 46,.load none (.t 45),none⟩,⟨some 53,.load (some 2) (.t 7),none⟩]⟩,⟨6,⟨some 51,.mm true (.t 48) (.t 50),none⟩,[]⟩,⟨7,⟨some 52,.call (.c (.fn 49 [])) [(.t 51)],none⟩,[⟨some 45,.faddr 0 (.t 3),none⟩,⟨some 46,.load none (.t 45),none⟩,⟨some 53,.load (some 2) (.t 7),none⟩]⟩,⟨9,⟨some 54,.call (.c (.fn 98 [])) [(.t 46),(.t 52),(.t 53)],none⟩,[]⟩,⟨10,⟨none,.store 2 (.t 4) (.t 54),none⟩,[]⟩]) .ret)) (.seq (.region [⟨some 56,.faddr 1 (.t 2),none⟩,⟨some 57,.load none (.t 56),none⟩,⟨some 58,.iaddr 2 (.t 57) (.c (.v (.int .i64 1))),none⟩,⟨some 59,.load (some 2) (.t 58),none⟩,⟨some 60,.call (.c (.fn 57 [])) [(.t 59),(.c (.v (.int .i64 1)))],none⟩,⟨some 55,.mv (.t 60),none⟩]) (.cond (.t 55) (.seq (.draw [⟨0,⟨some 61,.faddr 1 (.t 2),none⟩,[]⟩,⟨1,⟨some 62,.load none (.t 61),none⟩,[]⟩,⟨2,⟨some 63,.iaddr 2 (.t 62) (.c (.v (.int .i64 0))),none⟩,[]⟩,⟨3,⟨some 64,.load (some 2) (.t 63),none⟩,[]⟩,⟨4,⟨some 65,.load (some 2) (.t 5),none⟩,[]⟩,⟨5,⟨some 66,.call (.c (.fn 58 [])) [(.t 64),(.t 65)],none⟩,[]⟩,⟨6,⟨some 8,.alloc [(.v (.int .i64 0)),(.v .zsl)],none⟩,[⟨some 61,.faddr 1 (.t 2),none⟩,⟨some 62,.load none (.t 61),none⟩,⟨some 63,.iaddr 2 (.t 62) (.c (.v (.int .i64 0))),none⟩,⟨some 64,.load (some 2) (.t 63),none⟩,⟨some 65,.load (some 2) (.t 5),none⟩]⟩,⟨7,⟨none,.store 2 (.t 8) (.t 66),none⟩,[]⟩]) (.seq (.draw [⟨0,⟨some 67,.faddr 0 (.t 3),none⟩,[]⟩,⟨1,⟨some 68,.load none (.t 67),none⟩,[]⟩,⟨2,⟨some 69,.load (some 2) (.t 8),none⟩,[]⟩,⟨3,⟨some 70,.load (some 2) (.t 6),none⟩,[]⟩,⟨5,⟨some 72,.load (some 2) (.t 8),none⟩,[]⟩,⟨4,⟨some 71,.call (.c (.fn 61 [])) [(.t 70)],none⟩,[⟨some 67,.faddr 0 (.t 3),none⟩,⟨some 68,.load none (.t 67),none⟩,⟨some 69,.load (some 2) (.t 8),none⟩,⟨some 72,.load (some 2) (.t 8),none⟩]⟩,⟨6,⟨some 73,.call (.c (.fn 100 [])) [(.t 72)],none⟩,[⟨some 67,.faddr 0 (.t 3),none⟩,⟨some 68,.load none (.t 67),none⟩,⟨some 69,.load (some 2) (.t 8),none⟩]⟩,⟨7,⟨some 74,.mm true (.t 71) (.t 73),none⟩,[]⟩,⟨8,⟨some 75,.call (.c (.fn 49 [])) [(.t 74)],none⟩,[⟨some 67,.faddr 0 (.t 3),none⟩,⟨some 68,.load none (.t 67),none⟩,⟨some 69,.load (some 2) (.t 8),none⟩]⟩,⟨9,⟨some 76,.call (.c (.fn 98 [])) [(.t 68),(.t 69),(.t 75)],none⟩,[]⟩,⟨10,⟨none,.store 2 (.t 4) (.t 76),none⟩,[]⟩]) .ret)) .skip))))) (.seq (.draw [⟨0,⟨some 77,.faddr 0 (.t 3),none⟩,[]⟩,⟨1,⟨some 78,.load none (.t 77),none⟩,[]⟩,⟨2,⟨some 79,.faddr 1 (.t 2),none⟩,[]⟩,⟨3,⟨some 80,.load none (.t 79),none⟩,[]⟩,⟨4,⟨some 81,.iaddr 2 (.t 80) (.c (.v (.int .i64 0))),none⟩,[]⟩,⟨5,⟨some 82,.load (some 2) (.t 81),none⟩,[]⟩,⟨6,⟨some 83,.load (some 2) (.t 5),none⟩,[]⟩,⟨8,⟨some 85,.faddr 1 (.t 2),none⟩,[]⟩,⟨9,⟨some 86,.load none (.t 85),none⟩,[]⟩,⟨10,⟨some 87,.iaddr 2 (.t 86) (.c (.v (.int .i64 1))),none⟩,[]⟩,⟨11,⟨some 88,.load (some 2) (.t 87),none⟩,[]⟩,⟨12,⟨some 89,.load (some 2) (.t 6),none⟩,[]⟩,⟨7,⟨some 84,.call (.c (.fn 58 [])) [(.t 82),(.t 83)],none⟩,[⟨some 77,.faddr 0 (.t 3),none⟩,⟨some 78,.load none (.t 77),none⟩,⟨some 85,.faddr 1 (.t 2),none⟩,⟨some 86,.load none (.t 85),none⟩,⟨some 87,.iaddr 2 (.t 86) (.c (.v (.int .i64 1))),none⟩,⟨some 88,.load (some 2) (.t 87),none⟩,⟨some 89,.load (some 2) (.t 6),none⟩]⟩,⟨13,⟨some 90,.call (.c (.fn 58 [])) [(.t 88),(.t 89)],none⟩,[⟨some 77,.faddr 0 (.t 3),none⟩,⟨some 78,.load none (.t 77),none⟩]⟩,⟨14,⟨some 91,.call (.c (.fn 98 [])) [(.t 78),(.t 84),(.t 90)],none⟩,[]⟩,⟨15,⟨none,.store 2 (.t 4) (.t 91),none⟩,[]⟩]) .ret)))))⟩
theorem a_fillI_ok : cFunc Tryd.prog 58 = some a_fillI := by kernel_rfl
def a_growI : AFunc := ⟨2,64,[.cell 4 (some 3)],(.seq (.region [⟨some 2,.box (.t 0),none⟩,⟨some 3,.box (.t 1),none⟩,⟨some 4,.alloc [(.v (.int .i64 0)),(.v .zsl),(.v (.int .i64 0))],none⟩]) (.seq (.seq (.region [⟨some 10,.faddr 1 (.t 2),none⟩,⟨some 11,.load none (.t 10),none⟩,⟨some 12,.len (.t 11),none⟩,⟨some 13,.bin .eql (.t 12) (.c (.v (.int .i64 0))),none⟩]) (.cond (.t 13) (.seq (.region [⟨some 14,.load (some 2) (.t 3),none⟩,⟨some 15,.call (.c (.fn 61 [])) [(.t 14)],none⟩,⟨some 16,.bin .add (.t 15) (.c (.v (.int .i64 1))),none⟩,⟨some 17,.call (.c (.fn 49 [])) [(.t 16)],none⟩,⟨some 18,.build [(.v (.int .i64 0)),(.v .zsl),(.v (.int .i64 0))] [(0,2,(.t 17)),(2,1,(.c (.v (.int .i64 0))))],none⟩,⟨none,.store 3 (.t 4) (.t 18),none⟩]) .ret) .skip)) (.seq (.seq (.region [⟨some 19,.faddr 1 (.t 3),none⟩,⟨some 20,.load none (.t 19),none⟩,⟨some 21,.len (.t 20),none⟩,⟨some 22,.bin .eql (.t 21) (.c (.v (.int .i64 0))),none⟩]) (.cond (.t 22) (.seq (.draw [⟨0,⟨some 23,.load (some 2) (.t 2),none⟩,[]⟩,⟨1,⟨some 24,.faddr 0 (.t 3),none⟩,[]⟩,⟨2,⟨some 25,.load none (.t 24),none⟩,[]⟩,⟨3,⟨some 26,.call (.c (.fn 49 [])) [(.c (.v (.int .i64 0)))],none⟩,[⟨some 23,.load (some 2) (.t 2),none⟩,⟨some 24,.faddr 0 (.t 3),none⟩,⟨some 25,.load none (.t 24),none⟩]⟩,⟨4,⟨some 27,.call (.c (.fn 49 [])) [(.c (.v (.int .i64 0)))],none⟩,[⟨some 23,.load (some 2) (.t 2),none⟩,⟨some 24,.faddr 0 (.t 3),none⟩,⟨some 25,.load none (.t 24),none⟩]⟩,⟨5,⟨some 28,.call (.c (.fn 95 [])) [(.t 25),(.t 26),(.t 27)],none⟩,[⟨some 23,.load (some 2) (.t 2),none⟩]⟩,⟨6,⟨some 29,.call (.c (.fn 60 [])) [(.t 23),(.t 28)],none⟩,[]⟩,⟨7,⟨some 5,.alloc [(.v (.int .i64 0)),(.v .zsl),(.v (.int .i64 0))],none⟩,[⟨some 23,.load (some 2) (.t 2),none⟩,⟨some 24,.faddr 0 (.t 3),none⟩,⟨some 25,.load none (.t 24),none⟩]⟩,⟨8,⟨none,.store 3 (.t 5) (.t 29),none⟩,[]⟩]) (.seq (.region [⟨some 30,.faddr 2 (.t 5),none⟩,⟨some 31,.load none (.t 30),none⟩,⟨some 32,.bin .add (.t 31) (.c (.v (.int .i64 1000))),none⟩,⟨some 33,.faddr 2 (.t 5),none⟩,⟨none,.store 1 (.t 33) (.t 32),none⟩]) (.seq (.region [⟨some 34,.load (some 3) (.t 5),none⟩,⟨none,.store 3 (.t 4) (.t 34),none⟩]) .ret))) .skip)) (.seq (.region [⟨some 35,.mkfn 101 [(.t 2),(.t 3)],none⟩,⟨some 6,.mv (.t 35),none⟩]) (.seq (.region [⟨some 36,.mkfn 102 [(.t 2),(.t 3)],none⟩,⟨some 7,.mv (.t 36),none⟩]) (.seq (.block 0 (.seq (.region [⟨some 38,.faddr 1 (.t 2),none⟩,⟨some 39,.load none (.t 38),none⟩,⟨some 40,.iaddr 2 (.t 39) (.c (.v (.int .i64 0))),none⟩,⟨some 41,.load (some 2) (.t 40),none⟩,⟨some 42,.call (.c (.fn 57 [])) [(.t 41),(.c (.v (.int .i64 0)))],none⟩,⟨some 37,.mv (.t 42),none⟩]) (.cond (.t 37) (.seq (.region [⟨some 43,.mv (.t 7),none⟩,⟨some 44,.call (.t 43) [],none⟩,⟨none,.store 3 (.t 4) (.t 44),none⟩]) .ret) (.seq (.region [⟨some 46,.faddr 1 (.t 2),none⟩,⟨some 47,.load none (.t 46),none⟩,⟨some 48,.iaddr 2 (.t 47) (.c (.v (.int .i64 1))),none⟩,⟨some 49,.load (some 2) (.t 48),none⟩,⟨some 50,.call (.c (.fn 57 [])) [(.t 49),(.c (.v (.int .i64 0)))],none⟩,⟨some 45,.mv (.t 50),none⟩]) (.cond (.t 45) (.seq (.region [⟨some 51,.mv (.t 6),none⟩,⟨some 52,.call (.t 51) [],none⟩,⟨none,.store 3 (.t 4) (.t 52),none⟩]) .ret) .skip))))) (.seq (.region [⟨some 53,.mv (.t 6),none⟩,⟨some 54,.call (.t 53) [],none⟩,⟨some 55,.mv (.t 7),none⟩,⟨some 56,.call (.t 55) [],none⟩,⟨some 8,.alloc [(.v (.int .i64 0)),(.v .zsl),(.v (.int .i64 0))],none⟩,⟨some 9,.alloc [(.v (.int .i64 0)),(.v .zsl),(.v (.int .i64 0))],none⟩,⟨none,.store 3 (.t 8) (.t 54),none⟩,⟨none,.store 3 (.t 9) (.t 56),none⟩]) (.seq (.seq (.region [⟨some 57,.faddr 2 (.t 8),none⟩,⟨some 58,.load none (.t 57),none⟩,⟨some 59,.faddr 2 (.t 9),none⟩,⟨some 60,.load none (.t 59),none⟩,⟨some 61,.bin .lss (.t 58) (.t 60),none⟩]) (.cond (.t 61) (.seq (.region [⟨some 62,.load (some 3) (.t 8),none⟩,⟨none,.store 3 (.t 4) (.t 62),none⟩]) .ret) .skip)) (.seq (.region [⟨some 63,.load (some 3) (.t 9),none⟩,⟨none,.store 3 (.t 4) (.t 63),none⟩]) .ret)))))))))⟩
theorem a_growI_ok : cFunc Tryd.prog 60 = some a_growI := by kernel_rfl
def a_growL : AFunc := ⟨2,26,[.cell 2 (some 3)],(.seq (.region [⟨some 2,.alloc [(.v (.int .i64 0)),(.v .zsl),(.v (.int .i64 0))],none⟩]) (.seq (.draw [⟨0,⟨some 4,.faddr 1 (.t 0),none⟩,[]⟩,⟨1,⟨some 5,.load none (.t 4),none⟩,[]⟩,⟨2,⟨some 6,.iaddr 2 (.t 5) (.c (.v (.int .i64 0))),none⟩,[]⟩,⟨3,⟨some 7,.load (some 2) (.t 6),none⟩,[]⟩,⟨4,⟨some 8,.faddr 1 (.t 1),none⟩,[]⟩,⟨5,⟨some 9,.load none (.t 8),none⟩,[]⟩,⟨6,⟨some 10,.iaddr 2 (.t 9) (.c (.v (.int .i64 0))),none⟩,[]⟩,⟨7,⟨some 11,.load (some 2) (.t 10),none⟩,[]⟩,⟨8,⟨some 12,.call (.c (.fn 60 [])) [(.t 7),(.t 11)],none⟩,[]⟩,⟨9,⟨some 3,.alloc [(.v (.int .i64 0)),(.v .zsl),(.v (.int .i64 0))],none⟩,[⟨some 4,.faddr 1 (.t 0),none⟩,⟨some 5,.load none (.t 4),none⟩,⟨some 6,.iaddr 2 (.t 5) (.c (.v (.int .i64 0))),none⟩,⟨some 7,.load (some 2) (.t 6),none⟩,⟨some 8,.faddr 1 (.t 1),none⟩,⟨some 9,.load none (.t 8),none⟩,⟨some 10,.iaddr 2 (.t 9) (.c (.v (.int .i64 0))),none⟩,⟨some 11,.load (some 2) (.t 10),none⟩]⟩,⟨10,⟨none,.store 3 (.t 3) (.t 12),none⟩,[]⟩]) (.seq (.draw [⟨0,⟨some 13,.faddr 0 (.t 1),none⟩,[]⟩,⟨1,⟨some 14,.load none (.t 13),none⟩,[]⟩,⟨2,⟨some 15,.faddr 0 (.t 3),none⟩,[]⟩,⟨3,⟨some 16,.load (some 2) (.t 15),none⟩,[]⟩,⟨4,⟨some 17,.faddr 1 (.t 1),none⟩,[]⟩,⟨5,⟨some 18,.load none (.t 17),none⟩,[]⟩,⟨6,⟨some 19,.iaddr 2 (.t 18) (.c (.v (.int .i64 1))),none⟩,[]⟩,⟨7,⟨some 20,.load (some 2) (.t 19),none⟩,[]⟩,⟨9,⟨some 22,.faddr 2 (.t 3),none⟩,[]⟩,⟨10,⟨some 23,.load none (.t 22),none⟩,[]⟩,⟨11,⟨some 24,.bin .add (.t 23) (.c (.v (.int .i64 1))),none⟩,[]⟩,⟨8,⟨some 21,.call (.c (.fn 95 [])) [(.t 14),(.t 16),(.t 20)],none⟩,[⟨some 22,.faddr 2 (.t 3),none⟩,⟨some 23,.load none (.t 22),none⟩,⟨some 24,.bin .add (.t 23) (.c (.v (.int .i64 1))),none⟩]⟩,⟨12,⟨some 25,.build [(.v (.int .i64 0)),(.v .zsl),(.v (.int .i64 0))] [(0,2,(.t 21)),(2,1,(.t 24))],none⟩,[]⟩,⟨13,⟨none,.store 3 (.t 2) (.t 25),none⟩,[]⟩]) .ret)))⟩
theorem a_growL_ok : cFunc Tryd.prog 101 = some a_growL := by kernel_rfl
def a_growR : AFunc := ⟨2,26,[.cell 2 (some 3)],(.seq (.region [⟨some 2,.alloc [(.v (.int .i64 0)),(.v .zsl),(.v (.int .i64 0))],none⟩]) (.seq (.draw [⟨0,⟨some 4,.faddr 1 (.t 0),none⟩,[]⟩,⟨1,⟨some 5,.load none (.t 4),none⟩,[]⟩,⟨2,⟨some 6,.iaddr 2 (.t 5) (.c (.v (.int .i64 1))),none⟩,[]⟩,⟨3,⟨some 7,.load (some 2) (.t 6),none⟩,[]⟩,⟨4,⟨some 8,.faddr 1 (.t 1),none⟩,[]⟩,⟨5,⟨some 9,.load none (.t 8),none⟩,[]⟩,⟨6,⟨some 10,.iaddr 2 (.t 9) (.c (.v (.int .i64 1))),none⟩,[]⟩,⟨7,⟨some 11,.load (some 2) (.t 10),none⟩,[]⟩,⟨8,⟨some 12,.call (.c (.fn 60 [])) [(.t 7),(.t 11)],none⟩,[]⟩,⟨9,⟨some 3,.alloc [(.v (.int .i64 0)),(.v .zsl),(.v (.int .i64 0))],none⟩,[⟨some 4,.faddr 1 (.t 0),none⟩,⟨some 5,.load none (.t 4),none⟩,⟨some 6,.iaddr 2 (.t 5) (.c (.v (.int .i64 1))),none⟩,⟨some 7,.load (some 2) (.t 6),none⟩,⟨some 8,.faddr 1 (.t 1),none⟩,⟨some 9,.load none (.t 8),none⟩,⟨some 10,.iaddr 2 (.t 9) (.c (.v (.int .i64 1))),none⟩,⟨some 11,.load (some 2) (.t 10),none⟩]⟩,⟨10,⟨none,.store 3 (.t 3) (.t 12),none⟩,[]⟩]) (.seq (.draw [⟨0,⟨some 13,.faddr 0 (.t 1),none⟩,[]⟩,⟨1,⟨some 14,.load none (.t 13),none⟩,[]⟩,⟨2,⟨some 15,.faddr 1 (.t 1),none⟩,[]⟩,⟨3,⟨some 16,.load none (.t 15),none⟩,[]⟩,⟨4,⟨some 17,.iaddr 2 (.t 16) (.c (.v (.int .i64 0))),none⟩,[]⟩,⟨5,⟨some 18,.load (some 2) (.t 17),none⟩,[]⟩,⟨6,⟨some 19,.faddr 0 (.t 3),none⟩,[]⟩,⟨7,⟨some 20,.load (some 2) (.t 19),none⟩,[]⟩,⟨9,⟨some 22,.faddr 2 (.t 3),none⟩,[]⟩,⟨10,⟨some 23,.load none (.t 22),none⟩,[]⟩,⟨11,⟨some 24,.bin .add (.t 23) (.c (.v (.int .i64 1))),none⟩,[]⟩,⟨8,⟨some 21,.call (.c (.fn 95 [])) [(.t 14),(.t 18),(.t 20)],none⟩,[⟨some 22,.faddr 2 (.t 3),none⟩,⟨some 23,.load none (.t 22),none⟩,⟨some 24,.bin .add (.t 23) (.c (.v (.int .i64 1))),none⟩]⟩,⟨12,⟨some 25,.build [(.v (.int .i64 0)),(.v .zsl),(.v (.int .i64 0))] [(0,2,(.t 21)),(2,1,(.t 24))],none⟩,[]⟩,⟨13,⟨none,.store 3 (.t 2) (.t 25),none⟩,[]⟩]) .ret)))⟩
theorem a_growR_ok : cFunc Tryd.prog 102 = some a_growR := by kernel_rfl
def a_ForkI : AFunc := ⟨1,40,[.cell 2 (some 4),.cell 3 (some 4),.tmp 4],(.seq (.region [⟨some 1,.box (.t 0),none⟩,⟨some 2,.alloc [(.v (.int .i64 0)),(.v .zsl),(.v (.int .i64 0)),(.v .zsl)],none⟩,⟨some 3,.alloc [(.v (.int .i64 0)),(.v .zsl),(.v (.int .i64 0)),(.v .zsl)],none⟩,⟨some 4,.mv (.c (.v (.int .i64 0))),none⟩]) (.seq (.seq (.region [⟨some 7,.load (some 4) (.t 1),none⟩,⟨some 8,.call (.c (.fn 50 [])) [(.t 7)],none⟩,⟨some 9,.not (.t 8),none⟩]) (.cond (.t 9) (.seq (.draw [⟨0,⟨some 10,.load (some 4) (.t 2),none⟩,[]⟩,⟨1,⟨some 11,.load (some 4) (.t 3),none⟩,[]⟩,⟨2,⟨none,.store 4 (.t 2) (.t 10),none⟩,[⟨some 11,.load (some 4) (.t 3),none⟩]⟩,⟨3,⟨none,.store 4 (.t 3) (.t 11),none⟩,[]⟩,⟨4,⟨some 4,.mv (.c (.v (.int .i64 1))),none⟩,[]⟩]) .ret) .skip)) (.seq (.region [⟨some 13,.faddr 0 (.t 1),none⟩,⟨some 14,.load (some 2) (.t 13),none⟩,⟨some 15,.call (.c (.fn 52 [])) [(.t 14)],none⟩,⟨some 16,.call (.c (.fn 51 [])) [(.t 15)],none⟩,⟨some 12,.mv (.t 16),none⟩,⟨some 17,.extract 0 (.t 12),none⟩,⟨some 18,.extract 1 (.t 12),none⟩,⟨some 5,.alloc [(.v (.int .i64 0)),(.v .zsl)],none⟩,⟨some 6,.alloc [(.v (.int .i64 0)),(.v .zsl)],none⟩,⟨none,.store 2 (.t 5) (.t 17),none⟩,⟨none,.store 2 (.t 6) (.t 18),none⟩]) (.seq (.seq (.region [⟨some 19,.load (some 2) (.t 5),none⟩,⟨some 20,.call (.c (.fn 53 [])) [(.t 19)],none⟩,⟨some 21,.not (.t 20),none⟩,⟨some 22,.mv (.t 21),none⟩,⟨some 23,.load (some 2) (.t 6),some (22,false)⟩,⟨some 24,.call (.c (.fn 53 [])) [(.t 23)],some (22,false)⟩,⟨some 25,.not (.t 24),some (22,false)⟩,⟨some 26,.pick (.t 22) (.c (.v (.bool true))) (.t 25),none⟩]) (.cond (.t 26) (.seq (.draw [⟨0,⟨some 27,.load (some 4) (.t 2),none⟩,[]⟩,⟨1,⟨some 28,.load (some 4) (.t 3),none⟩,[]⟩,⟨2,⟨none,.store 4 (.t 2) (.t 27),none⟩,[⟨some 28,.load (some 4) (.t 3),none⟩]⟩,⟨3,⟨none,.store 4 (.t 3) (.t 28),none⟩,[]⟩,⟨4,⟨some 4,.mv (.c (.v (.int .i64 5))),none⟩,[]⟩]) .ret) .skip)) (.seq (.draw [⟨0,⟨some 29,.load (some 2) (.t 5),none⟩,[]⟩,⟨1,⟨some 30,.faddr 2 (.t 1),none⟩,[]⟩,⟨2,⟨some 31,.load (some 2) (.t 30),none⟩,[]⟩,⟨5,⟨some 34,.load (some 2) (.t 6),none⟩,[]⟩,⟨7,⟨some 36,.faddr 2 (.t 1),none⟩,[]⟩,⟨8,⟨some 37,.load (some 2) (.t 36),none⟩,[]⟩,⟨3,⟨some 32,.call (.c (.fn 54 [])) [(.t 31)],none⟩,[⟨some 29,.load (some 2) (.t 5),none⟩,⟨some 34,.load (some 2) (.t 6),none⟩,⟨some 36,.faddr 2 (.t 1),none⟩,⟨some 37,.load (some 2) (.t 36),none⟩]⟩,⟨4,⟨some 33,.build [(.v (.int .i64 0)),(.v .zsl),(.v (.int .i64 0)),(.v .zsl)] [(0,2,(.t 29)),(2,2,(.t 32))],none⟩,[]⟩,⟨6,⟨some 35,.call (.c (.fn 52 [])) [(.t 34)],none⟩,[⟨some 29,.load (some 2) (.t 5),none⟩,⟨some 36,.faddr 2 (.t 1),none⟩,⟨some 37,.load (some 2) (.t 36),none⟩,⟨some 33,.build [(.v (.int .i64 0)),(.v .zsl),(.v (.int .i64 0)),(.v .zsl)] [(0,2,(.t 29)),(2,2,(.t 32))],none⟩]⟩,⟨9,⟨some 38,.call (.c (.fn 54 [])) [(.t 37)],none⟩,[⟨some 29,.load (some 2) (.t 5),none⟩,⟨some 33,.build [(.v (.int .i64 0)),(.v .zsl),(.v (.int .i64 0)),(.v .zsl)] [(0,2,(.t 29)),(2,2,(.t 32))],none⟩]⟩,⟨10,⟨some 39,.build [(.v (.int .i64 0)),(.v .zsl),(.v (.int .i64 0)),(.v .zsl)] [(0,2,(.t 35)),(2,2,(.t 38))],none⟩,[]⟩,⟨11,⟨none,.store 4 (.t 2) (.t 33),none⟩,[⟨some 39,.build [(.v (.int .i64 0)),(.v .zsl),(.v (.int .i64 0)),(.v .zsl)] [(0,2,(.t 35)),(2,2,(.t 38))],none⟩]⟩,⟨12,⟨none,.store 4 (.t 3) (.t 39),none⟩,[]⟩,⟨13,⟨some 4,.mv (.c (.v (.int .i64 0))),none⟩,[]⟩]) .ret)))))⟩
theorem a_ForkI_ok : cFunc Tryd.prog 16 = some a_ForkI := by kernel_rfl
def a_JoinI : AFunc := ⟨2,37,[.cell 4 (some 4),.tmp 5],(.seq (.region [⟨some 2,.box (.t 0),none⟩,⟨some 3,.box (.t 1),none⟩,⟨some 4,.alloc [(.v (.int .i64 0)),(.v .zsl),(.v (.int .i64 0)),(.v .zsl)],none⟩,⟨some 5,.mv (.c (.v (.int .i64 0))),none⟩]) (.seq (.seq (.region [⟨some 8,.load (some 4) (.t 2),none⟩,⟨some 9,.call (.c (.fn 50 [])) [(.t 8)],none⟩,⟨some 10,.not (.t 9),none⟩,⟨some 11,.mv (.t 10),none⟩,⟨some 12,.load (some 4) (.t 3),some (11,false)⟩,⟨some 13,.call (.c (.fn 50 [])) [(.t 12)],some (11,false)⟩,⟨some 14,.not (.t 13),some (11,false)⟩,⟨some 15,.pick (.t 11) (.c (.v (.bool true))) (.t 14),none⟩]) (.cond (.t 15) (.seq (.region [⟨some 16,.build [(.v (.int .i64 0)),(.v .zsl),(.v (.int .i64 0)),(.v .zsl)] [],none⟩,⟨none,.store 4 (.t 4) (.t 16),none⟩,⟨some 5,.mv (.c (.v (.int .i64 1))),none⟩]) .ret) .skip)) (.seq (.region [⟨some 18,.faddr 0 (.t 2),none⟩,⟨some 19,.load (some 2) (.t 18),none⟩,⟨some 20,.faddr 0 (.t 3),none⟩,⟨some 21,.load (some 2) (.t 20),none⟩,⟨some 22,.call (.c (.fn 55 [])) [(.t 19),(.t 21)],none⟩,⟨some 17,.mv (.t 22),none⟩,⟨some 23,.extract 0 (.t 17),none⟩,⟨some 24,.extract 1 (.t 17),none⟩,⟨some 6,.alloc [(.v (.int .i64 0)),(.v .zsl)],none⟩,⟨none,.store 2 (.t 6) (.t 23),none⟩,⟨some 7,.mv (.t 24),none⟩]) (.seq (.seq (.region [⟨some 25,.mv (.t 7),none⟩,⟨some 26,.not (.t 25),none⟩]) (.cond (.t 26) (.seq (.region [⟨some 27,.build [(.v (.int .i64 0)),(.v .zsl),(.v (.int .i64 0)),(.v .zsl)] [],none⟩,⟨none,.store 4 (.t 4) (.t 27),none⟩,⟨some 5,.mv (.c (.v (.int .i64 6))),none⟩]) .ret) .skip)) (.seq (.draw [⟨0,⟨some 28,.load (some 2) (.t 6),none⟩,[]⟩,⟨2,⟨some 30,.faddr 2 (.t 2),none⟩,[]⟩,⟨3,⟨some 31,.load (some 2) (.t 30),none⟩,[]⟩,⟨4,⟨some 32,.faddr 2 (.t 3),none⟩,[]⟩,⟨5,⟨some 33,.load (some 2) (.t 32),none⟩,[]⟩,⟨1,⟨some 29,.call (.c (.fn 52 [])) [(.t 28)],none⟩,[⟨some 30,.faddr 2 (.t 2),none⟩,⟨some 31,.load (some 2) (.t 30),none⟩,⟨some 32,.faddr 2 (.t 3),none⟩,⟨some 33,.load (some 2) (.t 32),none⟩]⟩,⟨6,⟨some 34,.call (.c (.fn 56 [])) [(.t 31),(.t 33)],none⟩,[]⟩,⟨7,⟨some 35,.call (.c (.fn 54 [])) [(.t 34)],none⟩,[]⟩,⟨8,⟨some 36,.build [(.v (.int .i64 0)),(.v .zsl),(.v (.int .i64 0)),(.v .zsl)] [(0,2,(.t 29)),(2,2,(.t 35))],none⟩,[]⟩,⟨9,⟨none,.store 4 (.t 4) (.t 36),none⟩,[]⟩,⟨10,⟨some 5,.mv (.c (.v (.int .i64 0))),none⟩,[]⟩]) .ret)))))⟩
theorem a_JoinI_ok : cFunc Tryd.prog 17 = some a_JoinI := by kernel_rfl
def a_StepI : AFunc := ⟨1,40,[.cell 2 (some 4),.tmp 3],(.seq (.region [⟨some 1,.box (.t 0),none⟩,⟨some 2,.alloc [(.v (.int .i64 0)),(.v .zsl),(.v (.int .i64 0)),(.v .zsl)],none⟩,⟨some 3,.mv (.c (.v (.int .i64 0))),none⟩]) (.seq (.block 0 (.seq (.region [⟨some 6,.load (some 4) (.t 1),none⟩,⟨some 7,.call (.c (.fn 50 [])) [(.t 6)],none⟩,⟨some 8,.not (.t 7),none⟩,⟨some 5,.mv (.t 8),none⟩]) (.cond (.t 5) (.seq (.region [⟨some 9,.build [(.v (.int .i64 0)),(.v .zsl),(.v (.int .i64 0)),(.v .zsl)] [],none⟩,⟨none,.store 4 (.t 2) (.t 9),none⟩,⟨some 3,.mv (.c (.v (.int .i64 1))),none⟩]) .ret) (.seq (.region [⟨some 11,.faddr 0 (.t 1),none⟩,⟨some 12,.load (some 2) (.t 11),none⟩,⟨some 13,.call (.c (.fn 57 [])) [(.t 12),(.c (.v (.int .i64 0)))],none⟩,⟨some 10,.mv (.t 13),none⟩]) (.cond (.t 10) (.seq (.region [⟨some 14,.build [(.v (.int .i64 0)),(.v .zsl),(.v (.int .i64 0)),(.v .zsl)] [],none⟩,⟨none,.store 4 (.t 2) (.t 14),none⟩,⟨some 3,.mv (.c (.v (.int .i64 6))),none⟩]) .ret) .skip))))) (.seq (.region [⟨some 15,.faddr 0 (.t 1),none⟩,⟨some 16,.load (some 2) (.t 15),none⟩,⟨some 17,.faddr 2 (.t 1),none⟩,⟨some 18,.load (some 2) (.t 17),none⟩,⟨some 19,.call (.c (.fn 58 [])) [(.t 16),(.t 18)],none⟩,⟨some 4,.alloc [(.v (.int .i64 0)),(.v .zsl)],none⟩,⟨none,.store 2 (.t 4) (.t 19),none⟩]) (.seq (.seq (.region [⟨some 20,.load (some 2) (.t 4),none⟩,⟨some 21,.faddr 2 (.t 1),none⟩,⟨some 22,.load (some 2) (.t 21),none⟩,⟨some 23,.call (.c (.fn 59 [])) [(.t 20),(.t 22)],none⟩]) (.cond (.t 23) (.region [⟨some 24,.faddr 0 (.t 1),none⟩,⟨some 25,.load (some 2) (.t 24),none⟩,⟨some 26,.faddr 2 (.t 1),none⟩,⟨some 27,.load (some 2) (.t 26),none⟩,⟨some 28,.call (.c (.fn 60 [])) [(.t 25),(.t 27)],none⟩,⟨some 29,.field 0 (some 2) (.t 28),none⟩,⟨none,.store 2 (.t 4) (.t 29),none⟩]) .skip)) (.seq (.seq (.region [⟨some 30,.load (some 2) (.t 4),none⟩,⟨some 31,.call (.c (.fn 61 [])) [(.t 30)],none⟩,⟨some 32,.bin .gtr (.t 31) (.c (.v (.int .i64 1073741824))),none⟩]) (.cond (.t 32) (.seq (.region [⟨some 33,.build [(.v (.int .i64 0)),(.v .zsl),(.v (.int .i64 0)),(.v .zsl)] [],none⟩,⟨none,.store 4 (.t 2) (.t 33),none⟩,⟨some 3,.mv (.c (.v (.int .i64 9))),none⟩]) .ret) .skip)) (.seq (.draw [⟨0,⟨some 34,.faddr 0 (.t 1),none⟩,[]⟩,⟨1,⟨some 35,.load (some 2) (.t 34),none⟩,[]⟩,⟨3,⟨some 37,.load (some 2) (.t 4),none⟩,[]⟩,⟨2,⟨some 36,.call (.c (.fn 52 [])) [(.t 35)],none⟩,[⟨some 37,.load (some 2) (.t 4),none⟩]⟩,⟨4,⟨some 38,.call (.c (.fn 54 [])) [(.t 37)],none⟩,[]⟩,⟨5,⟨some 39,.build [(.v (.int .i64 0)),(.v .zsl),(.v (.int .i64 0)),(.v .zsl)] [(0,2,(.t 36)),(2,2,(.t 38))],none⟩,[]⟩,⟨6,⟨none,.store 4 (.t 2) (.t 39),none⟩,[]⟩,⟨7,⟨some 3,.mv (.c (.v (.int .i64 0))),none⟩,[]⟩]) .ret))))))⟩
theorem a_StepI_ok : cFunc Tryd.prog 18 = some a_StepI := by kernel_rfl

theorem fill_mx (i : ITI) (x : ITT) : tMax (tFill i x) ≤ tMax x := max_le (fill_max i x)
set_option maxHeartbeats 4000000 in
theorem fill_spec : ∀ (i : ITI) (x : ITT), tMax x ≤ 1000000 → ∀ (b l : List Row), ACalls Tryd.prog 58 [iA i, tA x] b l (fun r b' l' => r = tA (tFill i x) ∧ b' = b ∧ l' = l)
 | .leaf false, x, hx, b, l => by
   refine calls_kept a_fillI_ok rfl (by decide) ?_
   intro B g hB hR hE hA; simp only [KArgs] at hA
   have d1 := fun b l => isLeaf_spec (.leaf false) false 0 rfl b l
   rw [decide_eq_true rfl] at d1
   have hq : tFill (.leaf false) x = x := rfl
   rw [hq]
   simp only [iA, tA, iLf_l, iLs] at hA d1 ⊢
   simp (disch := (first | decide | omega)) only [a_fillI, hA, setFrom, cellsOf, go_sem]
   refine ACalls.nxt (d1 _ _) ?_
   simp (disch := (first | decide | omega)) only [hA, setFrom, cellsOf, go_sem]
   exact leave_pure (xs := [.agg [.v (.int .i64 (tN x)), .v (tLs x)]]) (.inr rfl) (by simp (disch := (first | decide | omega)) only [resVs, resV, go_sem, hA, setFrom, cellsOf]) kO hR hB ⟨rfl, rfl, rfl⟩
 | .leaf true, x, hx, b, l => by
   refine calls_kept a_fillI_ok rfl (by decide) ?_
   intro B g hB hR hE hA; simp only [KArgs] at hA
   have d1 := fun b l => isLeaf_spec (.leaf true) false 0 rfl b l
   have d2 := fun b l => isLeaf_spec (.leaf true) true 1 rfl b l
   have h1 : decide (ITI.leaf true = .leaf false) = false := rfl
   rw [h1] at d1
   rw [decide_eq_true rfl] at d2
   have gx := great_spec x oM
   have lf := fun b l => leafTree_spec (tMax x) b l
   have hq : tFill (.leaf true) x = .leaf (tMax x) := rfl
   rw [hq]
   simp only [iA, tA, iLf_l, iLs, tN_l, tLs] at hA d1 d2 gx lf ⊢
   simp (disch := (first | decide | omega)) only [a_fillI, hA, setFrom, cellsOf, go_sem]
   refine ACalls.nxt (d1 _ _) ?_
   simp (disch := (first | decide | omega)) only [hA, setFrom, cellsOf, go_sem]
   refine ACalls.nxt (d2 _ _) ?_
   simp (disch := (first | decide | omega)) only [hA, setFrom, cellsOf, go_sem]
   refine ACalls.nxt (gx _ _) ?_
   simp (disch := (first | decide | omega)) only [hA, setFrom, cellsOf, go_sem]
   refine ACalls.nxt (lf _ _) ?_
   simp (disch := (first | decide | omega)) only [hA, setFrom, cellsOf, go_sem]
   exact leave_pure (xs := [.agg [.v (.int .i64 (tMax x)), .v .zsl]]) (.inr rfl) (by simp (disch := (first | decide | omega)) only [resVs, resV, go_sem, hA, setFrom, cellsOf]) kO hR hB ⟨rfl, rfl, rfl⟩
 | .node il ir, .leaf n, hx, b, l => by
   refine calls_kept a_fillI_ok rfl (by decide) ?_
   intro B g hB hR hE hA; simp only [KArgs] at hA
   have d1 := fun b l => isLeaf_spec (.node il ir) false 0 rfl b l
   have d2 := fun b l => isLeaf_spec (.node il ir) true 1 rfl b l
   have h1 : decide (ITI.node il ir = .leaf false) = false := decide_eq_false (fun h => by cases h)
   have h2 : decide (ITI.node il ir = .leaf true) = false := decide_eq_false (fun h => by cases h)
   rw [h1] at d1
   rw [h2] at d2
   have hq : tFill (.node il ir) (.leaf n) = .leaf n := rfl
   rw [hq]
   simp only [iA, tA, iLf_n, iLs, tN_l, tLs] at hA d1 d2 ⊢
   simp (disch := (first | decide | omega)) only [a_fillI, hA, setFrom, cellsOf, go_sem]
   refine ACalls.nxt (d1 _ _) ?_
   simp (disch := (first | decide | omega)) only [hA, setFrom, cellsOf, go_sem]
   refine ACalls.nxt (d2 _ _) ?_
   simp (disch := (first | decide | omega)) only [hA, setFrom, cellsOf, go_sem]
   exact leave_pure (xs := [.agg [.v (.int .i64 n), .v .zsl]]) (.inr rfl) (by simp (disch := (first | decide | omega)) only [resVs, resV, go_sem, hA, setFrom, cellsOf]) kO hR hB ⟨rfl, rfl, rfl⟩
 | .node il ir, .node n x y, hx, b, l => by
   simp only [tMax] at hx
   have fx := fill_spec il x oM
   have fy := fill_spec ir y oM
   have mx := fill_mx il x
   have my := fill_mx ir y
   refine calls_kept a_fillI_ok rfl (by decide) ?_
   intro B g hB hR hE hA; simp only [KArgs] at hA
   have d1 := fun b l => isLeaf_spec (.node il ir) false 0 rfl b l
   have d2 := fun b l => isLeaf_spec (.node il ir) true 1 rfl b l
   have h1 : decide (ITI.node il ir = .leaf false) = false := decide_eq_false (fun h => by cases h)
   have h2 : decide (ITI.node il ir = .leaf true) = false := decide_eq_false (fun h => by cases h)
   rw [h1] at d1
   rw [h2] at d2
   have d3 := fun b l => isLeaf_spec il true 1 rfl b l
   have d4 := fun b l => isLeaf_spec ir true 1 rfl b l
   by_cases e1 : il = .leaf true
   ·rw [decide_eq_true e1] at d3
    have hq : tFill (.node il ir) (.node n x y) = nTr n (.leaf (max (tMax x) (tMin (tFill ir y)))) (tFill ir y) := by conv => lhs; unfold tFill; rw [if_pos e1]
    rw [hq]
    obtain ⟨F, hF⟩ : ∃ F, tFill ir y = F := ⟨_, rfl⟩
    rw [hF] at fy my ⊢
    obtain ⟨M, hM⟩ : ∃ M, max (tMax x) (tMin F) = M := ⟨_, rfl⟩
    rw [hM]
    have mF := tMin_le F
    have gx := great_spec x oM
    have lF := least_spec F oM
    have lf := fun b l => leafTree_spec M b l
    have hm : (if (tMin F : Int) > (tMax x : Int) then (tMin F : Int) else (tMax x : Int)) = (M : Int) := by split <;> omega
    have nt := fun b l => normalTree_spec n (.leaf M) F (by simp only [tMax]; omega) oM b l
    obtain ⟨N, hN⟩ : ∃ N, nTr n (.leaf M) F = N := ⟨_, rfl⟩
    rw [hN] at nt ⊢
    simp only [iA, tA, iLf_n, iLs, tN_l, tN_n, tLs] at hA d1 d2 d3 fy gx lF lf nt ⊢
    simp (disch := (first | decide | omega)) only [a_fillI, hA, setFrom, cellsOf, go_sem]
    refine ACalls.nxt (d1 _ _) ?_
    simp (disch := (first | decide | omega)) only [hA, setFrom, cellsOf, go_sem]
    refine ACalls.nxt (d2 _ _) ?_
    simp (disch := (first | decide | omega)) only [hA, setFrom, cellsOf, go_sem]
    refine ACalls.nxt (d3 _ _) ?_
    simp (disch := (first | decide | omega)) only [hA, setFrom, cellsOf, go_sem]
    refine ACalls.nxt (fy _ _) ?_
    simp (disch := (first | decide | omega)) only [hA, setFrom, cellsOf, go_sem]
    refine ACalls.nxt (gx _ _) ?_
    simp (disch := (first | decide | omega)) only [hA, setFrom, cellsOf, go_sem]
    refine ACalls.nxt (lF _ _) ?_
    simp (disch := (first | decide | omega)) only [hA, hm, setFrom, cellsOf, go_sem]
    refine ACalls.nxt (lf _ _) ?_
    simp (disch := (first | decide | omega)) only [hA, setFrom, cellsOf, go_sem]
    refine ACalls.nxt (nt _ _) ?_
    simp (disch := (first | decide | omega)) only [hA, setFrom, cellsOf, go_sem]
    exact leave_pure (xs := [.agg [.v (.int .i64 (tN N)), .v (tLs N)]]) (.inr rfl) (by simp (disch := (first | decide | omega)) only [resVs, resV, go_sem, hA, setFrom, cellsOf]) kO hR hB ⟨rfl, rfl, rfl⟩
   ·rw [decide_eq_false e1] at d3
    by_cases e2 : ir = .leaf true
    ·rw [decide_eq_true e2] at d4
     have hq : tFill (.node il ir) (.node n x y) = nTr n (tFill il x) (.leaf (max (tMax y) (tMin (tFill il x)))) := by conv => lhs; unfold tFill; rw [if_neg e1, if_pos e2]
     rw [hq]
     obtain ⟨F, hF⟩ : ∃ F, tFill il x = F := ⟨_, rfl⟩
     rw [hF] at fx mx ⊢
     obtain ⟨M, hM⟩ : ∃ M, max (tMax y) (tMin F) = M := ⟨_, rfl⟩
     rw [hM]
     have mF := tMin_le F
     have gx := great_spec y oM
     have lF := least_spec F oM
     have lf := fun b l => leafTree_spec M b l
     have hm : (if (tMin F : Int) > (tMax y : Int) then (tMin F : Int) else (tMax y : Int)) = (M : Int) := by split <;> omega
     have nt := fun b l => normalTree_spec n F (.leaf M) oM (by simp only [tMax]; omega) b l
     obtain ⟨N, hN⟩ : ∃ N, nTr n F (.leaf M) = N := ⟨_, rfl⟩
     rw [hN] at nt ⊢
     simp only [iA, tA, iLf_n, iLs, tN_l, tN_n, tLs] at hA d1 d2 d3 d4 fx gx lF lf nt ⊢
     simp (disch := (first | decide | omega)) only [a_fillI, hA, setFrom, cellsOf, go_sem]
     refine ACalls.nxt (d1 _ _) ?_
     simp (disch := (first | decide | omega)) only [hA, setFrom, cellsOf, go_sem]
     refine ACalls.nxt (d2 _ _) ?_
     simp (disch := (first | decide | omega)) only [hA, setFrom, cellsOf, go_sem]
     refine ACalls.nxt (d3 _ _) ?_
     simp (disch := (first | decide | omega)) only [hA, setFrom, cellsOf, go_sem]
     refine ACalls.nxt (d4 _ _) ?_
     simp (disch := (first | decide | omega)) only [hA, setFrom, cellsOf, go_sem]
     refine ACalls.nxt (fx _ _) ?_
     simp (disch := (first | decide | omega)) only [hA, setFrom, cellsOf, go_sem]
     refine ACalls.nxt (gx _ _) ?_
     simp (disch := (first | decide | omega)) only [hA, setFrom, cellsOf, go_sem]
     refine ACalls.nxt (lF _ _) ?_
     simp (disch := (first | decide | omega)) only [hA, hm, setFrom, cellsOf, go_sem]
     refine ACalls.nxt (lf _ _) ?_
     simp (disch := (first | decide | omega)) only [hA, setFrom, cellsOf, go_sem]
     refine ACalls.nxt (nt _ _) ?_
     simp (disch := (first | decide | omega)) only [hA, setFrom, cellsOf, go_sem]
     exact leave_pure (xs := [.agg [.v (.int .i64 (tN N)), .v (tLs N)]]) (.inr rfl) (by simp (disch := (first | decide | omega)) only [resVs, resV, go_sem, hA, setFrom, cellsOf]) kO hR hB ⟨rfl, rfl, rfl⟩
    ·rw [decide_eq_false e2] at d4
     have hq : tFill (.node il ir) (.node n x y) = nTr n (tFill il x) (tFill ir y) := by conv => lhs; unfold tFill; rw [if_neg e1, if_neg e2]
     rw [hq]
     obtain ⟨F, hF⟩ : ∃ F, tFill il x = F := ⟨_, rfl⟩
     obtain ⟨G, hG⟩ : ∃ G, tFill ir y = G := ⟨_, rfl⟩
     rw [hF] at fx mx ⊢
     rw [hG] at fy my ⊢
     have nt := fun b l => normalTree_spec n F G oM oM b l
     obtain ⟨N, hN⟩ : ∃ N, nTr n F G = N := ⟨_, rfl⟩
     rw [hN] at nt ⊢
     simp only [iA, tA, iLf_n, iLs, tN_l, tN_n, tLs] at hA d1 d2 d3 d4 fx fy nt ⊢
     simp (disch := (first | decide | omega)) only [a_fillI, hA, setFrom, cellsOf, go_sem]
     refine ACalls.nxt (d1 _ _) ?_
     simp (disch := (first | decide | omega)) only [hA, setFrom, cellsOf, go_sem]
     refine ACalls.nxt (d2 _ _) ?_
     simp (disch := (first | decide | omega)) only [hA, setFrom, cellsOf, go_sem]
     refine ACalls.nxt (d3 _ _) ?_
     simp (disch := (first | decide | omega)) only [hA, setFrom, cellsOf, go_sem]
     refine ACalls.nxt (d4 _ _) ?_
     simp (disch := (first | decide | omega)) only [hA, setFrom, cellsOf, go_sem]
     refine ACalls.nxt (fx _ _) ?_
     simp (disch := (first | decide | omega)) only [hA, setFrom, cellsOf, go_sem]
     refine ACalls.nxt (fy _ _) ?_
     simp (disch := (first | decide | omega)) only [hA, setFrom, cellsOf, go_sem]
     refine ACalls.nxt (nt _ _) ?_
     simp (disch := (first | decide | omega)) only [hA, setFrom, cellsOf, go_sem]
     exact leave_pure (xs := [.agg [.v (.int .i64 (tN N)), .v (tLs N)]]) (.inr rfl) (by simp (disch := (first | decide | omega)) only [resVs, resV, go_sem, hA, setFrom, cellsOf]) kO hR hB ⟨rfl, rfl, rfl⟩
def gA (g : ITT × Nat) : AV := .agg [.v (.int .i64 (tN g.1)), .v (tLs g.1), .v (.int .i64 g.2)]
theorem grow_leaf (il ir : ITI) (n : Nat) : tGrow (.node il ir) (.leaf n) = ((tGrow (.node il ir) (.node n (.leaf 0) (.leaf 0))).1, (tGrow (.node il ir) (.node n (.leaf 0) (.leaf 0))).2 + 1000) := by
 rw [tGrow, tGrow]
 simp only [tL, tR, tLf, tN, if_true]
 split
 ·rfl
 ·split
  ·rfl
  ·by_cases hc : (tGrow il (.leaf 0)).2 + 1 < (tGrow ir (.leaf 0)).2 + 1
   ·simp only [if_pos hc, Bool.false_eq_true, if_false, Nat.add_zero]
   ·simp only [if_neg hc, Bool.false_eq_true, if_false, Nat.add_zero]
theorem hget_keep {b l : List Row} {B : List Row} (hB : B = b ++ l) {id : Nat} {r : Row} (hg : hget b l id = some r) : ∀ l', hget B l' id = some r := fun l' => by
 have hx : (b ++ l)[id]? = some r := by
  unfold hget at hg
  split at hg
  ·next h => rw [List.getElem?_append_left h]; exact hg
  ·next h => rw [List.getElem?_append_right oM]; exact hg
 rw [← hB] at hx
 unfold hget
 rw [if_pos (List.getElem?_eq_some_iff.1 hx).1, hx]
theorem growL_spec (il ir : ITI) (n : Nat) (x y : ITT) (g1 : ITT × Nat) (hc : g1.2 ≤ 1000000) (hg : ∀ b l, ACalls Tryd.prog 60 [iA il, tA x] b l (fun r b' l' => r = gA g1 ∧ b' = b ∧ l' = l)) (b l : List Row) (p q : Nat)
  (hp : hget b l p = some (.live 0 2 [[.v (.int .i64 0), .v (iLs (.node il ir))]])) (hq : hget b l q = some (.live 0 2 [[.v (.int .i64 n), .v (tLs (.node n x y))]])) :
  ACalls Tryd.prog 101 [.ptr p 0 0 0, .ptr q 0 0 0] b l (fun r b' l' => r = gA (.node n g1.1 y, g1.2 + 1) ∧ b' = b ∧ l' = l) := by
 refine calls_kept a_growL_ok rfl (by decide) ?_
 intro B g hB hR hE hA; simp only [KArgs] at hA
 have k1 := hget_keep hB hp
 have k2 := hget_keep hB hq
 have nt := fun b l => nodeTree_spec n g1.1 y b l
 have hs : (g1.2 : Int) + 1 = ((g1.2 + 1 : Nat) : Int) := by omega
 simp only [iA, tA, gA, iLs, tLs, tN_n] at hg k1 k2 nt ⊢
 simp (disch := (first | decide | omega)) only [a_growL, hA, k1, k2, setFrom, cellsOf, go_sem]
 refine ACalls.nxt (hg _ _) ?_
 simp (disch := (first | decide | omega)) only [hA, k1, k2, hs, setFrom, cellsOf, go_sem]
 refine ACalls.nxt (nt _ _) ?_
 simp (disch := (first | decide | omega)) only [hA, k1, k2, hs, setFrom, cellsOf, go_sem]
 exact leave_pure (xs := [.agg [.v (.int .i64 n), .v (.isl 2 [[.int .i64 (tN g1.1), tLs g1.1], [.int .i64 (tN y), tLs y]]), .v (.int .i64 ((g1.2 + 1 : Nat) : Int))]]) (.inr rfl) (by simp (disch := (first | decide | omega)) only [resVs, resV, go_sem, hA, setFrom, cellsOf]) kO hR hB ⟨rfl, rfl, rfl⟩
theorem growR_spec (il ir : ITI) (n : Nat) (x y : ITT) (g1 : ITT × Nat) (hc : g1.2 ≤ 1000000) (hg : ∀ b l, ACalls Tryd.prog 60 [iA ir, tA y] b l (fun r b' l' => r = gA g1 ∧ b' = b ∧ l' = l)) (b l : List Row) (p q : Nat)
  (hp : hget b l p = some (.live 0 2 [[.v (.int .i64 0), .v (iLs (.node il ir))]])) (hq : hget b l q = some (.live 0 2 [[.v (.int .i64 n), .v (tLs (.node n x y))]])) :
  ACalls Tryd.prog 102 [.ptr p 0 0 0, .ptr q 0 0 0] b l (fun r b' l' => r = gA (.node n x g1.1, g1.2 + 1) ∧ b' = b ∧ l' = l) := by
 refine calls_kept a_growR_ok rfl (by decide) ?_
 intro B g hB hR hE hA; simp only [KArgs] at hA
 have k1 := hget_keep hB hp
 have k2 := hget_keep hB hq
 have nt := fun b l => nodeTree_spec n x g1.1 b l
 have hs : (g1.2 : Int) + 1 = ((g1.2 + 1 : Nat) : Int) := by omega
 simp only [iA, tA, gA, iLs, tLs, tN_n] at hg k1 k2 nt ⊢
 simp (disch := (first | decide | omega)) only [a_growR, hA, k1, k2, setFrom, cellsOf, go_sem]
 refine ACalls.nxt (hg _ _) ?_
 simp (disch := (first | decide | omega)) only [hA, k1, k2, hs, setFrom, cellsOf, go_sem]
 refine ACalls.nxt (nt _ _) ?_
 simp (disch := (first | decide | omega)) only [hA, k1, k2, hs, setFrom, cellsOf, go_sem]
 exact leave_pure (xs := [.agg [.v (.int .i64 n), .v (.isl 2 [[.int .i64 (tN x), tLs x], [.int .i64 (tN g1.1), tLs g1.1]]), .v (.int .i64 ((g1.2 + 1 : Nat) : Int))]]) (.inr rfl) (by simp (disch := (first | decide | omega)) only [resVs, resV, go_sem, hA, setFrom, cellsOf]) kO hR hB ⟨rfl, rfl, rfl⟩
set_option maxHeartbeats 4000000 in
theorem grow_spec : ∀ (i : ITI), iDep i ≤ 900 → ∀ (x : ITT), tMax x ≤ 1000000 → ∀ (b l : List Row), ACalls Tryd.prog 60 [iA i, tA x] b l (fun r b' l' => r = gA (tGrow i x) ∧ b' = b ∧ l' = l)
 | .leaf a, _, x, hx, b, l => by
   refine calls_kept a_growI_ok rfl (by decide) ?_
   intro B g hB hR hE hA; simp only [KArgs] at hA
   have gx := great_spec x oM
   have lf := fun b l => leafTree_spec (tMax x + 1) b l
   have hs : (tMax x : Int) + 1 = ((tMax x + 1 : Nat) : Int) := by omega
   have hq : tGrow (.leaf a) x = (.leaf (tMax x + 1), 0) := rfl
   have e0 : ((0 : Nat) : Int) = 0 := rfl
   rw [hq]
   simp only [iA, tA, gA, iLf_l, iLs, tN_l, tLs, e0] at hA gx lf ⊢
   simp (disch := (first | decide | omega)) only [a_growI, hA, setFrom, cellsOf, go_sem]
   refine ACalls.nxt (gx _ _) ?_
   simp (disch := (first | decide | omega)) only [hA, hs, setFrom, cellsOf, go_sem]
   refine ACalls.nxt (lf _ _) ?_
   simp (disch := (first | decide | omega)) only [hA, setFrom, cellsOf, go_sem]
   exact leave_pure (xs := [.agg [.v (.int .i64 ((tMax x + 1 : Nat) : Int)), .v .zsl, .v (.int .i64 0)]]) (.inr rfl) (by simp (disch := (first | decide | omega)) only [resVs, resV, go_sem, hA, setFrom, cellsOf]) kO hR hB ⟨rfl, rfl, rfl⟩
 | .node il ir, hi, x, hx, b, l => by
   simp only [iDep] at hi
   have gl := grow_spec il oM
   have gr := grow_spec ir oM
   have node : ∀ (n : Nat) (x y : ITT), n + max (tMax x) (tMax y) ≤ 1000000 → ∀ (b l : List Row), ACalls Tryd.prog 60 [iA (.node il ir), tA (.node n x y)] b l (fun r b' l' => r = gA (tGrow (.node il ir) (.node n x y)) ∧ b' = b ∧ l' = l) := by
    intro n x y hm b l
    refine calls_kept a_growI_ok rfl (by decide) ?_
    intro B g hB hR hE hA; simp only [KArgs] at hA
    have d1 := fun b l => isLeaf_spec il false 0 rfl b l
    have d2 := fun b l => isLeaf_spec ir false 0 rfl b l
    have cl := grow_cost il x
    have cr := grow_cost ir y
    have g1 := gl x oM
    have g2 := gr y oM
    obtain ⟨GL, hGL⟩ : ∃ G, tGrow il x = G := ⟨_, rfl⟩
    obtain ⟨GR, hGR⟩ : ∃ G, tGrow ir y = G := ⟨_, rfl⟩
    have hq : tGrow (.node il ir) (.node n x y) = if il = .leaf false then (.node n x GR.1, GR.2 + 1) else if ir = .leaf false then (.node n GL.1 y, GL.2 + 1) else if GL.2 + 1 < GR.2 + 1 then (.node n GL.1 y, GL.2 + 1) else (.node n x GR.1, GR.2 + 1) := by
     rw [tGrow]
     simp only [tL, tR, tLf, tN, Bool.false_eq_true, if_false, Nat.add_zero, hGL, hGR]
    rw [hGL] at g1 cl
    rw [hGR] at g2 cr
    rw [hq]
    obtain ⟨R0, hR0⟩ : ∃ R, R = Row.live 0 2 [[.v (.int .i64 0), .v (iLs (.node il ir))]] := ⟨_, rfl⟩
    obtain ⟨R1, hR1⟩ : ∃ R, R = Row.live 0 2 [[.v (.int .i64 n), .v (tLs (.node n x y))]] := ⟨_, rfl⟩
    have cL := fun (l : List Row) (h0 : l[0]? = some R0) (h1 : l[1]? = some R1) => growL_spec il ir n x y GL oM g1 B l B.length (B.length + 1) (by rw [← hR0, hget_first]; exact h0) (by rw [← hR1, hget_at]; exact h1)
    have cR := fun (l : List Row) (h0 : l[0]? = some R0) (h1 : l[1]? = some R1) => growR_spec il ir n x y GR oM g2 B l B.length (B.length + 1) (by rw [← hR0, hget_first]; exact h0) (by rw [← hR1, hget_at]; exact h1)
    have iz : iLs (.node il ir) = .isl 2 [[.int .i64 (iLf il), iLs il], [.int .i64 (iLf ir), iLs ir]] := rfl
    have tz : tLs (.node n x y) = .isl 2 [[.int .i64 (tN x), tLs x], [.int .i64 (tN y), tLs y]] := rfl
    rw [iz] at hR0
    rw [tz] at hR1
    have hlt : decide (((GL.2 + 1 : Nat) : Int) < ((GR.2 + 1 : Nat) : Int)) = decide (GL.2 + 1 < GR.2 + 1) := by rw [decide_eq_decide]; omega
    by_cases e1 : il = .leaf false
    ·rw [decide_eq_true e1] at d1
     rw [if_pos e1]
     simp only [iA, tA, gA, iLf_n, iLs, tN_n, tLs] at hA d1 cR ⊢
     simp (disch := (first | decide | omega)) only [a_growI, hA, setFrom, cellsOf, go_sem]
     refine ACalls.nxt (d1 _ _) ?_
     simp (disch := (first | decide | omega)) only [hA, setFrom, cellsOf, go_sem]
     refine ACalls.nxt (cR _ (by rw [hR0]; rfl) (by rw [hR1]; rfl)) ?_
     simp (disch := (first | decide | omega)) only [hA, setFrom, cellsOf, go_sem]
     exact leave_pure (xs := [.agg [.v (.int .i64 n), .v (.isl 2 [[.int .i64 (tN x), tLs x], [.int .i64 (tN GR.1), tLs GR.1]]), .v (.int .i64 ((GR.2 + 1 : Nat) : Int))]]) (.inr rfl) (by simp (disch := (first | decide | omega)) only [resVs, resV, go_sem, hA, setFrom, cellsOf]) kO hR hB ⟨rfl, rfl, rfl⟩
    ·rw [decide_eq_false e1] at d1
     rw [if_neg e1]
     by_cases e2 : ir = .leaf false
     ·rw [decide_eq_true e2] at d2
      rw [if_pos e2]
      simp only [iA, tA, gA, iLf_n, iLs, tN_n, tLs] at hA d1 d2 cL ⊢
      simp (disch := (first | decide | omega)) only [a_growI, hA, setFrom, cellsOf, go_sem]
      refine ACalls.nxt (d1 _ _) ?_
      simp (disch := (first | decide | omega)) only [hA, setFrom, cellsOf, go_sem]
      refine ACalls.nxt (d2 _ _) ?_
      simp (disch := (first | decide | omega)) only [hA, setFrom, cellsOf, go_sem]
      refine ACalls.nxt (cL _ (by rw [hR0]; rfl) (by rw [hR1]; rfl)) ?_
      simp (disch := (first | decide | omega)) only [hA, setFrom, cellsOf, go_sem]
      exact leave_pure (xs := [.agg [.v (.int .i64 n), .v (.isl 2 [[.int .i64 (tN GL.1), tLs GL.1], [.int .i64 (tN y), tLs y]]), .v (.int .i64 ((GL.2 + 1 : Nat) : Int))]]) (.inr rfl) (by simp (disch := (first | decide | omega)) only [resVs, resV, go_sem, hA, setFrom, cellsOf]) kO hR hB ⟨rfl, rfl, rfl⟩
     ·rw [decide_eq_false e2] at d2
      rw [if_neg e2]
      by_cases hc : GL.2 + 1 < GR.2 + 1
      ·rw [decide_eq_true hc] at hlt
       rw [if_pos hc]
       simp only [iA, tA, gA, iLf_n, iLs, tN_n, tLs] at hA d1 d2 cL cR ⊢
       simp (disch := (first | decide | omega)) only [a_growI, hA, setFrom, cellsOf, go_sem]
       refine ACalls.nxt (d1 _ _) ?_
       simp (disch := (first | decide | omega)) only [hA, setFrom, cellsOf, go_sem]
       refine ACalls.nxt (d2 _ _) ?_
       simp (disch := (first | decide | omega)) only [hA, setFrom, cellsOf, go_sem]
       refine ACalls.nxt (cL _ (by rw [hR0]; rfl) (by rw [hR1]; rfl)) ?_
       simp (disch := (first | decide | omega)) only [hA, setFrom, cellsOf, go_sem]
       refine ACalls.nxt (cR _ (by rw [hR0]; rfl) (by rw [hR1]; rfl)) ?_
       simp (disch := (first | decide | omega)) only [hA, hlt, setFrom, cellsOf, go_sem]
       exact leave_pure (xs := [.agg [.v (.int .i64 n), .v (.isl 2 [[.int .i64 (tN GL.1), tLs GL.1], [.int .i64 (tN y), tLs y]]), .v (.int .i64 ((GL.2 + 1 : Nat) : Int))]]) (.inr rfl) (by simp (disch := (first | decide | omega)) only [resVs, resV, go_sem, hA, setFrom, cellsOf]) kO hR hB ⟨rfl, rfl, rfl⟩
      ·rw [decide_eq_false hc] at hlt
       rw [if_neg hc]
       simp only [iA, tA, gA, iLf_n, iLs, tN_n, tLs] at hA d1 d2 cL cR ⊢
       simp (disch := (first | decide | omega)) only [a_growI, hA, setFrom, cellsOf, go_sem]
       refine ACalls.nxt (d1 _ _) ?_
       simp (disch := (first | decide | omega)) only [hA, setFrom, cellsOf, go_sem]
       refine ACalls.nxt (d2 _ _) ?_
       simp (disch := (first | decide | omega)) only [hA, setFrom, cellsOf, go_sem]
       refine ACalls.nxt (cL _ (by rw [hR0]; rfl) (by rw [hR1]; rfl)) ?_
       simp (disch := (first | decide | omega)) only [hA, setFrom, cellsOf, go_sem]
       refine ACalls.nxt (cR _ (by rw [hR0]; rfl) (by rw [hR1]; rfl)) ?_
       simp (disch := (first | decide | omega)) only [hA, hlt, setFrom, cellsOf, go_sem]
       exact leave_pure (xs := [.agg [.v (.int .i64 n), .v (.isl 2 [[.int .i64 (tN x), tLs x], [.int .i64 (tN GR.1), tLs GR.1]]), .v (.int .i64 ((GR.2 + 1 : Nat) : Int))]]) (.inr rfl) (by simp (disch := (first | decide | omega)) only [resVs, resV, go_sem, hA, setFrom, cellsOf]) kO hR hB ⟨rfl, rfl, rfl⟩
   cases x with
   | node n x y => exact node n x y hx b l
   | leaf n =>
     simp only [tMax] at hx
     refine calls_kept a_growI_ok rfl (by decide) ?_
     intro B g hB hR hE hA; simp only [KArgs] at hA
     have hnd := fun b l => node n (.leaf 0) (.leaf 0) (by simp only [tMax]; omega) b l
     have l0 := fun b l => leafTree_spec 0 b l
     have nt := fun b l => nodeTree_spec n (.leaf 0) (.leaf 0) b l
     have hco := grow_cost (.node il ir) (.node n (.leaf 0) (.leaf 0))
     simp only [iDep] at hco
     rw [grow_leaf]
     obtain ⟨⟨G, c⟩, hG⟩ : ∃ G, tGrow (.node il ir) (.node n (.leaf 0) (.leaf 0)) = G := ⟨_, rfl⟩
     rw [hG] at hnd hco ⊢
     simp only at hco ⊢
     have hs : (c : Int) + 1000 = ((c + 1000 : Nat) : Int) := by omega
     have e0 : ((0 : Nat) : Int) = 0 := rfl
     simp only [iA, tA, gA, iLf_n, iLs, tN_n, tN_l, tLs, e0] at hA hnd l0 nt ⊢
     simp (disch := (first | decide | omega)) only [a_growI, hA, setFrom, cellsOf, go_sem]
     refine ACalls.nxt (l0 _ _) ?_
     simp (disch := (first | decide | omega)) only [hA, setFrom, cellsOf, go_sem]
     refine ACalls.nxt (l0 _ _) ?_
     simp (disch := (first | decide | omega)) only [hA, setFrom, cellsOf, go_sem]
     refine ACalls.nxt (nt _ _) ?_
     simp (disch := (first | decide | omega)) only [hA, setFrom, cellsOf, go_sem]
     refine ACalls.nxt (hnd _ _) ?_
     simp (disch := (first | decide | omega)) only [hA, hs, setFrom, cellsOf, go_sem]
     exact leave_pure (xs := [.agg [.v (.int .i64 (tN G)), .v (tLs G), .v (.int .i64 ((c + 1000 : Nat) : Int))]]) (.inr rfl) (by simp (disch := (first | decide | omega)) only [resVs, resV, go_sem, hA, hs, setFrom, cellsOf]) kO hR hB ⟨rfl, rfl, rfl⟩
def zS : AV := .agg [.v (.int .i64 0), .v .zsl, .v (.int .i64 0), .v .zsl]
theorem fork_spec {i : ITI} {x : ITT} (h : GoodS i x) (h0 : i ≠ .leaf false) (b l : List Row) : ACalls Tryd.prog 16 [sA i x] b l (fun r b' l' =>
  r = (if iDep (iSplit i).1 ≤ 16 ∧ iDep (iSplit i).2 ≤ 16 then .tup [sA (iSplit i).1 x, sA (iSplit i).2 x, .v (.int .i64 0)] else .tup [zS, zS, .v (.int .i64 5)]) ∧ b' = b ∧ l' = l) := by
 refine calls_kept a_ForkI_ok rfl (by decide) ?_
 intro B g hB hR hE hA; simp only [KArgs] at hA
 have hv := fun b l => validI_spec h b l
 have ci := fun b l => copiedId_spec i b l
 have sp := fun b l => split_spec i b l
 obtain ⟨⟨n1, _⟩, n2, _⟩ := split_nz h.ni h0
 have v1 := fun b l => ValidId_spec (iSplit i).1 n1 b l
 have v2 := fun b l => ValidId_spec (iSplit i).2 n2 b l
 have ct := fun b l => copiedTree_spec x b l
 have cj := fun b l => copiedId_spec (iSplit i).2 b l
 obtain ⟨u, hu⟩ : ∃ u, (iSplit i).1 = u := ⟨_, rfl⟩
 obtain ⟨v, hw⟩ : ∃ v, (iSplit i).2 = v := ⟨_, rfl⟩
 rw [hu] at v1 sp ⊢
 rw [hw] at v2 sp cj ⊢
 by_cases hu1 : iDep u ≤ 16
 ·rw [decide_eq_true hu1] at v1
  by_cases hv1 : iDep v ≤ 16
  ·rw [decide_eq_true hv1] at v2
   rw [if_pos ⟨hu1, hv1⟩]
   simp only [iA, tA, sA] at hA hv ci sp v1 v2 ct cj ⊢
   simp (disch := (first | decide | omega)) only [a_ForkI, hA, setFrom, cellsOf, go_sem]
   refine ACalls.nxt (hv _ _) ?_
   simp (disch := (first | decide | omega)) only [hA, setFrom, cellsOf, go_sem]
   refine ACalls.nxt (ci _ _) ?_
   simp (disch := (first | decide | omega)) only [hA, setFrom, cellsOf, go_sem]
   refine ACalls.nxt (sp _ _) ?_
   simp (disch := (first | decide | omega)) only [hA, setFrom, cellsOf, go_sem]
   refine ACalls.nxt (v1 _ _) ?_
   simp (disch := (first | decide | omega)) only [hA, setFrom, cellsOf, go_sem]
   refine ACalls.nxt (v2 _ _) ?_
   simp (disch := (first | decide | omega)) only [hA, setFrom, cellsOf, go_sem]
   refine ACalls.nxt (ct _ _) ?_
   simp (disch := (first | decide | omega)) only [hA, setFrom, cellsOf, go_sem]
   refine ACalls.nxt (cj _ _) ?_
   simp (disch := (first | decide | omega)) only [hA, setFrom, cellsOf, go_sem]
   refine ACalls.nxt (ct _ _) ?_
   simp (disch := (first | decide | omega)) only [hA, setFrom, cellsOf, go_sem]
   exact leave_pure (xs := [.agg [.v (.int .i64 (iLf u)), .v (iLs u), .v (.int .i64 (tN x)), .v (tLs x)], .agg [.v (.int .i64 (iLf v)), .v (iLs v), .v (.int .i64 (tN x)), .v (tLs x)], .v (.int .i64 0)]) (.inr rfl) (by simp (disch := (first | decide | omega)) only [resVs, resV, go_sem, hA, setFrom, cellsOf]) kO hR hB ⟨rfl, rfl, rfl⟩
  ·rw [decide_eq_false hv1] at v2
   rw [if_neg (fun h => hv1 h.2)]
   simp only [iA, tA, sA, zS] at hA hv ci sp v1 v2 ⊢
   simp (disch := (first | decide | omega)) only [a_ForkI, hA, setFrom, cellsOf, go_sem]
   refine ACalls.nxt (hv _ _) ?_
   simp (disch := (first | decide | omega)) only [hA, setFrom, cellsOf, go_sem]
   refine ACalls.nxt (ci _ _) ?_
   simp (disch := (first | decide | omega)) only [hA, setFrom, cellsOf, go_sem]
   refine ACalls.nxt (sp _ _) ?_
   simp (disch := (first | decide | omega)) only [hA, setFrom, cellsOf, go_sem]
   refine ACalls.nxt (v1 _ _) ?_
   simp (disch := (first | decide | omega)) only [hA, setFrom, cellsOf, go_sem]
   refine ACalls.nxt (v2 _ _) ?_
   simp (disch := (first | decide | omega)) only [hA, setFrom, cellsOf, go_sem]
   exact leave_pure (xs := [.agg [.v (.int .i64 0), .v .zsl, .v (.int .i64 0), .v .zsl], .agg [.v (.int .i64 0), .v .zsl, .v (.int .i64 0), .v .zsl], .v (.int .i64 5)]) (.inr rfl) (by simp (disch := (first | decide | omega)) only [resVs, resV, go_sem, hA, setFrom, cellsOf]) kO hR hB ⟨rfl, rfl, rfl⟩
 ·rw [decide_eq_false hu1] at v1
  rw [if_neg (fun h => hu1 h.1)]
  simp only [iA, tA, sA, zS] at hA hv ci sp v1 ⊢
  simp (disch := (first | decide | omega)) only [a_ForkI, hA, setFrom, cellsOf, go_sem]
  refine ACalls.nxt (hv _ _) ?_
  simp (disch := (first | decide | omega)) only [hA, setFrom, cellsOf, go_sem]
  refine ACalls.nxt (ci _ _) ?_
  simp (disch := (first | decide | omega)) only [hA, setFrom, cellsOf, go_sem]
  refine ACalls.nxt (sp _ _) ?_
  simp (disch := (first | decide | omega)) only [hA, setFrom, cellsOf, go_sem]
  refine ACalls.nxt (v1 _ _) ?_
  simp (disch := (first | decide | omega)) only [hA, setFrom, cellsOf, go_sem]
  exact leave_pure (xs := [.agg [.v (.int .i64 0), .v .zsl, .v (.int .i64 0), .v .zsl], .agg [.v (.int .i64 0), .v .zsl, .v (.int .i64 0), .v .zsl], .v (.int .i64 5)]) (.inr rfl) (by simp (disch := (first | decide | omega)) only [resVs, resV, go_sem, hA, setFrom, cellsOf]) kO hR hB ⟨rfl, rfl, rfl⟩
theorem join_spec {i j : ITI} {x y : ITT} (h : GoodS i x) (k : GoodS j y) (hd : (iSum i j).2 = true) (b l : List Row) : ACalls Tryd.prog 17 [sA i x, sA j y] b l (fun r b' l' =>
  r = .tup [sA (iSum i j).1 (tMrg (tSz x + tSz y) x y), .v (.int .i64 0)] ∧ b' = b ∧ l' = l) := by
 refine calls_kept a_JoinI_ok rfl (by decide) ?_
 intro B g hB hR hE hA; simp only [KArgs] at hA
 have hv := fun b l => validI_spec h b l
 have kv := fun b l => validI_spec k b l
 have sm := fun b l => sum_spec i j b l
 have hm := h.mx
 have km := k.mx
 have mg := fun b l => merge_spec (tSz x + tSz y) x y (Nat.le_refl _) oM oM b l
 have ci := fun b l => copiedId_spec (iSum i j).1 b l
 have ct := fun b l => copiedTree_spec (tMrg (tSz x + tSz y) x y) b l
 rw [hd] at sm
 obtain ⟨u, hu⟩ : ∃ u, (iSum i j).1 = u := ⟨_, rfl⟩
 obtain ⟨M, hM⟩ : ∃ M, tMrg (tSz x + tSz y) x y = M := ⟨_, rfl⟩
 rw [hu] at sm ci ⊢
 rw [hM] at mg ct ⊢
 simp only [iA, tA, sA] at hA hv kv sm mg ci ct ⊢
 simp (disch := (first | decide | omega)) only [a_JoinI, hA, setFrom, cellsOf, go_sem]
 refine ACalls.nxt (hv _ _) ?_
 simp (disch := (first | decide | omega)) only [hA, setFrom, cellsOf, go_sem]
 refine ACalls.nxt (kv _ _) ?_
 simp (disch := (first | decide | omega)) only [hA, setFrom, cellsOf, go_sem]
 refine ACalls.nxt (sm _ _) ?_
 simp (disch := (first | decide | omega)) only [hA, setFrom, cellsOf, go_sem]
 refine ACalls.nxt (ci _ _) ?_
 simp (disch := (first | decide | omega)) only [hA, setFrom, cellsOf, go_sem]
 refine ACalls.nxt (mg _ _) ?_
 simp (disch := (first | decide | omega)) only [hA, setFrom, cellsOf, go_sem]
 refine ACalls.nxt (ct _ _) ?_
 simp (disch := (first | decide | omega)) only [hA, setFrom, cellsOf, go_sem]
 exact leave_pure (xs := [.agg [.v (.int .i64 (iLf u)), .v (iLs u), .v (.int .i64 (tN M)), .v (tLs M)], .v (.int .i64 0)]) (.inr rfl) (by simp (disch := (first | decide | omega)) only [resVs, resV, go_sem, hA, setFrom, cellsOf]) kO hR hB ⟨rfl, rfl, rfl⟩
theorem step_spec {i : ITI} {x : ITT} (h : GoodS i x) (h0 : i ≠ .leaf false) (b l : List Row) : ACalls Tryd.prog 18 [sA i x] b l (fun r b' l' =>
  r = .tup [sA i (tStep i x), .v (.int .i64 0)] ∧ b' = b ∧ l' = l) := by
 refine calls_kept a_StepI_ok rfl (by decide) ?_
 intro B g hB hR hE hA; simp only [KArgs] at hA
 have hm := h.mx
 have hdi := h.di
 have hv := fun b l => validI_spec h b l
 have d1 := fun b l => isLeaf_spec i false 0 rfl b l
 rw [decide_eq_false h0] at d1
 have fs := fill_spec i x oM
 have sm := fun b l => same_spec (tFill i x) x b l
 have gs := grow_spec i oM x oM
 obtain ⟨_, _, _, s5, _⟩ := step_val h.ni h0 h.nx
 have gt := great_spec (tStep i x) oM
 have ci := fun b l => copiedId_spec i b l
 have ct := fun b l => copiedTree_spec (tStep i x) b l
 have hbig : decide (((tMax (tStep i x) : Nat) : Int) > 1073741824) = false := decide_eq_false oM
 have hbig' : decide ((1073741824 : Int) < ((tMax (tStep i x) : Nat) : Int)) = false := hbig
 by_cases hf : tFill i x = x
 ·have hq : tStep i x = (tGrow i x).1 := if_pos hf
  rw [decide_eq_true hf] at sm
  rw [hq] at gt ct hbig hbig' ⊢
  obtain ⟨⟨G, c⟩, hG⟩ : ∃ G, tGrow i x = G := ⟨_, rfl⟩
  rw [hG] at gs gt ct hbig hbig' ⊢
  rw [hf] at fs sm
  simp only [iA, tA, sA, gA] at hA hv d1 fs sm gs gt ct ci hbig hbig' ⊢
  simp (disch := (first | decide | omega)) only [a_StepI, hA, setFrom, cellsOf, go_sem]
  refine ACalls.nxt (hv _ _) ?_
  simp (disch := (first | decide | omega)) only [hA, setFrom, cellsOf, go_sem]
  refine ACalls.nxt (d1 _ _) ?_
  simp (disch := (first | decide | omega)) only [hA, setFrom, cellsOf, go_sem]
  refine ACalls.nxt (fs _ _) ?_
  simp (disch := (first | decide | omega)) only [hA, setFrom, cellsOf, go_sem]
  refine ACalls.nxt (sm _ _) ?_
  simp (disch := (first | decide | omega)) only [hA, setFrom, cellsOf, go_sem]
  refine ACalls.nxt (gs _ _) ?_
  simp (disch := (first | decide | omega)) only [hA, setFrom, cellsOf, go_sem]
  refine ACalls.nxt (gt _ _) ?_
  simp (disch := (first | decide | omega)) only [hA, hbig, hbig', setFrom, cellsOf, go_sem]
  refine ACalls.nxt (ci _ _) ?_
  simp (disch := (first | decide | omega)) only [hA, setFrom, cellsOf, go_sem]
  refine ACalls.nxt (ct _ _) ?_
  simp (disch := (first | decide | omega)) only [hA, setFrom, cellsOf, go_sem]
  exact leave_pure (xs := [.agg [.v (.int .i64 (iLf i)), .v (iLs i), .v (.int .i64 (tN G)), .v (tLs G)], .v (.int .i64 0)]) (.inr rfl) (by simp (disch := (first | decide | omega)) only [resVs, resV, go_sem, hA, setFrom, cellsOf]) kO hR hB ⟨rfl, rfl, rfl⟩
 ·have hq : tStep i x = tFill i x := if_neg hf
  rw [decide_eq_false hf] at sm
  rw [hq] at gt ct hbig hbig' ⊢
  obtain ⟨G, hG⟩ : ∃ G, tFill i x = G := ⟨_, rfl⟩
  rw [hG] at fs sm gt ct hbig hbig' ⊢
  simp only [iA, tA, sA] at hA hv d1 fs sm gt ct ci hbig hbig' ⊢
  simp (disch := (first | decide | omega)) only [a_StepI, hA, setFrom, cellsOf, go_sem]
  refine ACalls.nxt (hv _ _) ?_
  simp (disch := (first | decide | omega)) only [hA, setFrom, cellsOf, go_sem]
  refine ACalls.nxt (d1 _ _) ?_
  simp (disch := (first | decide | omega)) only [hA, setFrom, cellsOf, go_sem]
  refine ACalls.nxt (fs _ _) ?_
  simp (disch := (first | decide | omega)) only [hA, setFrom, cellsOf, go_sem]
  refine ACalls.nxt (sm _ _) ?_
  simp (disch := (first | decide | omega)) only [hA, setFrom, cellsOf, go_sem]
  refine ACalls.nxt (gt _ _) ?_
  simp (disch := (first | decide | omega)) only [hA, hbig, hbig', setFrom, cellsOf, go_sem]
  refine ACalls.nxt (ci _ _) ?_
  simp (disch := (first | decide | omega)) only [hA, setFrom, cellsOf, go_sem]
  refine ACalls.nxt (ct _ _) ?_
  simp (disch := (first | decide | omega)) only [hA, setFrom, cellsOf, go_sem]
  exact leave_pure (xs := [.agg [.v (.int .i64 (iLf i)), .v (iLs i), .v (.int .i64 (tN G)), .v (tLs G)], .v (.int .i64 0)]) (.inr rfl) (by simp (disch := (first | decide | omega)) only [resVs, resV, go_sem, hA, setFrom, cellsOf]) kO hR hB ⟨rfl, rfl, rfl⟩
end Go.Proofs.YtnihdkfmmbpilaaDoor
