/- Texts of one proof, laid together: GJ. No condition. -/
import Derived.Test.YtnihdkfmmbpilaaDoorIC5
import Derived.Test.YtnihdkfmmbpilaaDoorIC3
namespace Go.Proofs.YtnihdkfmmbpilaaDoor
set_option linter.unusedVariables false
set_option linter.unusedSimpArgs false
set_option maxRecDepth 100000
attribute [local go_sem ↓] run_skip run_region run_draw run_both run_seq run_block run_exit run_ret run_cond atN_app seqC_normal seqC_exit seqC_ret seqQ_normal seqQ_exit seqQ_ret blkQ_normal blkQ_exit blkQ_ret runOps_nil runOps_cons runD_nil runD_cons grdO_true grdO_false grdD_true grdD_false ifC_true ifC_false opS_val opS_call opS_two opK_app dS_val dS_call dS_two dK_app kUp_same kUp_ne
attribute [local go_sem] rechks_nil rechks_cons rechk gcase_true gcase_false ex_val ex_val0 gd_none gd_some ev_t ev_c evs_nil evs_cons evo_some evo_none hget_at hget_first hsetB_at hsetB_first hsetL_at hsetL_first ofOpt_some aop aload astore aslice aappend aiaddr aiaddrA afaddr alen alenS acopy amm acall alookup amupdate alenM atostr aappz comma keyEq apick binV binVB binVS isSh intOp strOp boolOp shOp eqC eqF and2 cellsOf setFrom fillA fillS rd rdI elems mk bounds AV.cell List.all_cons List.all_nil Bool.and_true Bool.true_and Bool.and_self List.length_cons List.length_nil List.length_append Nat.reduceAdd Nat.reduceSub Nat.reduceMul Nat.zero_add Nat.add_zero List.cons_append List.nil_append List.append_assoc List.append_nil List.getElem?_cons_zero List.getElem?_cons_succ List.getElem?_nil List.set_cons_zero List.set_cons_succ List.drop_zero List.drop_succ_cons List.take_zero List.take_succ_cons List.take_nil List.drop_nil List.map_cons List.map_nil Option.map_some if_true if_false Bool.false_eq_true and_self true_and and_true Nat.reduceLeDiff Nat.reduceLT Nat.le_refl Nat.reduceEqDiff ite_true ite_false beq_self_eq_true beq_true beq_false Bool.not_true Bool.not_false Bool.true_beq Bool.false_beq map_vs vs_len vs_get vs_take vs_drop vs_snoc1 vs_snoc2 vs_snoc3 vs_snoc5 vs_set1 vs_set2 vs_rep wrap_id le_T lt_T le_F lt_F leI_T ltI_T leI_F ltI_F geI gtI get_T decide_true decide_false room List.getElem?_map List.length_map List.length_take Int.toNat_natCast Nat.min_def Nat.min_self nth_kOf put_kOf put_kNo kOv_cons kOv_nil KHas KArgs List.getElem_cons_zero List.getElem_cons_succ
def a_ItvC : AFunc := ⟨1,210,[.tmp 2],(.seq (.region [⟨some 2,.mv (.c (.v (.bool false))),none⟩]) (.seq (.seq (.region [⟨some 21,.call (.c (.fn 14 [])) [],none⟩,⟨some 22,.not (.t 21),none⟩]) (.cond (.t 22) (.seq (.region [⟨some 2,.mv (.c (.v (.bool false))),none⟩]) .ret) .skip)) (.seq (.seq (.region [⟨some 23,.mv (.t 0),none⟩,⟨some 24,.len (.t 23),none⟩,⟨some 25,.bin .gtr (.t 24) (.c (.v (.int .i64 40))),none⟩]) (.cond (.t 25) (.seq (.region [⟨some 2,.mv (.c (.v (.bool true))),none⟩]) .ret) .skip)) (.seq (.region [⟨some 26,.call (.c (.fn 15 [])) [],none⟩,⟨some 27,.bslice 4 [(.v (.int .i64 0)),(.v .zsl),(.v (.int .i64 0)),(.v .zsl)] 1 [(0,(.t 26))],none⟩,⟨some 28,.bslice 1 [(.v (.int .u64 0))] 1 [(0,(.c (.v (.int .u64 0))))],none⟩,⟨some 3,.mv (.t 27),none⟩,⟨some 4,.mv (.t 28),none⟩]) (.seq (.seq (.region [⟨some 29,.mv (.t 0),none⟩,⟨some 30,.len (.t 29),none⟩,⟨some 31,.mv (.c (.v (.int .i64 0))),none⟩]) (.block 0 (.loop (.seq (.region [⟨some 32,.bin .lss (.t 31) (.t 30),none⟩]) (.seq (.cond (.t 32) .skip (.exit 0)) (.seq (.block 1 (.seq (.region [⟨some 33,.mv (.t 31),none⟩,⟨some 34,.iaddr 3 (.t 29) (.t 31),none⟩,⟨some 35,.load (some 3) (.t 34),none⟩,⟨some 6,.alloc [(.v (.int .u8 0)),(.v (.int .u8 0)),(.v (.int .u8 0))],none⟩,⟨some 5,.mv (.t 33),none⟩,⟨none,.store 3 (.t 6) (.t 35),none⟩]) (.seq (.region [⟨some 36,.faddr 1 (.t 6),none⟩,⟨some 37,.load none (.t 36),none⟩,⟨some 38,.conv .i64 (.t 37),none⟩,⟨some 39,.mv (.t 3),none⟩,⟨some 40,.len (.t 39),none⟩,⟨some 41,.bin .rem (.t 38) (.t 40),none⟩,⟨some 7,.mv (.t 41),none⟩]) (.seq (.region [⟨some 42,.faddr 2 (.t 6),none⟩,⟨some 43,.load none (.t 42),none⟩,⟨some 44,.conv .i64 (.t 43),none⟩,⟨some 45,.mv (.t 3),none⟩,⟨some 46,.len (.t 45),none⟩,⟨some 47,.bin .rem (.t 44) (.t 46),none⟩,⟨some 8,.mv (.t 47),none⟩]) (.seq (.block 2 (.seq (.region [⟨some 71,.faddr 0 (.t 6),none⟩,⟨some 72,.load none (.t 71),none⟩,⟨some 73,.bin .eql (.t 72) (.c (.v (.int .u8 0))),none⟩,⟨some 74,.mv (.t 73),none⟩,⟨some 75,.mv (.t 3),some (74,true)⟩,⟨some 76,.len (.t 75),some (74,true)⟩,⟨some 77,.bin .lss (.t 76) (.c (.v (.int .i64 8))),some (74,true)⟩,⟨some 78,.pick (.t 74) (.t 77) (.c (.v (.bool false))),none⟩,⟨some 70,.mv (.t 78),none⟩]) (.cond (.t 70) (.seq (.region [⟨some 80,.mv (.t 3),none⟩,⟨some 81,.mv (.t 7),none⟩,⟨some 82,.iaddr 4 (.t 80) (.t 81),none⟩,⟨some 83,.load (some 4) (.t 82),none⟩,⟨some 84,.call (.c (.fn 16 [])) [(.t 83)],none⟩,⟨some 79,.mv (.t 84),none⟩,⟨some 85,.extract 0 (.t 79),none⟩,⟨some 86,.extract 1 (.t 79),none⟩,⟨some 87,.extract 2 (.t 79),none⟩,⟨some 9,.alloc [(.v (.int .i64 0)),(.v .zsl),(.v (.int .i64 0)),(.v .zsl)],none⟩,⟨some 10,.alloc [(.v (.int .i64 0)),(.v .zsl),(.v (.int .i64 0)),(.v .zsl)],none⟩,⟨none,.store 4 (.t 9) (.t 85),none⟩,⟨none,.store 4 (.t 10) (.t 86),none⟩,⟨some 11,.mv (.t 87),none⟩]) (.seq (.seq (.region [⟨some 88,.mv (.t 11),none⟩,⟨some 89,.bin .eql (.t 88) (.c (.v (.int .i64 5))),none⟩]) (.cond (.t 89) (.exit 1) .skip)) (.seq (.seq (.region [⟨some 90,.mv (.t 11),none⟩,⟨some 91,.bin .neq (.t 90) (.c (.v (.int .i64 0))),none⟩]) (.cond (.t 91) (.seq (.region [⟨some 2,.mv (.c (.v (.bool false))),none⟩]) .ret) .skip)) (.seq (.region [⟨some 92,.mv (.t 3),none⟩,⟨some 93,.mv (.t 7),none⟩,⟨some 94,.load (some 4) (.t 9),none⟩,⟨some 95,.iaddr 4 (.t 92) (.t 93),none⟩,⟨none,.store 4 (.t 95) (.t 94),none⟩]) (.both (.both (.draw [⟨0,⟨some 96,.mv (.t 3),none⟩,[]⟩,⟨1,⟨some 97,.load (some 4) (.t 10),none⟩,[]⟩,⟨4,⟨some 100,.mv (.t 4),none⟩,[]⟩,⟨5,⟨some 101,.mv (.t 4),none⟩,[]⟩,⟨6,⟨some 102,.mv (.t 7),none⟩,[]⟩,⟨7,⟨some 103,.iaddr 1 (.t 101) (.t 102),none⟩,[]⟩,⟨8,⟨some 104,.load none (.t 103),none⟩,[]⟩,⟨2,⟨some 98,.bslice 4 [(.v (.int .i64 0)),(.v .zsl),(.v (.int .i64 0)),(.v .zsl)] 1 [(0,(.t 97))],none⟩,[⟨some 96,.mv (.t 3),none⟩,⟨some 100,.mv (.t 4),none⟩,⟨some 101,.mv (.t 4),none⟩,⟨some 102,.mv (.t 7),none⟩,⟨some 103,.iaddr 1 (.t 101) (.t 102),none⟩,⟨some 104,.load none (.t 103),none⟩]⟩,⟨3,⟨some 99,.append 4 64 (.t 96) (.t 98),none⟩,[⟨some 100,.mv (.t 4),none⟩,⟨some 101,.mv (.t 4),none⟩,⟨some 102,.mv (.t 7),none⟩,⟨some 103,.iaddr 1 (.t 101) (.t 102),none⟩,⟨some 104,.load none (.t 103),none⟩]⟩,⟨9,⟨some 105,.bslice 1 [(.v (.int .u64 0))] 1 [(0,(.t 104))],none⟩,[⟨some 100,.mv (.t 4),none⟩]⟩,⟨10,⟨some 106,.append 1 8 (.t 100) (.t 105),none⟩,[]⟩,⟨11,⟨some 3,.mv (.t 99),none⟩,[]⟩,⟨12,⟨some 4,.mv (.t 106),none⟩,[]⟩]) (.draw [⟨0,⟨some 96,.mv (.t 3),none⟩,[]⟩,⟨1,⟨some 97,.load (some 4) (.t 10),none⟩,[]⟩,⟨4,⟨some 100,.mv (.t 4),none⟩,[]⟩,⟨5,⟨some 101,.mv (.t 4),none⟩,[]⟩,⟨6,⟨some 102,.mv (.t 7),none⟩,[]⟩,⟨7,⟨some 103,.iaddr 1 (.t 101) (.t 102),none⟩,[]⟩,⟨8,⟨some 104,.load none (.t 103),none⟩,[]⟩,⟨2,⟨some 98,.bslice 4 [(.v (.int .i64 0)),(.v .zsl),(.v (.int .i64 0)),(.v .zsl)] 1 [(0,(.t 97))],none⟩,[⟨some 96,.mv (.t 3),none⟩,⟨some 100,.mv (.t 4),none⟩,⟨some 101,.mv (.t 4),none⟩,⟨some 102,.mv (.t 7),none⟩,⟨some 103,.iaddr 1 (.t 101) (.t 102),none⟩,⟨some 104,.load none (.t 103),none⟩]⟩,⟨9,⟨some 105,.bslice 1 [(.v (.int .u64 0))] 1 [(0,(.t 104))],none⟩,[⟨some 96,.mv (.t 3),none⟩,⟨some 100,.mv (.t 4),none⟩]⟩,⟨3,⟨some 99,.append 4 64 (.t 96) (.t 98),none⟩,[⟨some 100,.mv (.t 4),none⟩]⟩,⟨10,⟨some 106,.append 1 8 (.t 100) (.t 105),none⟩,[]⟩,⟨11,⟨some 3,.mv (.t 99),none⟩,[]⟩,⟨12,⟨some 4,.mv (.t 106),none⟩,[]⟩])) (.draw [⟨0,⟨some 96,.mv (.t 3),none⟩,[]⟩,⟨1,⟨some 97,.load (some 4) (.t 10),none⟩,[]⟩,⟨4,⟨some 100,.mv (.t 4),none⟩,[]⟩,⟨5,⟨some 101,.mv (.t 4),none⟩,[]⟩,⟨6,⟨some 102,.mv (.t 7),none⟩,[]⟩,⟨7,⟨some 103,.iaddr 1 (.t 101) (.t 102),none⟩,[]⟩,⟨8,⟨some 104,.load none (.t 103),none⟩,[]⟩,⟨9,⟨some 105,.bslice 1 [(.v (.int .u64 0))] 1 [(0,(.t 104))],none⟩,[⟨some 96,.mv (.t 3),none⟩,⟨some 97,.load (some 4) (.t 10),none⟩,⟨some 100,.mv (.t 4),none⟩]⟩,⟨2,⟨some 98,.bslice 4 [(.v (.int .i64 0)),(.v .zsl),(.v (.int .i64 0)),(.v .zsl)] 1 [(0,(.t 97))],none⟩,[⟨some 96,.mv (.t 3),none⟩,⟨some 100,.mv (.t 4),none⟩]⟩,⟨3,⟨some 99,.append 4 64 (.t 96) (.t 98),none⟩,[⟨some 100,.mv (.t 4),none⟩]⟩,⟨10,⟨some 106,.append 1 8 (.t 100) (.t 105),none⟩,[]⟩,⟨11,⟨some 3,.mv (.t 99),none⟩,[]⟩,⟨12,⟨some 4,.mv (.t 106),none⟩,[]⟩])))))) (.seq (.region [⟨some 108,.faddr 0 (.t 6),none⟩,⟨some 109,.load none (.t 108),none⟩,⟨some 110,.bin .eql (.t 109) (.c (.v (.int .u8 1))),none⟩,⟨some 111,.mv (.t 110),none⟩,⟨some 112,.mv (.t 7),some (111,true)⟩,⟨some 113,.mv (.t 8),some (111,true)⟩,⟨some 114,.bin .neq (.t 112) (.t 113),some (111,true)⟩,⟨some 115,.pick (.t 111) (.t 114) (.c (.v (.bool false))),none⟩,⟨some 107,.mv (.t 115),none⟩]) (.cond (.t 107) (.seq (.draw [⟨0,⟨some 117,.mv (.t 3),none⟩,[]⟩,⟨1,⟨some 118,.mv (.t 7),none⟩,[]⟩,⟨2,⟨some 119,.iaddr 4 (.t 117) (.t 118),none⟩,[]⟩,⟨3,⟨some 120,.load (some 4) (.t 119),none⟩,[]⟩,⟨4,⟨some 121,.mv (.t 3),none⟩,[]⟩,⟨5,⟨some 122,.mv (.t 8),none⟩,[]⟩,⟨6,⟨some 123,.iaddr 4 (.t 121) (.t 122),none⟩,[]⟩,⟨7,⟨some 124,.load (some 4) (.t 123),none⟩,[]⟩,⟨8,⟨some 125,.call (.c (.fn 17 [])) [(.t 120),(.t 124)],none⟩,[]⟩,⟨9,⟨some 116,.mv (.t 125),none⟩,[]⟩,⟨10,⟨some 126,.extract 0 (.t 116),none⟩,[]⟩,⟨11,⟨some 127,.extract 1 (.t 116),none⟩,[]⟩,⟨12,⟨some 12,.alloc [(.v (.int .i64 0)),(.v .zsl),(.v (.int .i64 0)),(.v .zsl)],none⟩,[⟨some 117,.mv (.t 3),none⟩,⟨some 118,.mv (.t 7),none⟩,⟨some 119,.iaddr 4 (.t 117) (.t 118),none⟩,⟨some 120,.load (some 4) (.t 119),none⟩,⟨some 121,.mv (.t 3),none⟩,⟨some 122,.mv (.t 8),none⟩,⟨some 123,.iaddr 4 (.t 121) (.t 122),none⟩,⟨some 124,.load (some 4) (.t 123),none⟩,⟨some 116,.mv (.t 125),none⟩,⟨some 126,.extract 0 (.t 116),none⟩,⟨some 127,.extract 1 (.t 116),none⟩]⟩,⟨13,⟨none,.store 4 (.t 12) (.t 126),none⟩,[⟨some 127,.extract 1 (.t 116),none⟩]⟩,⟨14,⟨some 13,.mv (.t 127),none⟩,[]⟩]) (.seq (.seq (.region [⟨some 128,.mv (.t 13),none⟩,⟨some 129,.bin .neq (.t 128) (.c (.v (.int .i64 0))),none⟩]) (.cond (.t 129) (.seq (.region [⟨some 2,.mv (.c (.v (.bool false))),none⟩]) .ret) .skip)) (.seq (.region [⟨some 130,.mv (.t 3),none⟩,⟨some 131,.mv (.t 7),none⟩,⟨some 132,.load (some 4) (.t 12),none⟩,⟨some 133,.iaddr 4 (.t 130) (.t 131),none⟩,⟨none,.store 4 (.t 133) (.t 132),none⟩]) (.seq (.draw [⟨0,⟨some 134,.mv (.t 4),none⟩,[]⟩,⟨1,⟨some 135,.mv (.t 7),none⟩,[]⟩,⟨2,⟨some 136,.iaddr 1 (.t 134) (.t 135),none⟩,[]⟩,⟨3,⟨some 137,.load none (.t 136),none⟩,[]⟩,⟨4,⟨some 138,.mv (.t 4),none⟩,[]⟩,⟨5,⟨some 139,.mv (.t 8),none⟩,[]⟩,⟨6,⟨some 140,.iaddr 1 (.t 138) (.t 139),none⟩,[]⟩,⟨7,⟨some 141,.load none (.t 140),none⟩,[]⟩,⟨8,⟨some 142,.bin .or (.t 137) (.t 141),none⟩,[]⟩,⟨9,⟨some 143,.iaddr 1 (.t 134) (.t 135),none⟩,[]⟩,⟨10,⟨none,.store 1 (.t 143) (.t 142),none⟩,[]⟩]) (.seq (.region [⟨some 144,.mv (.t 3),none⟩,⟨some 145,.len (.t 144),none⟩,⟨some 146,.bin .sub (.t 145) (.c (.v (.int .i64 1))),none⟩,⟨some 14,.mv (.t 146),none⟩]) (.seq (.draw [⟨0,⟨some 147,.mv (.t 3),none⟩,[]⟩,⟨1,⟨some 148,.mv (.t 8),none⟩,[]⟩,⟨2,⟨some 149,.mv (.t 4),none⟩,[]⟩,⟨3,⟨some 150,.mv (.t 8),none⟩,[]⟩,⟨4,⟨some 151,.mv (.t 3),none⟩,[]⟩,⟨5,⟨some 152,.mv (.t 14),none⟩,[]⟩,⟨6,⟨some 153,.iaddr 4 (.t 151) (.t 152),none⟩,[]⟩,⟨7,⟨some 154,.load (some 4) (.t 153),none⟩,[]⟩,⟨8,⟨some 155,.mv (.t 4),none⟩,[]⟩,⟨9,⟨some 156,.mv (.t 14),none⟩,[]⟩,⟨10,⟨some 157,.iaddr 1 (.t 155) (.t 156),none⟩,[]⟩,⟨11,⟨some 158,.load none (.t 157),none⟩,[]⟩,⟨12,⟨some 159,.iaddr 4 (.t 147) (.t 148),none⟩,[]⟩,⟨13,⟨none,.store 4 (.t 159) (.t 154),none⟩,[⟨some 149,.mv (.t 4),none⟩,⟨some 150,.mv (.t 8),none⟩]⟩,⟨14,⟨some 160,.iaddr 1 (.t 149) (.t 150),none⟩,[]⟩,⟨15,⟨none,.store 1 (.t 160) (.t 158),none⟩,[]⟩]) (.draw [⟨0,⟨some 161,.mv (.t 3),none⟩,[]⟩,⟨1,⟨some 162,.mv (.t 14),none⟩,[]⟩,⟨2,⟨some 163,.slice 4 (.t 161) none (some (.t 162)),none⟩,[]⟩,⟨3,⟨some 164,.mv (.t 4),none⟩,[]⟩,⟨4,⟨some 165,.mv (.t 14),none⟩,[]⟩,⟨5,⟨some 166,.slice 1 (.t 164) none (some (.t 165)),none⟩,[]⟩,⟨6,⟨some 3,.mv (.t 163),none⟩,[]⟩,⟨7,⟨some 4,.mv (.t 166),none⟩,[]⟩]))))))) (.seq (.region [⟨some 49,.mv (.t 3),none⟩,⟨some 50,.mv (.t 7),none⟩,⟨some 51,.iaddr 4 (.t 49) (.t 50),none⟩,⟨some 52,.load (some 4) (.t 51),none⟩,⟨some 53,.call (.c (.fn 18 [])) [(.t 52)],none⟩,⟨some 48,.mv (.t 53),none⟩,⟨some 54,.extract 0 (.t 48),none⟩,⟨some 55,.extract 1 (.t 48),none⟩,⟨some 15,.alloc [(.v (.int .i64 0)),(.v .zsl),(.v (.int .i64 0)),(.v .zsl)],none⟩,⟨none,.store 4 (.t 15) (.t 54),none⟩,⟨some 16,.mv (.t 55),none⟩]) (.seq (.seq (.region [⟨some 56,.mv (.t 16),none⟩,⟨some 57,.bin .neq (.t 56) (.c (.v (.int .i64 0))),none⟩]) (.cond (.t 57) (.seq (.region [⟨some 2,.mv (.c (.v (.bool false))),none⟩]) .ret) .skip)) (.seq (.region [⟨some 58,.mv (.t 3),none⟩,⟨some 59,.mv (.t 7),none⟩,⟨some 60,.load (some 4) (.t 15),none⟩,⟨some 61,.iaddr 4 (.t 58) (.t 59),none⟩,⟨none,.store 4 (.t 61) (.t 60),none⟩]) (.draw [⟨0,⟨some 62,.mv (.t 4),none⟩,[]⟩,⟨1,⟨some 63,.mv (.t 7),none⟩,[]⟩,⟨2,⟨some 64,.iaddr 1 (.t 62) (.t 63),none⟩,[]⟩,⟨3,⟨some 65,.load none (.t 64),none⟩,[]⟩,⟨4,⟨some 66,.mv (.t 5),none⟩,[]⟩,⟨5,⟨some 67,.bin .shl (.c (.v (.int .u64 1))) (.t 66),none⟩,[]⟩,⟨6,⟨some 68,.bin .or (.t 65) (.t 67),none⟩,[]⟩,⟨7,⟨some 69,.iaddr 1 (.t 62) (.t 63),none⟩,[]⟩,⟨8,⟨none,.store 1 (.t 69) (.t 68),none⟩,[]⟩]))))))))) (.seq (.region [⟨some 167,.mv (.t 3),none⟩,⟨some 168,.len (.t 167),none⟩,⟨some 169,.mv (.c (.v (.int .i64 0))),none⟩]) (.block 3 (.loop (.seq (.region [⟨some 170,.bin .lss (.t 169) (.t 168),none⟩]) (.seq (.cond (.t 170) .skip (.exit 3)) (.seq (.block 4 (.seq (.region [⟨some 171,.mv (.t 169),none⟩,⟨some 17,.mv (.t 171),none⟩]) (.seq (.region [⟨some 172,.mv (.t 3),none⟩,⟨some 173,.len (.t 172),none⟩,⟨some 174,.mv (.c (.v (.int .i64 0))),none⟩]) (.block 5 (.loop (.seq (.region [⟨some 175,.bin .lss (.t 174) (.t 173),none⟩]) (.seq (.cond (.t 175) .skip (.exit 5)) (.seq (.block 6 (.seq (.region [⟨some 176,.mv (.t 174),none⟩,⟨some 18,.mv (.t 176),none⟩]) (.seq (.draw [⟨0,⟨some 178,.mv (.t 3),none⟩,[]⟩,⟨1,⟨some 179,.mv (.t 17),none⟩,[]⟩,⟨2,⟨some 180,.iaddr 4 (.t 178) (.t 179),none⟩,[]⟩,⟨3,⟨some 181,.faddr 2 (.t 180),none⟩,[]⟩,⟨4,⟨some 182,.load (some 2) (.t 181),none⟩,[]⟩,⟨5,⟨some 183,.mv (.t 3),none⟩,[]⟩,⟨6,⟨some 184,.mv (.t 18),none⟩,[]⟩,⟨7,⟨some 185,.iaddr 4 (.t 183) (.t 184),none⟩,[]⟩,⟨8,⟨some 186,.faddr 2 (.t 185),none⟩,[]⟩,⟨9,⟨some 187,.load (some 2) (.t 186),none⟩,[]⟩,⟨10,⟨some 188,.call (.c (.fn 19 [])) [(.t 182),(.t 187)],none⟩,[]⟩,⟨11,⟨some 177,.mv (.t 188),none⟩,[]⟩,⟨12,⟨some 189,.extract 0 (.t 177),none⟩,[]⟩,⟨13,⟨some 190,.extract 1 (.t 177),none⟩,[]⟩,⟨14,⟨some 19,.mv (.t 189),none⟩,[]⟩,⟨15,⟨some 20,.mv (.t 190),none⟩,[]⟩]) (.seq (.draw [⟨0,⟨some 191,.mv (.t 20),none⟩,[]⟩,⟨1,⟨some 192,.bin .neq (.t 191) (.c (.v (.int .i64 0))),none⟩,[]⟩,⟨2,⟨some 193,.mv (.t 192),none⟩,[]⟩,⟨3,⟨some 194,.mv (.t 19),some (193,false)⟩,[]⟩,⟨4,⟨some 195,.mv (.t 4),some (193,false)⟩,[]⟩,⟨5,⟨some 196,.mv (.t 17),some (193,false)⟩,[]⟩,⟨6,⟨some 197,.iaddr 1 (.t 195) (.t 196),some (193,false)⟩,[]⟩,⟨7,⟨some 198,.load none (.t 197),some (193,false)⟩,[]⟩,⟨8,⟨some 199,.mv (.t 4),some (193,false)⟩,[]⟩,⟨9,⟨some 200,.mv (.t 18),some (193,false)⟩,[]⟩,⟨10,⟨some 201,.iaddr 1 (.t 199) (.t 200),some (193,false)⟩,[]⟩,⟨11,⟨some 202,.load none (.t 201),some (193,false)⟩,[]⟩,⟨12,⟨some 203,.bin .andNot (.t 198) (.t 202),some (193,false)⟩,[]⟩,⟨13,⟨some 204,.bin .eql (.t 203) (.c (.v (.int .u64 0))),some (193,false)⟩,[]⟩,⟨14,⟨some 205,.binB .neq (.t 194) (.t 204),some (193,false)⟩,[]⟩,⟨15,⟨some 206,.pick (.t 193) (.c (.v (.bool true))) (.t 205),none⟩,[]⟩]) (.cond (.t 206) (.seq (.region [⟨some 2,.mv (.c (.v (.bool false))),none⟩]) .ret) .skip))))) (.region [⟨some 207,.bin .add (.t 174) (.c (.v (.int .i64 1))),none⟩,⟨some 174,.mv (.t 207),none⟩]))))))))) (.region [⟨some 208,.bin .add (.t 169) (.c (.v (.int .i64 1))),none⟩,⟨some 169,.mv (.t 208),none⟩])))))))))))) (.region [⟨some 209,.bin .add (.t 31) (.c (.v (.int .i64 1))),none⟩,⟨some 31,.mv (.t 209),none⟩]))))))) (.seq (.region [⟨some 2,.mv (.c (.v (.bool true))),none⟩]) .ret))))))⟩
theorem a_ItvC_ok : cFunc Tryd.prog 4 = some a_ItvC := by kernel_rfl
def r_ItvC0 : List (Nat × Nat) := [(2, 20), (31, 209)]
def r_ItvC1 : List (Nat × Nat) := [(2, 2), (17, 20), (169, 208)]
def r_ItvC2 : List (Nat × Nat) := [(2, 2), (18, 20), (174, 207)]
def chkC : ACode := (.seq (.region [⟨(some 167), .mv (.t 3), none⟩, ⟨(some 168), .len (.t 167), none⟩, ⟨(some 169), .mv (.c (.v (.int .i64 0))), none⟩])
 (.block 3 (.loop (.seq (.region [⟨(some 170), .bin .lss (.t 169) (.t 168), none⟩])
 (.seq (.cond (.t 170) .skip
 (.exit 3))
 (.seq (.block 4 (.seq (.region [⟨(some 171), .mv (.t 169), none⟩, ⟨(some 17), .mv (.t 171), none⟩])
 (.seq (.region [⟨(some 172), .mv (.t 3), none⟩, ⟨(some 173), .len (.t 172), none⟩, ⟨(some 174), .mv (.c (.v (.int .i64 0))), none⟩])
 (.block 5 (.loop (.seq (.region [⟨(some 175), .bin .lss (.t 174) (.t 173), none⟩])
 (.seq (.cond (.t 175) .skip
 (.exit 5))
 (.seq (.block 6 (.seq (.region [⟨(some 176), .mv (.t 174), none⟩, ⟨(some 18), .mv (.t 176), none⟩])
 (.seq (.draw [⟨0, ⟨(some 178), .mv (.t 3), none⟩, []⟩, ⟨1, ⟨(some 179), .mv (.t 17), none⟩, []⟩, ⟨2, ⟨(some 180), .iaddr 4 (.t 178) (.t 179), none⟩, []⟩, ⟨3, ⟨(some 181), .faddr 2 (.t 180), none⟩, []⟩, ⟨4, ⟨(some 182), .load (some 2) (.t 181), none⟩, []⟩, ⟨5, ⟨(some 183), .mv (.t 3), none⟩, []⟩, ⟨6, ⟨(some 184), .mv (.t 18), none⟩, []⟩, ⟨7, ⟨(some 185), .iaddr 4 (.t 183) (.t 184), none⟩, []⟩, ⟨8, ⟨(some 186), .faddr 2 (.t 185), none⟩, []⟩, ⟨9, ⟨(some 187), .load (some 2) (.t 186), none⟩, []⟩, ⟨10, ⟨(some 188), .call (.c (.fn 19 [])) [(.t 182), (.t 187)], none⟩, []⟩, ⟨11, ⟨(some 177), .mv (.t 188), none⟩, []⟩, ⟨12, ⟨(some 189), .extract 0 (.t 177), none⟩, []⟩, ⟨13, ⟨(some 190), .extract 1 (.t 177), none⟩, []⟩, ⟨14, ⟨(some 19), .mv (.t 189), none⟩, []⟩, ⟨15, ⟨(some 20), .mv (.t 190), none⟩, []⟩])
 (.seq (.draw [⟨0, ⟨(some 191), .mv (.t 20), none⟩, []⟩, ⟨1, ⟨(some 192), .bin .neq (.t 191) (.c (.v (.int .i64 0))), none⟩, []⟩, ⟨2, ⟨(some 193), .mv (.t 192), none⟩, []⟩, ⟨3, ⟨(some 194), .mv (.t 19), some (193, false)⟩, []⟩, ⟨4, ⟨(some 195), .mv (.t 4), some (193, false)⟩, []⟩, ⟨5, ⟨(some 196), .mv (.t 17), some (193, false)⟩, []⟩, ⟨6, ⟨(some 197), .iaddr 1 (.t 195) (.t 196), some (193, false)⟩, []⟩, ⟨7, ⟨(some 198), .load none (.t 197), some (193, false)⟩, []⟩, ⟨8, ⟨(some 199), .mv (.t 4), some (193, false)⟩, []⟩, ⟨9, ⟨(some 200), .mv (.t 18), some (193, false)⟩, []⟩, ⟨10, ⟨(some 201), .iaddr 1 (.t 199) (.t 200), some (193, false)⟩, []⟩, ⟨11, ⟨(some 202), .load none (.t 201), some (193, false)⟩, []⟩, ⟨12, ⟨(some 203), .bin .andNot (.t 198) (.t 202), some (193, false)⟩, []⟩, ⟨13, ⟨(some 204), .bin .eql (.t 203) (.c (.v (.int .u64 0))), some (193, false)⟩, []⟩, ⟨14, ⟨(some 205), .binB .neq (.t 194) (.t 204), some (193, false)⟩, []⟩, ⟨15, ⟨(some 206), .pick (.t 193) (.c (.v (.bool true))) (.t 205), none⟩, []⟩])
 (.cond (.t 206) (.seq (.region [⟨(some 2), .mv (.c (.v (.bool false))), none⟩])
 .ret)
 .skip)))))
 (.region [⟨(some 207), .bin .add (.t 174) (.c (.v (.int .i64 1))), none⟩, ⟨(some 174), .mv (.t 207), none⟩])))))))))
 (.region [⟨(some 208), .bin .add (.t 169) (.c (.v (.int .i64 1))), none⟩, ⟨(some 169), .mv (.t 208), none⟩])))))))
theorem a_ItvC_cut : a_ItvC = ⟨1, 210, [.tmp 2],
 (.seq (.region [⟨(some 2), .mv (.c (.v (.bool false))), none⟩])
 (.seq (.seq (.region [⟨(some 21), .call (.c (.fn 14 [])) [], none⟩, ⟨(some 22), .not (.t 21), none⟩])
 (.cond (.t 22) (.seq (.region [⟨(some 2), .mv (.c (.v (.bool false))), none⟩])
 .ret)
 .skip))
 (.seq (.seq (.region [⟨(some 23), .mv (.t 0), none⟩, ⟨(some 24), .len (.t 23), none⟩, ⟨(some 25), .bin .gtr (.t 24) (.c (.v (.int .i64 40))), none⟩])
 (.cond (.t 25) (.seq (.region [⟨(some 2), .mv (.c (.v (.bool true))), none⟩])
 .ret)
 .skip))
 (.seq (.region [⟨(some 26), .call (.c (.fn 15 [])) [], none⟩, ⟨(some 27), .bslice 4 [(.v (.int .i64 0)), (.v .zsl), (.v (.int .i64 0)), (.v .zsl)] 1 [(0, (.t 26))], none⟩, ⟨(some 28), .bslice 1 [(.v (.int .u64 0))] 1 [(0, (.c (.v (.int .u64 0))))], none⟩, ⟨(some 3), .mv (.t 27), none⟩, ⟨(some 4), .mv (.t 28), none⟩])
 (.seq (.seq (.region [⟨(some 29), .mv (.t 0), none⟩, ⟨(some 30), .len (.t 29), none⟩, ⟨(some 31), .mv (.c (.v (.int .i64 0))), none⟩])
 (.block 0 (.loop (.seq (.region [⟨(some 32), .bin .lss (.t 31) (.t 30), none⟩])
 (.seq (.cond (.t 32) .skip
 (.exit 0))
 (.seq (.block 1 (.seq (.region [⟨(some 33), .mv (.t 31), none⟩, ⟨(some 34), .iaddr 3 (.t 29) (.t 31), none⟩, ⟨(some 35), .load (some 3) (.t 34), none⟩, ⟨(some 6), .alloc [(.v (.int .u8 0)), (.v (.int .u8 0)), (.v (.int .u8 0))], none⟩, ⟨(some 5), .mv (.t 33), none⟩, ⟨none, .store 3 (.t 6) (.t 35), none⟩])
 (.seq (.region [⟨(some 36), .faddr 1 (.t 6), none⟩, ⟨(some 37), .load none (.t 36), none⟩, ⟨(some 38), .conv .i64 (.t 37), none⟩, ⟨(some 39), .mv (.t 3), none⟩, ⟨(some 40), .len (.t 39), none⟩, ⟨(some 41), .bin .rem (.t 38) (.t 40), none⟩, ⟨(some 7), .mv (.t 41), none⟩])
 (.seq (.region [⟨(some 42), .faddr 2 (.t 6), none⟩, ⟨(some 43), .load none (.t 42), none⟩, ⟨(some 44), .conv .i64 (.t 43), none⟩, ⟨(some 45), .mv (.t 3), none⟩, ⟨(some 46), .len (.t 45), none⟩, ⟨(some 47), .bin .rem (.t 44) (.t 46), none⟩, ⟨(some 8), .mv (.t 47), none⟩])
 (.seq (.block 2 (.seq (.region [⟨(some 71), .faddr 0 (.t 6), none⟩, ⟨(some 72), .load none (.t 71), none⟩, ⟨(some 73), .bin .eql (.t 72) (.c (.v (.int .u8 0))), none⟩, ⟨(some 74), .mv (.t 73), none⟩, ⟨(some 75), .mv (.t 3), some (74, true)⟩, ⟨(some 76), .len (.t 75), some (74, true)⟩, ⟨(some 77), .bin .lss (.t 76) (.c (.v (.int .i64 8))), some (74, true)⟩, ⟨(some 78), .pick (.t 74) (.t 77) (.c (.v (.bool false))), none⟩, ⟨(some 70), .mv (.t 78), none⟩])
 (.cond (.t 70) (.seq (.region [⟨(some 80), .mv (.t 3), none⟩, ⟨(some 81), .mv (.t 7), none⟩, ⟨(some 82), .iaddr 4 (.t 80) (.t 81), none⟩, ⟨(some 83), .load (some 4) (.t 82), none⟩, ⟨(some 84), .call (.c (.fn 16 [])) [(.t 83)], none⟩, ⟨(some 79), .mv (.t 84), none⟩, ⟨(some 85), .extract 0 (.t 79), none⟩, ⟨(some 86), .extract 1 (.t 79), none⟩, ⟨(some 87), .extract 2 (.t 79), none⟩, ⟨(some 9), .alloc [(.v (.int .i64 0)), (.v .zsl), (.v (.int .i64 0)), (.v .zsl)], none⟩, ⟨(some 10), .alloc [(.v (.int .i64 0)), (.v .zsl), (.v (.int .i64 0)), (.v .zsl)], none⟩, ⟨none, .store 4 (.t 9) (.t 85), none⟩, ⟨none, .store 4 (.t 10) (.t 86), none⟩, ⟨(some 11), .mv (.t 87), none⟩])
 (.seq (.seq (.region [⟨(some 88), .mv (.t 11), none⟩, ⟨(some 89), .bin .eql (.t 88) (.c (.v (.int .i64 5))), none⟩])
 (.cond (.t 89) (.exit 1)
 .skip))
 (.seq (.seq (.region [⟨(some 90), .mv (.t 11), none⟩, ⟨(some 91), .bin .neq (.t 90) (.c (.v (.int .i64 0))), none⟩])
 (.cond (.t 91) (.seq (.region [⟨(some 2), .mv (.c (.v (.bool false))), none⟩])
 .ret)
 .skip))
 (.seq (.region [⟨(some 92), .mv (.t 3), none⟩, ⟨(some 93), .mv (.t 7), none⟩, ⟨(some 94), .load (some 4) (.t 9), none⟩, ⟨(some 95), .iaddr 4 (.t 92) (.t 93), none⟩, ⟨none, .store 4 (.t 95) (.t 94), none⟩])
 (.both (.both (.draw [⟨0, ⟨(some 96), .mv (.t 3), none⟩, []⟩, ⟨1, ⟨(some 97), .load (some 4) (.t 10), none⟩, []⟩, ⟨4, ⟨(some 100), .mv (.t 4), none⟩, []⟩, ⟨5, ⟨(some 101), .mv (.t 4), none⟩, []⟩, ⟨6, ⟨(some 102), .mv (.t 7), none⟩, []⟩, ⟨7, ⟨(some 103), .iaddr 1 (.t 101) (.t 102), none⟩, []⟩, ⟨8, ⟨(some 104), .load none (.t 103), none⟩, []⟩, ⟨2, ⟨(some 98), .bslice 4 [(.v (.int .i64 0)), (.v .zsl), (.v (.int .i64 0)), (.v .zsl)] 1 [(0, (.t 97))], none⟩, [⟨(some 96), .mv (.t 3), none⟩, ⟨(some 100), .mv (.t 4), none⟩, ⟨(some 101), .mv (.t 4), none⟩, ⟨(some 102), .mv (.t 7), none⟩, ⟨(some 103), .iaddr 1 (.t 101) (.t 102), none⟩, ⟨(some 104), .load none (.t 103), none⟩]⟩, ⟨3, ⟨(some 99), .append 4 64 (.t 96) (.t 98), none⟩, [⟨(some 100), .mv (.t 4), none⟩, ⟨(some 101), .mv (.t 4), none⟩, ⟨(some 102), .mv (.t 7), none⟩, ⟨(some 103), .iaddr 1 (.t 101) (.t 102), none⟩, ⟨(some 104), .load none (.t 103), none⟩]⟩, ⟨9, ⟨(some 105), .bslice 1 [(.v (.int .u64 0))] 1 [(0, (.t 104))], none⟩, [⟨(some 100), .mv (.t 4), none⟩]⟩, ⟨10, ⟨(some 106), .append 1 8 (.t 100) (.t 105), none⟩, []⟩, ⟨11, ⟨(some 3), .mv (.t 99), none⟩, []⟩, ⟨12, ⟨(some 4), .mv (.t 106), none⟩, []⟩])
 (.draw [⟨0, ⟨(some 96), .mv (.t 3), none⟩, []⟩, ⟨1, ⟨(some 97), .load (some 4) (.t 10), none⟩, []⟩, ⟨4, ⟨(some 100), .mv (.t 4), none⟩, []⟩, ⟨5, ⟨(some 101), .mv (.t 4), none⟩, []⟩, ⟨6, ⟨(some 102), .mv (.t 7), none⟩, []⟩, ⟨7, ⟨(some 103), .iaddr 1 (.t 101) (.t 102), none⟩, []⟩, ⟨8, ⟨(some 104), .load none (.t 103), none⟩, []⟩, ⟨2, ⟨(some 98), .bslice 4 [(.v (.int .i64 0)), (.v .zsl), (.v (.int .i64 0)), (.v .zsl)] 1 [(0, (.t 97))], none⟩, [⟨(some 96), .mv (.t 3), none⟩, ⟨(some 100), .mv (.t 4), none⟩, ⟨(some 101), .mv (.t 4), none⟩, ⟨(some 102), .mv (.t 7), none⟩, ⟨(some 103), .iaddr 1 (.t 101) (.t 102), none⟩, ⟨(some 104), .load none (.t 103), none⟩]⟩, ⟨9, ⟨(some 105), .bslice 1 [(.v (.int .u64 0))] 1 [(0, (.t 104))], none⟩, [⟨(some 96), .mv (.t 3), none⟩, ⟨(some 100), .mv (.t 4), none⟩]⟩, ⟨3, ⟨(some 99), .append 4 64 (.t 96) (.t 98), none⟩, [⟨(some 100), .mv (.t 4), none⟩]⟩, ⟨10, ⟨(some 106), .append 1 8 (.t 100) (.t 105), none⟩, []⟩, ⟨11, ⟨(some 3), .mv (.t 99), none⟩, []⟩, ⟨12, ⟨(some 4), .mv (.t 106), none⟩, []⟩]))
 (.draw [⟨0, ⟨(some 96), .mv (.t 3), none⟩, []⟩, ⟨1, ⟨(some 97), .load (some 4) (.t 10), none⟩, []⟩, ⟨4, ⟨(some 100), .mv (.t 4), none⟩, []⟩, ⟨5, ⟨(some 101), .mv (.t 4), none⟩, []⟩, ⟨6, ⟨(some 102), .mv (.t 7), none⟩, []⟩, ⟨7, ⟨(some 103), .iaddr 1 (.t 101) (.t 102), none⟩, []⟩, ⟨8, ⟨(some 104), .load none (.t 103), none⟩, []⟩, ⟨9, ⟨(some 105), .bslice 1 [(.v (.int .u64 0))] 1 [(0, (.t 104))], none⟩, [⟨(some 96), .mv (.t 3), none⟩, ⟨(some 97), .load (some 4) (.t 10), none⟩, ⟨(some 100), .mv (.t 4), none⟩]⟩, ⟨2, ⟨(some 98), .bslice 4 [(.v (.int .i64 0)), (.v .zsl), (.v (.int .i64 0)), (.v .zsl)] 1 [(0, (.t 97))], none⟩, [⟨(some 96), .mv (.t 3), none⟩, ⟨(some 100), .mv (.t 4), none⟩]⟩, ⟨3, ⟨(some 99), .append 4 64 (.t 96) (.t 98), none⟩, [⟨(some 100), .mv (.t 4), none⟩]⟩, ⟨10, ⟨(some 106), .append 1 8 (.t 100) (.t 105), none⟩, []⟩, ⟨11, ⟨(some 3), .mv (.t 99), none⟩, []⟩, ⟨12, ⟨(some 4), .mv (.t 106), none⟩, []⟩]))))))
 (.seq (.region [⟨(some 108), .faddr 0 (.t 6), none⟩, ⟨(some 109), .load none (.t 108), none⟩, ⟨(some 110), .bin .eql (.t 109) (.c (.v (.int .u8 1))), none⟩, ⟨(some 111), .mv (.t 110), none⟩, ⟨(some 112), .mv (.t 7), some (111, true)⟩, ⟨(some 113), .mv (.t 8), some (111, true)⟩, ⟨(some 114), .bin .neq (.t 112) (.t 113), some (111, true)⟩, ⟨(some 115), .pick (.t 111) (.t 114) (.c (.v (.bool false))), none⟩, ⟨(some 107), .mv (.t 115), none⟩])
 (.cond (.t 107) (.seq (.draw [⟨0, ⟨(some 117), .mv (.t 3), none⟩, []⟩, ⟨1, ⟨(some 118), .mv (.t 7), none⟩, []⟩, ⟨2, ⟨(some 119), .iaddr 4 (.t 117) (.t 118), none⟩, []⟩, ⟨3, ⟨(some 120), .load (some 4) (.t 119), none⟩, []⟩, ⟨4, ⟨(some 121), .mv (.t 3), none⟩, []⟩, ⟨5, ⟨(some 122), .mv (.t 8), none⟩, []⟩, ⟨6, ⟨(some 123), .iaddr 4 (.t 121) (.t 122), none⟩, []⟩, ⟨7, ⟨(some 124), .load (some 4) (.t 123), none⟩, []⟩, ⟨8, ⟨(some 125), .call (.c (.fn 17 [])) [(.t 120), (.t 124)], none⟩, []⟩, ⟨9, ⟨(some 116), .mv (.t 125), none⟩, []⟩, ⟨10, ⟨(some 126), .extract 0 (.t 116), none⟩, []⟩, ⟨11, ⟨(some 127), .extract 1 (.t 116), none⟩, []⟩, ⟨12, ⟨(some 12), .alloc [(.v (.int .i64 0)), (.v .zsl), (.v (.int .i64 0)), (.v .zsl)], none⟩, [⟨(some 117), .mv (.t 3), none⟩, ⟨(some 118), .mv (.t 7), none⟩, ⟨(some 119), .iaddr 4 (.t 117) (.t 118), none⟩, ⟨(some 120), .load (some 4) (.t 119), none⟩, ⟨(some 121), .mv (.t 3), none⟩, ⟨(some 122), .mv (.t 8), none⟩, ⟨(some 123), .iaddr 4 (.t 121) (.t 122), none⟩, ⟨(some 124), .load (some 4) (.t 123), none⟩, ⟨(some 116), .mv (.t 125), none⟩, ⟨(some 126), .extract 0 (.t 116), none⟩, ⟨(some 127), .extract 1 (.t 116), none⟩]⟩, ⟨13, ⟨none, .store 4 (.t 12) (.t 126), none⟩, [⟨(some 127), .extract 1 (.t 116), none⟩]⟩, ⟨14, ⟨(some 13), .mv (.t 127), none⟩, []⟩])
 (.seq (.seq (.region [⟨(some 128), .mv (.t 13), none⟩, ⟨(some 129), .bin .neq (.t 128) (.c (.v (.int .i64 0))), none⟩])
 (.cond (.t 129) (.seq (.region [⟨(some 2), .mv (.c (.v (.bool false))), none⟩])
 .ret)
 .skip))
 (.seq (.region [⟨(some 130), .mv (.t 3), none⟩, ⟨(some 131), .mv (.t 7), none⟩, ⟨(some 132), .load (some 4) (.t 12), none⟩, ⟨(some 133), .iaddr 4 (.t 130) (.t 131), none⟩, ⟨none, .store 4 (.t 133) (.t 132), none⟩])
 (.seq (.draw [⟨0, ⟨(some 134), .mv (.t 4), none⟩, []⟩, ⟨1, ⟨(some 135), .mv (.t 7), none⟩, []⟩, ⟨2, ⟨(some 136), .iaddr 1 (.t 134) (.t 135), none⟩, []⟩, ⟨3, ⟨(some 137), .load none (.t 136), none⟩, []⟩, ⟨4, ⟨(some 138), .mv (.t 4), none⟩, []⟩, ⟨5, ⟨(some 139), .mv (.t 8), none⟩, []⟩, ⟨6, ⟨(some 140), .iaddr 1 (.t 138) (.t 139), none⟩, []⟩, ⟨7, ⟨(some 141), .load none (.t 140), none⟩, []⟩, ⟨8, ⟨(some 142), .bin .or (.t 137) (.t 141), none⟩, []⟩, ⟨9, ⟨(some 143), .iaddr 1 (.t 134) (.t 135), none⟩, []⟩, ⟨10, ⟨none, .store 1 (.t 143) (.t 142), none⟩, []⟩])
 (.seq (.region [⟨(some 144), .mv (.t 3), none⟩, ⟨(some 145), .len (.t 144), none⟩, ⟨(some 146), .bin .sub (.t 145) (.c (.v (.int .i64 1))), none⟩, ⟨(some 14), .mv (.t 146), none⟩])
 (.seq (.draw [⟨0, ⟨(some 147), .mv (.t 3), none⟩, []⟩, ⟨1, ⟨(some 148), .mv (.t 8), none⟩, []⟩, ⟨2, ⟨(some 149), .mv (.t 4), none⟩, []⟩, ⟨3, ⟨(some 150), .mv (.t 8), none⟩, []⟩, ⟨4, ⟨(some 151), .mv (.t 3), none⟩, []⟩, ⟨5, ⟨(some 152), .mv (.t 14), none⟩, []⟩, ⟨6, ⟨(some 153), .iaddr 4 (.t 151) (.t 152), none⟩, []⟩, ⟨7, ⟨(some 154), .load (some 4) (.t 153), none⟩, []⟩, ⟨8, ⟨(some 155), .mv (.t 4), none⟩, []⟩, ⟨9, ⟨(some 156), .mv (.t 14), none⟩, []⟩, ⟨10, ⟨(some 157), .iaddr 1 (.t 155) (.t 156), none⟩, []⟩, ⟨11, ⟨(some 158), .load none (.t 157), none⟩, []⟩, ⟨12, ⟨(some 159), .iaddr 4 (.t 147) (.t 148), none⟩, []⟩, ⟨13, ⟨none, .store 4 (.t 159) (.t 154), none⟩, [⟨(some 149), .mv (.t 4), none⟩, ⟨(some 150), .mv (.t 8), none⟩]⟩, ⟨14, ⟨(some 160), .iaddr 1 (.t 149) (.t 150), none⟩, []⟩, ⟨15, ⟨none, .store 1 (.t 160) (.t 158), none⟩, []⟩])
 (.draw [⟨0, ⟨(some 161), .mv (.t 3), none⟩, []⟩, ⟨1, ⟨(some 162), .mv (.t 14), none⟩, []⟩, ⟨2, ⟨(some 163), .slice 4 (.t 161) none (some (.t 162)), none⟩, []⟩, ⟨3, ⟨(some 164), .mv (.t 4), none⟩, []⟩, ⟨4, ⟨(some 165), .mv (.t 14), none⟩, []⟩, ⟨5, ⟨(some 166), .slice 1 (.t 164) none (some (.t 165)), none⟩, []⟩, ⟨6, ⟨(some 3), .mv (.t 163), none⟩, []⟩, ⟨7, ⟨(some 4), .mv (.t 166), none⟩, []⟩])))))))
 (.seq (.region [⟨(some 49), .mv (.t 3), none⟩, ⟨(some 50), .mv (.t 7), none⟩, ⟨(some 51), .iaddr 4 (.t 49) (.t 50), none⟩, ⟨(some 52), .load (some 4) (.t 51), none⟩, ⟨(some 53), .call (.c (.fn 18 [])) [(.t 52)], none⟩, ⟨(some 48), .mv (.t 53), none⟩, ⟨(some 54), .extract 0 (.t 48), none⟩, ⟨(some 55), .extract 1 (.t 48), none⟩, ⟨(some 15), .alloc [(.v (.int .i64 0)), (.v .zsl), (.v (.int .i64 0)), (.v .zsl)], none⟩, ⟨none, .store 4 (.t 15) (.t 54), none⟩, ⟨(some 16), .mv (.t 55), none⟩])
 (.seq (.seq (.region [⟨(some 56), .mv (.t 16), none⟩, ⟨(some 57), .bin .neq (.t 56) (.c (.v (.int .i64 0))), none⟩])
 (.cond (.t 57) (.seq (.region [⟨(some 2), .mv (.c (.v (.bool false))), none⟩])
 .ret)
 .skip))
 (.seq (.region [⟨(some 58), .mv (.t 3), none⟩, ⟨(some 59), .mv (.t 7), none⟩, ⟨(some 60), .load (some 4) (.t 15), none⟩, ⟨(some 61), .iaddr 4 (.t 58) (.t 59), none⟩, ⟨none, .store 4 (.t 61) (.t 60), none⟩])
 (.draw [⟨0, ⟨(some 62), .mv (.t 4), none⟩, []⟩, ⟨1, ⟨(some 63), .mv (.t 7), none⟩, []⟩, ⟨2, ⟨(some 64), .iaddr 1 (.t 62) (.t 63), none⟩, []⟩, ⟨3, ⟨(some 65), .load none (.t 64), none⟩, []⟩, ⟨4, ⟨(some 66), .mv (.t 5), none⟩, []⟩, ⟨5, ⟨(some 67), .bin .shl (.c (.v (.int .u64 1))) (.t 66), none⟩, []⟩, ⟨6, ⟨(some 68), .bin .or (.t 65) (.t 67), none⟩, []⟩, ⟨7, ⟨(some 69), .iaddr 1 (.t 62) (.t 63), none⟩, []⟩, ⟨8, ⟨none, .store 1 (.t 69) (.t 68), none⟩, []⟩])))))))))
 chkC)))))
 (.region [⟨(some 209), .bin .add (.t 31) (.c (.v (.int .i64 1))), none⟩, ⟨(some 31), .mv (.t 209), none⟩])))))))
 (.seq (.region [⟨(some 2), .mv (.c (.v (.bool true))), none⟩])
 .ret))))))⟩ := rfl
attribute [local go_sem] it0 it1 y00
theorem z05 : ((0 : Int) == 5) = false := rfl
theorem z55 : ((5 : Int) == 5) = true := rfl
theorem z50 : ((5 : Int) != 0) = true := rfl
theorem wrap_u17 {a : Nat} (h : a < 2 ^ 64) : IntKind.u64.wrap (a : Int) = a := by
 unfold IntKind.wrap
 have : (2 : Int) ^ 64 = 18446744073709551616 := by decide
 simp [IntKind.bits, IntKind.signed]
 omega
theorem or_word17 {a c : Nat} (ha : a < 2 ^ 64) (hc : c < 2 ^ 64) : IntKind.u64.wrap (((BitVec.ofInt 64 (a : Int) ||| BitVec.ofInt 64 (c : Int)).toNat : Nat) : Int) = ((a ||| c : Nat) : Int) := by
 have e1 : BitVec.ofInt 64 (a : Int) = BitVec.ofNat 64 a := by simp
 have e2 : BitVec.ofInt 64 (c : Int) = BitVec.ofNat 64 c := by simp
 rw [e1, e2, BitVec.toNat_or, BitVec.toNat_ofNat, BitVec.toNat_ofNat, Nat.mod_eq_of_lt ha, Nat.mod_eq_of_lt hc, wrap_u17 (Nat.or_lt_two_pow ha hc)]
theorem shl_word17 {j : Nat} (h : j < 64) : IntKind.u64.wrap (1 * 2 ^ j) = ((2 ^ j : Nat) : Int) := by
 have : (1 : Int) * 2 ^ j = ((2 ^ j : Nat) : Int) := by simp
 rw [this, wrap_u17 (Nat.pow_lt_pow_right oM h)]
def sI (s : Stk) : List IV := [.int .i64 (iLf s.1), iLs s.1, .int .i64 (tN s.2.1), tLs s.2.1]
def stL (N : Nat) (f : Nat → Stk) : List (List IV) := fl N fun a => sI (f a)
def knL (N : Nat) (f : Nat → Stk) : List (List IV) := fl N fun a => [.int .u64 ((f a).2.2 : Nat)]
theorem word_sub {a c : Nat} : a &&& c = a ↔ ∀ e, a.testBit e = true → c.testBit e = true := by
 constructor
 ·intro h e he
  have := congrArg (fun x => x.testBit e) h
  simp only [Nat.testBit_and, he, Bool.true_and] at this
  exact this
 ·intro h
  apply Nat.eq_of_testBit_eq
  intro e
  rw [Nat.testBit_and]
  cases hx : a.testBit e with
  | false => rfl
  | true => rw [h e hx]; rfl
theorem andNot_word {a c : Nat} (ha : a < 2 ^ 64) (hc : c < 2 ^ 64) : (IntKind.u64.wrap (((BitVec.ofInt 64 (a : Int) &&& ~~~(BitVec.ofInt 64 (c : Int))).toNat : Nat) : Int) == 0) = decide (a &&& c = a) := by
 have e1 : BitVec.ofInt 64 (a : Int) = BitVec.ofNat 64 a := by simp
 have e2 : BitVec.ofInt 64 (c : Int) = BitVec.ofNat 64 c := by simp
 have hlt : (BitVec.ofNat 64 a &&& ~~~(BitVec.ofNat 64 c)).toNat < 2 ^ 64 := (BitVec.ofNat 64 a &&& ~~~(BitVec.ofNat 64 c)).isLt
 rw [e1, e2, wrap_u17 hlt, Bool.eq_iff_iff, beq_iff_eq, decide_eq_true_eq, word_sub]
 have hz : (((BitVec.ofNat 64 a &&& ~~~(BitVec.ofNat 64 c)).toNat : Nat) : Int) = 0 ↔ (BitVec.ofNat 64 a &&& ~~~(BitVec.ofNat 64 c)) = 0#64 := by
  rw [← BitVec.toNat_inj]; simp
 rw [hz]
 constructor
 ·intro h e he
  have h64 : e < 64 := Nat.lt_of_not_le fun hn => by
   rw [Nat.testBit_lt_two_pow (Nat.lt_of_lt_of_le ha (Nat.pow_le_pow_right oM hn))] at he; cases he
  have := congrArg (fun x => x.getLsbD e) h
  simp only [BitVec.getLsbD_and, BitVec.getLsbD_not, BitVec.getLsbD_ofNat, BitVec.getLsbD_zero, Nat.zero_testBit, he, decide_eq_true h64, Bool.true_and, Bool.not_eq_false'] at this
  exact this
 ·intro h
  apply BitVec.eq_of_getLsbD_eq
  intro e he
  simp only [BitVec.getLsbD_and, BitVec.getLsbD_not, BitVec.getLsbD_ofNat, BitVec.getLsbD_zero, Nat.zero_testBit, decide_eq_true he, Bool.true_and]
  cases hx : a.testBit e with
  | false => rfl
  | true => rw [h e hx]; rfl
theorem st_set {N i : Nat} {f : Nat → Stk} {v : Stk} : (vs (stL N f)).set i [.v (.int .i64 (iLf v.1)), .v (iLs v.1), .v (.int .i64 (tN v.2.1)), .v (tLs v.2.1)] = vs (stL N (sUp f i v)) := by
 show (vs (stL N f)).set i ((sI v).map .v) = _
 unfold vs stL
 rw [← List.map_set, fl_set]
 congr 1
 refine fl_congr fun a _ => ?_
 unfold fUp sUp
 by_cases h : a = i
 ·simp [h]
 ·simp [h]
theorem kn_set {N i : Nat} {f : Nat → Stk} {v : Stk} {w : Int} (hw : w = (v.2.2 : Nat)) : (knL N f).set i [.int .u64 w] = knL N (sUp f i v) := by
 subst hw
 unfold knL
 rw [fl_set]
 refine fl_congr fun a _ => ?_
 unfold fUp sUp
 by_cases h : a = i
 ·simp [h]
 ·simp [h]
theorem st_snoc {N c : Nat} {f : Nat → Stk} {v : Stk} (h : c ≤ N) : vs (List.take c (stL N f)) ++ [[.v (.int .i64 (iLf v.1)), .v (iLs v.1), .v (.int .i64 (tN v.2.1)), .v (tLs v.2.1)]] = vs (stL (c + 1) (sUp f c v)) := by
 show vs (List.take c (stL N f)) ++ vs [sI v] = _
 unfold stL
 rw [fl_take h, vs_app, fl_snoc]
 congr 1
 refine fl_congr fun a _ => ?_
 unfold fUp sUp
 by_cases h : a = c
 ·simp [h]
 ·simp [h]
theorem kn_snoc {N c : Nat} {f : Nat → Stk} {v : Stk} (h : c ≤ N) : List.take c (knL N f) ++ [[.int .u64 (v.2.2 : Nat)]] = knL (c + 1) (sUp f c v) := by
 unfold knL
 rw [fl_take h, fl_snoc]
 refine fl_congr fun a _ => ?_
 unfold fUp sUp
 by_cases h : a = c
 ·simp [h]
 ·simp [h]
theorem kn_same {N i : Nat} {f : Nat → Stk} {v : Stk} (hv : v.2.2 = (f i).2.2) : knL N (sUp f i v) = knL N f := by
 unfold knL
 refine fl_congr fun a _ => ?_
 unfold sUp
 by_cases h : a = i
 ·simp [h, hv]
 ·simp [h]
theorem ItInv.good {n m : Nat} {f : Nat → Stk} (h : ItInv n m f) (hn : n ≤ 40) {a : Nat} (ha : a < m) : GoodS (f a).1 (f a).2.1 := by
 obtain ⟨h1, h2, h3, h4, h5, h6, h7⟩ := h.one a ha
 exact ⟨h1, h3, h4, h5, by omega⟩
theorem ItInv.word {n m : Nat} {f : Nat → Stk} (h : ItInv n m f) (hn : n ≤ 40) {a : Nat} (ha : a < m) : (f a).2.2 < 2 ^ 64 :=
 Nat.lt_of_lt_of_le (h.one a ha).2.2.2.2.2.2 (Nat.pow_le_pow_right oM oM)
theorem ItInv.check {n m : Nat} {f : Nat → Stk} (h : ItInv n m f) (hn : n ≤ 40) {a c : Nat} (ha : a < m) (hc : c < m) :
  (tLeq (tSz (f a).2.1 + tSz (f c).2.1) (f a).2.1 (f c).2.1 0 != (IntKind.u64.wrap (((BitVec.ofInt 64 ((f a).2.2 : Int) &&& ~~~(BitVec.ofInt 64 ((f c).2.2 : Int))).toNat : Nat) : Int) == 0)) = false := by
 rw [andNot_word (h.word hn ha) (h.word hn hc)]
 have h1 := leq_val _ (f a).2.1 (f c).2.1 (Nat.le_refl _) 0
 have h2 := h.leq ha hc
 have h3 : (∀ p, (tVal (f a).2.1 p : Int) ≤ tVal (f c).2.1 p + 0) ↔ ∀ p, tVal (f a).2.1 p ≤ tVal (f c).2.1 p := by
  constructor <;> intro h p <;> have := h p <;> omega
 have h4 : tLeq (tSz (f a).2.1 + tSz (f c).2.1) (f a).2.1 (f c).2.1 0 = decide ((f a).2.2 &&& (f c).2.2 = (f a).2.2) := by
  rw [Bool.eq_iff_iff, decide_eq_true_eq, h1, h3, h2, word_sub]
 rw [h4]
 simp
theorem kEq {p : List (Nat × Nat)} {f g : Nat → AV} (h : kAny p f = kAny p g) : ∀ m, kIn p m = false → f m = g m := fun m hm => by
 have := congrFun h m
 rwa [kAny_out hm, kAny_out hm] at this
def r_chk : List (Nat × Nat) := [(2, 2), (17, 20), (167, 208)]
theorem chk_run {n c N v1 v2 : Nat} {f : Nat → Stk} (h : ItInv n c f) (hn : n ≤ 40) (hcN : c ≤ N) (hc8 : c ≤ 8) {B L : List Row} {g : Nat → AV} {Q : AExit → List AV → List Row → List Row → Prop} (hR : RowsLt B.length B) (hL : RowsLt (B.length + L.length) L)
  (hE : KLt (B.length + L.length) g) (h3 : g 3 = .sl B.length v1 0 c) (h4 : g 4 = .sl (B.length + 1) v2 0 c) (l0 : L[0]? = some (.live v1 4 (vs (stL N f)))) (l1 : L[1]? = some (.live v2 1 (vs (knL N f))))
  (hQ : ∀ g', KLt (B.length + L.length) g' → (∀ m, kIn r_chk m = false → g' m = g m) → Q .normal (kOf 210 g') B L) : run (ACalls Tryd.prog) Weak chkC (kOf 210 g) B L Q := by
 have hA := And.intro h3 h4
 have hcc : (c : Int) ≤ 8 := by omega
 have hLl := (List.getElem?_eq_some_iff.1 l1).1
 simp (disch := (first | decide | omega)) only [chkC, hA, go_sem]
 refine loop_kept (ι := Nat) r_ItvC1 (fun i => [(169, .v (.int .i64 i))]) L.length (fun _ => L) (fun i => i ≤ c) (fun i => c - i) 0 (Nat.zero_le _) (by (repeat (first | exact hE.mono oM | refine KLt.up ?_ kL))) (by ((try simp (disch := decide) only [hA, go_sem]) <;> exact kH)) (fun e => Weak.refl _ _ _) ?_
 intro g1 hE1 hEE1 hg1 i hi
 by_cases hic : i < c
 ·simp (disch := (first | decide | omega)) only [hA, hg1, go_sem]
  refine loop_kept (ι := Nat) r_ItvC2 (fun k => [(174, .v (.int .i64 k))]) L.length (fun _ => L) (fun k => k ≤ c) (fun k => c - k) 0 (Nat.zero_le _) (by (repeat (first | exact hE1.mono oM | refine KLt.up ?_ kL))) (by ((try simp (disch := decide) only [hA, hg1, go_sem]) <;> exact kH)) (fun e => Weak.refl _ _ _) ?_
  intro g2 hE2 hEE2 hg2 k hk
  by_cases hkc : k < c
  ·have gi := fl_get (f := fun a => sI (f a)) (show i < N by omega)
   have gk := fl_get (f := fun a => sI (f a)) (show k < N by omega)
   have wi : (knL N f)[i]? = some [.int .u64 ((f i).2.2 : Nat)] := fl_get (show i < N by omega)
   have wk : (knL N f)[k]? = some [.int .u64 ((f k).2.2 : Nat)] := fl_get (show k < N by omega)
   change (stL N f)[i]? = _ at gi
   change (stL N f)[k]? = _ at gk
   have oi := h.good hn hic
   have ok := h.good hn hkc
   have lq := fun b l => Leq_spec (f i).2.1 (f k).2.1 ⟨oi.nx, oi.dx, oi.mx⟩ ⟨ok.nx, ok.dx, ok.mx⟩ b l
   have hck := h.check hn hic hkc
   have hck2 : (!(tLeq (tSz (f i).2.1 + tSz (f k).2.1) (f i).2.1 (f k).2.1 0 == (IntKind.u64.wrap (((BitVec.ofInt IntKind.u64.bits ((f i).2.2 : Int) &&& ~~~(BitVec.ofInt IntKind.u64.bits ((f k).2.2 : Int))).toNat : Nat) : Int) == 0))) = false := hck
   simp only [IntKind.bits] at hck2
   simp only [tA] at lq
   simp (disch := (first | decide | omega)) only [hA, hg1, hg2, l0, l1, gi, gk, sI, go_sem]
   refine ACalls.nxt (lq _ _) ?_
   simp (disch := (first | decide | omega)) only [hA, hg1, hg2, l0, l1, wi, wk, hck, hck2, go_sem]
   refine ⟨k + 1, hkc, by simp only; omega, ?_⟩
   exact Weak.kround (l1 := L) (junk := []) (p := r_ItvC2) (k := L.length) (by ((repeat refine (kAny_up rfl).trans ?_); exact hEE2)) (by ((try simp (disch := decide) only [hA, hg1, hg2, go_sem]) <;> exact kH)) (List.append_nil _).symm hE2 (Nat.le_refl _) kV hR hL
  ·simp (disch := (first | decide | omega)) only [hA, hg1, hg2, go_sem]
   refine ⟨i + 1, hic, by simp only; omega, ?_⟩
   exact Weak.kround (l1 := L) (junk := []) (p := r_ItvC1) (k := L.length) (by ((repeat refine (kAny_up rfl).trans ?_); refine (kAny_sub hg2 (kIn_sub rfl)).trans ?_; (repeat refine (kAny_up rfl).trans ?_); exact hEE1)) (by ((try simp (disch := decide) only [hA, hg1, hg2, go_sem]) <;> exact kH)) (List.append_nil _).symm hE1 (Nat.le_refl _) kV hR hL
 ·simp (disch := (first | decide | omega)) only [hA, hg1, go_sem]
  refine hQ _ (by (repeat (first | exact hE1.mono oM | refine KLt.up ?_ kL))) (kEq ?_)
  ((repeat refine (kAny_up rfl).trans ?_); refine (kAny_sub hg1 (kIn_sub rfl)).trans ?_; (repeat refine (kAny_up rfl).trans ?_); exact rfl)
abbrev Mv := Nat × Nat × Nat
def eMv (m : Mv) : List IV := [.int .u8 (m.1 : Nat), .int .u8 (m.2.1 : Nat), .int .u8 (m.2.2 : Nat)]
structure CSt where
 n : Nat
 c : Nat
 N : Nat
 v1 : Nat
 v2 : Nat
 f : Nat → Stk
def COk (len : Nat) (i : CSt) : Prop := i.n ≤ len ∧ 1 ≤ i.c ∧ i.c ≤ 8 ∧ i.c ≤ i.N ∧ i.N ≤ 8 ∧ ItInv i.n i.c i.f
def cRw (i : CSt) : List Row := [.live i.v1 4 (vs (stL i.N i.f)), .live i.v2 1 (vs (knL i.N i.f))]
set_option maxHeartbeats 16000000 in
theorem itvC_run (haw : ∀ b l, ACalls Tryd.prog 14 [] b l (fun r b' l' => r = .v (.bool true) ∧ b' = b ∧ l' = l)) (ms : List Mv) (hm : ∀ m ∈ ms, m.1 < 256 ∧ m.2.1 < 256 ∧ m.2.2 < 256) (b l : List Row) :
  ACalls Tryd.prog 4 [.v (.isl 3 (ms.map eMv))] b l (fun r b' l' => r = .v (.bool true) ∧ b' = b ∧ l' = l) := by
 refine calls_kept a_ItvC_ok rfl (by decide) ?_
 intro B g hB hR hE hA; simp only [KArgs] at hA
 rw [a_ItvC_cut]
 simp (disch := (first | decide | omega)) only [hA, go_sem]
 refine ACalls.nxt (haw _ _) ?_
 by_cases hl : ms.length ≤ 40
 case neg =>
  have hd : decide (((ms.length : Nat) : Int) > 40) = true := decide_eq_true oM
  have hd' : decide ((40 : Int) < ((ms.length : Nat) : Int)) = true := hd
  simp (disch := (first | decide | omega)) only [hA, hd, hd', List.length_map, go_sem]
  exact leave_pure (xs := [.v (.bool true)]) (.inr rfl) (by simp (disch := (first | decide | omega)) only [resVs, resV, go_sem, hA]) kO hR hB ⟨rfl, rfl, rfl⟩
 have hd : decide (((ms.length : Nat) : Int) > 40) = false := decide_eq_false oM
 have hd' : decide ((40 : Int) < ((ms.length : Nat) : Int)) = false := hd
 have sd := fun b l => seed_spec b l
 have e0 : ((0 : Nat) : Int) = 0 := rfl
 simp only [sA, iLf_l, iLs, tN_l, tLs, bI_t, e0] at sd
 simp (disch := (first | decide | omega)) only [hA, hd, hd', List.length_map, go_sem]
 refine ACalls.nxt (sd _ _) ?_
 simp (disch := (first | decide | omega)) only [hA, setFrom, cellsOf, List.replicate_succ, List.replicate_zero, List.length_map, go_sem]
 refine loop_kept (ι := CSt) r_ItvC0 (fun i => [(31, .v (.int .i64 i.n)), (3, .sl B.length i.v1 0 i.c), (4, .sl (B.length + 1) i.v2 0 i.c)]) 2 cRw
  (COk ms.length) (fun i => ms.length - i.n) ⟨0, 1, 1, 0, 0, fun _ => (.leaf true, .leaf 0, 0)⟩ ⟨Nat.zero_le _, Nat.le_refl _, (by decide : 1 ≤ 8), Nat.le_refl _, (by decide : 1 ≤ 8), .seed⟩ (by (repeat (first | exact hE.mono oM | refine KLt.up ?_ kL))) (by ((try simp (disch := decide) only [hA, go_sem]) <;> exact kH)) (fun e => Weak.refl _ _ _) ?_
 rintro g1 hE1 hEE1 hg1 ⟨n, c, N, v1, v2, f⟩ ⟨hn, hc1, hc8, hcN, hN8, hI⟩
 simp only at hn hc1 hc8 hcN hN8 hI
 by_cases hnl : n < ms.length
 ·obtain ⟨⟨mk, ma, mw⟩, hmn⟩ : ∃ m, ms[n] = m := ⟨_, rfl⟩
  have hmm := hm _ (List.getElem_mem hnl)
  rw [hmn] at hmm
  simp only at hmm
  obtain ⟨hm1, hm2, hm3⟩ := hmm
  have hg : (ms.map eMv)[n]? = some [.int .u8 (mk : Nat), .int .u8 (ma : Nat), .int .u8 (mw : Nat)] := by
   rw [List.getElem?_map, List.getElem?_eq_getElem hnl, hmn]; rfl
  have w1 : IntKind.i64.wrap (ma : Int) = ma := by simp (disch := omega) only [wrap_id]
  have w2 : IntKind.i64.wrap (mw : Int) = mw := by simp (disch := omega) only [wrap_id]
  have hc0 : ((c : Int) = 0) = False := eq_false oM
  have t1 : Int.tmod (ma : Int) (c : Int) = ((ma % c : Nat) : Int) := rfl
  have t2 : Int.tmod (mw : Int) (c : Int) = ((mw % c : Nat) : Int) := rfl
  have hi : ma % c < c := Nat.mod_lt _ hc1
  have hk : mw % c < c := Nat.mod_lt _ hc1
  obtain ⟨i, hii⟩ : ∃ i, ma % c = i := ⟨_, rfl⟩
  obtain ⟨k, hkk⟩ : ∃ k, mw % c = k := ⟨_, rfl⟩
  rw [hii] at hi t1
  rw [hkk] at hk t2
  have k0 : (((mk : Nat) : Int) == 0) = decide (mk = 0) := by rw [Bool.eq_iff_iff, beq_iff_eq, decide_eq_true_eq]; omega
  have k1 : (((mk : Nat) : Int) == 1) = decide (mk = 1) := by rw [Bool.eq_iff_iff, beq_iff_eq, decide_eq_true_eq]; omega
  have ik : (((i : Nat) : Int) != ((k : Nat) : Int)) = decide (i ≠ k) := by rw [Bool.eq_iff_iff, bne_iff_ne, decide_eq_true_eq]; omega
  have gi : (stL N f)[i]? = some (sI (f i)) := fl_get (show i < N by omega)
  have gk : (stL N f)[k]? = some (sI (f k)) := fl_get (show k < N by omega)
  have wi : (knL N f)[i]? = some [.int .u64 ((f i).2.2 : Nat)] := fl_get (show i < N by omega)
  have wk : (knL N f)[k]? = some [.int .u64 ((f k).2.2 : Nat)] := fl_get (show k < N by omega)
  have oi := hI.good oM hi
  have ok := hI.good oM hk
  by_cases hF : mk = 0 ∧ c < 8
  ·obtain ⟨z0, hc⟩ := hF
   rw [decide_eq_true z0] at k0
   have q0 : decide ((c : Int) < 8) = true := decide_eq_true oM
   have fk := fun b l => fork_spec oi (hI.one i hi).2.1 b l
   by_cases hd2 : iDep (iSplit (f i).1).1 ≤ 16 ∧ iDep (iSplit (f i).1).2 ≤ 16
   ·have hv := (hI.fork hi hd2.1 hd2.2).next
    simp only [if_pos hd2, sA] at fk
    obtain ⟨u, hu⟩ : ∃ u, (iSplit (f i).1).1 = u := ⟨_, rfl⟩
    obtain ⟨v, hw⟩ : ∃ v, (iSplit (f i).1).2 = v := ⟨_, rfl⟩
    rw [hu, hw] at fk hv
    obtain ⟨f1, hf1⟩ : ∃ f1, sUp f i (u, (f i).2) = f1 := ⟨_, rfl⟩
    rw [hf1] at hv
    obtain ⟨F', hF'⟩ : ∃ F', sUp f1 c (v, (f i).2) = F' := ⟨_, rfl⟩
    rw [hF'] at hv
    have ss := st_set (N := N) (i := i) (f := f) (v := (u, (f i).2))
    rw [hf1] at ss
    simp only at ss
    have kq : knL N f = knL N f1 := by rw [← hf1]; exact (kn_same (v := (u, (f i).2)) rfl).symm
    rw [kq] at wi
    have a1 : vs (List.take c (stL N f1)) ++ [[.v (.int .i64 (iLf v)), .v (iLs v), .v (.int .i64 (tN (f i).2.1)), .v (tLs (f i).2.1)]] = vs (stL (c + 1) F') := by rw [← hF']; exact st_snoc (v := (v, (f i).2)) hcN
    have a2 : List.take c (knL N f1) ++ [[.int .u64 ((f i).2.2 : Nat)]] = knL (c + 1) F' := by rw [← hF']; exact kn_snoc (v := (v, (f i).2)) hcN
    have l1 : (stL N f1).length = N := fl_len
    have l2 : (knL N f1).length = N := fl_len
    have cN := eq_true hcN
    simp (disch := (first | decide | omega)) only [hA, hg1, cRw, hg, w1, w2, hc0, t1, t2, k0, q0, gi, sI, if_false, List.replicate_succ, List.replicate_zero, go_sem]
    refine ACalls.nxt (fk _ _) ?_
    simp (disch := (first | decide | omega)) only [hA, hg1, setFrom, cellsOf, l1, l2, cN, ss, gi, kq, wi, a1, a2, sI, List.drop_zero, List.replicate_succ, List.replicate_zero, z05, z50, go_sem]
    refine ⟨⟨?_, ?_⟩, ?_⟩
    ·refine chk_run (N := c + 1) (f := F') (hv) oM oM oM hR kL (KLt.mono (m := B.length + 7) (by (repeat (first | exact hE1.mono oM | refine KLt.up ?_ kL))) (by simp)) (by simp (disch := (first | decide | omega)) only [hA, hg1, Nat.sub_zero, go_sem]) (by simp (disch := (first | decide | omega)) only [hA, hg1, Nat.sub_zero, go_sem]) rfl rfl ?_
     intro g2 hE2 hg2
     simp (disch := (first | decide | omega)) only [hA, hg1, hg2, go_sem]
     refine ⟨⟨n + 1, c + 1, c + 1, v1 + 1, v2 + 1, F'⟩, ⟨by simp only; omega, by simp only; omega, by simp only; omega, by simp only; omega, by simp only; omega, hv⟩, by simp only; omega, ?_⟩
     exact Weak.kround (l1 := cRw ⟨n + 1, c + 1, c + 1, v1 + 1, v2 + 1, F'⟩) (p := r_ItvC0) (k := 2) (by ((repeat refine (kAny_up rfl).trans ?_); refine (kAny_sub hg2 (kIn_sub rfl)).trans ?_; (repeat refine (kAny_up rfl).trans ?_); exact hEE1)) (by ((try simp (disch := decide) only [hA, hg1, hg2, go_sem]) <;> exact kH)) rfl hE1 (by simp [cRw]) (by simp (disch := omega) only [KOvLt, cRw, lts.down, Nat.reduceLT, Nat.reduceAdd]) hR (by simp (disch := omega) only [cRw, lts.down, Nat.reduceLT, Nat.reduceAdd])
    ·refine chk_run (N := c + 1) (f := F') (hv) oM oM oM hR kL (KLt.mono (m := B.length + 7) (by (repeat (first | exact hE1.mono oM | refine KLt.up ?_ kL))) (by simp)) (by simp (disch := (first | decide | omega)) only [hA, hg1, Nat.sub_zero, go_sem]) (by simp (disch := (first | decide | omega)) only [hA, hg1, Nat.sub_zero, go_sem]) rfl rfl ?_
     intro g2 hE2 hg2
     simp (disch := (first | decide | omega)) only [hA, hg1, hg2, go_sem]
     refine ⟨⟨n + 1, c + 1, c + 1, v1 + 1, v2 + 1, F'⟩, ⟨by simp only; omega, by simp only; omega, by simp only; omega, by simp only; omega, by simp only; omega, hv⟩, by simp only; omega, ?_⟩
     exact Weak.kround (l1 := cRw ⟨n + 1, c + 1, c + 1, v1 + 1, v2 + 1, F'⟩) (p := r_ItvC0) (k := 2) (by ((repeat refine (kAny_up rfl).trans ?_); refine (kAny_sub hg2 (kIn_sub rfl)).trans ?_; (repeat refine (kAny_up rfl).trans ?_); exact hEE1)) (by ((try simp (disch := decide) only [hA, hg1, hg2, go_sem]) <;> exact kH)) rfl hE1 (by simp [cRw]) (by simp (disch := omega) only [KOvLt, cRw, lts.down, Nat.reduceLT, Nat.reduceAdd]) hR (by simp (disch := omega) only [cRw, lts.down, Nat.reduceLT, Nat.reduceAdd])
    ·refine chk_run (N := c + 1) (f := F') (hv) oM oM oM hR kL (KLt.mono (m := B.length + 7) (by (repeat (first | exact hE1.mono oM | refine KLt.up ?_ kL))) (by simp)) (by simp (disch := (first | decide | omega)) only [hA, hg1, Nat.sub_zero, go_sem]) (by simp (disch := (first | decide | omega)) only [hA, hg1, Nat.sub_zero, go_sem]) rfl rfl ?_
     intro g2 hE2 hg2
     simp (disch := (first | decide | omega)) only [hA, hg1, hg2, go_sem]
     refine ⟨⟨n + 1, c + 1, c + 1, v1 + 1, v2 + 1, F'⟩, ⟨by simp only; omega, by simp only; omega, by simp only; omega, by simp only; omega, by simp only; omega, hv⟩, by simp only; omega, ?_⟩
     exact Weak.kround (l1 := cRw ⟨n + 1, c + 1, c + 1, v1 + 1, v2 + 1, F'⟩) (p := r_ItvC0) (k := 2) (by ((repeat refine (kAny_up rfl).trans ?_); refine (kAny_sub hg2 (kIn_sub rfl)).trans ?_; (repeat refine (kAny_up rfl).trans ?_); exact hEE1)) (by ((try simp (disch := decide) only [hA, hg1, hg2, go_sem]) <;> exact kH)) rfl hE1 (by simp [cRw]) (by simp (disch := omega) only [KOvLt, cRw, lts.down, Nat.reduceLT, Nat.reduceAdd]) hR (by simp (disch := omega) only [cRw, lts.down, Nat.reduceLT, Nat.reduceAdd])
   ·simp only [if_neg hd2, sA, zS] at fk
    simp (disch := (first | decide | omega)) only [hA, hg1, cRw, hg, w1, w2, hc0, t1, t2, k0, q0, gi, sI, if_false, List.replicate_succ, List.replicate_zero, go_sem]
    refine ACalls.nxt (fk _ _) ?_
    simp (disch := (first | decide | omega)) only [hA, hg1, setFrom, cellsOf, gi, wi, sI, z55, go_sem]
    refine ⟨⟨n + 1, c, N, v1, v2, f⟩, ⟨by simp only; omega, hc1, hc8, hcN, hN8, hI.next⟩, by simp only; omega, ?_⟩
    exact Weak.kround (l1 := cRw ⟨n + 1, c, N, v1, v2, f⟩) (p := r_ItvC0) (k := 2) (by ((repeat refine (kAny_up rfl).trans ?_); exact hEE1)) (by ((try simp (disch := decide) only [hA, hg1, go_sem]) <;> exact kH)) rfl hE1 (by simp [cRw]) (by simp (disch := omega) only [KOvLt, cRw, lts.down, Nat.reduceLT, Nat.reduceAdd]) hR (by simp (disch := omega) only [cRw, lts.down, Nat.reduceLT, Nat.reduceAdd])
  by_cases hJ : mk = 1 ∧ i ≠ k
  ·obtain ⟨z1, hne⟩ := hJ
   rw [decide_eq_true z1] at k1
   rw [decide_eq_true hne] at ik
   rw [decide_eq_false (show ¬ mk = 0 by omega)] at k0
   obtain ⟨m, hcm⟩ : ∃ m, c = m + 1 := ⟨c - 1, by omega⟩
   have hI' : ItInv n (m + 1) f := by rw [← hcm]; exact hI
   have sw := sum_own (hI.one i hi).1 (hI.one k hk).1 (hI.apart i k hi hk hne)
   have sz := sum_nz (hI.one i hi).1 (hI.one k hk).1 (hI.apart i k hi hk hne) (hI.one i hi).2.1
   have jn := fun b l => join_spec oi ok sw.1 b l
   have mv := mrg_val _ (f i).2.1 (f k).2.1 (Nat.le_refl _)
   have md := mrg_dep (tSz (f i).2.1 + tSz (f k).2.1) (f i).2.1 (f k).2.1
   have mn := mrg_nm (tSz (f i).2.1 + tSz (f k).2.1) (f i).2.1 (f k).2.1 oi.nx ok.nx
   have d1 := oi.di
   have d2 := ok.di
   have d3 := oi.dx
   have d4 := ok.dx
   have sd3 := sw.2.2.2
   have hv := (hI'.join oM oM hne (I := (iSum (f i).1 (f k).1).1) (X := tMrg (tSz (f i).2.1 + tSz (f k).2.1) (f i).2.1 (f k).2.1) ⟨⟨sw.2.1, sz, by omega⟩, sw.2.2.1⟩ ⟨mn, by omega, mv⟩).next
   obtain ⟨I, hIe⟩ : ∃ I, (iSum (f i).1 (f k).1).1 = I := ⟨_, rfl⟩
   obtain ⟨X, hX⟩ : ∃ X, tMrg (tSz (f i).2.1 + tSz (f k).2.1) (f i).2.1 (f k).2.1 = X := ⟨_, rfl⟩
   rw [hIe, hX] at hv
   simp only [hIe, hX, sA] at jn
   obtain ⟨f1, hf1⟩ : ∃ f1, sUp f i (I, X, (f i).2.2 ||| (f k).2.2) = f1 := ⟨_, rfl⟩
   rw [hf1] at hv
   have hfe : (fun a => f1 (if a = k then m else a)) = sUp f1 k (f1 m) := by
    funext a; unfold sUp; by_cases h : a = k
    ·simp [h]
    ·simp [h]
   rw [hfe] at hv
   obtain ⟨F', hF'⟩ : ∃ F', sUp f1 k (f1 m) = F' := ⟨_, rfl⟩
   rw [hF'] at hv
   have ss := st_set (N := N) (i := i) (f := f) (v := (I, X, (f i).2.2 ||| (f k).2.2))
   have ks := kn_set (N := N) (i := i) (f := f) (v := (I, X, (f i).2.2 ||| (f k).2.2)) (w := (((f i).2.2 ||| (f k).2.2 : Nat) : Int)) rfl
   rw [hf1] at ss ks
   simp only at ss
   have s2 := st_set (N := N) (i := k) (f := f1) (v := f1 m)
   have k2 := kn_set (N := N) (i := k) (f := f1) (v := f1 m) (w := (((f1 m).2.2 : Nat) : Int)) rfl
   rw [hF'] at s2 k2
   have gm : (stL N f1)[m]? = some (sI (f1 m)) := fl_get (show m < N by omega)
   have wm : (knL N f1)[m]? = some [.int .u64 ((f1 m).2.2 : Nat)] := fl_get (show m < N by omega)
   have gk1 : (stL N f1)[k]? = some (sI (f1 k)) := fl_get (show k < N by omega)
   have wk1 : (knL N f1)[k]? = some [.int .u64 ((f1 k).2.2 : Nat)] := fl_get (show k < N by omega)
   obtain ⟨V, hV⟩ : ∃ V, f1 m = V := ⟨_, rfl⟩
   rw [hV] at s2 k2 gm wm
   have q6 := or_word17 (hI.word oM hi) (hI.word oM hk)
   change IntKind.u64.wrap (((BitVec.ofInt IntKind.u64.bits ((f i).2.2 : Int) ||| BitVec.ofInt IntKind.u64.bits ((f k).2.2 : Int)).toNat : Nat) : Int) = _ at q6
   simp only [IntKind.bits] at q6
   have hcl : (c : Int) - 1 = (m : Int) := by omega
   have y3 : ((0 : Int) ≤ (m : Int)) = True := eq_true oM
   have y4 : ((m : Int) ≤ (c : Int)) = True := eq_true oM
   simp (disch := (first | decide | omega)) only [hA, hg1, cRw, hg, w1, w2, hc0, t1, t2, k0, k1, ik, gi, gk, sI, if_false, List.replicate_succ, List.replicate_zero, go_sem]
   refine ACalls.nxt (jn _ _) ?_
   simp (disch := (first | decide | omega)) only [hA, hg1, setFrom, cellsOf, ss, gi, gk, wi, wk, q6, ks, hcl, y3, y4, gm, wm, gk1, wk1, s2, k2, sI, bounds, List.replicate_succ, List.replicate_zero, go_sem]
   refine chk_run (N := N) (f := F') (hv) oM oM oM hR kL (KLt.mono (m := B.length + 4) (by (repeat (first | exact hE1.mono oM | refine KLt.up ?_ kL))) (by simp)) (by simp (disch := (first | decide | omega)) only [hA, hg1, Nat.sub_zero, go_sem]) (by simp (disch := (first | decide | omega)) only [hA, hg1, Nat.sub_zero, go_sem]) rfl rfl ?_
   intro g2 hE2 hg2
   simp (disch := (first | decide | omega)) only [hA, hg1, hg2, go_sem]
   refine ⟨⟨n + 1, m, N, v1, v2, F'⟩, ⟨by simp only; omega, by simp only; omega, by simp only; omega, by simp only; omega, by simp only; omega, hv⟩, by simp only; omega, ?_⟩
   exact Weak.kround (l1 := cRw ⟨n + 1, m, N, v1, v2, F'⟩) (p := r_ItvC0) (k := 2) (by ((repeat refine (kAny_up rfl).trans ?_); refine (kAny_sub hg2 (kIn_sub rfl)).trans ?_; (repeat refine (kAny_up rfl).trans ?_); exact hEE1)) (by ((try simp (disch := decide) only [hA, hg1, hg2, go_sem]) <;> exact kH)) rfl hE1 (by simp [cRw]) (by simp (disch := omega) only [KOvLt, cRw, lts.down, Nat.reduceLT, Nat.reduceAdd]) hR (by simp (disch := omega) only [cRw, lts.down, Nat.reduceLT, Nat.reduceAdd])
  have st := fun b l => step_spec oi (hI.one i hi).2.1 b l
  have b0 : Unit → (mk = 0 → ¬ c < 8) := fun _ h h' => hF ⟨h, h'⟩
  have b1 : Unit → (mk = 1 → i = k) := fun _ h => by by_cases e : i = k; exact e; exact absurd ⟨h, e⟩ hJ
  simp only [sA] at st
  have hv := hI.step hi
  obtain ⟨F', hF'⟩ : ∃ F', sUp f i ((f i).1, tStep (f i).1 (f i).2.1, (f i).2.2 ||| 2 ^ n) = F' := ⟨_, rfl⟩
  rw [hF'] at hv
  have ss := st_set (N := N) (i := i) (f := f) (v := ((f i).1, tStep (f i).1 (f i).2.1, (f i).2.2 ||| 2 ^ n))
  have hsh : ((n : Int) < 0) = False := eq_false oM
  have h65 : (n ≤ IntKind.bits .u64) = True := eq_true (show n ≤ 64 by omega)
  have q5 := shl_word17 (show n < 64 by omega)
  have q6 := or_word17 (hI.word oM hi) (Nat.pow_lt_pow_right (a := 2) oM (show n < 64 by omega))
  have ks := kn_set (N := N) (i := i) (f := f) (v := ((f i).1, tStep (f i).1 (f i).2.1, (f i).2.2 ||| 2 ^ n)) (w := (((f i).2.2 ||| 2 ^ n : Nat) : Int)) rfl
  rw [hF'] at ss ks
  change IntKind.u64.wrap (((BitVec.ofInt IntKind.u64.bits ((f i).2.2 : Int) ||| BitVec.ofInt IntKind.u64.bits ((2 ^ n : Nat) : Int)).toNat : Nat) : Int) = _ at q6
  simp only [IntKind.bits] at q6
  simp only at ss
  by_cases z0 : mk = 0
  ·rw [decide_eq_true z0] at k0
   have q0 : decide ((c : Int) < 8) = false := decide_eq_false (by have := b0 () z0; omega)
   rw [decide_eq_false (show ¬ mk = 1 by omega)] at k1
   simp (disch := (first | decide | omega)) only [hA, hg1, cRw, hg, w1, w2, hc0, t1, t2, k0, k1, q0, gi, sI, if_false, List.replicate_succ, List.replicate_zero, go_sem]
   refine ACalls.nxt (st _ _) ?_
   simp (disch := (first | decide | omega)) only [hA, hg1, setFrom, cellsOf, ss, gi, wi, hsh, h65, q5, q6, ks, sI, go_sem]
   refine chk_run (N := N) (f := F') (hv) oM oM oM hR kL (KLt.mono (m := B.length + 4) (by (repeat (first | exact hE1.mono oM | refine KLt.up ?_ kL))) (by simp)) (by simp (disch := (first | decide | omega)) only [hA, hg1, Nat.sub_zero, go_sem]) (by simp (disch := (first | decide | omega)) only [hA, hg1, Nat.sub_zero, go_sem]) rfl rfl ?_
   intro g2 hE2 hg2
   simp (disch := (first | decide | omega)) only [hA, hg1, hg2, go_sem]
   refine ⟨⟨n + 1, c, N, v1, v2, F'⟩, ⟨by simp only; omega, by simp only; omega, by simp only; omega, by simp only; omega, by simp only; omega, hv⟩, by simp only; omega, ?_⟩
   exact Weak.kround (l1 := cRw ⟨n + 1, c, N, v1, v2, F'⟩) (p := r_ItvC0) (k := 2) (by ((repeat refine (kAny_up rfl).trans ?_); refine (kAny_sub hg2 (kIn_sub rfl)).trans ?_; (repeat refine (kAny_up rfl).trans ?_); exact hEE1)) (by ((try simp (disch := decide) only [hA, hg1, hg2, go_sem]) <;> exact kH)) rfl hE1 (by simp [cRw]) (by simp (disch := omega) only [KOvLt, cRw, lts.down, Nat.reduceLT, Nat.reduceAdd]) hR (by simp (disch := omega) only [cRw, lts.down, Nat.reduceLT, Nat.reduceAdd])
  ·rw [decide_eq_false z0] at k0
   by_cases z1 : mk = 1
   ·rw [decide_eq_true z1] at k1
    rw [decide_eq_false (show ¬ i ≠ k from fun h => h (b1 () z1))] at ik
    simp (disch := (first | decide | omega)) only [hA, hg1, cRw, hg, w1, w2, hc0, t1, t2, k0, k1, ik, gi, sI, if_false, List.replicate_succ, List.replicate_zero, go_sem]
    refine ACalls.nxt (st _ _) ?_
    simp (disch := (first | decide | omega)) only [hA, hg1, setFrom, cellsOf, ss, gi, wi, hsh, h65, q5, q6, ks, sI, go_sem]
    refine chk_run (N := N) (f := F') (hv) oM oM oM hR kL (KLt.mono (m := B.length + 4) (by (repeat (first | exact hE1.mono oM | refine KLt.up ?_ kL))) (by simp)) (by simp (disch := (first | decide | omega)) only [hA, hg1, Nat.sub_zero, go_sem]) (by simp (disch := (first | decide | omega)) only [hA, hg1, Nat.sub_zero, go_sem]) rfl rfl ?_
    intro g2 hE2 hg2
    simp (disch := (first | decide | omega)) only [hA, hg1, hg2, go_sem]
    refine ⟨⟨n + 1, c, N, v1, v2, F'⟩, ⟨by simp only; omega, by simp only; omega, by simp only; omega, by simp only; omega, by simp only; omega, hv⟩, by simp only; omega, ?_⟩
    exact Weak.kround (l1 := cRw ⟨n + 1, c, N, v1, v2, F'⟩) (p := r_ItvC0) (k := 2) (by ((repeat refine (kAny_up rfl).trans ?_); refine (kAny_sub hg2 (kIn_sub rfl)).trans ?_; (repeat refine (kAny_up rfl).trans ?_); exact hEE1)) (by ((try simp (disch := decide) only [hA, hg1, hg2, go_sem]) <;> exact kH)) rfl hE1 (by simp [cRw]) (by simp (disch := omega) only [KOvLt, cRw, lts.down, Nat.reduceLT, Nat.reduceAdd]) hR (by simp (disch := omega) only [cRw, lts.down, Nat.reduceLT, Nat.reduceAdd])
   ·rw [decide_eq_false z1] at k1
    simp (disch := (first | decide | omega)) only [hA, hg1, cRw, hg, w1, w2, hc0, t1, t2, k0, k1, ik, gi, sI, if_false, List.replicate_succ, List.replicate_zero, go_sem]
    refine ACalls.nxt (st _ _) ?_
    simp (disch := (first | decide | omega)) only [hA, hg1, setFrom, cellsOf, ss, gi, wi, hsh, h65, q5, q6, ks, sI, go_sem]
    refine chk_run (N := N) (f := F') (hv) oM oM oM hR kL (KLt.mono (m := B.length + 4) (by (repeat (first | exact hE1.mono oM | refine KLt.up ?_ kL))) (by simp)) (by simp (disch := (first | decide | omega)) only [hA, hg1, Nat.sub_zero, go_sem]) (by simp (disch := (first | decide | omega)) only [hA, hg1, Nat.sub_zero, go_sem]) rfl rfl ?_
    intro g2 hE2 hg2
    simp (disch := (first | decide | omega)) only [hA, hg1, hg2, go_sem]
    refine ⟨⟨n + 1, c, N, v1, v2, F'⟩, ⟨by simp only; omega, by simp only; omega, by simp only; omega, by simp only; omega, by simp only; omega, hv⟩, by simp only; omega, ?_⟩
    exact Weak.kround (l1 := cRw ⟨n + 1, c, N, v1, v2, F'⟩) (p := r_ItvC0) (k := 2) (by ((repeat refine (kAny_up rfl).trans ?_); refine (kAny_sub hg2 (kIn_sub rfl)).trans ?_; (repeat refine (kAny_up rfl).trans ?_); exact hEE1)) (by ((try simp (disch := decide) only [hA, hg1, hg2, go_sem]) <;> exact kH)) rfl hE1 (by simp [cRw]) (by simp (disch := omega) only [KOvLt, cRw, lts.down, Nat.reduceLT, Nat.reduceAdd]) hR (by simp (disch := omega) only [cRw, lts.down, Nat.reduceLT, Nat.reduceAdd])
 ·simp (disch := (first | decide | omega)) only [hA, hg1, cRw, go_sem]
  exact leave_pure (xs := [.v (.bool true)]) (.inr rfl) (by simp (disch := (first | decide | omega)) only [resVs, resV, go_sem, hA, hg1]) kO hR hB ⟨rfl, rfl, rfl⟩
end Go.Proofs.YtnihdkfmmbpilaaDoor
