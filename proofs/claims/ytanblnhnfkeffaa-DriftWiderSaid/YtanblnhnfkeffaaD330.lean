/- Texts of one proof, laid together: YN. No condition. -/
import Derived.Test.YtanblnhnfkeffaaD325
import Derived.Test.YtanblnhnfkeffaaD329
import Derived.Test.YtanblnhnfkeffaaD310
namespace Go.Proofs.Ytanblnhnfkeffaa
set_option linter.unusedVariables false
set_option linter.unusedSimpArgs false
attribute [local go_sem ↓] run_skip run_region run_draw run_both run_seq run_block run_exit run_ret run_cond atN_app seqC_normal seqC_exit seqC_ret seqQ_normal seqQ_exit seqQ_ret blkQ_normal blkQ_exit blkQ_ret runOps_nil runOps_cons runD_nil runD_cons grdO_true grdO_false grdD_true grdD_false ifC_true ifC_false opS_val opS_call opS_two opK_app dS_val dS_call dS_two dK_app kUp_same kUp_ne
attribute [local go_sem] rechks_nil rechks_cons rechk gcase_true gcase_false ex_val ex_val0 gd_none gd_some ev_t ev_c evs_nil evs_cons evo_some evo_none hget_at hget_first hsetB_at hsetB_first hsetL_at hsetL_first ofOpt_some aop aload astore aslice aappend aiaddr aiaddrA afaddr alen alenS acopy amm acall alookup amupdate alenM atostr comma keyEq apick binV binVB binVS isSh intOp strOp boolOp shOp eqC eqF and2 cellsOf setFrom fillA fillS rd rdI elems mk bounds AV.cell List.all_cons List.all_nil Bool.and_true Bool.true_and Bool.and_self List.length_cons List.length_nil List.length_append Nat.reduceAdd Nat.reduceSub Nat.reduceMul Nat.zero_add Nat.add_zero List.cons_append List.nil_append List.append_assoc List.append_nil List.getElem?_cons_zero List.getElem?_cons_succ List.getElem?_nil List.set_cons_zero List.set_cons_succ List.drop_zero List.drop_succ_cons List.take_zero List.take_succ_cons List.take_nil List.drop_nil List.map_cons List.map_nil Option.map_some if_true if_false Bool.false_eq_true and_self true_and and_true Nat.reduceLeDiff Nat.reduceLT Nat.le_refl Nat.reduceEqDiff ite_true ite_false beq_self_eq_true beq_true beq_false Bool.not_true Bool.not_false Bool.true_beq Bool.false_beq map_vs vs_len vs_get vs_take vs_drop vs_snoc1 vs_snoc2 vs_snoc3 vs_snoc5 vs_set1 vs_set2 vs_rep wrap_id le_T lt_T le_F lt_F leI_T ltI_T leI_F ltI_F geI gtI get_T decide_true decide_false room List.getElem?_map List.length_map List.length_take Int.toNat_natCast Nat.min_def Nat.min_self nth_kOf put_kOf put_kNo kOv_cons kOv_nil KHas KArgs List.getElem_cons_zero List.getElem_cons_succ
def a_driftWider : AFunc := ⟨5,227,[.tmp 10],(.seq (.region [⟨some 5,.box (.t 0),none⟩,⟨some 6,.box (.t 1),none⟩,⟨some 8,.box (.t 3),none⟩,⟨some 9,.box (.t 4),none⟩,⟨some 10,.mv (.c (.v (.bool false))),none⟩]) (.seq (.seq (.region [⟨some 27,.call (.c (.fn 47 [])) [],none⟩,⟨some 28,.not (.t 27),none⟩]) (.cond (.t 28) (.seq (.region [⟨some 10,.mv (.c (.v (.bool false))),none⟩]) .ret) .skip)) (.seq (.seq (.region [⟨some 29,.load (some 1) (.t 5),none⟩,⟨some 30,.call (.c (.fn 48 [])) [(.t 29)],none⟩,⟨some 31,.not (.t 30),none⟩,⟨some 32,.mv (.t 31),none⟩,⟨some 33,.load (some 1) (.t 5),some (32,false)⟩,⟨some 34,.load (some 3) (.t 6),some (32,false)⟩,⟨some 35,.call (.c (.fn 52 [])) [(.t 33),(.t 34)],some (32,false)⟩,⟨some 36,.not (.t 35),some (32,false)⟩,⟨some 37,.pick (.t 32) (.c (.v (.bool true))) (.t 36),none⟩,⟨some 38,.mv (.t 37),none⟩,⟨some 39,.mv (.t 2),some (38,false)⟩,⟨some 40,.len (.t 39),some (38,false)⟩,⟨some 41,.faddr 0 (.t 5),some (38,false)⟩,⟨some 42,.load none (.t 41),some (38,false)⟩,⟨some 43,.len (.t 42),some (38,false)⟩,⟨some 44,.bin .add (.t 43) (.c (.v (.int .i64 2))),some (38,false)⟩,⟨some 45,.bin .lss (.t 40) (.t 44),some (38,false)⟩,⟨some 46,.pick (.t 38) (.c (.v (.bool true))) (.t 45),none⟩,⟨some 47,.mv (.t 46),none⟩,⟨some 48,.load (some 1) (.t 5),some (47,false)⟩,⟨some 49,.load (some 2) (.t 8),some (47,false)⟩,⟨some 50,.call (.c (.fn 56 [])) [(.t 48),(.t 49)],some (47,false)⟩,⟨some 51,.not (.t 50),some (47,false)⟩,⟨some 52,.pick (.t 47) (.c (.v (.bool true))) (.t 51),none⟩,⟨some 53,.mv (.t 52),none⟩,⟨some 54,.load (some 1) (.t 5),some (53,false)⟩,⟨some 55,.load (some 2) (.t 9),some (53,false)⟩,⟨some 56,.call (.c (.fn 56 [])) [(.t 54),(.t 55)],some (53,false)⟩,⟨some 57,.not (.t 56),some (53,false)⟩,⟨some 58,.pick (.t 53) (.c (.v (.bool true))) (.t 57),none⟩]) (.cond (.t 58) (.seq (.region [⟨some 10,.mv (.c (.v (.bool true))),none⟩]) .ret) .skip)) (.seq (.region [⟨some 59,.faddr 0 (.t 5),none⟩,⟨some 60,.load none (.t 59),none⟩,⟨some 61,.len (.t 60),none⟩,⟨some 11,.mv (.t 61),none⟩]) (.seq (.draw [⟨0,⟨some 62,.faddr 1 (.t 6),none⟩,[]⟩,⟨1,⟨some 63,.load none (.t 62),none⟩,[]⟩,⟨2,⟨some 64,.mv (.t 2),none⟩,[]⟩,⟨3,⟨some 65,.mv (.t 11),none⟩,[]⟩,⟨4,⟨some 66,.iaddr 1 (.t 64) (.t 65),none⟩,[]⟩,⟨5,⟨some 67,.load none (.t 66),none⟩,[]⟩,⟨6,⟨some 68,.conv .i64 (.t 67),none⟩,[]⟩,⟨7,⟨some 69,.bin .sub (.t 63) (.t 68),none⟩,[]⟩,⟨8,⟨some 70,.mm true (.c (.v (.int .i64 0))) (.t 69),none⟩,[]⟩,⟨9,⟨some 71,.faddr 2 (.t 6),none⟩,[]⟩,⟨10,⟨some 72,.load none (.t 71),none⟩,[]⟩,⟨11,⟨some 73,.mv (.t 2),none⟩,[]⟩,⟨12,⟨some 74,.mv (.t 11),none⟩,[]⟩,⟨13,⟨some 75,.bin .add (.t 74) (.c (.v (.int .i64 1))),none⟩,[]⟩,⟨14,⟨some 76,.iaddr 1 (.t 73) (.t 75),none⟩,[]⟩,⟨15,⟨some 77,.load none (.t 76),none⟩,[]⟩,⟨16,⟨some 78,.conv .i64 (.t 77),none⟩,[]⟩,⟨17,⟨some 79,.bin .add (.t 72) (.t 78),none⟩,[]⟩,⟨18,⟨some 80,.mm false (.c (.v (.int .i64 1099511627776))) (.t 79),none⟩,[]⟩,⟨19,⟨some 81,.build [(.v .zsl),(.v (.int .i64 0)),(.v (.int .i64 0))] [(1,1,(.t 70)),(2,1,(.t 80))],none⟩,[]⟩,⟨20,⟨some 12,.alloc [(.v .zsl),(.v (.int .i64 0)),(.v (.int .i64 0))],none⟩,[⟨some 62,.faddr 1 (.t 6),none⟩,⟨some 63,.load none (.t 62),none⟩,⟨some 64,.mv (.t 2),none⟩,⟨some 65,.mv (.t 11),none⟩,⟨some 66,.iaddr 1 (.t 64) (.t 65),none⟩,⟨some 67,.load none (.t 66),none⟩,⟨some 68,.conv .i64 (.t 67),none⟩,⟨some 69,.bin .sub (.t 63) (.t 68),none⟩,⟨some 70,.mm true (.c (.v (.int .i64 0))) (.t 69),none⟩,⟨some 71,.faddr 2 (.t 6),none⟩,⟨some 72,.load none (.t 71),none⟩,⟨some 73,.mv (.t 2),none⟩,⟨some 74,.mv (.t 11),none⟩,⟨some 75,.bin .add (.t 74) (.c (.v (.int .i64 1))),none⟩,⟨some 76,.iaddr 1 (.t 73) (.t 75),none⟩,⟨some 77,.load none (.t 76),none⟩,⟨some 78,.conv .i64 (.t 77),none⟩,⟨some 79,.bin .add (.t 72) (.t 78),none⟩,⟨some 80,.mm false (.c (.v (.int .i64 1099511627776))) (.t 79),none⟩,⟨some 81,.build [(.v .zsl),(.v (.int .i64 0)),(.v (.int .i64 0))] [(1,1,(.t 70)),(2,1,(.t 80))],none⟩]⟩,⟨21,⟨none,.store 3 (.t 12) (.t 81),none⟩,[]⟩]) (.seq (.seq (.region [⟨some 82,.faddr 0 (.t 6),none⟩,⟨some 83,.load none (.t 82),none⟩,⟨some 84,.len (.t 83),none⟩,⟨some 85,.mv (.c (.v (.int .i64 0))),none⟩]) (.block 0 (.loop (.seq (.region [⟨some 86,.bin .lss (.t 85) (.t 84),none⟩]) (.seq (.cond (.t 86) .skip (.exit 0)) (.seq (.block 1 (.seq (.region [⟨some 87,.mv (.t 85),none⟩,⟨some 88,.iaddr 1 (.t 83) (.t 85),none⟩,⟨some 89,.load none (.t 88),none⟩,⟨some 13,.mv (.t 87),none⟩,⟨some 14,.mv (.t 89),none⟩]) (.draw [⟨0,⟨some 90,.faddr 0 (.t 12),none⟩,[]⟩,⟨1,⟨some 91,.load none (.t 90),none⟩,[]⟩,⟨2,⟨some 92,.mv (.t 14),none⟩,[]⟩,⟨3,⟨some 93,.mv (.t 2),none⟩,[]⟩,⟨4,⟨some 94,.mv (.t 13),none⟩,[]⟩,⟨5,⟨some 95,.iaddr 1 (.t 93) (.t 94),none⟩,[]⟩,⟨6,⟨some 96,.load none (.t 95),none⟩,[]⟩,⟨7,⟨some 97,.conv .i64 (.t 96),none⟩,[]⟩,⟨8,⟨some 98,.bin .add (.t 92) (.t 97),none⟩,[]⟩,⟨9,⟨some 99,.mm false (.c (.v (.int .i64 1099511627776))) (.t 98),none⟩,[]⟩,⟨10,⟨some 100,.bslice 1 [(.v (.int .i64 0))] 1 [(0,(.t 99))],none⟩,[⟨some 90,.faddr 0 (.t 12),none⟩,⟨some 91,.load none (.t 90),none⟩]⟩,⟨11,⟨some 101,.append 1 8 (.t 91) (.t 100),none⟩,[]⟩,⟨12,⟨some 102,.faddr 0 (.t 12),none⟩,[]⟩,⟨13,⟨none,.store 1 (.t 102) (.t 101),none⟩,[]⟩]))) (.region [⟨some 103,.bin .add (.t 85) (.c (.v (.int .i64 1))),none⟩,⟨some 85,.mv (.t 103),none⟩]))))))) (.seq (.region [⟨some 105,.load (some 1) (.t 5),none⟩,⟨some 106,.load (some 3) (.t 6),none⟩,⟨some 107,.call (.c (.fn 58 [])) [(.t 105),(.t 106)],none⟩,⟨some 104,.mv (.t 107),none⟩,⟨some 108,.extract 0 (.t 104),none⟩,⟨some 109,.extract 1 (.t 104),none⟩,⟨some 15,.mv (.t 108),none⟩,⟨some 16,.mv (.t 109),none⟩]) (.seq (.region [⟨some 111,.load (some 1) (.t 5),none⟩,⟨some 112,.load (some 3) (.t 12),none⟩,⟨some 113,.call (.c (.fn 58 [])) [(.t 111),(.t 112)],none⟩,⟨some 110,.mv (.t 113),none⟩,⟨some 114,.extract 0 (.t 110),none⟩,⟨some 115,.extract 1 (.t 110),none⟩,⟨some 17,.mv (.t 114),none⟩,⟨some 18,.mv (.t 115),none⟩]) (.seq (.region [⟨some 117,.load (some 1) (.t 5),none⟩,⟨some 118,.load (some 3) (.t 6),none⟩,⟨some 119,.load (some 2) (.t 8),none⟩,⟨some 120,.load (some 2) (.t 9),none⟩,⟨some 121,.call (.c (.fn 59 [])) [(.t 117),(.t 118),(.t 119),(.t 120)],none⟩,⟨some 116,.mv (.t 121),none⟩,⟨some 122,.extract 0 (.t 116),none⟩,⟨some 123,.extract 1 (.t 116),none⟩,⟨some 19,.mv (.t 122),none⟩,⟨some 20,.mv (.t 123),none⟩]) (.seq (.region [⟨some 125,.load (some 1) (.t 5),none⟩,⟨some 126,.load (some 3) (.t 12),none⟩,⟨some 127,.load (some 2) (.t 8),none⟩,⟨some 128,.load (some 2) (.t 9),none⟩,⟨some 129,.call (.c (.fn 59 [])) [(.t 125),(.t 126),(.t 127),(.t 128)],none⟩,⟨some 124,.mv (.t 129),none⟩,⟨some 130,.extract 0 (.t 124),none⟩,⟨some 131,.extract 1 (.t 124),none⟩,⟨some 21,.mv (.t 130),none⟩,⟨some 22,.mv (.t 131),none⟩]) (.seq (.seq (.region [⟨some 132,.mv (.t 16),none⟩,⟨some 133,.bin .neq (.t 132) (.c (.v (.int .i64 0))),none⟩]) (.cond (.t 133) (.seq (.region [⟨some 134,.mv (.t 16),none⟩,⟨some 135,.bin .eql (.t 134) (.c (.v (.int .i64 11))),none⟩,⟨some 10,.mv (.t 135),none⟩]) .ret) .skip)) (.seq (.seq (.region [⟨some 136,.mv (.t 18),none⟩,⟨some 137,.bin .neq (.t 136) (.c (.v (.int .i64 0))),none⟩,⟨some 138,.mv (.t 137),none⟩,⟨some 139,.mv (.t 20),some (138,false)⟩,⟨some 140,.bin .neq (.t 139) (.c (.v (.int .i64 0))),some (138,false)⟩,⟨some 141,.pick (.t 138) (.c (.v (.bool true))) (.t 140),none⟩,⟨some 142,.mv (.t 141),none⟩,⟨some 143,.mv (.t 22),some (142,false)⟩,⟨some 144,.bin .neq (.t 143) (.c (.v (.int .i64 0))),some (142,false)⟩,⟨some 145,.pick (.t 142) (.c (.v (.bool true))) (.t 144),none⟩,⟨some 146,.mv (.t 145),none⟩,⟨some 147,.mv (.t 21),some (146,false)⟩,⟨some 148,.mv (.t 147),some (146,false)⟩,⟨some 149,.mv (.t 19),some (148,true)⟩,⟨some 150,.not (.t 149),some (148,true)⟩,⟨some 151,.pick (.t 148) (.t 150) (.c (.v (.bool false))),some (146,false)⟩,⟨some 152,.pick (.t 146) (.c (.v (.bool true))) (.t 151),none⟩,⟨some 153,.mv (.t 152),none⟩,⟨some 154,.mv (.t 15),some (153,false)⟩,⟨some 155,.len (.t 154),some (153,false)⟩,⟨some 156,.mv (.t 11),some (153,false)⟩,⟨some 157,.bin .neq (.t 155) (.t 156),some (153,false)⟩,⟨some 158,.pick (.t 153) (.c (.v (.bool true))) (.t 157),none⟩,⟨some 159,.mv (.t 158),none⟩,⟨some 160,.mv (.t 17),some (159,false)⟩,⟨some 161,.len (.t 160),some (159,false)⟩,⟨some 162,.mv (.t 11),some (159,false)⟩,⟨some 163,.bin .neq (.t 161) (.t 162),some (159,false)⟩,⟨some 164,.pick (.t 159) (.c (.v (.bool true))) (.t 163),none⟩]) (.cond (.t 164) (.seq (.region [⟨some 10,.mv (.c (.v (.bool false))),none⟩]) .ret) .skip)) (.seq (.seq (.region [⟨some 165,.mv (.t 15),none⟩,⟨some 166,.len (.t 165),none⟩,⟨some 167,.mv (.c (.v (.int .i64 0))),none⟩]) (.block 2 (.loop (.seq (.region [⟨some 168,.bin .lss (.t 167) (.t 166),none⟩]) (.seq (.cond (.t 168) .skip (.exit 2)) (.seq (.block 3 (.seq (.region [⟨some 169,.mv (.t 167),none⟩,⟨some 170,.iaddr 1 (.t 165) (.t 167),none⟩,⟨some 171,.load none (.t 170),none⟩,⟨some 23,.mv (.t 169),none⟩,⟨some 24,.mv (.t 171),none⟩]) (.seq (.seq (.region [⟨some 172,.mv (.t 24),none⟩,⟨some 173,.len (.t 172),none⟩,⟨some 174,.faddr 0 (.t 5),none⟩,⟨some 175,.load none (.t 174),none⟩,⟨some 176,.mv (.t 23),none⟩,⟨some 177,.iaddr 3 (.t 175) (.t 176),none⟩,⟨some 178,.faddr 2 (.t 177),none⟩,⟨some 179,.load none (.t 178),none⟩,⟨some 180,.len (.t 179),none⟩,⟨some 181,.bin .neq (.t 173) (.t 180),none⟩,⟨some 182,.mv (.t 181),none⟩,⟨some 183,.mv (.t 17),some (182,false)⟩,⟨some 184,.mv (.t 23),some (182,false)⟩,⟨some 185,.iaddr 1 (.t 183) (.t 184),some (182,false)⟩,⟨some 186,.load none (.t 185),some (182,false)⟩,⟨some 187,.len (.t 186),some (182,false)⟩,⟨some 188,.mv (.t 24),some (182,false)⟩,⟨some 189,.len (.t 188),some (182,false)⟩,⟨some 190,.bin .neq (.t 187) (.t 189),some (182,false)⟩,⟨some 191,.pick (.t 182) (.c (.v (.bool true))) (.t 190),none⟩]) (.cond (.t 191) (.seq (.region [⟨some 10,.mv (.c (.v (.bool false))),none⟩]) .ret) .skip)) (.seq (.region [⟨some 192,.mv (.t 24),none⟩,⟨some 193,.len (.t 192),none⟩,⟨some 194,.mv (.c (.v (.int .i64 0))),none⟩]) (.block 4 (.loop (.seq (.region [⟨some 195,.bin .lss (.t 194) (.t 193),none⟩]) (.seq (.cond (.t 195) .skip (.exit 4)) (.seq (.block 5 (.seq (.region [⟨some 196,.mv (.t 194),none⟩,⟨some 197,.iaddr 2 (.t 192) (.t 194),none⟩,⟨some 198,.load (some 2) (.t 197),none⟩,⟨some 26,.alloc [(.v (.int .i64 0)),(.v (.int .i64 0))],none⟩,⟨some 25,.mv (.t 196),none⟩,⟨none,.store 2 (.t 26) (.t 198),none⟩]) (.seq (.draw [⟨0,⟨some 199,.mv (.t 17),none⟩,[]⟩,⟨1,⟨some 200,.mv (.t 23),none⟩,[]⟩,⟨2,⟨some 201,.iaddr 1 (.t 199) (.t 200),none⟩,[]⟩,⟨3,⟨some 202,.load none (.t 201),none⟩,[]⟩,⟨4,⟨some 203,.mv (.t 25),none⟩,[]⟩,⟨5,⟨some 204,.iaddr 2 (.t 202) (.t 203),none⟩,[]⟩,⟨6,⟨some 205,.iaddrA 2 1 (.t 204) (.c (.v (.int .i64 0))),none⟩,[]⟩,⟨7,⟨some 206,.load none (.t 205),none⟩,[]⟩,⟨8,⟨some 207,.iaddrA 2 1 (.t 26) (.c (.v (.int .i64 0))),none⟩,[]⟩,⟨9,⟨some 208,.load none (.t 207),none⟩,[]⟩,⟨10,⟨some 209,.bin .gtr (.t 206) (.t 208),none⟩,[]⟩,⟨11,⟨some 210,.mv (.t 209),none⟩,[]⟩,⟨12,⟨some 211,.mv (.t 17),some (210,false)⟩,[]⟩,⟨13,⟨some 212,.mv (.t 23),some (210,false)⟩,[]⟩,⟨14,⟨some 213,.iaddr 1 (.t 211) (.t 212),some (210,false)⟩,[]⟩,⟨15,⟨some 214,.load none (.t 213),some (210,false)⟩,[]⟩,⟨16,⟨some 215,.mv (.t 25),some (210,false)⟩,[]⟩,⟨17,⟨some 216,.iaddr 2 (.t 214) (.t 215),some (210,false)⟩,[]⟩,⟨18,⟨some 217,.iaddrA 2 1 (.t 216) (.c (.v (.int .i64 1))),some (210,false)⟩,[]⟩,⟨19,⟨some 218,.load none (.t 217),some (210,false)⟩,[]⟩,⟨20,⟨some 219,.iaddrA 2 1 (.t 26) (.c (.v (.int .i64 1))),some (210,false)⟩,[]⟩,⟨21,⟨some 220,.load none (.t 219),some (210,false)⟩,[]⟩,⟨22,⟨some 221,.bin .lss (.t 218) (.t 220),some (210,false)⟩,[]⟩,⟨23,⟨some 222,.pick (.t 210) (.c (.v (.bool true))) (.t 221),none⟩,[]⟩]) (.cond (.t 222) (.seq (.region [⟨some 10,.mv (.c (.v (.bool false))),none⟩]) .ret) .skip)))) (.region [⟨some 223,.bin .add (.t 194) (.c (.v (.int .i64 1))),none⟩,⟨some 194,.mv (.t 223),none⟩])))))))))) (.region [⟨some 224,.bin .add (.t 167) (.c (.v (.int .i64 1))),none⟩,⟨some 167,.mv (.t 224),none⟩]))))))) (.seq (.region [⟨some 225,.load (some 1) (.t 5),none⟩,⟨some 226,.call (.c (.fn 36 [])) [(.t 225)],none⟩,⟨some 10,.mv (.t 226),none⟩]) .ret))))))))))))))⟩
theorem a_driftWider_ok : cFunc Try.prog 9 = some a_driftWider := by kernel_rfl
def r_driftWider0 : List (Nat × Nat) := [(13, 14), (85, 103)]
def r_driftWider1 : List (Nat × Nat) := [(10, 10), (23, 26), (167, 224)]
def r_driftWider2 : List (Nat × Nat) := [(10, 10), (25, 26), (194, 223)]

def wdE (bn : Bn) (mo : List Int) (n : Nat) : List Int := fl n fun p => if erB bn p + mo.getD p 0 < 1099511627776 then erB bn p + mo.getD p 0 else 1099511627776
def wdB (bn : Bn) (mo : List Int) (n : Nat) : Bn := ⟨wdE bn mo n, if bn.lo - mo.getD n 0 > 0 then bn.lo - mo.getD n 0 else 0, if bn.hi + mo.getD (n + 1) 0 < 1099511627776 then bn.hi + mo.getD (n + 1) 0 else 1099511627776⟩
theorem wd_next {bn : Bn} {mo : List Int} {n : Nat} : (wdE bn mo n).map eI ++ [[.int .i64 (if erB bn n + mo.getD n 0 < 1099511627776 then erB bn n + mo.getD n 0 else 1099511627776)]] = (wdE bn mo (n + 1)).map eI := by
 unfold wdE
 rw [fl_map, fl_map]
 exact fl_next rfl
theorem mo_bd {mo : List Int} (h : ∀ n ∈ mo, 0 ≤ n ∧ n < 256) (i : Nat) : 0 ≤ mo.getD i 0 ∧ mo.getD i 0 < 256 := by
 by_cases hi : i < mo.length
 ·rw [List.getD_eq_getElem?_getD, List.getElem?_eq_getElem hi]
  exact h _ (List.getElem_mem hi)
 ·rw [List.getD_eq_getElem?_getD, List.getElem?_eq_none oM]
  decide
theorem wd_ok {t : Tr} {bn : Bn} {mo : List Int} (hv : bnB t bn = true) (hm : ∀ n ∈ mo, 0 ≤ n ∧ n < 256) : bnB t (wdB bn mo t.length) = true ∧ Wdr t bn (wdB bn mo t.length) := by
 obtain ⟨hval, h⟩ := bn_ok hv
 have hlo := h.lo
 have hle := h.le
 have hhi := h.hi
 unfold MT at hhi
 have m0 := mo_bd hm t.length
 have m1 := mo_bd hm (t.length + 1)
 have hE : ∀ p, p < t.length → erB (wdB bn mo t.length) p = (if erB bn p + mo.getD p 0 < 1099511627776 then erB bn p + mo.getD p 0 else 1099511627776) := fun p hp => by
  unfold erB wdB wdE
  exact fl_getD hp
 have hw : bnB t (wdB bn mo t.length) = true := by
  unfold bnB
  have e1 : (wdB bn mo t.length).er.length = t.length := fl_len
  have e2 : 0 ≤ (wdB bn mo t.length).lo := by unfold wdB; simp only; split <;> omega
  have e3 : (wdB bn mo t.length).lo ≤ (wdB bn mo t.length).hi := by unfold wdB; simp only; split <;> split <;> omega
  have e4 : (wdB bn mo t.length).hi ≤ MT := by unfold wdB MT; simp only; split <;> omega
  have e5 : (wdB bn mo t.length).er.all (fun e => inB e 0 MT) = true := by
   rw [List.all_eq_true]
   intro e he
   obtain ⟨p, hp, rfl⟩ := List.getElem_of_mem he
   have hp2 : p < t.length := by rw [e1] at hp; exact hp
   have := hE p hp2
   unfold erB at this
   rw [List.getD_eq_getElem?_getD, List.getElem?_eq_getElem hp] at this
   simp only [Option.getD_some] at this
   rw [this]
   have b1 := h.er p
   have b2 := mo_bd hm p
   unfold MT at b1
   unfold inB MT erB at *
   simp only [Bool.and_eq_true, decide_eq_true_eq]
   split <;> omega
  simp only [hval, e1, e2, e3, e4, e5, decide_true, Bool.and_self]
 refine ⟨hw, h, (bn_ok hw).2, by unfold wdB; simp only; split <;> omega, by unfold wdB; simp only; split <;> omega, fun p hp => ?_⟩
 rw [hE p hp]
 have b1 := h.er p
 have b2 := mo_bd hm p
 unfold MT at b1
 split <;> omega
theorem cert_form' (t : Tr) (bn : Bn) (x y : Int × Int) : ∃ cv ce, certR t bn x y = .tup [.v (.bool cv), .v (.int .i64 ce)] := by
 unfold certR
 split
 ·exact ⟨_, _, rfl⟩
 split
 ·exact ⟨_, _, rfl⟩
 split <;> exact ⟨_, _, rfl⟩
theorem tight_form (t : Tr) (bn : Bn) : ∃ tv te, tightR t bn = .tup [.v tv, .v (.int .i64 te)] := by
 unfold tightR
 split
 ·exact ⟨_, _, rfl⟩
 split <;> exact ⟨_, _, rfl⟩
set_option maxRecDepth 100000
set_option maxHeartbeats 16000000 in
theorem driftWider_run (t : Tr) (hN : Nm t) (bn : Bn) (hbl : bn.er.length ≤ 9223372036854775807) (mo : List Int) (hml : mo.length ≤ 9223372036854775807) (hm : ∀ n ∈ mo, 0 ≤ n ∧ n < 256) (x y : Int × Int) (b l : List Row) :
  ACalls Try.prog 9 [.agg [.v (eT t)], .agg (eBn bn), .v (.isl 1 (mo.map e8)), idP x, idP y] b l (fun r b' l' => r = .v (.bool true) ∧ b' = b ∧ l' = l) := by
 refine calls_kept a_driftWider_ok rfl (by decide) ?_
 intro B g hB hR hE hA
 simp only [KArgs] at hA
 have eTe : eT t = .isl 3 (t.map ePr) := rfl
 simp only [eBn, eTe, idP] at hA
 have cF := fun b l => few19_spec t b l
 simp only [eTe] at cF
 simp (disch := (first | decide | omega)) only [a_driftWider, hA, go_sem]
 refine ACalls.nxt (awake19_spec _ _) ?_
 simp (disch := (first | decide | omega)) only [hA, go_sem]
 refine ACalls.nxt (cF _ _) ?_
 cases hf : few19B t with
 | false =>
   simp (disch := (first | decide | omega)) only [hA, go_sem]
   exact leave_pure (xs := [.v (.bool true)]) (.inr rfl) (by simp (disch := (first | decide | omega)) only [resVs, resV, go_sem, hA]) kO hR hB ⟨rfl, rfl, rfl⟩
 | true =>
   have hS := (few19_in hf).2.1
   obtain ⟨hn, he70, hC⟩ := len_few19 hf
   have cV := fun b l => rValid19_specW t hS hN bn hbl b l
   have cX := fun b l => rEvent19_spec t hS x b l
   have cY := fun b l => rEvent19_spec t hS y b l
   simp only [eBn, eTe, idP] at cV cX cY
   cases hv : bnB t bn with
   | false =>
     rw [hv] at cV
     simp (disch := (first | decide | omega)) only [hA, go_sem]
     refine ACalls.nxt (cV _ _) ?_
     simp (disch := (first | decide | omega)) only [hA, go_sem]
     exact leave_pure (xs := [.v (.bool true)]) (.inr rfl) (by simp (disch := (first | decide | omega)) only [resVs, resV, go_sem, hA]) kO hR hB ⟨rfl, rfl, rfl⟩
   | true =>
     obtain ⟨hval, hok⟩ := bn_ok hv
     have hbl2 : bn.er.length ≤ 4611686018427387904 := by have := hok.len; omega
     rw [hv] at cV
     simp (disch := (first | decide | omega)) only [hA, go_sem]
     refine ACalls.nxt (cV _ _) ?_
     by_cases hm2 : mo.length < t.length + 2
     ·have hd : decide ((mo.length : Int) < (t.length : Int) + 2) = true := decide_eq_true oM
      simp (disch := (first | decide | omega)) only [hA, List.length_map, hd, go_sem]
      exact leave_pure (xs := [.v (.bool true)]) (.inr rfl) (by simp (disch := (first | decide | omega)) only [resVs, resV, go_sem, hA]) kO hR hB ⟨rfl, rfl, rfl⟩
     have hd : decide ((mo.length : Int) < (t.length : Int) + 2) = false := decide_eq_false oM
     simp (disch := (first | decide | omega)) only [hA, List.length_map, hd, go_sem]
     refine ACalls.nxt (cX _ _) ?_
     cases hx : existsB t x.1 x.2 with
     | false =>
       simp (disch := (first | decide | omega)) only [hA, go_sem]
       exact leave_pure (xs := [.v (.bool true)]) (.inr rfl) (by simp (disch := (first | decide | omega)) only [resVs, resV, go_sem, hA]) kO hR hB ⟨rfl, rfl, rfl⟩
     | true =>
       simp (disch := (first | decide | omega)) only [hA, go_sem]
       refine ACalls.nxt (cY _ _) ?_
       cases hy : existsB t y.1 y.2 with
       | false =>
         simp (disch := (first | decide | omega)) only [hA, go_sem]
         exact leave_pure (xs := [.v (.bool true)]) (.inr rfl) (by simp (disch := (first | decide | omega)) only [resVs, resV, go_sem, hA]) kO hR hB ⟨rfl, rfl, rfl⟩
       | true =>
         have g0 : (mo.map e8)[t.length]? = some [.int .u8 (mo.getD t.length 0)] := by
          rw [List.getElem?_map, List.getD_eq_getElem?_getD, List.getElem?_eq_getElem oM]; rfl
         have g1 : (mo.map e8)[t.length + 1]? = some [.int .u8 (mo.getD (t.length + 1) 0)] := by
          rw [List.getElem?_map, List.getD_eq_getElem?_getD, List.getElem?_eq_getElem oM]; rfl
         have m0 := mo_bd hm t.length
         have m1 := mo_bd hm (t.length + 1)
         have hc1 : (t.length : Int) + 1 = ((t.length + 1 : Nat) : Int) := by omega
         have b1 := hok.lo
         have b2 := hok.le
         have b3 := hok.hi
         unfold MT at b3
         have hel := hok.len
         obtain ⟨hwv, hW⟩ := wd_ok hv hm
         obtain ⟨wl, hwl⟩ : ∃ z, z = (if bn.lo - mo.getD t.length 0 > 0 then bn.lo - mo.getD t.length 0 else 0) := ⟨_, rfl⟩
         obtain ⟨wh, hwh⟩ : ∃ z, z = (if bn.hi + mo.getD (t.length + 1) 0 < 1099511627776 then bn.hi + mo.getD (t.length + 1) 0 else 1099511627776) := ⟨_, rfl⟩
         have ewd : eBn (wdB bn mo t.length) = [.v (.isl 1 ((wdE bn mo t.length).map eI)), .v (.int .i64 wl), .v (.int .i64 wh)] := by rw [hwl, hwh]; rfl
         have wel : (wdE bn mo t.length).length = t.length := fl_len
         simp (disch := (first | decide | omega)) only [hA, List.length_map, g0, g1, hc1, ← hwl, ← hwh, go_sem]
         refine loop_kept (ι := Nat) r_driftWider0 (fun i => [(85, .v (.int .i64 i))]) 6 (fun i => [.live 0 1 [[.v (.isl 3 (t.map ePr))]], .live 0 3 [[.v (.isl 1 (bn.er.map eI)), .v (.int .i64 bn.lo), .v (.int .i64 bn.hi)]], .live 0 2 [[.v (.int .i64 x.1), .v (.int .i64 x.2)]], .live 0 2 [[.v (.int .i64 y.1), .v (.int .i64 y.2)]], .live 0 3 [[.sl (B.length + 5) i 0 i, .v (.int .i64 wl), .v (.int .i64 wh)]], .live i 1 (vs ((wdE bn mo i).map eI))])
          (fun i => i ≤ t.length) (fun i => t.length - i) 0 (Nat.zero_le _) (by (repeat (first | exact hE.mono oM | refine KLt.up ?_ kL))) (by ((try simp (disch := decide) only [hA, go_sem]) <;> exact kH)) (fun e => by
           have h := Weak.nilcell (e := e) (b := B) (l := [.live 0 1 [[.v (.isl 3 (t.map ePr))]], .live 0 3 [[.v (.isl 1 (bn.er.map eI)), .v (.int .i64 bn.lo), .v (.int .i64 bn.hi)]], .live 0 2 [[.v (.int .i64 x.1), .v (.int .i64 x.2)]], .live 0 2 [[.v (.int .i64 y.1), .v (.int .i64 y.2)]], .live 0 3 [[.v .zsl, .v (.int .i64 wl), .v (.int .i64 wh)]]]) (i := 4) (k := 0) (j := 0) (sz := 1) rfl rfl rfl
           exact h) ?_
         intro f1 hE1 hEE1 hg1 i hi
         by_cases hil : i < t.length
         ·have gE : (bn.er.map eI)[i]? = some [.int .i64 (erB bn i)] := by
           unfold erB
           rw [List.getElem?_map, List.getD_eq_getElem?_getD, List.getElem?_eq_getElem oM]; rfl
          have gM : (mo.map e8)[i]? = some [.int .u8 (mo.getD i 0)] := by
           rw [List.getElem?_map, List.getD_eq_getElem?_getD, List.getElem?_eq_getElem oM]; rfl
          have b4 := hok.er i
          unfold MT at b4
          have m2 := mo_bd hm i
          have tl : (wdE bn mo i).length = i := fl_len
          have tk : List.take i ((wdE bn mo i).map eI) = (wdE bn mo i).map eI := List.take_of_length_le (by rw [List.length_map, tl]; exact Nat.le_refl _)
          simp (disch := (first | decide | omega)) only [hA, hg1, hel, gE, gM, tl, tk, wd_next, List.length_map, List.replicate_succ, List.replicate_zero, setFrom, cellsOf, go_sem]
          refine ⟨i + 1, hil, by simp only; omega, ?_⟩
          exact Weak.kround (p := r_driftWider0) (k := 6) (by ((repeat refine (kAny_up rfl).trans ?_); exact hEE1)) (by ((try simp (disch := decide) only [hA, go_sem]) <;> exact kH)) rfl hE1 (by simp) kV hR kL
         ·obtain rfl : i = t.length := by omega
          have cT := fun b l => dTight_spec t hS hN hn he70 hC bn hbl2 b l
          have cU := fun b l => dTight_spec t hS hN hn he70 hC (wdB bn mo t.length) (by unfold wdB; simp only [wel]; omega) b l
          have cC := fun b l => dCert_spec t hS hN hn he70 hC bn hbl2 x y b l
          have cD := fun b l => dCert_spec t hS hN hn he70 hC (wdB bn mo t.length) (by unfold wdB; simp only [wel]; omega) x y b l
          have cR := fun b l => rvalid_spec t hS hN b l
          simp only [ewd] at cU cD
          simp only [eBn, eTe, idP] at cT cU cC cD cR
          have z2 : ((11 : Int) == 11) = true := rfl
          have z4 : ((0 : Int) != 0) = false := rfl
          have z5 : ((11 : Int) != 0) = true := rfl
          have hdv : Dv (B.length + 5) [.live t.length 1 (vs ((wdE bn mo t.length).map eI))] (.sl (B.length + 5) t.length 0 t.length) (.v (.isl 1 ((wdE bn mo t.length).map eI))) := Dv.slV (i := 0) rfl (by simp [wel])
          cases hk : okB t bn with
          | false =>
            have e1 : tightR t bn = .tup [.v .zsl, .v (.int .i64 11)] := by unfold tightR; rw [if_neg (by rw [hv]; decide), if_pos hk]
            obtain ⟨tv, te, hte⟩ := tight_form t (wdB bn mo t.length)
            obtain ⟨cv, ce, hce⟩ := cert_form' t bn x y
            obtain ⟨dv, de, hde⟩ := cert_form' t (wdB bn mo t.length) x y
            simp only [e1] at cT
            simp only [hte] at cU
            simp only [hce] at cC
            simp only [hde] at cD
            simp (disch := (first | decide | omega)) only [hA, hg1, hel, List.length_map, z2, z4, z5, go_sem]
            refine ACalls.nxt (cT _ _) ?_
            simp (disch := (first | decide | omega)) only [hA, hg1, z2, z4, z5, go_sem]
            refine ACalls.deepCellG (l1 := [.live 0 1 [[.v (.isl 3 (t.map ePr))]], .live 0 3 [[.v (.isl 1 (bn.er.map eI)), .v (.int .i64 bn.lo), .v (.int .i64 bn.hi)]], .live 0 2 [[.v (.int .i64 x.1), .v (.int .i64 x.2)]], .live 0 2 [[.v (.int .i64 y.1), .v (.int .i64 y.2)]], .live 0 3 [[.sl (B.length + 5) t.length 0 t.length, .v (.int .i64 wl), .v (.int .i64 wh)]]]) (N := [.live t.length 1 (vs ((wdE bn mo t.length).map eI))]) (l2 := []) (i0 := 4) (k0 := 0) (j0 := 0) (args' := [.agg [.v (.isl 3 (t.map ePr))], .agg [.v (.isl 1 ((wdE bn mo t.length).map eI)), .v (.int .i64 wl), .v (.int .i64 wh)]]) rfl (fun i y z hy hz => ?_) rfl rfl rfl hdv ?_
            ·match i, hy, hz with
             | 0, hy, hz => cases hy; cases hz; exact Dv.aggL (.cons (.v _) .nil)
             | 1, hy, hz => cases hy; cases hz; exact Dv.aggL (.cons hdv (.cons (.v _) (.cons (.v _) .nil)))
             | i + 2, hy, hz => simp at hy
            change ACalls _ _ _ _ [.live 0 1 [[.v (.isl 3 (t.map ePr))]], .live 0 3 [[.v (.isl 1 (bn.er.map eI)), .v (.int .i64 bn.lo), .v (.int .i64 bn.hi)]], .live 0 2 [[.v (.int .i64 x.1), .v (.int .i64 x.2)]], .live 0 2 [[.v (.int .i64 y.1), .v (.int .i64 y.2)]], .live 0 3 [[.v (.isl 1 ((wdE bn mo t.length).map eI)), .v (.int .i64 wl), .v (.int .i64 wh)]], .dead t.length] _
            refine ACalls.nxt (cU _ _) ?_
            simp (disch := (first | decide | omega)) only [hA, hg1, z2, z4, z5, go_sem]
            refine ACalls.nxt (cC _ _) ?_
            simp (disch := (first | decide | omega)) only [hA, hg1, z2, z4, z5, go_sem]
            refine ACalls.nxt (cD _ _) ?_
            simp (disch := (first | decide | omega)) only [hA, hg1, z2, z4, z5, go_sem]
            exact leave_pure (xs := [.v (.bool true)]) (.inr rfl) (by simp (disch := (first | decide | omega)) only [resVs, resV, go_sem, hA]) kO hR hB ⟨rfl, rfl, rfl⟩
          | true =>
            have hk2 := hW.ok hk
            have e1 : tightR t bn = .tup [.v (.isl 1 (tiAll t bn t.length)), .v (.int .i64 0)] := by unfold tightR; rw [if_neg (by rw [hv]; decide), if_neg (by rw [hk]; decide)]
            have e2 : tightR t (wdB bn mo t.length) = .tup [.v (.isl 1 (tiAll t (wdB bn mo t.length) t.length)), .v (.int .i64 0)] := by unfold tightR; rw [if_neg (by rw [hwv]; decide), if_neg (by rw [hk2]; decide)]
            obtain ⟨p, ix, hpi, rfl⟩ := id_back hx
            obtain ⟨q0, jx, hqj, rfl⟩ := id_back hy
            simp only at hx hy
            have e3 : certR t bn ((p : Int), ((ix + 1 : Nat) : Int)) ((q0 : Int), ((jx + 1 : Nat) : Int)) = .tup [.v (.bool (cerB t bn (p, ix + 1) (q0, jx + 1))), .v (.int .i64 0)] := by
             unfold certR
             rw [if_neg (by rw [hv]; decide), if_neg (by simp only [hx, hy]; decide), if_neg (by rw [hk]; decide)]
             simp only [Int.toNat_natCast]
            have e4 : certR t (wdB bn mo t.length) ((p : Int), ((ix + 1 : Nat) : Int)) ((q0 : Int), ((jx + 1 : Nat) : Int)) = .tup [.v (.bool (cerB t (wdB bn mo t.length) (p, ix + 1) (q0, jx + 1))), .v (.int .i64 0)] := by
             unfold certR
             rw [if_neg (by rw [hwv]; decide), if_neg (by simp only [hx, hy]; decide), if_neg (by rw [hk2]; decide)]
             simp only [Int.toNat_natCast]
            have hcd : cerB t (wdB bn mo t.length) (p, ix + 1) (q0, jx + 1) = true → cerB t bn (p, ix + 1) (q0, jx + 1) = true := fun h => hW.cer hk hpi hqj h
            obtain ⟨cw, hcw⟩ : ∃ z, cerB t (wdB bn mo t.length) (p, ix + 1) (q0, jx + 1) = z := ⟨_, rfl⟩
            obtain ⟨cb, hcb⟩ : ∃ z, cerB t bn (p, ix + 1) (q0, jx + 1) = z := ⟨_, rfl⟩
            rw [hcw, hcb] at hcd
            simp only [e1] at cT
            simp only [e2] at cU
            simp only [e3, hcb] at cC
            simp only [e4, hcw] at cD
            simp only [hval] at cR
            have tl1 : (tiAll t bn t.length).length = t.length := fl_len
            have tl2 : (tiAll t (wdB bn mo t.length) t.length).length = t.length := fl_len
            have zn : ((t.length : Int) != (t.length : Int)) = false := bne_self_eq_false _
            have hnp := hS.np
            cases cw with
            | false =>
              simp (disch := (first | decide | omega)) only [hA, hg1, hel, List.length_map, z2, z4, z5, go_sem]
              refine ACalls.nxt (cT _ _) ?_
              simp (disch := (first | decide | omega)) only [hA, hg1, z2, z4, z5, go_sem]
              refine ACalls.deepCellG (l1 := [.live 0 1 [[.v (.isl 3 (t.map ePr))]], .live 0 3 [[.v (.isl 1 (bn.er.map eI)), .v (.int .i64 bn.lo), .v (.int .i64 bn.hi)]], .live 0 2 [[.v (.int .i64 p), .v (.int .i64 (ix + 1 : Nat))]], .live 0 2 [[.v (.int .i64 q0), .v (.int .i64 (jx + 1 : Nat))]], .live 0 3 [[.sl (B.length + 5) t.length 0 t.length, .v (.int .i64 wl), .v (.int .i64 wh)]]]) (N := [.live t.length 1 (vs ((wdE bn mo t.length).map eI))]) (l2 := []) (i0 := 4) (k0 := 0) (j0 := 0) (args' := [.agg [.v (.isl 3 (t.map ePr))], .agg [.v (.isl 1 ((wdE bn mo t.length).map eI)), .v (.int .i64 wl), .v (.int .i64 wh)]]) rfl (fun i y z hy hz => ?_) rfl rfl rfl hdv ?_
              ·match i, hy, hz with
               | 0, hy, hz => cases hy; cases hz; exact Dv.aggL (.cons (.v _) .nil)
               | 1, hy, hz => cases hy; cases hz; exact Dv.aggL (.cons hdv (.cons (.v _) (.cons (.v _) .nil)))
               | i + 2, hy, hz => simp at hy
              change ACalls _ _ _ _ [.live 0 1 [[.v (.isl 3 (t.map ePr))]], .live 0 3 [[.v (.isl 1 (bn.er.map eI)), .v (.int .i64 bn.lo), .v (.int .i64 bn.hi)]], .live 0 2 [[.v (.int .i64 p), .v (.int .i64 (ix + 1 : Nat))]], .live 0 2 [[.v (.int .i64 q0), .v (.int .i64 (jx + 1 : Nat))]], .live 0 3 [[.v (.isl 1 ((wdE bn mo t.length).map eI)), .v (.int .i64 wl), .v (.int .i64 wh)]], .dead t.length] _
              refine ACalls.nxt (cU _ _) ?_
              simp (disch := (first | decide | omega)) only [hA, hg1, z2, z4, z5, go_sem]
              refine ACalls.nxt (cC _ _) ?_
              simp (disch := (first | decide | omega)) only [hA, hg1, z2, z4, z5, go_sem]
              refine ACalls.nxt (cD _ _) ?_
              simp (disch := (first | decide | omega)) only [hA, hg1, z2, z4, z5, tl1, tl2, zn, go_sem]
              refine loop_kept (ι := Nat) r_driftWider1 (fun q => [(167, .v (.int .i64 q))]) 6 (fun q => [.live 0 1 [[.v (.isl 3 (t.map ePr))]], .live 0 3 [[.v (.isl 1 (bn.er.map eI)), .v (.int .i64 bn.lo), .v (.int .i64 bn.hi)]], .live 0 2 [[.v (.int .i64 p), .v (.int .i64 (ix + 1 : Nat))]], .live 0 2 [[.v (.int .i64 q0), .v (.int .i64 (jx + 1 : Nat))]], .live 0 3 [[.v (.isl 1 ((wdE bn mo t.length).map eI)), .v (.int .i64 wl), .v (.int .i64 wh)]], .dead t.length]) (fun q => q ≤ t.length) (fun q => t.length - q) 0 (Nat.zero_le _) (by (repeat (first | exact hE1.mono oM | refine KLt.up ?_ kL))) (by ((try simp (disch := decide) only [hA, hg1, go_sem]) <;> exact kH)) (fun e => Weak.refl _ _ _) ?_
              intro f2 hE2 hEE2 hg2 q hq
              by_cases hlt : q < t.length
              ·have heq := evsOf_lt hlt
               have hne := hS.ne _ (List.getElem_mem hlt)
               have hgr : (tiAll t bn t.length)[q]? = some [.isl 2 (tiR t bn q t[q].evs.length)] := by rw [← heq]; exact fl_get hlt
               have hgs : (tiAll t (wdB bn mo t.length) t.length)[q]? = some [.isl 2 (tiR t (wdB bn mo t.length) q t[q].evs.length)] := by rw [← heq]; exact fl_get hlt
               have trl : (tiR t bn q t[q].evs.length).length = t[q].evs.length := fl_len
               have trs : (tiR t (wdB bn mo t.length) q t[q].evs.length).length = t[q].evs.length := fl_len
               have zq : ((t[q].evs.length : Int) != (t[q].evs.length : Int)) = false := bne_self_eq_false _
               simp (disch := (first | decide | omega)) only [hA, hg1, hg2, hgr, hgs, tl1, tl2, trl, trs, List.length_map, ePr, zq, go_sem]
               refine loop_kept (ι := Nat) r_driftWider2 (fun j => [(194, .v (.int .i64 j))]) 6 (fun j => [.live 0 1 [[.v (.isl 3 (t.map ePr))]], .live 0 3 [[.v (.isl 1 (bn.er.map eI)), .v (.int .i64 bn.lo), .v (.int .i64 bn.hi)]], .live 0 2 [[.v (.int .i64 p), .v (.int .i64 (ix + 1 : Nat))]], .live 0 2 [[.v (.int .i64 q0), .v (.int .i64 (jx + 1 : Nat))]], .live 0 3 [[.v (.isl 1 ((wdE bn mo t.length).map eI)), .v (.int .i64 wl), .v (.int .i64 wh)]], .dead t.length]) (fun j => j ≤ t[q].evs.length) (fun j => t[q].evs.length - j) 0 (Nat.zero_le _) (by (repeat (first | exact hE2.mono oM | refine KLt.up ?_ kL))) (by ((try simp (disch := decide) only [hA, hg1, hg2, go_sem]) <;> exact kH)) (fun e => Weak.refl _ _ _) ?_
               intro f3 hE3 hEE3 hg3 j hj
               by_cases hjl : j < t[q].evs.length
               ·have gl : (tiR t bn q t[q].evs.length)[j]? = some [.int .i64 (loN t bn (evN t q + j)), .int .i64 (hiN t bn (evN t q + j))] := fl_get hjl
                have gs : (tiR t (wdB bn mo t.length) q t[q].evs.length)[j]? = some [.int .i64 (loN t (wdB bn mo t.length) (evN t q + j)), .int .i64 (hiN t (wdB bn mo t.length) (evN t q + j))] := fl_get hjl
                have hx2 : (q, j + 1) ∈ ids t := mem_ids2.2 ⟨hlt, by rw [heq]; exact hjl⟩
                obtain ⟨o1, o2⟩ := hW.ends hk hx2
                have d1 : decide (loN t (wdB bn mo t.length) (evN t q + j) > loN t bn (evN t q + j)) = false := decide_eq_false oM
                have d2 : decide (hiN t (wdB bn mo t.length) (evN t q + j) < hiN t bn (evN t q + j)) = false := decide_eq_false oM
                have z01 : Int.toNat 0 = 0 := rfl
                have z11 : Int.toNat 1 = 1 := rfl
                have hinc : (j : Int) + 1 = ((j + 1 : Nat) : Int) := by omega
                simp (disch := (first | decide | omega)) only [hA, hg1, hg2, hg3, hgr, hgs, gl, gs, tl1, tl2, trl, trs, z01, z11, d1, d2, go_sem]
                refine ⟨j + 1, hjl, by simp only; omega, ?_⟩
                exact Weak.kround (p := r_driftWider2) (k := 6) (by ((repeat refine (kAny_up rfl).trans ?_); exact hEE3)) (by ((try simp (disch := decide) only [hA, go_sem]) <;> exact kH)) rfl hE3 (by simp) kV hR kL
               ·obtain rfl : j = t[q].evs.length := by omega
                simp (disch := (first | decide | omega)) only [hA, hg1, hg2, hg3, trl, go_sem]
                refine ⟨q + 1, hlt, by simp only; omega, ?_⟩
                exact Weak.kround (p := r_driftWider1) (k := 6) (by ((repeat refine (kAny_up rfl).trans ?_); refine (kAny_sub hg3 (kIn_sub rfl)).trans ?_; (repeat refine (kAny_up rfl).trans ?_); exact hEE2)) (by ((try simp (disch := decide) only [hA, hg1, hg2, go_sem]) <;> exact kH)) rfl hE2 (by simp) kV hR kL
              ·obtain rfl : q = t.length := by omega
               simp (disch := (first | decide | omega)) only [hA, hg1, hg2, tl1, go_sem]
               refine ACalls.nxt (cR _ _) ?_
               simp (disch := (first | decide | omega)) only [hA, hg1, hg2, go_sem]
               exact leave_pure (xs := [.v (.bool true)]) (.inr rfl) (by simp (disch := (first | decide | omega)) only [resVs, resV, go_sem, hA]) kO hR hB ⟨rfl, rfl, rfl⟩
            | true =>
              obtain rfl : cb = true := hcd rfl
              simp (disch := (first | decide | omega)) only [hA, hg1, hel, List.length_map, z2, z4, z5, go_sem]
              refine ACalls.nxt (cT _ _) ?_
              simp (disch := (first | decide | omega)) only [hA, hg1, z2, z4, z5, go_sem]
              refine ACalls.deepCellG (l1 := [.live 0 1 [[.v (.isl 3 (t.map ePr))]], .live 0 3 [[.v (.isl 1 (bn.er.map eI)), .v (.int .i64 bn.lo), .v (.int .i64 bn.hi)]], .live 0 2 [[.v (.int .i64 p), .v (.int .i64 (ix + 1 : Nat))]], .live 0 2 [[.v (.int .i64 q0), .v (.int .i64 (jx + 1 : Nat))]], .live 0 3 [[.sl (B.length + 5) t.length 0 t.length, .v (.int .i64 wl), .v (.int .i64 wh)]]]) (N := [.live t.length 1 (vs ((wdE bn mo t.length).map eI))]) (l2 := []) (i0 := 4) (k0 := 0) (j0 := 0) (args' := [.agg [.v (.isl 3 (t.map ePr))], .agg [.v (.isl 1 ((wdE bn mo t.length).map eI)), .v (.int .i64 wl), .v (.int .i64 wh)]]) rfl (fun i y z hy hz => ?_) rfl rfl rfl hdv ?_
              ·match i, hy, hz with
               | 0, hy, hz => cases hy; cases hz; exact Dv.aggL (.cons (.v _) .nil)
               | 1, hy, hz => cases hy; cases hz; exact Dv.aggL (.cons hdv (.cons (.v _) (.cons (.v _) .nil)))
               | i + 2, hy, hz => simp at hy
              change ACalls _ _ _ _ [.live 0 1 [[.v (.isl 3 (t.map ePr))]], .live 0 3 [[.v (.isl 1 (bn.er.map eI)), .v (.int .i64 bn.lo), .v (.int .i64 bn.hi)]], .live 0 2 [[.v (.int .i64 p), .v (.int .i64 (ix + 1 : Nat))]], .live 0 2 [[.v (.int .i64 q0), .v (.int .i64 (jx + 1 : Nat))]], .live 0 3 [[.v (.isl 1 ((wdE bn mo t.length).map eI)), .v (.int .i64 wl), .v (.int .i64 wh)]], .dead t.length] _
              refine ACalls.nxt (cU _ _) ?_
              simp (disch := (first | decide | omega)) only [hA, hg1, z2, z4, z5, go_sem]
              refine ACalls.nxt (cC _ _) ?_
              simp (disch := (first | decide | omega)) only [hA, hg1, z2, z4, z5, go_sem]
              refine ACalls.nxt (cD _ _) ?_
              simp (disch := (first | decide | omega)) only [hA, hg1, z2, z4, z5, tl1, tl2, zn, go_sem]
              refine loop_kept (ι := Nat) r_driftWider1 (fun q => [(167, .v (.int .i64 q))]) 6 (fun q => [.live 0 1 [[.v (.isl 3 (t.map ePr))]], .live 0 3 [[.v (.isl 1 (bn.er.map eI)), .v (.int .i64 bn.lo), .v (.int .i64 bn.hi)]], .live 0 2 [[.v (.int .i64 p), .v (.int .i64 (ix + 1 : Nat))]], .live 0 2 [[.v (.int .i64 q0), .v (.int .i64 (jx + 1 : Nat))]], .live 0 3 [[.v (.isl 1 ((wdE bn mo t.length).map eI)), .v (.int .i64 wl), .v (.int .i64 wh)]], .dead t.length]) (fun q => q ≤ t.length) (fun q => t.length - q) 0 (Nat.zero_le _) (by (repeat (first | exact hE1.mono oM | refine KLt.up ?_ kL))) (by ((try simp (disch := decide) only [hA, hg1, go_sem]) <;> exact kH)) (fun e => Weak.refl _ _ _) ?_
              intro f2 hE2 hEE2 hg2 q hq
              by_cases hlt : q < t.length
              ·have heq := evsOf_lt hlt
               have hne := hS.ne _ (List.getElem_mem hlt)
               have hgr : (tiAll t bn t.length)[q]? = some [.isl 2 (tiR t bn q t[q].evs.length)] := by rw [← heq]; exact fl_get hlt
               have hgs : (tiAll t (wdB bn mo t.length) t.length)[q]? = some [.isl 2 (tiR t (wdB bn mo t.length) q t[q].evs.length)] := by rw [← heq]; exact fl_get hlt
               have trl : (tiR t bn q t[q].evs.length).length = t[q].evs.length := fl_len
               have trs : (tiR t (wdB bn mo t.length) q t[q].evs.length).length = t[q].evs.length := fl_len
               have zq : ((t[q].evs.length : Int) != (t[q].evs.length : Int)) = false := bne_self_eq_false _
               simp (disch := (first | decide | omega)) only [hA, hg1, hg2, hgr, hgs, tl1, tl2, trl, trs, List.length_map, ePr, zq, go_sem]
               refine loop_kept (ι := Nat) r_driftWider2 (fun j => [(194, .v (.int .i64 j))]) 6 (fun j => [.live 0 1 [[.v (.isl 3 (t.map ePr))]], .live 0 3 [[.v (.isl 1 (bn.er.map eI)), .v (.int .i64 bn.lo), .v (.int .i64 bn.hi)]], .live 0 2 [[.v (.int .i64 p), .v (.int .i64 (ix + 1 : Nat))]], .live 0 2 [[.v (.int .i64 q0), .v (.int .i64 (jx + 1 : Nat))]], .live 0 3 [[.v (.isl 1 ((wdE bn mo t.length).map eI)), .v (.int .i64 wl), .v (.int .i64 wh)]], .dead t.length]) (fun j => j ≤ t[q].evs.length) (fun j => t[q].evs.length - j) 0 (Nat.zero_le _) (by (repeat (first | exact hE2.mono oM | refine KLt.up ?_ kL))) (by ((try simp (disch := decide) only [hA, hg1, hg2, go_sem]) <;> exact kH)) (fun e => Weak.refl _ _ _) ?_
               intro f3 hE3 hEE3 hg3 j hj
               by_cases hjl : j < t[q].evs.length
               ·have gl : (tiR t bn q t[q].evs.length)[j]? = some [.int .i64 (loN t bn (evN t q + j)), .int .i64 (hiN t bn (evN t q + j))] := fl_get hjl
                have gs : (tiR t (wdB bn mo t.length) q t[q].evs.length)[j]? = some [.int .i64 (loN t (wdB bn mo t.length) (evN t q + j)), .int .i64 (hiN t (wdB bn mo t.length) (evN t q + j))] := fl_get hjl
                have hx2 : (q, j + 1) ∈ ids t := mem_ids2.2 ⟨hlt, by rw [heq]; exact hjl⟩
                obtain ⟨o1, o2⟩ := hW.ends hk hx2
                have d1 : decide (loN t (wdB bn mo t.length) (evN t q + j) > loN t bn (evN t q + j)) = false := decide_eq_false oM
                have d2 : decide (hiN t (wdB bn mo t.length) (evN t q + j) < hiN t bn (evN t q + j)) = false := decide_eq_false oM
                have z01 : Int.toNat 0 = 0 := rfl
                have z11 : Int.toNat 1 = 1 := rfl
                have hinc : (j : Int) + 1 = ((j + 1 : Nat) : Int) := by omega
                simp (disch := (first | decide | omega)) only [hA, hg1, hg2, hg3, hgr, hgs, gl, gs, tl1, tl2, trl, trs, z01, z11, d1, d2, go_sem]
                refine ⟨j + 1, hjl, by simp only; omega, ?_⟩
                exact Weak.kround (p := r_driftWider2) (k := 6) (by ((repeat refine (kAny_up rfl).trans ?_); exact hEE3)) (by ((try simp (disch := decide) only [hA, go_sem]) <;> exact kH)) rfl hE3 (by simp) kV hR kL
               ·obtain rfl : j = t[q].evs.length := by omega
                simp (disch := (first | decide | omega)) only [hA, hg1, hg2, hg3, trl, go_sem]
                refine ⟨q + 1, hlt, by simp only; omega, ?_⟩
                exact Weak.kround (p := r_driftWider1) (k := 6) (by ((repeat refine (kAny_up rfl).trans ?_); refine (kAny_sub hg3 (kIn_sub rfl)).trans ?_; (repeat refine (kAny_up rfl).trans ?_); exact hEE2)) (by ((try simp (disch := decide) only [hA, hg1, hg2, go_sem]) <;> exact kH)) rfl hE2 (by simp) kV hR kL
              ·obtain rfl : q = t.length := by omega
               simp (disch := (first | decide | omega)) only [hA, hg1, hg2, tl1, go_sem]
               refine ACalls.nxt (cR _ _) ?_
               simp (disch := (first | decide | omega)) only [hA, hg1, hg2, go_sem]
               exact leave_pure (xs := [.v (.bool true)]) (.inr rfl) (by simp (disch := (first | decide | omega)) only [resVs, resV, go_sem, hA]) kO hR hB ⟨rfl, rfl, rfl⟩
end Go.Proofs.Ytanblnhnfkeffaa
