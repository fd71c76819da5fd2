/- Texts of one proof, laid together: YD, YE. No condition. -/
import Derived.Test.YtanblnhnfkeffaaDT18
import Derived.Test.YtanblnhnfkeffaaDT12
import Derived.Test.YtanblnhnfkeffaaDT13
import Derived.Test.YtanblnhnfkeffaaDT20
namespace Go.Proofs.Ytanblnhnfkeffaa
set_option linter.unusedVariables false
set_option linter.unusedSimpArgs false
attribute [local go_sem ↓] run_skip run_region run_draw run_both run_seq run_block run_exit run_ret run_cond atN_app seqC_normal seqC_exit seqC_ret seqQ_normal seqQ_exit seqQ_ret blkQ_normal blkQ_exit blkQ_ret runOps_nil runOps_cons runD_nil runD_cons grdO_true grdO_false grdD_true grdD_false ifC_true ifC_false opS_val opS_call opS_two opK_app dS_val dS_call dS_two dK_app kUp_same kUp_ne
attribute [local go_sem] rechks_nil rechks_cons rechk gcase_true gcase_false ex_val ex_val0 gd_none gd_some ev_t ev_c evs_nil evs_cons evo_some evo_none hget_at hget_first hsetB_at hsetB_first hsetL_at hsetL_first ofOpt_some aop aload astore aslice aappend aiaddr aiaddrA afaddr alen alenS acopy amm acall alookup amupdate alenM atostr comma keyEq apick binV binVB binVS isSh intOp strOp boolOp shOp eqC eqF and2 cellsOf setFrom fillA fillS rd rdI elems mk bounds AV.cell List.all_cons List.all_nil Bool.and_true Bool.true_and Bool.and_self List.length_cons List.length_nil List.length_append Nat.reduceAdd Nat.reduceSub Nat.reduceMul Nat.zero_add Nat.add_zero List.cons_append List.nil_append List.append_assoc List.append_nil List.getElem?_cons_zero List.getElem?_cons_succ List.getElem?_nil List.set_cons_zero List.set_cons_succ List.drop_zero List.drop_succ_cons List.take_zero List.take_succ_cons List.take_nil List.drop_nil List.map_cons List.map_nil Option.map_some if_true if_false Bool.false_eq_true and_self true_and and_true Nat.reduceLeDiff Nat.reduceLT Nat.le_refl Nat.reduceEqDiff ite_true ite_false beq_self_eq_true beq_true beq_false Bool.not_true Bool.not_false Bool.true_beq Bool.false_beq map_vs vs_len vs_get vs_take vs_drop vs_snoc1 vs_snoc2 vs_snoc3 vs_snoc5 vs_set1 vs_set2 vs_rep wrap_id le_T lt_T le_F lt_F leI_T ltI_T leI_F ltI_F geI gtI get_T decide_true decide_false room List.getElem?_map List.length_map List.length_take Int.toNat_natCast Nat.min_def Nat.min_self nth_kOf put_kOf put_kNo kOv_cons kOv_nil KHas KArgs List.getElem_cons_zero List.getElem_cons_succ
def a_rDist : AFunc := ⟨2,231,[.tmp 4],(.seq (.region [⟨some 2,.box (.t 0),none⟩,⟨some 3,.box (.t 1),none⟩,⟨some 4,.mv (.c (.v .zsl)),none⟩]) (.seq (.region [⟨some 21,.load (some 1) (.t 2),none⟩,⟨some 22,.call (.c (.fn 133 [])) [(.t 21)],none⟩,⟨some 23,.bin .add (.c (.v (.int .i64 1))) (.t 22),none⟩,⟨some 5,.mv (.t 23),none⟩]) (.seq (.region [⟨some 6,.mv (.c (.v .zsl)),none⟩]) (.seq (.seq (.region [⟨some 7,.mv (.c (.v (.int .i64 0))),none⟩]) (.block 0 (.loop (.seq (.seq (.region [⟨some 24,.mv (.t 7),none⟩,⟨some 25,.mv (.t 5),none⟩,⟨some 26,.bin .lss (.t 24) (.t 25),none⟩]) (.cond (.t 26) .skip (.exit 0))) (.seq (.block 1 (.seq (.region [⟨some 29,.mv (.t 5),none⟩,⟨some 30,.mkslice 1 [(.v (.int .i64 0))] 8 (.t 29) (.t 29),none⟩,⟨some 8,.mv (.t 30),none⟩]) (.seq (.seq (.region [⟨some 9,.mv (.c (.v (.int .i64 0))),none⟩]) (.block 2 (.loop (.seq (.seq (.region [⟨some 31,.mv (.t 9),none⟩,⟨some 32,.mv (.t 5),none⟩,⟨some 33,.bin .lss (.t 31) (.t 32),none⟩]) (.cond (.t 33) .skip (.exit 2))) (.seq (.block 3 (.seq (.region [⟨some 36,.mv (.t 7),none⟩,⟨some 37,.mv (.t 9),none⟩,⟨some 38,.bin .neq (.t 36) (.t 37),none⟩]) (.cond (.t 38) (.region [⟨some 39,.mv (.t 8),none⟩,⟨some 40,.mv (.t 9),none⟩,⟨some 41,.iaddr 1 (.t 39) (.t 40),none⟩,⟨none,.store 1 (.t 41) (.c (.v (.int .i64 36028797018963968))),none⟩]) .skip))) (.region [⟨some 34,.mv (.t 9),none⟩,⟨some 35,.bin .add (.t 34) (.c (.v (.int .i64 1))),none⟩,⟨some 9,.mv (.t 35),none⟩])))))) (.region [⟨some 42,.mv (.t 6),none⟩,⟨some 43,.mv (.t 8),none⟩,⟨some 44,.bslice 1 [(.v .zsl)] 1 [(0,(.t 43))],none⟩,⟨some 45,.append 1 24 (.t 42) (.t 44),none⟩,⟨some 6,.mv (.t 45),none⟩])))) (.region [⟨some 27,.mv (.t 7),none⟩,⟨some 28,.bin .add (.t 27) (.c (.v (.int .i64 1))),none⟩,⟨some 7,.mv (.t 28),none⟩])))))) (.seq (.seq (.region [⟨some 10,.mv (.c (.v (.int .i64 0))),none⟩]) (.block 4 (.loop (.seq (.seq (.region [⟨some 46,.mv (.t 10),none⟩,⟨some 47,.faddr 0 (.t 2),none⟩,⟨some 48,.load none (.t 47),none⟩,⟨some 49,.len (.t 48),none⟩,⟨some 50,.bin .lss (.t 46) (.t 49),none⟩]) (.cond (.t 50) .skip (.exit 4))) (.seq (.block 5 (.seq (.region [⟨some 11,.mv (.c (.v (.int .i64 1))),none⟩]) (.block 6 (.loop (.seq (.seq (.region [⟨some 53,.mv (.t 11),none⟩,⟨some 54,.faddr 0 (.t 2),none⟩,⟨some 55,.load none (.t 54),none⟩,⟨some 56,.mv (.t 10),none⟩,⟨some 57,.iaddr 3 (.t 55) (.t 56),none⟩,⟨some 58,.faddr 2 (.t 57),none⟩,⟨some 59,.load none (.t 58),none⟩,⟨some 60,.len (.t 59),none⟩,⟨some 61,.bin .leq (.t 53) (.t 60),none⟩]) (.cond (.t 61) .skip (.exit 6))) (.seq (.block 7 (.seq (.region [⟨some 64,.mv (.t 10),none⟩,⟨some 65,.mv (.t 11),none⟩,⟨some 66,.build [(.v (.int .i64 0)),(.v (.int .i64 0))] [(0,1,(.t 64)),(1,1,(.t 65))],none⟩,⟨some 12,.alloc [(.v (.int .i64 0)),(.v (.int .i64 0))],none⟩,⟨none,.store 2 (.t 12) (.t 66),none⟩]) (.seq (.region [⟨some 67,.load (some 1) (.t 2),none⟩,⟨some 68,.load (some 2) (.t 12),none⟩,⟨some 69,.call (.c (.fn 134 [])) [(.t 67),(.t 68)],none⟩,⟨some 13,.mv (.t 69),none⟩]) (.seq (.region [⟨some 71,.load (some 1) (.t 2),none⟩,⟨some 72,.load (some 3) (.t 3),none⟩,⟨some 73,.load (some 2) (.t 12),none⟩,⟨some 74,.call (.c (.fn 57 [])) [(.t 71),(.t 72),(.t 73)],none⟩,⟨some 70,.mv (.t 74),none⟩,⟨some 75,.extract 0 (.t 70),none⟩,⟨some 76,.extract 1 (.t 70),none⟩,⟨some 14,.mv (.t 75),none⟩,⟨some 15,.mv (.t 76),none⟩]) (.seq (.draw [⟨0,⟨some 77,.mv (.t 6),none⟩,[]⟩,⟨1,⟨some 78,.iaddr 1 (.t 77) (.c (.v (.int .i64 0))),none⟩,[]⟩,⟨2,⟨some 79,.load none (.t 78),none⟩,[]⟩,⟨3,⟨some 80,.mv (.t 13),none⟩,[]⟩,⟨4,⟨some 81,.mv (.t 6),none⟩,[]⟩,⟨5,⟨some 82,.iaddr 1 (.t 81) (.c (.v (.int .i64 0))),none⟩,[]⟩,⟨6,⟨some 83,.load none (.t 82),none⟩,[]⟩,⟨7,⟨some 84,.mv (.t 13),none⟩,[]⟩,⟨8,⟨some 85,.iaddr 1 (.t 83) (.t 84),none⟩,[]⟩,⟨9,⟨some 86,.load none (.t 85),none⟩,[]⟩,⟨10,⟨some 87,.mv (.t 15),none⟩,[]⟩,⟨11,⟨some 88,.mm false (.t 86) (.t 87),none⟩,[]⟩,⟨12,⟨some 89,.iaddr 1 (.t 79) (.t 80),none⟩,[]⟩,⟨13,⟨none,.store 1 (.t 89) (.t 88),none⟩,[]⟩]) (.seq (.draw [⟨0,⟨some 90,.mv (.t 6),none⟩,[]⟩,⟨1,⟨some 91,.mv (.t 13),none⟩,[]⟩,⟨2,⟨some 92,.iaddr 1 (.t 90) (.t 91),none⟩,[]⟩,⟨3,⟨some 93,.load none (.t 92),none⟩,[]⟩,⟨4,⟨some 94,.mv (.t 6),none⟩,[]⟩,⟨5,⟨some 95,.mv (.t 13),none⟩,[]⟩,⟨6,⟨some 96,.iaddr 1 (.t 94) (.t 95),none⟩,[]⟩,⟨7,⟨some 97,.load none (.t 96),none⟩,[]⟩,⟨8,⟨some 98,.iaddr 1 (.t 97) (.c (.v (.int .i64 0))),none⟩,[]⟩,⟨9,⟨some 99,.load none (.t 98),none⟩,[]⟩,⟨10,⟨some 100,.mv (.t 14),none⟩,[]⟩,⟨11,⟨some 101,.bin .sub (.c (.v (.int .i64 0))) (.t 100),none⟩,[]⟩,⟨12,⟨some 102,.mm false (.t 99) (.t 101),none⟩,[]⟩,⟨13,⟨some 103,.iaddr 1 (.t 93) (.c (.v (.int .i64 0))),none⟩,[]⟩,⟨14,⟨none,.store 1 (.t 103) (.t 102),none⟩,[]⟩]) (.seq (.seq (.region [⟨some 104,.mv (.t 11),none⟩,⟨some 105,.bin .gtr (.t 104) (.c (.v (.int .i64 1))),none⟩]) (.cond (.t 105) (.draw [⟨0,⟨some 106,.mv (.t 6),none⟩,[]⟩,⟨1,⟨some 107,.mv (.t 13),none⟩,[]⟩,⟨2,⟨some 108,.iaddr 1 (.t 106) (.t 107),none⟩,[]⟩,⟨3,⟨some 109,.load none (.t 108),none⟩,[]⟩,⟨4,⟨some 110,.mv (.t 13),none⟩,[]⟩,⟨5,⟨some 111,.bin .sub (.t 110) (.c (.v (.int .i64 1))),none⟩,[]⟩,⟨6,⟨some 112,.mv (.t 6),none⟩,[]⟩,⟨7,⟨some 113,.mv (.t 13),none⟩,[]⟩,⟨8,⟨some 114,.iaddr 1 (.t 112) (.t 113),none⟩,[]⟩,⟨9,⟨some 115,.load none (.t 114),none⟩,[]⟩,⟨10,⟨some 116,.mv (.t 13),none⟩,[]⟩,⟨11,⟨some 117,.bin .sub (.t 116) (.c (.v (.int .i64 1))),none⟩,[]⟩,⟨12,⟨some 118,.iaddr 1 (.t 115) (.t 117),none⟩,[]⟩,⟨13,⟨some 119,.load none (.t 118),none⟩,[]⟩,⟨14,⟨some 120,.mm false (.t 119) (.c (.v (.int .i64 0))),none⟩,[]⟩,⟨15,⟨some 121,.iaddr 1 (.t 109) (.t 111),none⟩,[]⟩,⟨16,⟨none,.store 1 (.t 121) (.t 120),none⟩,[]⟩]) .skip)) (.seq (.region [⟨some 122,.load (some 1) (.t 2),none⟩,⟨some 123,.load (some 2) (.t 12),none⟩,⟨some 124,.call (.c (.fn 126 [])) [(.t 122),(.t 123)],none⟩,⟨some 16,.alloc [(.v (.int .i64 0)),(.v (.int .i64 0)),(.v (.int .i64 0)),(.v (.int .i64 0)),(.v .zsl)],none⟩,⟨none,.store 5 (.t 16) (.t 124),none⟩]) (.seq (.region [⟨some 125,.faddr 0 (.t 16),none⟩,⟨some 126,.load none (.t 125),none⟩,⟨some 127,.bin .eql (.t 126) (.c (.v (.int .i64 3))),none⟩]) (.cond (.t 127) (.seq (.draw [⟨0,⟨some 128,.load (some 1) (.t 2),none⟩,[]⟩,⟨1,⟨some 129,.load (some 1) (.t 2),none⟩,[]⟩,⟨2,⟨some 130,.faddr 2 (.t 16),none⟩,[]⟩,⟨3,⟨some 131,.load none (.t 130),none⟩,[]⟩,⟨4,⟨some 132,.call (.c (.fn 127 [])) [(.t 129),(.c (.v (.int .i64 2))),(.t 131)],none⟩,[⟨some 128,.load (some 1) (.t 2),none⟩]⟩,⟨5,⟨some 133,.call (.c (.fn 134 [])) [(.t 128),(.t 132)],none⟩,[]⟩,⟨6,⟨some 17,.mv (.t 133),none⟩,[]⟩]) (.seq (.draw [⟨0,⟨some 134,.mv (.t 6),none⟩,[]⟩,⟨1,⟨some 135,.mv (.t 17),none⟩,[]⟩,⟨2,⟨some 136,.iaddr 1 (.t 134) (.t 135),none⟩,[]⟩,⟨3,⟨some 137,.load none (.t 136),none⟩,[]⟩,⟨4,⟨some 138,.mv (.t 13),none⟩,[]⟩,⟨5,⟨some 139,.mv (.t 6),none⟩,[]⟩,⟨6,⟨some 140,.mv (.t 17),none⟩,[]⟩,⟨7,⟨some 141,.iaddr 1 (.t 139) (.t 140),none⟩,[]⟩,⟨8,⟨some 142,.load none (.t 141),none⟩,[]⟩,⟨9,⟨some 143,.mv (.t 13),none⟩,[]⟩,⟨10,⟨some 144,.iaddr 1 (.t 142) (.t 143),none⟩,[]⟩,⟨11,⟨some 145,.load none (.t 144),none⟩,[]⟩,⟨12,⟨some 146,.faddr 2 (.t 3),none⟩,[]⟩,⟨13,⟨some 147,.load none (.t 146),none⟩,[]⟩,⟨14,⟨some 148,.mm false (.t 145) (.t 147),none⟩,[]⟩,⟨15,⟨some 149,.iaddr 1 (.t 137) (.t 138),none⟩,[]⟩,⟨16,⟨none,.store 1 (.t 149) (.t 148),none⟩,[]⟩]) (.draw [⟨0,⟨some 150,.mv (.t 6),none⟩,[]⟩,⟨1,⟨some 151,.mv (.t 13),none⟩,[]⟩,⟨2,⟨some 152,.iaddr 1 (.t 150) (.t 151),none⟩,[]⟩,⟨3,⟨some 153,.load none (.t 152),none⟩,[]⟩,⟨4,⟨some 154,.mv (.t 17),none⟩,[]⟩,⟨5,⟨some 155,.mv (.t 6),none⟩,[]⟩,⟨6,⟨some 156,.mv (.t 13),none⟩,[]⟩,⟨7,⟨some 157,.iaddr 1 (.t 155) (.t 156),none⟩,[]⟩,⟨8,⟨some 158,.load none (.t 157),none⟩,[]⟩,⟨9,⟨some 159,.mv (.t 17),none⟩,[]⟩,⟨10,⟨some 160,.iaddr 1 (.t 158) (.t 159),none⟩,[]⟩,⟨11,⟨some 161,.load none (.t 160),none⟩,[]⟩,⟨12,⟨some 162,.faddr 1 (.t 3),none⟩,[]⟩,⟨13,⟨some 163,.load none (.t 162),none⟩,[]⟩,⟨14,⟨some 164,.bin .sub (.c (.v (.int .i64 0))) (.t 163),none⟩,[]⟩,⟨15,⟨some 165,.mm false (.t 161) (.t 164),none⟩,[]⟩,⟨16,⟨some 166,.iaddr 1 (.t 153) (.t 154),none⟩,[]⟩,⟨17,⟨none,.store 1 (.t 166) (.t 165),none⟩,[]⟩]))) .skip)))))))))) (.region [⟨some 62,.mv (.t 11),none⟩,⟨some 63,.bin .add (.t 62) (.c (.v (.int .i64 1))),none⟩,⟨some 11,.mv (.t 63),none⟩]))))))) (.region [⟨some 51,.mv (.t 10),none⟩,⟨some 52,.bin .add (.t 51) (.c (.v (.int .i64 1))),none⟩,⟨some 10,.mv (.t 52),none⟩])))))) (.seq (.seq (.region [⟨some 18,.mv (.c (.v (.int .i64 0))),none⟩]) (.block 8 (.loop (.seq (.seq (.region [⟨some 167,.mv (.t 18),none⟩,⟨some 168,.mv (.t 5),none⟩,⟨some 169,.bin .lss (.t 167) (.t 168),none⟩]) (.cond (.t 169) .skip (.exit 8))) (.seq (.block 9 (.seq (.region [⟨some 19,.mv (.c (.v (.int .i64 0))),none⟩]) (.block 10 (.loop (.seq (.seq (.region [⟨some 172,.mv (.t 19),none⟩,⟨some 173,.mv (.t 5),none⟩,⟨some 174,.bin .lss (.t 172) (.t 173),none⟩]) (.cond (.t 174) .skip (.exit 10))) (.seq (.block 11 (.seq (.region [⟨some 20,.mv (.c (.v (.int .i64 0))),none⟩]) (.block 12 (.loop (.seq (.seq (.region [⟨some 177,.mv (.t 20),none⟩,⟨some 178,.mv (.t 5),none⟩,⟨some 179,.bin .lss (.t 177) (.t 178),none⟩]) (.cond (.t 179) .skip (.exit 12))) (.seq (.block 13 (.seq (.region [⟨some 182,.mv (.t 6),none⟩,⟨some 183,.mv (.t 19),none⟩,⟨some 184,.iaddr 1 (.t 182) (.t 183),none⟩,⟨some 185,.load none (.t 184),none⟩,⟨some 186,.mv (.t 18),none⟩,⟨some 187,.iaddr 1 (.t 185) (.t 186),none⟩,⟨some 188,.load none (.t 187),none⟩,⟨some 189,.bin .lss (.t 188) (.c (.v (.int .i64 36028797018963968))),none⟩,⟨some 190,.mv (.t 189),none⟩,⟨some 191,.mv (.t 6),some (190,true)⟩,⟨some 192,.mv (.t 18),some (190,true)⟩,⟨some 193,.iaddr 1 (.t 191) (.t 192),some (190,true)⟩,⟨some 194,.load none (.t 193),some (190,true)⟩,⟨some 195,.mv (.t 20),some (190,true)⟩,⟨some 196,.iaddr 1 (.t 194) (.t 195),some (190,true)⟩,⟨some 197,.load none (.t 196),some (190,true)⟩,⟨some 198,.bin .lss (.t 197) (.c (.v (.int .i64 36028797018963968))),some (190,true)⟩,⟨some 199,.pick (.t 190) (.t 198) (.c (.v (.bool false))),none⟩]) (.cond (.t 199) (.draw [⟨0,⟨some 200,.mv (.t 6),none⟩,[]⟩,⟨1,⟨some 201,.mv (.t 19),none⟩,[]⟩,⟨2,⟨some 202,.iaddr 1 (.t 200) (.t 201),none⟩,[]⟩,⟨3,⟨some 203,.load none (.t 202),none⟩,[]⟩,⟨4,⟨some 204,.mv (.t 20),none⟩,[]⟩,⟨5,⟨some 205,.mv (.t 6),none⟩,[]⟩,⟨6,⟨some 206,.mv (.t 19),none⟩,[]⟩,⟨7,⟨some 207,.iaddr 1 (.t 205) (.t 206),none⟩,[]⟩,⟨8,⟨some 208,.load none (.t 207),none⟩,[]⟩,⟨9,⟨some 209,.mv (.t 20),none⟩,[]⟩,⟨10,⟨some 210,.iaddr 1 (.t 208) (.t 209),none⟩,[]⟩,⟨11,⟨some 211,.load none (.t 210),none⟩,[]⟩,⟨12,⟨some 212,.mv (.t 6),none⟩,[]⟩,⟨13,⟨some 213,.mv (.t 19),none⟩,[]⟩,⟨14,⟨some 214,.iaddr 1 (.t 212) (.t 213),none⟩,[]⟩,⟨15,⟨some 215,.load none (.t 214),none⟩,[]⟩,⟨16,⟨some 216,.mv (.t 18),none⟩,[]⟩,⟨17,⟨some 217,.iaddr 1 (.t 215) (.t 216),none⟩,[]⟩,⟨18,⟨some 218,.load none (.t 217),none⟩,[]⟩,⟨19,⟨some 219,.mv (.t 6),none⟩,[]⟩,⟨20,⟨some 220,.mv (.t 18),none⟩,[]⟩,⟨21,⟨some 221,.iaddr 1 (.t 219) (.t 220),none⟩,[]⟩,⟨22,⟨some 222,.load none (.t 221),none⟩,[]⟩,⟨23,⟨some 223,.mv (.t 20),none⟩,[]⟩,⟨24,⟨some 224,.iaddr 1 (.t 222) (.t 223),none⟩,[]⟩,⟨25,⟨some 225,.load none (.t 224),none⟩,[]⟩,⟨26,⟨some 226,.bin .add (.t 218) (.t 225),none⟩,[]⟩,⟨27,⟨some 227,.mm false (.t 211) (.t 226),none⟩,[]⟩,⟨28,⟨some 228,.mm true (.c (.v (.int .i64 (-36028797018963968)))) (.t 227),none⟩,[]⟩,⟨29,⟨some 229,.iaddr 1 (.t 203) (.t 204),none⟩,[]⟩,⟨30,⟨none,.store 1 (.t 229) (.t 228),none⟩,[]⟩]) .skip))) (.region [⟨some 180,.mv (.t 20),none⟩,⟨some 181,.bin .add (.t 180) (.c (.v (.int .i64 1))),none⟩,⟨some 20,.mv (.t 181),none⟩]))))))) (.region [⟨some 175,.mv (.t 19),none⟩,⟨some 176,.bin .add (.t 175) (.c (.v (.int .i64 1))),none⟩,⟨some 19,.mv (.t 176),none⟩]))))))) (.region [⟨some 170,.mv (.t 18),none⟩,⟨some 171,.bin .add (.t 170) (.c (.v (.int .i64 1))),none⟩,⟨some 18,.mv (.t 171),none⟩])))))) (.seq (.region [⟨some 230,.mv (.t 6),none⟩,⟨some 4,.mv (.t 230),none⟩]) .ret)))))))⟩
theorem a_rDist_ok : cFunc Try.prog 64 = some a_rDist := by kernel_rfl
def r_rDist0 : List (Nat × Nat) := [(6, 9), (24, 45)]
def r_rDist1 : List (Nat × Nat) := [(9, 9), (31, 41)]
def r_rDist2 : List (Nat × Nat) := [(10, 17), (46, 166)]
def r_rDist3 : List (Nat × Nat) := [(11, 17), (53, 166)]
def r_rDist4 : List (Nat × Nat) := [(18, 20), (167, 229)]
def r_rDist5 : List (Nat × Nat) := [(19, 20), (172, 229)]
def r_rDist6 : List (Nat × Nat) := [(20, 20), (177, 229)]

def iRw (n : Nat) (f : Nat → Int) : List (List IV) := fl n fun c => [.int .i64 (f c)]
theorem iRw_len {n : Nat} {f : Nat → Int} : (iRw n f).length = n := fl_len
theorem iRw_get {n c : Nat} {f : Nat → Int} (h : c < n) : (iRw n f)[c]? = some [.int .i64 (f c)] := fl_get h
theorem iRw_set {n c : Nat} {f : Nat → Int} {x : Int} : (iRw n f).set c [.int .i64 x] = iRw n (fUp f c x) := by
 unfold iRw
 rw [fl_set]
 refine fl_congr (fun w _ => ?_)
 unfold fUp; split <;> rfl
def dsC (n base j : Nat) : List AV := [.sl (base + (j + 1 + 1 + 1)) 0 0 n]
def dsW (n : Nat) (F : Nat → Nat → Int) (j : Nat) : Row := .live 0 1 (vs (iRw n (F j)))
theorem dsC_at {n base j : Nat} : dsC n base j = [.sl (base + (j + 1 + 1 + 1)) 0 0 n] := rfl
theorem dsC_next {n base m : Nat} : fl m (dsC n base) ++ [[.sl (base + (m + 1 + 1 + 1)) 0 0 n]] = fl (m + 1) (dsC n base) := fl_next rfl
theorem dsW_at {n j : Nat} {F : Nat → Nat → Int} : dsW n F j = .live 0 1 (vs (iRw n (F j))) := rfl
theorem dsW_put {n m a c : Nat} {F : Nat → Nat → Int} {x : Int} : fl m (fUp (dsW n F) a (.live 0 1 (vs (iRw n (fUp (F a) c x))))) = fl m (dsW n (up2 F a c x)) := by
 refine fl_congr (fun i _ => ?_)
 by_cases hi : i = a
 ·subst hi
  rw [fUp_same]
  unfold dsW iRw
  congr 2
  refine fl_congr (fun b _ => ?_)
  unfold up2
  by_cases hb : b = c
  ·subst hb; rw [fUp_same, if_pos ⟨rfl, rfl⟩]
  ·rw [fUp_ne hb, if_neg (fun k => hb k.2)]
 ·rw [fUp_ne hi]
  unfold dsW iRw
  congr 2
  refine fl_congr (fun b _ => ?_)
  unfold up2
  rw [if_neg (fun k => hi k.1)]
theorem dsW_add {n m : Nat} {F : Nat → Nat → Int} {d : Dm} : fl m (fUp (dsW n F) d.1 (.live 0 1 (vs (iRw n (fUp (F d.1) d.2.1 (min (F d.1 d.2.1) d.2.2)))))) = fl m (dsW n (addE F d)) := dsW_put
theorem up2_same {F : Nat → Nat → Int} {a b : Nat} : up2 F a b (F a b) = F := by
 funext i j
 unfold up2
 split
 ·rename_i e; rw [e.1, e.2]
 ·rfl
theorem fwJ_bd {k i : Nat} {f : Nat → Nat → Int} (h : Bd f) : ∀ j, Bd (fwJ k i f j)
 | 0 => h
 | j + 1 => up2_bd (fwJ_bd h j) k i j
def dsR (t : Tr) (bn : Bn) (base n v m : Nat) (F : Nat → Nat → Int) : List Row := .live 0 1 [[.v (.isl 3 (t.map ePr))]] :: .live 0 3 [[.v (.isl 1 (bn.er.map eI)), .v (.int .i64 bn.lo), .v (.int .i64 bn.hi)]] :: .live v 1 (fl m (dsC n base)) :: fl m (dsW n F)
theorem dsR_len {t : Tr} {bn : Bn} {base n v m : Nat} {F : Nat → Nat → Int} : (dsR t bn base n v m F).length = m + 3 := by simp [dsR, fl_len]
theorem dsR_lt {t : Tr} {bn : Bn} {base n v m q : Nat} {F : Nat → Nat → Int} (h : base + (m + 3) ≤ q) : RowsLt q (dsR t bn base n v m F) := by
 intro id ver sz els hr row hrow c hc
 match id, hr with
 | 0, hr => cases hr; simp at hrow; subst hrow; simp at hc; subst hc; exact .v _
 | 1, hr => cases hr; simp at hrow; subst hrow; simp at hc; rcases hc with rfl | rfl | rfl <;> exact .v _
 | 2, hr =>
   cases hr
   obtain ⟨a, ha, rfl⟩ := List.mem_map.1 hrow
   unfold dsC at hc
   simp only [List.mem_singleton] at hc
   subst hc
   have := List.mem_range.1 ha
   exact .sl _ _ _ _ oM
 | id + 3, hr =>
   have hr : (fl m (dsW n F))[id]? = some (.live ver sz els) := hr
   by_cases hid : id < m
   ·rw [fl_get hid] at hr
    cases hr
    obtain ⟨r0, _, rfl⟩ := List.mem_map.1 hrow
    obtain ⟨x0, _, rfl⟩ := List.mem_map.1 hc
    exact .v _
   ·rw [fl_none oM] at hr; cases hr
theorem rows_app {q : Nat} {l l' : List Row} (h : RowsLt q l) (h' : RowsLt q l') : RowsLt q (l ++ l') := by
 intro id ver sz els hr row hrow c hc
 by_cases hid : id < l.length
 ·rw [List.getElem?_append_left hid] at hr; exact h id ver sz els hr row hrow c hc
 ·rw [List.getElem?_append_right oM] at hr; exact h' _ ver sz els hr row hrow c hc
theorem rows_vs {q v sz : Nat} {rows : List (List IV)} : RowsLt q [.live v sz (vs rows)] := by
 intro id ver sz' els hr row hrow c hc
 cases id with
 | zero =>
   cases hr
   obtain ⟨r0, _, rfl⟩ := List.mem_map.1 hrow
   obtain ⟨x0, _, rfl⟩ := List.mem_map.1 hc
   exact .v _
 | succ id => simp at hr
def dsX (t : Tr) (bn : Bn) (base n v m : Nat) (F : Nat → Nat → Int) (X : List Row) : List Row := .live 0 1 [[.v (.isl 3 (t.map ePr))]] :: .live 0 3 [[.v (.isl 1 (bn.er.map eI)), .v (.int .i64 bn.lo), .v (.int .i64 bn.hi)]] :: .live v 1 (fl m (dsC n base)) :: (fl m (dsW n F) ++ X)
theorem dsX_len {t : Tr} {bn : Bn} {base n v m : Nat} {F : Nat → Nat → Int} {X : List Row} : (dsX t bn base n v m F X).length = m + X.length + 3 := by simp [dsX, fl_len]
theorem dsX_lt {t : Tr} {bn : Bn} {base n v m q : Nat} {F : Nat → Nat → Int} {X : List Row} (h : base + (m + 3) ≤ q) (hX : RowsLt q X) : RowsLt q (dsX t bn base n v m F X) := rows_app (l := dsR t bn base n v m F) (dsR_lt h) hX
def pbR (m j c : Nat) : Int := if c < j then baseM m c else 0
theorem pb_put {n m j : Nat} (h : m ≠ j) : iRw n (fUp (pbR m j) j 36028797018963968) = iRw n (pbR m (j + 1)) := by
 refine fl_congr (fun c _ => ?_)
 unfold fUp pbR
 by_cases hc : c = j
 ·subst hc
  rw [if_pos rfl, if_pos oM]
  unfold baseM
  rw [if_neg h]; rfl
 ·rw [if_neg hc]
  by_cases h2 : c < j
  ·rw [if_pos h2, if_pos oM]
  ·rw [if_neg h2, if_neg oM]
theorem pb_same {n m : Nat} : iRw n (pbR m (m + 1)) = iRw n (pbR m m) := by
 refine fl_congr (fun c _ => ?_)
 unfold pbR
 by_cases h2 : c < m
 ·rw [if_pos h2, if_pos oM]
 ·rw [if_neg h2]
  by_cases h3 : c = m
  ·subst h3; rw [if_pos oM]; unfold baseM; rw [if_pos rfl]
  ·rw [if_neg oM]
theorem pb_zero {n m : Nat} : List.replicate n [IV.int .i64 0] = iRw n (pbR m 0) := by
 unfold iRw
 rw [← fl_const]
 exact fl_congr (fun c _ => by unfold pbR; rw [if_neg oM])
theorem pb_full {n m : Nat} : iRw n (pbR m n) = iRw n (baseM m) := fl_congr (fun c hc => by unfold pbR; rw [if_pos hc])
noncomputable def esF (t : Tr) (bn : Bn) (p i : Nat) : Nat → Nat → Int := iniM ((idsTo t p i).flatMap (evE t bn))
theorem esF_zero {t : Tr} {bn : Bn} : esF t bn 0 0 = baseM := by unfold esF; simp [idsTo, iniM]
theorem esF_succ {t : Tr} {bn : Bn} {p i : Nat} : esF t bn p (i + 1) = (evE t bn (p, i + 1)).foldl addE (esF t bn p i) := by
 unfold esF iniM
 rw [idsTo_succ, List.flatMap_append, List.flatMap_cons, List.flatMap_nil, List.append_nil, List.foldl_append]
theorem esF_all {t : Tr} {bn : Bn} : esF t bn t.length 0 = iniM (esT t bn) := by unfold esF esT; rw [idsTo_all]
theorem esF_next {t : Tr} {bn : Bn} {p : Nat} (hp : p < t.length) : esF t bn p t[p].evs.length = esF t bn (p + 1) 0 := by unfold esF; rw [idsTo_next t p hp]
set_option maxRecDepth 20000 in
set_option maxHeartbeats 16000000 in
theorem rDist_spec (t : Tr) (hS : Small t) (hNm : Nm t) (hn : t.length ≤ 20) (he70 : ∀ x ∈ t, x.evs.length ≤ 70) (hC : (ids t).length ≤ 1000) (hval : validL t = true) (bn : Bn) (hok : Bok t bn) (b l : List Row) :
  ACalls Try.prog 64 [.agg [.v (eT t)], .agg (eBn bn)] b l (fun r b' l' => r = .v (.isl 1 (fl ((ids t).length + 1) fun i => [.isl 1 (iRw ((ids t).length + 1) (dM t bn i))])) ∧ b' = b ∧ l' = l) := by
 refine calls_kept a_rDist_ok rfl (by decide) ?_
 intro B g hB hR hE hA
 simp only [KArgs] at hA
 obtain ⟨N, hN⟩ : ∃ N, (ids t).length + 1 = N := ⟨_, rfl⟩
 have eTe : eT t = .isl 3 (t.map ePr) := rfl
 have cC := fun b l => rCount12_spec t hS hNm hval oM b l
 simp only [eBn, eTe] at hA cC
 have h1N : (1 : Int) + (((ids t).length : Nat) : Int) = (N : Int) := by omega
 simp (disch := (first | decide | omega)) only [a_rDist, hA, go_sem]
 refine ACalls.nxt (cC _ _) ?_
 simp (disch := (first | decide | omega)) only [hA, h1N, go_sem]
 refine loop_kept_nil (ι := Nat) 6 1 r_rDist0 (fun m => [(6, .sl (B.length + 2) m 0 m), (7, .v (.int .i64 m))]) 3 (fun m => dsR t bn B.length N m m baseM)
  (fun m => m ≤ N) (fun m => N - m) 0 (Nat.zero_le _) (by simp (disch := decide) only [hA, go_sem]) (by decide) rfl (by (repeat (first | exact hE.mono oM | refine KLt.up ?_ kL))) (by ((try simp (disch := decide) only [hA, go_sem]) <;> exact kH)) (fun e => Weak.refl _ _ _) ?_
 intro g1 hE1 hEE1 hg1 m hm
 by_cases hml : m < N
 ·have hpz := pb_zero (n := N) (m := m)
  simp (disch := (first | decide | omega)) only [hA, hg1, dsR, fl_len, hpz, go_sem]
  refine loop_kept (ι := Nat) r_rDist1 (fun j => [(9, .v (.int .i64 j))]) (m + 4) (fun j => dsX t bn B.length N m m baseM [.live 0 1 (vs (iRw N (pbR m j)))])
   (fun j => j ≤ N) (fun j => N - j) 0 (Nat.zero_le _) (by (repeat (first | exact hE1.mono oM | refine KLt.up ?_ kL))) (by ((try simp (disch := decide) only [hA, hg1, go_sem]) <;> exact kH)) (fun e => Weak.refl _ _ _) ?_
  intro g2 hE2 hEE2 hg2 j hj
  by_cases hjl : j < N
  ·by_cases hmj : m = j
   ·have d1 : ((m : Int) != (j : Int)) = false := by simp; omega
    have hsm := pb_same (n := N) (m := m)
    simp (disch := (first | decide | omega)) only [hA, hg1, hg2, dsX, d1, go_sem]
    refine ⟨j + 1, hjl, by simp only; omega, ?_⟩
    subst hmj
    rw [← hsm]
    exact Weak.kround (l1 := dsX t bn B.length N m m baseM [.live 0 1 (vs (iRw N (pbR m (m + 1))))]) (junk := []) (p := r_rDist1) (k := m + 4) (by ((repeat refine (kAny_up rfl).trans ?_); exact hEE2)) (by ((try simp (disch := decide) only [hA, go_sem]) <;> exact kH)) (List.append_nil _).symm hE2 (by rw [dsX_len]; exact Nat.le_refl _) (by rw [dsX_len]; simp (disch := omega) only [KOvLt, lts.down, Nat.reduceLT, Nat.reduceAdd]) hR (dsX_lt (by rw [dsX_len]; omega) rows_vs)
   ·have d1 : ((m : Int) != (j : Int)) = true := by rw [bne_iff_ne]; omega
    have hpp := pb_put (n := N) (m := m) (j := j) hmj
    have hgt := iRw_get (n := N) (c := j) (f := pbR m j) hjl
    simp (disch := (first | decide | omega)) only [hA, hg1, hg2, dsX, d1, fl_len, fa_at, fa_tail, fa_tail0, fa_set, fa_settail, fa_settail0, List.cons_append, hgt, iRw_len, iRw_set, hpp, setFrom, cellsOf, go_sem]
    refine ⟨j + 1, hjl, by simp only; omega, ?_⟩
    exact Weak.kround (l1 := dsX t bn B.length N m m baseM [.live 0 1 (vs (iRw N (pbR m (j + 1))))]) (junk := []) (p := r_rDist1) (k := m + 4) (by ((repeat refine (kAny_up rfl).trans ?_); exact hEE2)) (by ((try simp (disch := decide) only [hA, go_sem]) <;> exact kH)) (List.append_nil _).symm hE2 (by rw [dsX_len]; exact Nat.le_refl _) (by rw [dsX_len]; simp (disch := omega) only [KOvLt, lts.down, Nat.reduceLT, Nat.reduceAdd]) hR (dsX_lt (by rw [dsX_len]; omega) rows_vs)
  ·obtain rfl : j = N := by omega
   have tk : List.take m (fl m (dsC j B.length)) = fl m (dsC j B.length) := List.take_of_length_le (by rw [fl_len]; exact Nat.le_refl _)
   have hnx := dsC_next (n := j) (base := B.length) (m := m)
   have hrow : fl m (dsW j baseM) ++ [Row.live 0 1 (vs (iRw j (pbR m j)))] = fl (m + 1) (dsW j baseM) := fl_next (by rw [dsW, pb_full])
   have hrow2 : fl m (dsW j baseM) ++ [Row.live 0 1 (vs (iRw j (pbR m j))), .live 0 1 [[.sl (B.length + (m + 1 + 1 + 1)) 0 0 j]]] = fl (m + 1) (dsW j baseM) ++ [.live 0 1 [[.sl (B.length + (m + 1 + 1 + 1)) 0 0 j]]] := by
    rw [← hrow, List.append_assoc]; rfl
   have hm4 : m + 1 + 1 + 1 + 1 = m + 1 + 3 := rfl
   simp (disch := (first | decide | omega)) only [hA, hg1, hg2, dsX, dsR, fl_len, fa_at, fa_tail, fa_tail0, fa_set, fa_settail, fa_settail0, List.cons_append, tk, hnx, List.replicate_succ, List.replicate_zero, setFrom, cellsOf, go_sem]
   refine ⟨m + 1, hml, by simp only; omega, ?_⟩
   rw [hrow2]
   exact Weak.kround (l1 := dsR t bn B.length j (m + 1) (m + 1) baseM) (junk := [.live 0 1 [[.sl (B.length + (m + 1 + 1 + 1)) 0 0 j]]]) (p := r_rDist0) (k := 3) (by ((repeat refine (kAny_up rfl).trans ?_); refine (kAny_sub hg2 (kIn_sub rfl)).trans ?_; (repeat refine (kAny_up rfl).trans ?_); exact hEE1)) (by ((try simp (disch := decide) only [hA, hg1, go_sem]) <;> exact kH)) rfl hE1 (by rw [dsR_len]; omega) (by rw [dsR_len]; simp (disch := omega) only [KOvLt, lts.down, Nat.reduceLT, Nat.reduceAdd]) hR (dsR_lt (by rw [dsR_len]; exact Nat.le_refl _))
 obtain rfl : m = N := by omega
 simp (disch := (first | decide | omega)) only [hA, hg1, go_sem]
 refine loop_kept (ι := Nat) r_rDist2 (fun p => [(10, .v (.int .i64 p))]) (m + 3) (fun p => dsR t bn B.length m m m (esF t bn p 0))
  (fun p => p ≤ t.length) (fun p => t.length - p) 0 (Nat.zero_le _) (by (repeat (first | exact hE1.mono oM | refine KLt.up ?_ kL))) (by ((try simp (disch := decide) only [hA, hg1, go_sem]) <;> exact kH)) (fun e => by rw [esF_zero]; exact Weak.refl _ _ _) ?_
 intro g2 hE2 hEE2 hg2 p hp
 have hnp := hS.np
 have hv := hok.v
 by_cases hpl : p < t.length
 ·have heo := evsOf_lt hpl
  have hne := he70 _ (List.getElem_mem hpl)
  have hns := evN_succ hpl
  have hen := evN_le he70 p hp
  have hgp : (t.map ePr)[p]? = some (ePr t[p]) := by rw [List.getElem?_map, List.getElem?_eq_getElem hpl]; rfl
  simp only [ePr] at hgp
  have h01 : ((0 + 1 : Nat) : Int) = 1 := rfl
  simp (disch := (first | decide | omega)) only [hA, hg1, hg2, dsR, List.length_map, go_sem]
  refine loop_kept (ι := Nat) r_rDist3 (fun i => [(11, .v (.int .i64 ((i + 1 : Nat) : Int)))]) (m + 3) (fun i => dsR t bn B.length m m m (esF t bn p i))
   (fun i => i ≤ t[p].evs.length) (fun i => t[p].evs.length - i) 0 (Nat.zero_le _) (by (repeat (first | exact hE2.mono oM | refine KLt.up ?_ kL))) (by ((try simp (disch := decide) only [hA, hg1, hg2, h01, go_sem]) <;> exact kH)) (fun e => Weak.refl _ _ _) ?_
  intro g3 hE3 hEE3 hg3 i hi
  by_cases hil : i < t[p].evs.length
  case neg =>
   obtain rfl : i = t[p].evs.length := by omega
   have dl : decide (((t[p].evs.length + 1 : Nat) : Int) ≤ (t[p].evs.length : Int)) = false := decide_eq_false oM
   have hnx := esF_next (bn := bn) hpl
   simp (disch := (first | decide | omega)) only [hA, hg1, hg2, hg3, hgp, dl, dsR, List.length_map, go_sem]
   refine ⟨p + 1, hpl, by simp only; omega, ?_⟩
   rw [hnx]
   exact Weak.kround (l1 := dsR t bn B.length m m m (esF t bn (p + 1) 0)) (junk := []) (p := r_rDist2) (k := m + 3) (by ((repeat refine (kAny_up rfl).trans ?_); refine (kAny_sub hg3 (kIn_sub rfl)).trans ?_; (repeat refine (kAny_up rfl).trans ?_); exact hEE2)) (by ((try simp (disch := decide) only [hA, hg1, go_sem]) <;> exact kH)) (List.append_nil _).symm hE2 (by rw [dsR_len]; omega) (by rw [dsR_len]; simp (disch := omega) only [KOvLt, lts.down, Nat.reduceLT, Nat.reduceAdd]) hR (dsR_lt (by rw [dsR_len]; exact Nat.le_refl _))
  have dl : decide (((i + 1 : Nat) : Int) ≤ (t[p].evs.length : Int)) = true := decide_eq_true oM
  have hx : (p, i + 1) ∈ ids t := mem_ids2.2 ⟨hpl, by rw [heo]; exact hil⟩
  have hev := evAt_eq hpl hil
  have hnk := (numN_at hx).1
  have cNm := fun b l => rNum19_spec t hn he70 p i hx b l
  have co := fun b l => rOwn19_spec t hS bn hok p i hx b l
  have cA := fun b l => rAt_spec t hS p i hpl hil b l
  obtain ⟨x, hxe⟩ : ∃ x, t[p].evs[i] = x := ⟨_, rfl⟩
  rw [hxe] at hev cA
  obtain ⟨k, hk⟩ : ∃ k, numN t (p, i + 1) = k := ⟨_, rfl⟩
  rw [hk] at cNm hnk
  simp only [eBn, idA, eTe] at cNm co cA
  have tb := hok.time hx
  have eb := hok.er p
  have lo_ : loA t bn (p, i + 1) = (evAt t (p, i + 1)).time - erB bn p := rfl
  have hi_ : hiA t bn (p, i + 1) = (evAt t (p, i + 1)).time + erB bn p := rfl
  have hob := hok.lo
  have hoc := hok.le
  have hod := hok.hi
  unfold MT at tb eb hod
  have hkm : k + 1 < m := by omega
  have h0m : 0 < m := by omega
  have hsucc := esF_succ (t := t) (bn := bn) (p := p) (i := i)
  unfold evE at hsucc
  rw [hk, hev] at hsucc
  obtain ⟨F, hF⟩ : ∃ F, esF t bn p i = F := ⟨_, rfl⟩
  rw [hF] at hsucc
  obtain ⟨lo, hlo⟩ : ∃ z, loA t bn (p, i + 1) = z := ⟨_, rfl⟩
  obtain ⟨hi', hhi⟩ : ∃ z, hiA t bn (p, i + 1) = z := ⟨_, rfl⟩
  rw [hlo] at lo_ co hsucc
  rw [hhi] at hi_ co hsucc
  have hc0 : (0 : Int).toNat = 0 := rfl
  simp only [hF]
  obtain ⟨F1, hF1⟩ : ∃ G, addE F (0, k + 1, hi') = G := ⟨_, rfl⟩
  have gg1 : (iRw m (F (0)))[k + 1]? = some [.int .i64 (F (0) (k + 1))] := iRw_get hkm
  have mn1 : (if hi' < F (0) (k + 1) then hi' else F (0) (k + 1)) = min (F (0) (k + 1)) (hi') := by
   split <;> omega
  have pu1 : fl m (fUp (dsW m F) (0) (.live 0 1 (vs (iRw m (fUp (F (0)) (k + 1) (min (F (0) (k + 1)) (hi'))))))) = fl m (dsW m F1) := by rw [← hF1]; exact dsW_add (d := (0, k + 1, hi'))
  obtain ⟨F2, hF2⟩ : ∃ G, addE F1 (k + 1, 0, 0 - lo) = G := ⟨_, rfl⟩
  have gg2 : (iRw m (F1 (k + 1)))[0]? = some [.int .i64 (F1 (k + 1) (0))] := iRw_get h0m
  have mn2 : (if 0 - lo < F1 (k + 1) (0) then 0 - lo else F1 (k + 1) (0)) = min (F1 (k + 1) (0)) (0 - lo) := by
   split <;> omega
  have pu2 : fl m (fUp (dsW m F1) (k + 1) (.live 0 1 (vs (iRw m (fUp (F1 (k + 1)) (0) (min (F1 (k + 1) (0)) (0 - lo))))))) = fl m (dsW m F2) := by rw [← hF2]; exact dsW_add (d := (k + 1, 0, 0 - lo))
  simp (disch := (first | decide | omega)) only [hA, hg1, hg2, hg3, fl_len, fa_at, fa_tail, fa_tail0, fa_set, fa_settail, fa_settail0, fl_get, dsC_at, dsW_at, iRw_len, iRw_set, setFrom, cellsOf, hc0, hgp, dl, dsR, List.length_map, go_sem]
  refine ACalls.nxt (cNm _ _) ?_
  simp (disch := (first | decide | omega)) only [hA, hg1, hg2, hg3, fl_len, fa_at, fa_tail, fa_tail0, fa_set, fa_settail, fa_settail0, fl_get, dsC_at, dsW_at, iRw_len, iRw_set, setFrom, cellsOf, hc0, go_sem]
  refine ACalls.nxt (co _ _) ?_
  by_cases i0 : i = 0
  ·have d3 : decide (((i + 1 : Nat) : Int) > 1) = false := decide_eq_false oM
   have d3' : decide ((1 : Int) < ((i + 1 : Nat) : Int)) = false := d3
   rw [if_neg (show ¬ 1 < i + 1 by omega)] at hsucc
   simp (disch := (first | decide | omega)) only [hA, hg1, hg2, hg3, fl_len, fa_at, fa_tail, fa_tail0, fa_set, fa_settail, fa_settail0, fl_get, dsC_at, dsW_at, iRw_len, iRw_set, setFrom, cellsOf, hc0, gg1, mn1, pu1, gg2, mn2, pu2, d3, d3', go_sem]
   refine ACalls.nxt (cA _ _) ?_
   by_cases k3 : x.kind = 3
   case neg =>
    have d5 : (x.kind == (3 : Int)) = false := by simpa using k3
    rw [if_neg k3] at hsucc
    simp only [List.append_nil, List.cons_append, List.nil_append, List.foldl_cons, List.foldl_nil, hF1, hF2] at hsucc
    simp (disch := (first | decide | omega)) only [hA, hg1, hg2, hg3, fl_len, fa_at, fa_tail, fa_tail0, fa_set, fa_settail, fa_settail0, fl_get, dsC_at, dsW_at, iRw_len, iRw_set, setFrom, cellsOf, hc0, d5, go_sem]
    refine ⟨i + 1, hil, by simp only; omega, ?_⟩
    simp only [hsucc]
    exact Weak.kround (l1 := dsR t bn B.length m m m F2) (junk := [.live 0 2 [[.v (.int .i64 p), .v (.int .i64 ((i + 1 : Nat) : Int))]], .live 0 5 [[.v (.int .i64 x.kind), .v (.int .i64 x.peer), .v (.int .i64 x.msg), .v (.int .i64 x.time), .v (.isl 2 (x.asg.map eAsg))]]]) (p := r_rDist3) (k := m + 3) (by ((repeat refine (kAny_up rfl).trans ?_); exact hEE3)) (by ((try simp (disch := decide) only [hA, go_sem]) <;> exact kH)) rfl hE3 (by rw [dsR_len]; omega) (by rw [dsR_len]; simp (disch := omega) only [KOvLt, lts.down, Nat.reduceLT, Nat.reduceAdd]) hR (dsR_lt (by rw [dsR_len]; exact Nat.le_refl _))
   have d5 : (x.kind == (3 : Int)) = true := by rw [k3]; rfl
   have hsi := sndr_in hv hx (by rw [hev]; exact k3)
   obtain ⟨q, j, hqj⟩ : ∃ q j, sndr t (p, i + 1) = (q, j + 1) := ⟨_, (sndr t (p, i + 1)).2 - 1, Prod.ext rfl (by have := mem_pos hsi.1; simp only; omega)⟩
   rw [hqj] at hsi
   rw [if_pos k3, hqj] at hsucc
   have hfv : findV t 2 x.msg = (q, j + 1) := by rw [← hqj]; unfold sndr; rw [hev]
   have cF := fun b l => rFind2_spec t hS hNm 2 x.msg b l
   rw [hfv] at cF
   have cNq := fun b l => rNum19_spec t hn he70 q j hsi.1 b l
   have hnq := (numN_at hsi.1).1
   obtain ⟨z, hz⟩ : ∃ z, numN t (q, j + 1) = z := ⟨_, rfl⟩
   rw [hz] at cNq hnq hsucc
   have hzm : z + 1 < m := by omega
   simp only [idA, eTe] at cF cNq
   obtain ⟨F4, hF4⟩ : ∃ G, addE F2 (z + 1, k + 1, bn.hi) = G := ⟨_, rfl⟩
   have gg4 : (iRw m (F2 (z + 1)))[k + 1]? = some [.int .i64 (F2 (z + 1) (k + 1))] := iRw_get hkm
   have mn4 : (if bn.hi < F2 (z + 1) (k + 1) then bn.hi else F2 (z + 1) (k + 1)) = min (F2 (z + 1) (k + 1)) (bn.hi) := by
    split <;> omega
   have pu4 : fl m (fUp (dsW m F2) (z + 1) (.live 0 1 (vs (iRw m (fUp (F2 (z + 1)) (k + 1) (min (F2 (z + 1) (k + 1)) (bn.hi))))))) = fl m (dsW m F4) := by rw [← hF4]; exact dsW_add (d := (z + 1, k + 1, bn.hi))
   obtain ⟨F5, hF5⟩ : ∃ G, addE F4 (k + 1, z + 1, 0 - bn.lo) = G := ⟨_, rfl⟩
   have gg5 : (iRw m (F4 (k + 1)))[z + 1]? = some [.int .i64 (F4 (k + 1) (z + 1))] := iRw_get hzm
   have mn5 : (if 0 - bn.lo < F4 (k + 1) (z + 1) then 0 - bn.lo else F4 (k + 1) (z + 1)) = min (F4 (k + 1) (z + 1)) (0 - bn.lo) := by
    split <;> omega
   have pu5 : fl m (fUp (dsW m F4) (k + 1) (.live 0 1 (vs (iRw m (fUp (F4 (k + 1)) (z + 1) (min (F4 (k + 1) (z + 1)) (0 - bn.lo))))))) = fl m (dsW m F5) := by rw [← hF5]; exact dsW_add (d := (k + 1, z + 1, 0 - bn.lo))
   simp only [List.cons_append, List.nil_append, List.foldl_cons, List.foldl_nil, hF1, hF2, hF4, hF5] at hsucc
   simp (disch := (first | decide | omega)) only [hA, hg1, hg2, hg3, fl_len, fa_at, fa_tail, fa_tail0, fa_set, fa_settail, fa_settail0, fl_get, dsC_at, dsW_at, iRw_len, iRw_set, setFrom, cellsOf, hc0, d5, go_sem]
   refine ACalls.nxt (cF _ _) ?_
   simp (disch := (first | decide | omega)) only [hA, hg1, hg2, hg3, fl_len, fa_at, fa_tail, fa_tail0, fa_set, fa_settail, fa_settail0, fl_get, dsC_at, dsW_at, iRw_len, iRw_set, setFrom, cellsOf, hc0, go_sem]
   refine ACalls.nxt (cNq _ _) ?_
   simp (disch := (first | decide | omega)) only [hA, hg1, hg2, hg3, fl_len, fa_at, fa_tail, fa_tail0, fa_set, fa_settail, fa_settail0, fl_get, dsC_at, dsW_at, iRw_len, iRw_set, setFrom, cellsOf, hc0, gg4, mn4, pu4, gg5, mn5, pu5, go_sem]
   refine ⟨i + 1, hil, by simp only; omega, ?_⟩
   simp only [hsucc]
   exact Weak.kround (l1 := dsR t bn B.length m m m F5) (junk := [.live 0 2 [[.v (.int .i64 p), .v (.int .i64 ((i + 1 : Nat) : Int))]], .live 0 5 [[.v (.int .i64 x.kind), .v (.int .i64 x.peer), .v (.int .i64 x.msg), .v (.int .i64 x.time), .v (.isl 2 (x.asg.map eAsg))]]]) (p := r_rDist3) (k := m + 3) (by ((repeat refine (kAny_up rfl).trans ?_); exact hEE3)) (by ((try simp (disch := decide) only [hA, go_sem]) <;> exact kH)) rfl hE3 (by rw [dsR_len]; omega) (by rw [dsR_len]; simp (disch := omega) only [KOvLt, lts.down, Nat.reduceLT, Nat.reduceAdd]) hR (dsR_lt (by rw [dsR_len]; exact Nat.le_refl _))
  ·have d3 : decide (((i + 1 : Nat) : Int) > 1) = true := decide_eq_true oM
   have d3' : decide ((1 : Int) < ((i + 1 : Nat) : Int)) = true := d3
   have hkc : ((k + 1 : Nat) : Int) - 1 = ((k : Nat) : Int) := by omega
   rw [if_pos (show 1 < i + 1 by omega)] at hsucc
   obtain ⟨F3, hF3⟩ : ∃ G, addE F2 (k + 1, k, (0 : Int)) = G := ⟨_, rfl⟩
   have gg3 : (iRw m (F2 (k + 1)))[k]? = some [.int .i64 (F2 (k + 1) (k))] := iRw_get (show k < m by omega)
   have mn3 : (if (0 : Int) < F2 (k + 1) (k) then (0 : Int) else F2 (k + 1) (k)) = min (F2 (k + 1) (k)) ((0 : Int)) := by
    split <;> omega
   have pu3 : fl m (fUp (dsW m F2) (k + 1) (.live 0 1 (vs (iRw m (fUp (F2 (k + 1)) (k) (min (F2 (k + 1) (k)) ((0 : Int)))))))) = fl m (dsW m F3) := by rw [← hF3]; exact dsW_add (d := (k + 1, k, (0 : Int)))
   simp (disch := (first | decide | omega)) only [hA, hg1, hg2, hg3, fl_len, fa_at, fa_tail, fa_tail0, fa_set, fa_settail, fa_settail0, fl_get, dsC_at, dsW_at, iRw_len, iRw_set, setFrom, cellsOf, hc0, gg1, mn1, pu1, gg2, mn2, pu2, d3, d3', hkc, gg3, mn3, pu3, go_sem]
   refine ACalls.nxt (cA _ _) ?_
   by_cases k3 : x.kind = 3
   case neg =>
    have d5 : (x.kind == (3 : Int)) = false := by simpa using k3
    rw [if_neg k3] at hsucc
    simp only [List.append_nil, List.cons_append, List.nil_append, List.foldl_cons, List.foldl_nil, hF1, hF2, hF3] at hsucc
    simp (disch := (first | decide | omega)) only [hA, hg1, hg2, hg3, fl_len, fa_at, fa_tail, fa_tail0, fa_set, fa_settail, fa_settail0, fl_get, dsC_at, dsW_at, iRw_len, iRw_set, setFrom, cellsOf, hc0, d5, go_sem]
    refine ⟨i + 1, hil, by simp only; omega, ?_⟩
    simp only [hsucc]
    exact Weak.kround (l1 := dsR t bn B.length m m m F3) (junk := [.live 0 2 [[.v (.int .i64 p), .v (.int .i64 ((i + 1 : Nat) : Int))]], .live 0 5 [[.v (.int .i64 x.kind), .v (.int .i64 x.peer), .v (.int .i64 x.msg), .v (.int .i64 x.time), .v (.isl 2 (x.asg.map eAsg))]]]) (p := r_rDist3) (k := m + 3) (by ((repeat refine (kAny_up rfl).trans ?_); exact hEE3)) (by ((try simp (disch := decide) only [hA, go_sem]) <;> exact kH)) rfl hE3 (by rw [dsR_len]; omega) (by rw [dsR_len]; simp (disch := omega) only [KOvLt, lts.down, Nat.reduceLT, Nat.reduceAdd]) hR (dsR_lt (by rw [dsR_len]; exact Nat.le_refl _))
   have d5 : (x.kind == (3 : Int)) = true := by rw [k3]; rfl
   have hsi := sndr_in hv hx (by rw [hev]; exact k3)
   obtain ⟨q, j, hqj⟩ : ∃ q j, sndr t (p, i + 1) = (q, j + 1) := ⟨_, (sndr t (p, i + 1)).2 - 1, Prod.ext rfl (by have := mem_pos hsi.1; simp only; omega)⟩
   rw [hqj] at hsi
   rw [if_pos k3, hqj] at hsucc
   have hfv : findV t 2 x.msg = (q, j + 1) := by rw [← hqj]; unfold sndr; rw [hev]
   have cF := fun b l => rFind2_spec t hS hNm 2 x.msg b l
   rw [hfv] at cF
   have cNq := fun b l => rNum19_spec t hn he70 q j hsi.1 b l
   have hnq := (numN_at hsi.1).1
   obtain ⟨z, hz⟩ : ∃ z, numN t (q, j + 1) = z := ⟨_, rfl⟩
   rw [hz] at cNq hnq hsucc
   have hzm : z + 1 < m := by omega
   simp only [idA, eTe] at cF cNq
   obtain ⟨F4, hF4⟩ : ∃ G, addE F3 (z + 1, k + 1, bn.hi) = G := ⟨_, rfl⟩
   have gg4 : (iRw m (F3 (z + 1)))[k + 1]? = some [.int .i64 (F3 (z + 1) (k + 1))] := iRw_get hkm
   have mn4 : (if bn.hi < F3 (z + 1) (k + 1) then bn.hi else F3 (z + 1) (k + 1)) = min (F3 (z + 1) (k + 1)) (bn.hi) := by
    split <;> omega
   have pu4 : fl m (fUp (dsW m F3) (z + 1) (.live 0 1 (vs (iRw m (fUp (F3 (z + 1)) (k + 1) (min (F3 (z + 1) (k + 1)) (bn.hi))))))) = fl m (dsW m F4) := by rw [← hF4]; exact dsW_add (d := (z + 1, k + 1, bn.hi))
   obtain ⟨F5, hF5⟩ : ∃ G, addE F4 (k + 1, z + 1, 0 - bn.lo) = G := ⟨_, rfl⟩
   have gg5 : (iRw m (F4 (k + 1)))[z + 1]? = some [.int .i64 (F4 (k + 1) (z + 1))] := iRw_get hzm
   have mn5 : (if 0 - bn.lo < F4 (k + 1) (z + 1) then 0 - bn.lo else F4 (k + 1) (z + 1)) = min (F4 (k + 1) (z + 1)) (0 - bn.lo) := by
    split <;> omega
   have pu5 : fl m (fUp (dsW m F4) (k + 1) (.live 0 1 (vs (iRw m (fUp (F4 (k + 1)) (z + 1) (min (F4 (k + 1) (z + 1)) (0 - bn.lo))))))) = fl m (dsW m F5) := by rw [← hF5]; exact dsW_add (d := (k + 1, z + 1, 0 - bn.lo))
   simp only [List.cons_append, List.nil_append, List.foldl_cons, List.foldl_nil, hF1, hF2, hF3, hF4, hF5] at hsucc
   simp (disch := (first | decide | omega)) only [hA, hg1, hg2, hg3, fl_len, fa_at, fa_tail, fa_tail0, fa_set, fa_settail, fa_settail0, fl_get, dsC_at, dsW_at, iRw_len, iRw_set, setFrom, cellsOf, hc0, d5, go_sem]
   refine ACalls.nxt (cF _ _) ?_
   simp (disch := (first | decide | omega)) only [hA, hg1, hg2, hg3, fl_len, fa_at, fa_tail, fa_tail0, fa_set, fa_settail, fa_settail0, fl_get, dsC_at, dsW_at, iRw_len, iRw_set, setFrom, cellsOf, hc0, go_sem]
   refine ACalls.nxt (cNq _ _) ?_
   simp (disch := (first | decide | omega)) only [hA, hg1, hg2, hg3, fl_len, fa_at, fa_tail, fa_tail0, fa_set, fa_settail, fa_settail0, fl_get, dsC_at, dsW_at, iRw_len, iRw_set, setFrom, cellsOf, hc0, gg4, mn4, pu4, gg5, mn5, pu5, go_sem]
   refine ⟨i + 1, hil, by simp only; omega, ?_⟩
   simp only [hsucc]
   exact Weak.kround (l1 := dsR t bn B.length m m m F5) (junk := [.live 0 2 [[.v (.int .i64 p), .v (.int .i64 ((i + 1 : Nat) : Int))]], .live 0 5 [[.v (.int .i64 x.kind), .v (.int .i64 x.peer), .v (.int .i64 x.msg), .v (.int .i64 x.time), .v (.isl 2 (x.asg.map eAsg))]]]) (p := r_rDist3) (k := m + 3) (by ((repeat refine (kAny_up rfl).trans ?_); exact hEE3)) (by ((try simp (disch := decide) only [hA, go_sem]) <;> exact kH)) rfl hE3 (by rw [dsR_len]; omega) (by rw [dsR_len]; simp (disch := omega) only [KOvLt, lts.down, Nat.reduceLT, Nat.reduceAdd]) hR (dsR_lt (by rw [dsR_len]; exact Nat.le_refl _))
 obtain rfl : p = t.length := by omega
 have hini := hok.ini
 rw [hN] at hini
 rw [esF_all]
 obtain ⟨F0, hF0⟩ : ∃ F, iniM (esT t bn) = F := ⟨_, rfl⟩
 rw [hF0] at hini
 have hbd0 := hini.bd
 simp only [hF0]
 simp (disch := (first | decide | omega)) only [hA, hg1, hg2, dsR, List.length_map, go_sem]
 refine loop_kept (ι := Nat) r_rDist4 (fun k => [(18, .v (.int .i64 k))]) (m + 3) (fun k => dsR t bn B.length m m m (fwK m F0 k))
  (fun k => k ≤ m) (fun k => m - k) 0 (Nat.zero_le _) (by (repeat (first | exact hE2.mono oM | refine KLt.up ?_ kL))) (by ((try simp (disch := decide) only [hA, hg1, hg2, go_sem]) <;> exact kH)) (fun e => Weak.refl _ _ _) ?_
 intro g3 hE3 hEE3 hg3 k hk
 by_cases hkl : k < m
 case neg =>
  obtain rfl : k = m := by omega
  have hdm : ∀ i, fwK k F0 k i = dM t bn i := fun i => by unfold dM; rw [hN, hF0]
  simp (disch := (first | decide | omega)) only [hA, hg1, hg2, hg3, dsR, go_sem]
  refine leave_matP (n := k) (m := 2) (v0 := k) (sz := 1) (ver := fun _ => 0) (R := fun i => iRw k (fwK k F0 k i)) (pre := [.live 0 1 [[.v (.isl 3 (t.map ePr))]], .live 0 3 [[.v (.isl 1 (bn.er.map eI)), .v (.int .i64 bn.lo), .v (.int .i64 bn.hi)]]]) (junk := []) (.inr rfl) (by simp (disch := (first | decide | omega)) only [resVs, resV, hA, hg1, hg2, hg3, go_sem]) rfl ?_ kN hR hB ⟨by unfold mV; simp only [hdm, hN], rfl, rfl⟩
  unfold mR
  simp only [List.append_nil, List.cons_append, List.nil_append]
  congr 3
  congr 1
  refine fl_congr (fun j hj => ?_)
  rw [dsC_at]
  unfold mC
  rw [if_neg oM, iRw_len, show B.length + 2 + (j + 1) = B.length + (j + 1 + 1 + 1) by omega]
 have hbdk := fw_bd (n := m) hbd0 hk
 obtain ⟨Fk, hFk⟩ : ∃ F, fwK m F0 k = F := ⟨_, rfl⟩
 have hKn : fwK m F0 (k + 1) = fwI m k Fk m := by rw [fwK, hFk]
 rw [hFk] at hbdk
 simp only [hFk]
 simp (disch := (first | decide | omega)) only [hA, hg1, hg2, hg3, dsR, go_sem]
 refine loop_kept (ι := Nat) r_rDist5 (fun i => [(19, .v (.int .i64 i))]) (m + 3) (fun i => dsR t bn B.length m m m (fwI m k Fk i))
  (fun i => i ≤ m) (fun i => m - i) 0 (Nat.zero_le _) (by (repeat (first | exact hE3.mono oM | refine KLt.up ?_ kL))) (by ((try simp (disch := decide) only [hA, hg1, hg2, hg3, go_sem]) <;> exact kH)) (fun e => Weak.refl _ _ _) ?_
 intro g4 hE4 hEE4 hg4 i hi
 by_cases hil : i < m
 case neg =>
  obtain rfl : m = i := by omega
  simp (disch := (first | decide | omega)) only [hA, hg1, hg2, hg3, hg4, dsR, go_sem]
  refine ⟨k + 1, hkl, by simp only; omega, ?_⟩
  rw [← hKn]
  exact Weak.kround (l1 := dsR t bn B.length m m m (fwK m F0 (k + 1))) (junk := []) (p := r_rDist4) (k := m + 3) (by ((repeat refine (kAny_up rfl).trans ?_); refine (kAny_sub hg4 (kIn_sub rfl)).trans ?_; (repeat refine (kAny_up rfl).trans ?_); exact hEE3)) (by ((try simp (disch := decide) only [hA, hg1, go_sem]) <;> exact kH)) (List.append_nil _).symm hE3 (by rw [dsR_len]; omega) (by rw [dsR_len]; simp (disch := omega) only [KOvLt, lts.down, Nat.reduceLT, Nat.reduceAdd]) hR (dsR_lt (by rw [dsR_len]; exact Nat.le_refl _))
 have hbdi := (fwI_le (n := m) (k := k) hbdk 0 0 i).1
 obtain ⟨Fi, hFi⟩ : ∃ F, fwI m k Fk i = F := ⟨_, rfl⟩
 have hIn : fwI m k Fk (i + 1) = fwJ k i Fi m := by rw [fwI, hFi]
 rw [hFi] at hbdi
 simp only [hFi]
 simp (disch := (first | decide | omega)) only [hA, hg1, hg2, hg3, hg4, dsR, go_sem]
 refine loop_kept (ι := Nat) r_rDist6 (fun j => [(20, .v (.int .i64 j))]) (m + 3) (fun j => dsR t bn B.length m m m (fwJ k i Fi j))
  (fun j => j ≤ m) (fun j => m - j) 0 (Nat.zero_le _) (by (repeat (first | exact hE4.mono oM | refine KLt.up ?_ kL))) (by ((try simp (disch := decide) only [hA, hg1, hg2, hg3, hg4, go_sem]) <;> exact kH)) (fun e => Weak.refl _ _ _) ?_
 intro g5 hE5 hEE5 hg5 j hj
 by_cases hjl : j < m
 case neg =>
  obtain rfl : m = j := by omega
  simp (disch := (first | decide | omega)) only [hA, hg1, hg2, hg3, hg4, hg5, dsR, go_sem]
  refine ⟨i + 1, hil, by simp only; omega, ?_⟩
  rw [← hIn]
  exact Weak.kround (l1 := dsR t bn B.length m m m (fwI m k Fk (i + 1))) (junk := []) (p := r_rDist5) (k := m + 3) (by ((repeat refine (kAny_up rfl).trans ?_); refine (kAny_sub hg5 (kIn_sub rfl)).trans ?_; (repeat refine (kAny_up rfl).trans ?_); exact hEE4)) (by ((try simp (disch := decide) only [hA, hg1, go_sem]) <;> exact kH)) (List.append_nil _).symm hE4 (by rw [dsR_len]; omega) (by rw [dsR_len]; simp (disch := omega) only [KOvLt, lts.down, Nat.reduceLT, Nat.reduceAdd]) hR (dsR_lt (by rw [dsR_len]; exact Nat.le_refl _))
 have hbdj := fwJ_bd (k := k) (i := i) hbdi j
 obtain ⟨G, hG⟩ : ∃ F, fwJ k i Fi j = F := ⟨_, rfl⟩
 have hJn : fwJ k i Fi (j + 1) = up2 G i j (rx G k i j) := by rw [fwJ, hG]
 rw [hG] at hbdj
 have b1 := hbdj i k
 have b2 := hbdj k j
 have b3 := hbdj i j
 unfold Far at b1 b2 b3
 have q1 : (iRw m (G i))[k]? = some [.int .i64 (G i k)] := iRw_get hkl
 have q2 : (iRw m (G k))[j]? = some [.int .i64 (G k j)] := iRw_get hjl
 have q3 : (iRw m (G i))[j]? = some [.int .i64 (G i j)] := iRw_get hjl
 have same : rx G k i j = G i j → fwJ k i Fi (j + 1) = G := fun h => by rw [hJn, h, up2_same]
 simp only [hG]
 by_cases c1 : G i k < 36028797018963968
 case neg =>
  have d1 := decide_eq_false c1
  have hnx := same (by unfold rx Far; rw [if_neg (fun h => c1 h.1)])
  simp (disch := (first | decide | omega)) only [hA, hg1, hg2, hg3, hg4, hg5, dsR, fl_len, fl_get, dsC_at, dsW_at, iRw_len, q1, d1, go_sem]
  refine ⟨j + 1, hjl, by simp only; omega, ?_⟩
  simp only [hnx]
  exact Weak.kround (l1 := dsR t bn B.length m m m (G)) (junk := []) (p := r_rDist6) (k := m + 3) (by ((repeat refine (kAny_up rfl).trans ?_); exact hEE5)) (by ((try simp (disch := decide) only [hA, go_sem]) <;> exact kH)) (List.append_nil _).symm hE5 (by rw [dsR_len]; omega) (by rw [dsR_len]; simp (disch := omega) only [KOvLt, lts.down, Nat.reduceLT, Nat.reduceAdd]) hR (dsR_lt (by rw [dsR_len]; exact Nat.le_refl _))
 have d1 := decide_eq_true c1
 by_cases c2 : G k j < 36028797018963968
 case neg =>
  have d2 := decide_eq_false c2
  have hnx := same (by unfold rx Far; rw [if_neg (fun h => c2 h.2)])
  simp (disch := (first | decide | omega)) only [hA, hg1, hg2, hg3, hg4, hg5, dsR, fl_len, fl_get, dsC_at, dsW_at, iRw_len, q1, d1, q2, d2, go_sem]
  refine ⟨j + 1, hjl, by simp only; omega, ?_⟩
  simp only [hnx]
  exact Weak.kround (l1 := dsR t bn B.length m m m (G)) (junk := []) (p := r_rDist6) (k := m + 3) (by ((repeat refine (kAny_up rfl).trans ?_); exact hEE5)) (by ((try simp (disch := decide) only [hA, go_sem]) <;> exact kH)) (List.append_nil _).symm hE5 (by rw [dsR_len]; omega) (by rw [dsR_len]; simp (disch := omega) only [KOvLt, lts.down, Nat.reduceLT, Nat.reduceAdd]) hR (dsR_lt (by rw [dsR_len]; exact Nat.le_refl _))
 have d2 := decide_eq_true c2
 have m1 : (if G i k + G k j < G i j then G i k + G k j else G i j) = min (G i j) (G i k + G k j) := by split <;> omega
 have m2 : (if min (G i j) (G i k + G k j) > -36028797018963968 then min (G i j) (G i k + G k j) else -36028797018963968) = rx G k i j := by
  have hr : rx G k i j = max (0 - 36028797018963968) (min (G i j) (G i k + G k j)) := by unfold rx Far; rw [if_pos ⟨c1, c2⟩]
  rw [hr]
  split <;> omega
 have m2' : (if -36028797018963968 < min (G i j) (G i k + G k j) then min (G i j) (G i k + G k j) else -36028797018963968) = rx G k i j := m2
 have hpu : fl m (fUp (dsW m G) i (.live 0 1 (vs (iRw m (fUp (G i) j (rx G k i j)))))) = fl m (dsW m (fwJ k i Fi (j + 1))) := by rw [hJn]; exact dsW_put
 simp (disch := (first | decide | omega)) only [hA, hg1, hg2, hg3, hg4, hg5, dsR, fl_len, fl_get, fl_set, dsC_at, dsW_at, iRw_len, iRw_set, q1, d1, q2, d2, q3, m1, m2, m2', hpu, setFrom, cellsOf, go_sem]
 refine ⟨j + 1, hjl, by simp only; omega, ?_⟩
 exact Weak.kround (l1 := dsR t bn B.length m m m (fwJ k i Fi (j + 1))) (junk := []) (p := r_rDist6) (k := m + 3) (by ((repeat refine (kAny_up rfl).trans ?_); exact hEE5)) (by ((try simp (disch := decide) only [hA, go_sem]) <;> exact kH)) (List.append_nil _).symm hE5 (by rw [dsR_len]; omega) (by rw [dsR_len]; simp (disch := omega) only [KOvLt, lts.down, Nat.reduceLT, Nat.reduceAdd]) hR (dsR_lt (by rw [dsR_len]; exact Nat.le_refl _))
def a_rCons : AFunc := ⟨1,18,[.tmp 2],(.seq (.region [⟨some 2,.mv (.c (.v (.bool false))),none⟩]) (.seq (.seq (.region [⟨some 3,.mv (.c (.v (.int .i64 0))),none⟩]) (.block 0 (.loop (.seq (.seq (.region [⟨some 4,.mv (.t 3),none⟩,⟨some 5,.mv (.t 0),none⟩,⟨some 6,.len (.t 5),none⟩,⟨some 7,.bin .lss (.t 4) (.t 6),none⟩]) (.cond (.t 7) .skip (.exit 0))) (.seq (.block 1 (.seq (.region [⟨some 10,.mv (.t 0),none⟩,⟨some 11,.mv (.t 3),none⟩,⟨some 12,.iaddr 1 (.t 10) (.t 11),none⟩,⟨some 13,.load none (.t 12),none⟩,⟨some 14,.mv (.t 3),none⟩,⟨some 15,.iaddr 1 (.t 13) (.t 14),none⟩,⟨some 16,.load none (.t 15),none⟩,⟨some 17,.bin .lss (.t 16) (.c (.v (.int .i64 0))),none⟩]) (.cond (.t 17) (.seq (.region [⟨some 2,.mv (.c (.v (.bool false))),none⟩]) .ret) .skip))) (.region [⟨some 8,.mv (.t 3),none⟩,⟨some 9,.bin .add (.t 8) (.c (.v (.int .i64 1))),none⟩,⟨some 3,.mv (.t 9),none⟩])))))) (.seq (.region [⟨some 2,.mv (.c (.v (.bool true))),none⟩]) .ret)))⟩
theorem a_rCons_ok : cFunc Try.prog 65 = some a_rCons := by kernel_rfl
def r_rCons0 : List (Nat × Nat) := [(2, 17)]
def a_rTi19 : AFunc := ⟨2,55,[.tmp 4],(.seq (.region [⟨some 2,.box (.t 0),none⟩,⟨some 4,.mv (.c (.v .zsl)),none⟩]) (.seq (.region [⟨some 5,.mv (.c (.v .zsl)),none⟩]) (.seq (.seq (.region [⟨some 6,.mv (.c (.v (.int .i64 0))),none⟩]) (.block 0 (.loop (.seq (.seq (.region [⟨some 10,.mv (.t 6),none⟩,⟨some 11,.faddr 0 (.t 2),none⟩,⟨some 12,.load none (.t 11),none⟩,⟨some 13,.len (.t 12),none⟩,⟨some 14,.bin .lss (.t 10) (.t 13),none⟩]) (.cond (.t 14) .skip (.exit 0))) (.seq (.block 1 (.seq (.region [⟨some 7,.mv (.c (.v .zsl)),none⟩]) (.seq (.seq (.region [⟨some 8,.mv (.c (.v (.int .i64 1))),none⟩]) (.block 2 (.loop (.seq (.seq (.region [⟨some 17,.mv (.t 8),none⟩,⟨some 18,.faddr 0 (.t 2),none⟩,⟨some 19,.load none (.t 18),none⟩,⟨some 20,.mv (.t 6),none⟩,⟨some 21,.iaddr 3 (.t 19) (.t 20),none⟩,⟨some 22,.faddr 2 (.t 21),none⟩,⟨some 23,.load none (.t 22),none⟩,⟨some 24,.len (.t 23),none⟩,⟨some 25,.bin .leq (.t 17) (.t 24),none⟩]) (.cond (.t 25) .skip (.exit 2))) (.seq (.block 3 (.seq (.region [⟨some 28,.load (some 1) (.t 2),none⟩,⟨some 29,.mv (.t 6),none⟩,⟨some 30,.mv (.t 8),none⟩,⟨some 31,.build [(.v (.int .i64 0)),(.v (.int .i64 0))] [(0,1,(.t 29)),(1,1,(.t 30))],none⟩,⟨some 32,.call (.c (.fn 134 [])) [(.t 28),(.t 31)],none⟩,⟨some 9,.mv (.t 32),none⟩]) (.draw [⟨0,⟨some 33,.mv (.t 7),none⟩,[]⟩,⟨1,⟨some 34,.mv (.t 1),none⟩,[]⟩,⟨2,⟨some 35,.mv (.t 9),none⟩,[]⟩,⟨3,⟨some 36,.iaddr 1 (.t 34) (.t 35),none⟩,[]⟩,⟨4,⟨some 37,.load none (.t 36),none⟩,[]⟩,⟨5,⟨some 38,.iaddr 1 (.t 37) (.c (.v (.int .i64 0))),none⟩,[]⟩,⟨6,⟨some 39,.load none (.t 38),none⟩,[]⟩,⟨7,⟨some 40,.bin .sub (.c (.v (.int .i64 0))) (.t 39),none⟩,[]⟩,⟨8,⟨some 41,.mv (.t 1),none⟩,[]⟩,⟨9,⟨some 42,.iaddr 1 (.t 41) (.c (.v (.int .i64 0))),none⟩,[]⟩,⟨10,⟨some 43,.load none (.t 42),none⟩,[]⟩,⟨11,⟨some 44,.mv (.t 9),none⟩,[]⟩,⟨12,⟨some 45,.iaddr 1 (.t 43) (.t 44),none⟩,[]⟩,⟨13,⟨some 46,.load none (.t 45),none⟩,[]⟩,⟨14,⟨some 47,.build [(.v (.int .i64 0)),(.v (.int .i64 0))] [(0,1,(.t 40)),(1,1,(.t 46))],none⟩,[]⟩,⟨15,⟨some 48,.bslice 2 [(.v (.int .i64 0)),(.v (.int .i64 0))] 1 [(0,(.t 47))],none⟩,[⟨some 33,.mv (.t 7),none⟩]⟩,⟨16,⟨some 49,.append 2 16 (.t 33) (.t 48),none⟩,[]⟩,⟨17,⟨some 7,.mv (.t 49),none⟩,[]⟩]))) (.region [⟨some 26,.mv (.t 8),none⟩,⟨some 27,.bin .add (.t 26) (.c (.v (.int .i64 1))),none⟩,⟨some 8,.mv (.t 27),none⟩])))))) (.region [⟨some 50,.mv (.t 5),none⟩,⟨some 51,.mv (.t 7),none⟩,⟨some 52,.bslice 1 [(.v .zsl)] 1 [(0,(.t 51))],none⟩,⟨some 53,.append 1 24 (.t 50) (.t 52),none⟩,⟨some 5,.mv (.t 53),none⟩])))) (.region [⟨some 15,.mv (.t 6),none⟩,⟨some 16,.bin .add (.t 15) (.c (.v (.int .i64 1))),none⟩,⟨some 6,.mv (.t 16),none⟩])))))) (.seq (.region [⟨some 54,.mv (.t 5),none⟩,⟨some 4,.mv (.t 54),none⟩]) .ret))))⟩
theorem a_rTi19_ok : cFunc Try.prog 66 = some a_rTi19 := by kernel_rfl
def r_rTi190 : List (Nat × Nat) := [(5, 53)]
def r_rTi191 : List (Nat × Nat) := [(7, 9), (17, 49)]
def a_rCe19 : AFunc := ⟨4,21,[.tmp 8],(.seq (.region [⟨some 4,.box (.t 0),none⟩,⟨some 6,.box (.t 2),none⟩,⟨some 7,.box (.t 3),none⟩,⟨some 8,.mv (.c (.v (.bool false))),none⟩]) (.seq (.draw [⟨0,⟨some 9,.mv (.t 1),none⟩,[]⟩,⟨1,⟨some 10,.load (some 1) (.t 4),none⟩,[]⟩,⟨2,⟨some 11,.load (some 2) (.t 7),none⟩,[]⟩,⟨6,⟨some 15,.load (some 1) (.t 4),none⟩,[]⟩,⟨7,⟨some 16,.load (some 2) (.t 6),none⟩,[]⟩,⟨3,⟨some 12,.call (.c (.fn 134 [])) [(.t 10),(.t 11)],none⟩,[⟨some 9,.mv (.t 1),none⟩,⟨some 15,.load (some 1) (.t 4),none⟩,⟨some 16,.load (some 2) (.t 6),none⟩]⟩,⟨4,⟨some 13,.iaddr 1 (.t 9) (.t 12),none⟩,[]⟩,⟨5,⟨some 14,.load none (.t 13),none⟩,[]⟩,⟨8,⟨some 17,.call (.c (.fn 134 [])) [(.t 15),(.t 16)],none⟩,[⟨some 9,.mv (.t 1),none⟩,⟨some 13,.iaddr 1 (.t 9) (.t 12),none⟩,⟨some 14,.load none (.t 13),none⟩]⟩,⟨9,⟨some 18,.iaddr 1 (.t 14) (.t 17),none⟩,[]⟩,⟨10,⟨some 19,.load none (.t 18),none⟩,[]⟩,⟨11,⟨some 20,.bin .lss (.t 19) (.c (.v (.int .i64 0))),none⟩,[]⟩,⟨12,⟨some 8,.mv (.t 20),none⟩,[]⟩]) .ret))⟩
theorem a_rCe19_ok : cFunc Try.prog 68 = some a_rCe19 := by kernel_rfl
def a_rEnds19 : AFunc := ⟨2,41,[.tmp 4],(.seq (.region [⟨some 4,.mv (.c (.v .zsl)),none⟩]) (.seq (.region [⟨some 5,.mv (.c (.v .zsl)),none⟩]) (.seq (.seq (.region [⟨some 6,.mv (.c (.v (.int .i64 0))),none⟩]) (.block 0 (.loop (.seq (.seq (.region [⟨some 9,.mv (.t 6),none⟩,⟨some 10,.mv (.t 0),none⟩,⟨some 11,.len (.t 10),none⟩,⟨some 12,.bin .lss (.t 9) (.t 11),none⟩]) (.cond (.t 12) .skip (.exit 0))) (.seq (.block 1 (.seq (.region [⟨some 7,.mv (.c (.v .zsl)),none⟩]) (.seq (.seq (.region [⟨some 8,.mv (.c (.v (.int .i64 0))),none⟩]) (.block 2 (.loop (.seq (.seq (.region [⟨some 15,.mv (.t 8),none⟩,⟨some 16,.mv (.t 0),none⟩,⟨some 17,.mv (.t 6),none⟩,⟨some 18,.iaddr 1 (.t 16) (.t 17),none⟩,⟨some 19,.load none (.t 18),none⟩,⟨some 20,.len (.t 19),none⟩,⟨some 21,.bin .lss (.t 15) (.t 20),none⟩]) (.cond (.t 21) .skip (.exit 2))) (.seq (.block 3 (.region [⟨some 24,.mv (.t 7),none⟩,⟨some 25,.mv (.t 0),none⟩,⟨some 26,.mv (.t 6),none⟩,⟨some 27,.iaddr 1 (.t 25) (.t 26),none⟩,⟨some 28,.load none (.t 27),none⟩,⟨some 29,.mv (.t 8),none⟩,⟨some 30,.mv (.t 1),none⟩,⟨some 31,.iaddr 2 (.t 28) (.t 29),none⟩,⟨some 32,.iaddrA 2 1 (.t 31) (.t 30),none⟩,⟨some 33,.load none (.t 32),none⟩,⟨some 34,.bslice 1 [(.v (.int .i64 0))] 1 [(0,(.t 33))],none⟩,⟨some 35,.append 1 8 (.t 24) (.t 34),none⟩,⟨some 7,.mv (.t 35),none⟩])) (.region [⟨some 22,.mv (.t 8),none⟩,⟨some 23,.bin .add (.t 22) (.c (.v (.int .i64 1))),none⟩,⟨some 8,.mv (.t 23),none⟩])))))) (.region [⟨some 36,.mv (.t 5),none⟩,⟨some 37,.mv (.t 7),none⟩,⟨some 38,.bslice 1 [(.v .zsl)] 1 [(0,(.t 37))],none⟩,⟨some 39,.append 1 24 (.t 36) (.t 38),none⟩,⟨some 5,.mv (.t 39),none⟩])))) (.region [⟨some 13,.mv (.t 6),none⟩,⟨some 14,.bin .add (.t 13) (.c (.v (.int .i64 1))),none⟩,⟨some 6,.mv (.t 14),none⟩])))))) (.seq (.region [⟨some 40,.mv (.t 5),none⟩,⟨some 4,.mv (.t 40),none⟩]) .ret))))⟩
theorem a_rEnds19_ok : cFunc Try.prog 63 = some a_rEnds19 := by kernel_rfl
def r_rEnds190 : List (Nat × Nat) := [(5, 39)]
def r_rEnds191 : List (Nat × Nat) := [(7, 8), (15, 35)]
def a_same19 : AFunc := ⟨2,8,[.tmp 4],(.seq (.region [⟨some 4,.mv (.c (.v (.bool false))),none⟩]) (.seq (.region [⟨some 5,.mv (.t 0),none⟩,⟨some 6,.mv (.t 1),none⟩,⟨some 7,.call (.c (.fn 135 [])) [(.t 5),(.t 6),(.c (.fn 136 []))],none⟩,⟨some 4,.mv (.t 7),none⟩]) .ret))⟩
theorem a_same19_ok : cFunc Try.prog 67 = some a_same19 := by kernel_rfl
def a_same191 : AFunc := ⟨2,8,[.tmp 4],(.seq (.region [⟨some 4,.mv (.c (.v (.bool false))),none⟩]) (.seq (.region [⟨some 5,.mv (.t 0),none⟩,⟨some 6,.mv (.t 1),none⟩,⟨some 7,.call (.c (.fn 118 [])) [(.t 5),(.t 6)],none⟩,⟨some 4,.mv (.t 7),none⟩]) .ret))⟩
theorem a_same191_ok : cFunc Try.prog 136 = some a_same191 := by kernel_rfl
def a_Eq22 : AFunc := ⟨2,26,[.tmp 4],(.seq (.region [⟨some 4,.mv (.c (.v (.bool false))),none⟩]) (.seq (.seq (.region [⟨some 6,.mv (.t 0),none⟩,⟨some 7,.len (.t 6),none⟩,⟨some 8,.mv (.t 1),none⟩,⟨some 9,.len (.t 8),none⟩,⟨some 10,.bin .neq (.t 7) (.t 9),none⟩]) (.cond (.t 10) (.seq (.region [⟨some 4,.mv (.c (.v (.bool false))),none⟩]) .ret) .skip)) (.seq (.seq (.region [⟨some 11,.mv (.t 0),none⟩,⟨some 12,.len (.t 11),none⟩,⟨some 13,.mv (.c (.v (.int .i64 0))),none⟩]) (.block 0 (.loop (.seq (.region [⟨some 14,.bin .lss (.t 13) (.t 12),none⟩]) (.seq (.cond (.t 14) .skip (.exit 0)) (.seq (.block 1 (.seq (.region [⟨some 15,.mv (.t 13),none⟩,⟨some 5,.mv (.t 15),none⟩]) (.seq (.draw [⟨0,⟨some 16,.mv (.t 0),none⟩,[]⟩,⟨1,⟨some 17,.mv (.t 5),none⟩,[]⟩,⟨2,⟨some 18,.iaddr 2 (.t 16) (.t 17),none⟩,[]⟩,⟨3,⟨some 19,.load (some 2) (.t 18),none⟩,[]⟩,⟨4,⟨some 20,.mv (.t 1),none⟩,[]⟩,⟨5,⟨some 21,.mv (.t 5),none⟩,[]⟩,⟨6,⟨some 22,.iaddr 2 (.t 20) (.t 21),none⟩,[]⟩,⟨7,⟨some 23,.load (some 2) (.t 22),none⟩,[]⟩,⟨8,⟨some 24,.eqs true [.i,.i] (.t 19) (.t 23),none⟩,[]⟩]) (.cond (.t 24) (.seq (.region [⟨some 4,.mv (.c (.v (.bool false))),none⟩]) .ret) .skip)))) (.region [⟨some 25,.bin .add (.t 13) (.c (.v (.int .i64 1))),none⟩,⟨some 13,.mv (.t 25),none⟩]))))))) (.seq (.region [⟨some 4,.mv (.c (.v (.bool true))),none⟩]) .ret))))⟩
theorem a_Eq22_ok : cFunc Try.prog 118 = some a_Eq22 := by kernel_rfl
def r_Eq220 : List (Nat × Nat) := [(4, 5), (13, 25)]
def a_EqF22 : AFunc := ⟨3,32,[.tmp 6],(.seq (.region [⟨some 6,.mv (.c (.v (.bool false))),none⟩]) (.seq (.seq (.region [⟨some 10,.mv (.t 0),none⟩,⟨some 11,.len (.t 10),none⟩,⟨some 12,.mv (.t 1),none⟩,⟨some 13,.len (.t 12),none⟩,⟨some 14,.bin .neq (.t 11) (.t 13),none⟩]) (.cond (.t 14) (.seq (.region [⟨some 6,.mv (.c (.v (.bool false))),none⟩]) .ret) .skip)) (.seq (.seq (.region [⟨some 15,.mv (.t 0),none⟩,⟨some 16,.len (.t 15),none⟩,⟨some 17,.mv (.c (.v (.int .i64 0))),none⟩]) (.block 0 (.loop (.seq (.region [⟨some 18,.bin .lss (.t 17) (.t 16),none⟩]) (.seq (.cond (.t 18) .skip (.exit 0)) (.seq (.block 1 (.seq (.region [⟨some 19,.mv (.t 17),none⟩,⟨some 20,.iaddr 1 (.t 15) (.t 17),none⟩,⟨some 21,.load none (.t 20),none⟩,⟨some 7,.mv (.t 19),none⟩,⟨some 8,.mv (.t 21),none⟩]) (.seq (.region [⟨some 22,.mv (.t 1),none⟩,⟨some 23,.mv (.t 7),none⟩,⟨some 24,.iaddr 1 (.t 22) (.t 23),none⟩,⟨some 25,.load none (.t 24),none⟩,⟨some 9,.mv (.t 25),none⟩]) (.seq (.region [⟨some 26,.mv (.t 2),none⟩,⟨some 27,.mv (.t 8),none⟩,⟨some 28,.mv (.t 9),none⟩,⟨some 29,.call (.t 26) [(.t 27),(.t 28)],none⟩,⟨some 30,.not (.t 29),none⟩]) (.cond (.t 30) (.seq (.region [⟨some 6,.mv (.c (.v (.bool false))),none⟩]) .ret) .skip))))) (.region [⟨some 31,.bin .add (.t 17) (.c (.v (.int .i64 1))),none⟩,⟨some 17,.mv (.t 31),none⟩]))))))) (.seq (.region [⟨some 6,.mv (.c (.v (.bool true))),none⟩]) .ret))))⟩
theorem a_EqF22_ok : cFunc Try.prog 135 = some a_EqF22 := by kernel_rfl
def r_EqF220 : List (Nat × Nat) := [(6, 9), (17, 31)]

noncomputable def dMV (t : Tr) (bn : Bn) : AV := .v (.isl 1 (fl ((ids t).length + 1) fun i => [.isl 1 (iRw ((ids t).length + 1) (dM t bn i))]))
theorem rCons_spec (t : Tr) (bn : Bn) (hC : (ids t).length ≤ 1000) (b l : List Row) :
  ACalls Try.prog 65 [dMV t bn] b l (fun r b' l' => r = .v (.bool (okB t bn)) ∧ b' = b ∧ l' = l) := by
 refine calls_kept a_rCons_ok rfl (by decide) ?_
 intro B g hB hR hE hA
 simp only [KArgs] at hA
 obtain ⟨N, hN⟩ : ∃ N, (ids t).length + 1 = N := ⟨_, rfl⟩
 unfold dMV at hA
 rw [hN] at hA
 have hok : okB t bn = consB N (dM t bn) := by unfold okB; rw [hN]
 simp (disch := (first | decide | omega)) only [a_rCons, hA, fl_len, go_sem]
 refine loop_kept (ι := Nat) r_rCons0 (fun i => [(3, .v (.int .i64 i))]) 0 (fun _ => [])
  (fun i => i ≤ N ∧ ∀ j, j < i → 0 ≤ dM t bn j j) (fun i => N - i) 0 ⟨Nat.zero_le _, fun j hj => by omega⟩ (by (repeat (first | exact hE.mono oM | refine KLt.up ?_ kL))) (by ((try simp (disch := decide) only [hA, go_sem]) <;> exact kH)) (fun e => Weak.refl _ _ _) ?_
 rintro g1 hE1 hEE1 hg1 i ⟨hi, h0⟩
 by_cases hil : i < N
 ·have q1 : (iRw N (dM t bn i))[i]? = some [.int .i64 (dM t bn i i)] := iRw_get hil
  by_cases hd : dM t bn i i < 0
  ·have d1 := decide_eq_true hd
   have hno : okB t bn = false := by
    rw [hok]
    unfold consB
    rw [List.all_eq_false]
    exact ⟨i, List.mem_range.2 hil, by simp; omega⟩
   simp (disch := (first | decide | omega)) only [hA, hg1, fl_len, fl_get, iRw_len, q1, d1, go_sem]
   exact leave_pure (xs := [.v (.bool false)]) (.inr rfl) (by simp (disch := (first | decide | omega)) only [resVs, resV, go_sem, hA, hg1]) kO hR hB ⟨by rw [hno]; rfl, rfl, rfl⟩
  ·have d1 := decide_eq_false hd
   simp (disch := (first | decide | omega)) only [hA, hg1, fl_len, fl_get, iRw_len, q1, d1, go_sem]
   refine ⟨i + 1, ⟨hil, fun j hj => ?_⟩, by simp only; omega, ?_⟩
   ·by_cases hji : j = i
    ·subst hji; omega
    ·exact h0 j oM
   ·exact Weak.kround (p := r_rCons0) (k := 0) (by ((repeat refine (kAny_up rfl).trans ?_); exact hEE1)) (by ((try simp (disch := decide) only [hA, go_sem]) <;> exact kH)) rfl hE1 (by simp) kV hR kL
 ·obtain rfl : i = N := by omega
  have hyes : okB t bn = true := by
   rw [hok]
   unfold consB
   rw [List.all_eq_true]
   intro j hj
   exact decide_eq_true (h0 j (List.mem_range.1 hj))
  simp (disch := (first | decide | omega)) only [hA, hg1, fl_len, go_sem]
  exact leave_pure (xs := [.v (.bool true)]) (.inr rfl) (by simp (disch := (first | decide | omega)) only [resVs, resV, go_sem, hA, hg1]) kO hR hB ⟨by rw [hyes]; rfl, rfl, rfl⟩
theorem evN_num {t : Tr} {p i : Nat} : numN t (p, i + 1) = evN t p + i := rfl
theorem lo_num {t : Tr} {bn : Bn} {p i : Nat} (hx : (p, i + 1) ∈ ids t) : 0 - dM t bn (numN t (p, i + 1) + 1) 0 = loN t bn (evN t p + i) := by
 unfold loN
 rw [← evN_num, phN_num hx]; omega
theorem hi_num {t : Tr} {bn : Bn} {p i : Nat} (hx : (p, i + 1) ∈ ids t) : dM t bn 0 (numN t (p, i + 1) + 1) = hiN t bn (evN t p + i) := by
 unfold hiN
 rw [← evN_num, phN_num hx]
set_option maxRecDepth 20000 in
set_option maxHeartbeats 8000000 in
theorem rTi19_spec (t : Tr) (hS : Small t) (hn : t.length ≤ 20) (he70 : ∀ x ∈ t, x.evs.length ≤ 70) (hC : (ids t).length ≤ 1000) (bn : Bn) (hok : Bok t bn) (hk : okB t bn = true) (b l : List Row) :
  ACalls Try.prog 66 [.agg [.v (eT t)], dMV t bn] b l (fun r b' l' => r = .v (.isl 1 (tiAll t bn t.length)) ∧ b' = b ∧ l' = l) := by
 refine calls_kept a_rTi19_ok rfl (by decide) ?_
 intro B g hB hR hE hA
 simp only [KArgs] at hA
 have eTe : eT t = .isl 3 (t.map ePr) := rfl
 unfold dMV at hA
 rw [eTe] at hA
 have h01 : ((0 + 1 : Nat) : Int) = 1 := rfl
 have hz : (0 : Int).toNat = 0 := rfl
 simp (disch := (first | decide | omega)) only [a_rTi19, hA, go_sem]
 refine loop_kept_nil (ι := Nat) 5 1 r_rTi190 (fun q => [(5, .sl (B.length + 1) q 0 q), (6, .v (.int .i64 q))]) 2 (fun q => [.live 0 1 [[.v (.isl 3 (t.map ePr))]], .live q 1 (vs (tiAll t bn q))])
  (fun q => q ≤ t.length) (fun q => t.length - q) 0 (Nat.zero_le _) (by simp (disch := decide) only [hA, go_sem]) (by decide) rfl (by (repeat (first | exact hE.mono oM | refine KLt.up ?_ kL))) (by ((try simp (disch := decide) only [hA, go_sem]) <;> exact kH)) (fun e => Weak.refl _ _ _) ?_
 intro g1 hE1 hEE1 hg1 q hq
 by_cases hlt : q < t.length
 ·have heq := evsOf_lt hlt
  have h70 := he70 _ (List.getElem_mem hlt)
  have hgp : (t.map ePr)[q]? = some (ePr t[q]) := by rw [List.getElem?_map, List.getElem?_eq_getElem hlt]; rfl
  simp only [ePr] at hgp
  simp (disch := (first | decide | omega)) only [hA, hg1, List.length_map, go_sem]
  refine loop_kept_nil (ι := Nat) 7 2 r_rTi191 (fun j => [(7, .sl (B.length + 2) j 0 j), (8, .v (.int .i64 ((j + 1 : Nat) : Int)))]) 3 (fun j => [.live 0 1 [[.v (.isl 3 (t.map ePr))]], .live q 1 (vs (tiAll t bn q)), .live j 2 (vs (tiR t bn q j))])
   (fun j => j ≤ t[q].evs.length) (fun j => t[q].evs.length - j) 0 (Nat.zero_le _) (by simp (disch := decide) only [hA, go_sem]) (by decide) rfl (by (repeat (first | exact hE1.mono oM | refine KLt.up ?_ kL))) (by ((try simp (disch := decide) only [hA, hg1, h01, go_sem]) <;> exact kH)) (fun e => Weak.refl _ _ _) ?_
  intro g2 hE2 hEE2 hg2 j hj
  by_cases hjl : j < t[q].evs.length
  ·have dl : decide (((j + 1 : Nat) : Int) ≤ (t[q].evs.length : Int)) = true := decide_eq_true oM
   have hx : (q, j + 1) ∈ ids t := mem_ids2.2 ⟨hlt, by rw [heq]; exact hjl⟩
   have cN := fun b l => rNum19_spec t hn he70 q j hx b l
   have hnk := (numN_at hx).1
   have hl := lo_num (bn := bn) hx
   have hh := hi_num (bn := bn) hx
   obtain ⟨k, hk0⟩ : ∃ k, numN t (q, j + 1) = k := ⟨_, rfl⟩
   rw [hk0] at cN hnk hl hh
   simp only [idA, eTe] at cN
   have q1 : (iRw ((ids t).length + 1) (dM t bn (k + 1)))[0]? = some [.int .i64 (dM t bn (k + 1) 0)] := iRw_get oM
   have q2 : (iRw ((ids t).length + 1) (dM t bn 0))[k + 1]? = some [.int .i64 (dM t bn 0 (k + 1))] := iRw_get oM
   have hb := hok.dM_bd hk (i := k + 1) (j := 0) oM oM
   have tk : (tiR t bn q j).take j = tiR t bn q j := List.take_of_length_le (by simp [tiR, fl_len])
   have tl : (tiR t bn q j).length = j := fl_len
   have hs := hl
   simp (disch := (first | decide | omega)) only [hA, hg1, hg2, hgp, dl, List.length_map, go_sem]
   refine ACalls.nxt (cN _ _) ?_
   simp (disch := (first | decide | omega)) only [hA, hg1, hg2, hz, fl_len, fl_get, iRw_len, q1, q2, hl, hh, List.replicate_succ, List.replicate_zero, setFrom, cellsOf, tk, tl, tiR_next, go_sem]
   refine ⟨j + 1, hjl, by simp only; omega, ?_⟩
   exact Weak.kround (p := r_rTi191) (k := 3) (by ((repeat refine (kAny_up rfl).trans ?_); exact hEE2)) (by ((try simp (disch := decide) only [hA, go_sem]) <;> exact kH)) rfl hE2 (by simp) kV hR kL
  ·have dl : decide (((j + 1 : Nat) : Int) ≤ (t[q].evs.length : Int)) = false := decide_eq_false oM
   obtain rfl : j = t[q].evs.length := by omega
   have tk : (tiAll t bn q).take q = tiAll t bn q := List.take_of_length_le (by simp [tiAll, fl_len])
   have tl : (tiAll t bn q).length = q := fl_len
   simp (disch := (first | decide | omega)) only [hA, hg1, hg2, hgp, dl, List.length_map, List.replicate_succ, List.replicate_zero, setFrom, cellsOf, tk, tl, go_sem]
   refine ⟨q + 1, hlt, by simp only; omega, ?_⟩
   refine Weak.kroundF (p := r_rTi190) (i := 2) (ver := t[q].evs.length) (sz := 2) (rows := tiR t bn q t[q].evs.length) (k := 2) (l1 := [.live 0 1 [[.v (.isl 3 (t.map ePr))]], .live (q + 1) 1 (vs (tiAll t bn (q + 1)))]) (junk := [.dead t[q].evs.length, .live 0 1 [[.v (.isl 2 (tiR t bn q t[q].evs.length))]]]) rfl (by ((repeat refine (kAny_up rfl).trans ?_); refine (kAny_sub hg2 (kIn_sub rfl)).trans ?_; (repeat refine (kAny_up rfl).trans ?_); exact hEE1)) (by ((try simp (disch := decide) only [hA, hg1, go_sem]) <;> exact kH)) ?_ (by (repeat (first | exact hE1.mono oM | refine KLt.up ?_ kL))) (by simp) (by simp) kV hR kL
   have tl2 : (tiR t bn q t[q].evs.length).length = t[q].evs.length := fl_len
   simp [rowMap, frz0, vs, frz0_v, ← tiAll_next, heq, tl2]
   exact List.take_of_length_le oM
 ·obtain rfl : q = t.length := by omega
  simp (disch := (first | decide | omega)) only [hA, hg1, List.length_map, go_sem]
  exact leave_frz (i := 1) (n := t.length) (rows := tiAll t bn t.length) (.inr rfl) (by simp (disch := (first | decide | omega)) only [resVs, resV, hA, hg1, go_sem]) rfl (by simp [tiAll, fl_len]) hR hB ⟨rfl, rfl, rfl⟩
theorem rCe19_spec (t : Tr) (hn : t.length ≤ 20) (he70 : ∀ x ∈ t, x.evs.length ≤ 70) (bn : Bn) (p i q j : Nat) (hx : (p, i + 1) ∈ ids t) (hy : (q, j + 1) ∈ ids t) (b l : List Row) :
  ACalls Try.prog 68 [.agg [.v (eT t)], dMV t bn, idA (p, i + 1), idA (q, j + 1)] b l (fun r b' l' => r = .v (.bool (cerB t bn (p, i + 1) (q, j + 1))) ∧ b' = b ∧ l' = l) := by
 refine calls_kept a_rCe19_ok rfl (by decide) ?_
 intro B g hB hR hE hA
 simp only [KArgs] at hA
 have eTe : eT t = .isl 3 (t.map ePr) := rfl
 unfold dMV at hA
 have cX := fun b l => rNum19_spec t hn he70 p i hx b l
 have cY := fun b l => rNum19_spec t hn he70 q j hy b l
 have hnx := (numN_at hx).1
 have hny := (numN_at hy).1
 have hce : cerB t bn (p, i + 1) (q, j + 1) = decide (dM t bn (numN t (q, j + 1) + 1) (numN t (p, i + 1) + 1) < 0) := rfl
 obtain ⟨k, hk0⟩ : ∃ k, numN t (p, i + 1) = k := ⟨_, rfl⟩
 obtain ⟨z, hz0⟩ : ∃ k, numN t (q, j + 1) = k := ⟨_, rfl⟩
 rw [hk0] at cX hnx hce
 rw [hz0] at cY hny hce
 simp only [idA, eTe] at hA cX cY
 have q1 : (iRw ((ids t).length + 1) (dM t bn (z + 1)))[k + 1]? = some [.int .i64 (dM t bn (z + 1) (k + 1))] := iRw_get oM
 simp (disch := (first | decide | omega)) only [a_rCe19, hA, go_sem]
 refine ACalls.nxt (cY _ _) ?_
 simp (disch := (first | decide | omega)) only [hA, fl_len, fl_get, go_sem]
 refine ACalls.nxt (cX _ _) ?_
 simp (disch := (first | decide | omega)) only [hA, fl_len, fl_get, iRw_len, q1, go_sem]
 exact leave_pure (xs := [.v (.bool (decide (dM t bn (z + 1) (k + 1) < 0)))]) (.inr rfl) (by simp (disch := (first | decide | omega)) only [resVs, resV, go_sem, hA]) kO hR hB ⟨by rw [hce]; rfl, rfl, rfl⟩
noncomputable def enF (t : Tr) (bn : Bn) (w v : Nat) : Int := if w = 0 then loN t bn v else hiN t bn v
noncomputable def enRow (t : Tr) (bn : Bn) (w p n : Nat) : List Int := fl n fun i => enF t bn w (evN t p + i)
noncomputable def enAll (t : Tr) (bn : Bn) (w n : Nat) : List (List Int) := fl n fun p => enRow t bn w p (evsOf t p).length
theorem en_zero {t : Tr} {bn : Bn} {n : Nat} : enAll t bn 0 n = eaAll t bn n := rfl
theorem enR_next {t : Tr} {bn : Bn} {w p n : Nat} : (enRow t bn w p n).map eI ++ [[.int .i64 (enF t bn w (evN t p + n))]] = (enRow t bn w p (n + 1)).map eI := by
 unfold enRow
 rw [fl_map, fl_map]
 exact fl_next rfl
theorem enAll_next {t : Tr} {bn : Bn} {w n : Nat} : (enAll t bn w n).map eRw ++ [[.isl 1 ((enRow t bn w n (evsOf t n).length).map eI)]] = (enAll t bn w (n + 1)).map eRw := by
 unfold enAll
 rw [fl_map, fl_map]
 exact fl_next rfl
set_option maxRecDepth 20000 in
set_option maxHeartbeats 8000000 in
theorem rEnds19_spec (t : Tr) (hS : Small t) (bn : Bn) (w : Nat) (hw : w < 2) (b l : List Row) :
  ACalls Try.prog 63 [.v (.isl 1 (tiAll t bn t.length)), .v (.int .i64 w)] b l (fun r b' l' => r = .v (.isl 1 ((enAll t bn w t.length).map eRw)) ∧ b' = b ∧ l' = l) := by
 refine calls_kept a_rEnds19_ok rfl (by decide) ?_
 intro B g hB hR hE hA
 simp only [KArgs] at hA
 have htl : (tiAll t bn t.length).length = t.length := fl_len
 have hnp := hS.np
 simp (disch := (first | decide | omega)) only [a_rEnds19, hA, go_sem]
 refine loop_kept_nil (ι := Nat) 5 1 r_rEnds190 (fun q => [(5, .sl (B.length + 0) q 0 q), (6, .v (.int .i64 q))]) 1 (fun q => [.live q 1 (vs ((enAll t bn w q).map eRw))])
  (fun q => q ≤ t.length) (fun q => t.length - q) 0 (Nat.zero_le _) (by simp (disch := decide) only [hA, go_sem]) (by decide) rfl (by (repeat (first | exact hE.mono oM | refine KLt.up ?_ kL))) (by ((try simp (disch := decide) only [hA, go_sem]) <;> exact kH)) (fun e => Weak.refl _ _ _) ?_
 intro g1 hE1 hEE1 hg1 q hq
 by_cases hlt : q < t.length
 ·have heq := evsOf_lt hlt
  have hne := hS.ne _ (List.getElem_mem hlt)
  have hgr : (tiAll t bn t.length)[q]? = some [.isl 2 (tiR t bn q t[q].evs.length)] := by rw [← heq]; exact fl_get hlt
  have trl : (tiR t bn q t[q].evs.length).length = t[q].evs.length := fl_len
  simp (disch := (first | decide | omega)) only [hA, hg1, hgr, htl, go_sem]
  refine loop_kept_nil (ι := Nat) 7 1 r_rEnds191 (fun j => [(7, .sl (B.length + 1) j 0 j), (8, .v (.int .i64 j))]) 2 (fun j => [.live q 1 (vs ((enAll t bn w q).map eRw)), .live j 1 (vs ((enRow t bn w q j).map eI))])
   (fun j => j ≤ t[q].evs.length) (fun j => t[q].evs.length - j) 0 (Nat.zero_le _) (by simp (disch := decide) only [hA, go_sem]) (by decide) rfl (by (repeat (first | exact hE1.mono oM | refine KLt.up ?_ kL))) (by ((try simp (disch := decide) only [hA, hg1, go_sem]) <;> exact kH)) (fun e => Weak.refl _ _ _) ?_
  intro g2 hE2 hEE2 hg2 j hj
  by_cases hjl : j < t[q].evs.length
  ·have tl : (enRow t bn w q j).length = j := fl_len
   have tk : List.take j ((enRow t bn w q j).map eI) = (enRow t bn w q j).map eI := List.take_of_length_le (by rw [List.length_map, tl]; exact Nat.le_refl _)
   have gl : (tiR t bn q t[q].evs.length)[j]? = some [.int .i64 (loN t bn (evN t q + j)), .int .i64 (hiN t bn (evN t q + j))] := fl_get hjl
   have gw : ([IV.int .i64 (loN t bn (evN t q + j)), .int .i64 (hiN t bn (evN t q + j))])[w]? = some (.int .i64 (enF t bn w (evN t q + j))) := by
    have : w = 0 ∨ w = 1 := by omega
    rcases this with rfl | rfl <;> rfl
   simp (disch := (first | decide | omega)) only [hA, hg1, hg2, hgr, htl, gl, trl, Nat.mul_one, gw, List.length_map, List.replicate_succ, List.replicate_zero, setFrom, cellsOf, tk, tl, enR_next, go_sem]
   refine ⟨j + 1, hjl, by simp only; omega, ?_⟩
   exact Weak.kround (p := r_rEnds191) (k := 2) (by ((repeat refine (kAny_up rfl).trans ?_); exact hEE2)) (by ((try simp (disch := decide) only [hA, go_sem]) <;> exact kH)) rfl hE2 (by simp) kV hR kL
  ·obtain rfl : j = t[q].evs.length := by omega
   have tl : (enAll t bn w q).length = q := fl_len
   have tk : List.take q ((enAll t bn w q).map eRw) = (enAll t bn w q).map eRw := List.take_of_length_le (by rw [List.length_map, tl]; exact Nat.le_refl _)
   simp (disch := (first | decide | omega)) only [hA, hg1, hg2, hgr, htl, trl, List.length_map, List.replicate_succ, List.replicate_zero, setFrom, cellsOf, tk, tl, go_sem]
   refine ⟨q + 1, hlt, by simp only; omega, ?_⟩
   refine Weak.kroundF (p := r_rEnds190) (i := 1) (ver := t[q].evs.length) (sz := 1) (rows := (enRow t bn w q t[q].evs.length).map eI) (k := 1) (l1 := [.live (q + 1) 1 (vs ((enAll t bn w (q + 1)).map eRw))]) (junk := [.dead t[q].evs.length, .live 0 1 [[.v (.isl 1 ((enRow t bn w q t[q].evs.length).map eI))]]]) rfl (by ((repeat refine (kAny_up rfl).trans ?_); refine (kAny_sub hg2 (kIn_sub rfl)).trans ?_; (repeat refine (kAny_up rfl).trans ?_); exact hEE1)) (by ((try simp (disch := decide) only [hA, hg1, go_sem]) <;> exact kH)) ?_ (by (repeat (first | exact hE1.mono oM | refine KLt.up ?_ kL))) (by simp) (by simp) kV hR kL
   have tl2 : (enRow t bn w q t[q].evs.length).length = t[q].evs.length := fl_len
   simp [rowMap, frz0, vs, frz0_v, ← enAll_next, heq, tl2]
   exact List.take_of_length_le (by simp [tl2])
 ·obtain rfl : q = t.length := by omega
  simp (disch := (first | decide | omega)) only [hA, hg1, htl, go_sem]
  refine leave_deep (.inr rfl) (xs := [.sl (B.length + 0) t.length 0 t.length]) (by simp (disch := (first | decide | omega)) only [resVs, resV, hA, hg1, go_sem]) (y := .v (.isl 1 ((enAll t bn w t.length).map eRw))) (Dv.slV (i := 0) rfl (by simp [enAll, fl_len])) hR hB ⟨rfl, rfl, rfl⟩
theorem eq22_refl (t : Tr) (bn : Bn) (p n : Nat) (hn : n ≤ 1000000) (b l : List Row) : ACalls Try.prog 118 [.v (.isl 2 (tiR t bn p n)), .v (.isl 2 (tiR t bn p n))] b l (fun r b' l' => r = .v (.bool true) ∧ b' = b ∧ l' = l) := by
 refine calls_kept a_Eq22_ok rfl (by decide) ?_
 intro B g hB hR hE hA
 simp only [KArgs] at hA
 have trl : (tiR t bn p n).length = n := fl_len
 have hd : ((n : Int) != (n : Int)) = false := by simp
 simp (disch := (first | decide | omega)) only [a_Eq22, hA, trl, hd, go_sem]
 refine loop_kept (ι := Nat) r_Eq220 (fun i => [(13, .v (.int .i64 i))]) 0 (fun _ => [])
  (fun i => i ≤ n) (fun i => n - i) 0 (Nat.zero_le _) (by (repeat (first | exact hE.mono oM | refine KLt.up ?_ kL))) (by ((try simp (disch := decide) only [hA, go_sem]) <;> exact kH)) (fun e => Weak.refl _ _ _) ?_
 intro g1 hE1 hEE1 hg1 i hi
 by_cases hlt : i < n
 ·have gl : (tiR t bn p n)[i]? = some [.int .i64 (loN t bn (evN t p + i)), .int .i64 (hiN t bn (evN t p + i))] := fl_get hlt
  have hd2 : ((loN t bn (evN t p + i) == loN t bn (evN t p + i)) && (hiN t bn (evN t p + i) == hiN t bn (evN t p + i))) = true := by simp
  simp (disch := (first | decide | omega)) only [hA, hg1, trl, gl, hd2, go_sem]
  refine ⟨i + 1, hlt, by simp only; omega, ?_⟩
  exact Weak.kround (p := r_Eq220) (k := 0) (by ((repeat refine (kAny_up rfl).trans ?_); exact hEE1)) (by ((try simp (disch := decide) only [hA, go_sem]) <;> exact kH)) rfl hE1 (by simp) kV hR kL
 ·obtain rfl : i = n := by omega
  simp (disch := (first | decide | omega)) only [hA, hg1, trl, go_sem]
  exact leave_pure (xs := [.v (.bool true)]) (.inr rfl) (by simp (disch := (first | decide | omega)) only [resVs, resV, go_sem, hA, hg1]) kO hR hB ⟨rfl, rfl, rfl⟩
theorem same191_refl (t : Tr) (bn : Bn) (p n : Nat) (hn : n ≤ 1000000) (b l : List Row) : ACalls Try.prog 136 [.v (.isl 2 (tiR t bn p n)), .v (.isl 2 (tiR t bn p n))] b l (fun r b' l' => r = .v (.bool true) ∧ b' = b ∧ l' = l) := by
 refine calls_kept a_same191_ok rfl (by decide) ?_
 intro B g hB hR hE hA
 simp only [KArgs] at hA
 simp (disch := (first | decide | omega)) only [a_same191, hA, go_sem]
 refine ACalls.nxt (eq22_refl t bn p n hn _ _) ?_
 simp (disch := (first | decide | omega)) only [hA, go_sem]
 exact leave_pure (xs := [.v (.bool true)]) (.inr rfl) (by simp (disch := (first | decide | omega)) only [resVs, resV, go_sem, hA]) kO hR hB ⟨rfl, rfl, rfl⟩
theorem eqF22_refl (t : Tr) (hS : Small t) (bn : Bn) (b l : List Row) : ACalls Try.prog 135 [.v (.isl 1 (tiAll t bn t.length)), .v (.isl 1 (tiAll t bn t.length)), .fn 136 []] b l (fun r b' l' => r = .v (.bool true) ∧ b' = b ∧ l' = l) := by
 refine calls_kept a_EqF22_ok rfl (by decide) ?_
 intro B g hB hR hE hA
 simp only [KArgs] at hA
 have htl : (tiAll t bn t.length).length = t.length := fl_len
 have hnp := hS.np
 have hd : ((t.length : Int) != (t.length : Int)) = false := by simp
 simp (disch := (first | decide | omega)) only [a_EqF22, hA, htl, hd, go_sem]
 refine loop_kept (ι := Nat) r_EqF220 (fun i => [(17, .v (.int .i64 i))]) 0 (fun _ => [])
  (fun i => i ≤ t.length) (fun i => t.length - i) 0 (Nat.zero_le _) (by (repeat (first | exact hE.mono oM | refine KLt.up ?_ kL))) (by ((try simp (disch := decide) only [hA, go_sem]) <;> exact kH)) (fun e => Weak.refl _ _ _) ?_
 intro g1 hE1 hEE1 hg1 i hi
 by_cases hlt : i < t.length
 ·have heq := evsOf_lt hlt
  have hne := hS.ne _ (List.getElem_mem hlt)
  have hgr : (tiAll t bn t.length)[i]? = some [.isl 2 (tiR t bn i t[i].evs.length)] := by rw [← heq]; exact fl_get hlt
  have cS := fun b l => same191_refl t bn i t[i].evs.length oM b l
  simp (disch := (first | decide | omega)) only [hA, hg1, htl, hgr, go_sem]
  refine ACalls.nxt (cS _ _) ?_
  simp (disch := (first | decide | omega)) only [hA, hg1, go_sem]
  refine ⟨i + 1, hlt, by simp only; omega, ?_⟩
  exact Weak.kround (p := r_EqF220) (k := 0) (by ((repeat refine (kAny_up rfl).trans ?_); exact hEE1)) (by ((try simp (disch := decide) only [hA, go_sem]) <;> exact kH)) rfl hE1 (by simp) kV hR kL
 ·obtain rfl : i = t.length := by omega
  simp (disch := (first | decide | omega)) only [hA, hg1, htl, go_sem]
  exact leave_pure (xs := [.v (.bool true)]) (.inr rfl) (by simp (disch := (first | decide | omega)) only [resVs, resV, go_sem, hA, hg1]) kO hR hB ⟨rfl, rfl, rfl⟩
theorem same19_refl (t : Tr) (hS : Small t) (bn : Bn) (b l : List Row) : ACalls Try.prog 67 [.v (.isl 1 (tiAll t bn t.length)), .v (.isl 1 (tiAll t bn t.length))] b l (fun r b' l' => r = .v (.bool true) ∧ b' = b ∧ l' = l) := by
 refine calls_kept a_same19_ok rfl (by decide) ?_
 intro B g hB hR hE hA
 simp only [KArgs] at hA
 simp (disch := (first | decide | omega)) only [a_same19, hA, go_sem]
 refine ACalls.nxt (eqF22_refl t hS bn _ _) ?_
 simp (disch := (first | decide | omega)) only [hA, go_sem]
 exact leave_pure (xs := [.v (.bool true)]) (.inr rfl) (by simp (disch := (first | decide | omega)) only [resVs, resV, go_sem, hA]) kO hR hB ⟨rfl, rfl, rfl⟩
end Go.Proofs.Ytanblnhnfkeffaa
