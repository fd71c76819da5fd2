/- Texts of one proof, laid together: NT, N7, N8. No condition. -/
import Derived.Test.YtpkemmchpccjdaaND3
import Derived.Test.YtpkemmchpccjdaaND5
import Derived.Test.YtpkemmchpccjdaaND10
import Derived.Test.YtpkemmchpccjdaaND9
import Derived.Test.YtpkemmchpccjdaaND4
import Derived.Test.YtpkemmchpccjdaaND2
import Derived.Test.YtpkemmchpccjdaaProg
import Derived.KernelRfl
namespace Go.Proofs.Ytpkemmchpccjdaa
open Go.RowKit
set_option linter.unusedVariables false
theorem trn_i : TR Try.prog 3 1 (fun n : Int => [.int .i64 n]) (fun n => (Lit.int .i64 n).wf = true) := tr_int Try.underlying3
theorem trn_b : TR Try.prog 4 1 (fun n : Bool => [.bool n]) (fun _ => True) := tr_bool Try.underlying4
theorem tr_fate : TR Try.prog 46 2 eFt (fun _ => True) :=
 (tr_struct Try.underlying46 (trf_cons trn_i (by kernel_rfl) rfl (trf_cons trn_i (by kernel_rfl) rfl trf_nil))).map (fun y => (y.1, y.2.1)) (fun _ => rfl) (fun _ _ => trivial)
theorem tr_fates : TR Try.prog 22 1 (fun l : List (Int × Int) => [.isl 2 (l.map eFt)]) (fun l => l.length ≤ maxLen) :=
 (tr_slice tr_fate Try.underlying22 (by kernel_rfl) (by decide)).map id (fun _ => rfl) (fun _ h => h.1)
end Go.Proofs.Ytpkemmchpccjdaa
namespace Go.Proofs.Ytpkemmchpccjdaa
set_option linter.unusedVariables false
set_option linter.unusedSimpArgs false
attribute [local go_sem ↓] run_skip run_region run_draw run_both run_seq run_block run_exit run_ret run_cond atN_app seqC_normal seqC_exit seqC_ret seqQ_normal seqQ_exit seqQ_ret blkQ_normal blkQ_exit blkQ_ret runOps_nil runOps_cons runD_nil runD_cons grdO_true grdO_false grdD_true grdD_false ifC_true ifC_false opS_val opS_call opS_two opK_app dS_val dS_call dS_two dK_app kUp_same kUp_ne
attribute [local go_sem] rechks_nil rechks_cons rechk gcase_true gcase_false ex_val ex_val0 gd_none gd_some ev_t ev_c evs_nil evs_cons evo_some evo_none hget_at hget_first hsetB_at hsetB_first hsetL_at hsetL_first ofOpt_some aop aload astore aslice aappend aiaddr aiaddrA afaddr alen alenS acopy amm acall alookup amupdate alenM atostr aappz comma keyEq apick binV binVB binVS isSh intOp strOp boolOp shOp eqC eqF and2 cellsOf setFrom fillA fillS rowsI rowI rd rdI elems mk bounds AV.cell List.all_cons List.all_nil Bool.and_true Bool.true_and Bool.and_self List.length_cons List.length_nil List.length_append Nat.reduceAdd Nat.reduceSub Nat.reduceMul Nat.zero_add Nat.add_zero List.cons_append List.nil_append List.append_assoc List.append_nil List.getElem?_cons_zero List.getElem?_cons_succ List.getElem?_nil List.set_cons_zero List.set_cons_succ List.drop_zero List.drop_succ_cons List.take_zero List.take_succ_cons List.take_nil List.drop_nil List.map_cons List.map_nil Option.map_some if_true if_false Bool.false_eq_true and_self true_and and_true Nat.reduceLeDiff Nat.reduceLT Nat.le_refl Nat.reduceEqDiff ite_true ite_false beq_self_eq_true beq_true beq_false Bool.not_true Bool.not_false Bool.true_beq Bool.false_beq map_vs vs_len vs_get vs_take vs_drop vs_snoc1 vs_snoc2 vs_snoc3 vs_snoc5 vs_set1 vs_set2 vs_rep wrap_id le_T lt_T le_F lt_F leI_T ltI_T leI_F ltI_F geI gtI get_T decide_true decide_false room List.getElem?_map List.length_map List.length_take Int.toNat_natCast Nat.min_def Nat.min_self nth_kOf put_kOf put_kNo kOv_cons kOv_nil KHas KArgs List.getElem_cons_zero List.getElem_cons_succ
def a_lawDel : AFunc := ⟨3,206,[.tmp 6],(.seq (.region [⟨some 3,.box (.t 0),none⟩,⟨some 6,.mv (.c (.v (.bool false))),none⟩]) (.seq (.seq (.region [⟨some 33,.call (.c (.fn 4 [])) [],none⟩,⟨some 34,.not (.t 33),none⟩]) (.cond (.t 34) (.seq (.region [⟨some 6,.mv (.c (.v (.bool false))),none⟩]) .ret) .skip)) (.seq (.seq (.region [⟨some 35,.mv (.t 2),none⟩,⟨some 36,.len (.t 35),none⟩,⟨some 37,.bin .gtr (.t 36) (.c (.v (.int .i64 60))),none⟩,⟨some 38,.mv (.t 37),none⟩,⟨some 39,.mv (.t 1),some (38,false)⟩,⟨some 40,.len (.t 39),some (38,false)⟩,⟨some 41,.bin .gtr (.t 40) (.c (.v (.int .i64 60))),some (38,false)⟩,⟨some 42,.pick (.t 38) (.c (.v (.bool true))) (.t 41),none⟩,⟨some 43,.mv (.t 42),none⟩,⟨some 44,.mv (.t 1),some (43,false)⟩,⟨some 45,.call (.c (.fn 5 [])) [(.t 44)],some (43,false)⟩,⟨some 46,.not (.t 45),some (43,false)⟩,⟨some 47,.pick (.t 43) (.c (.v (.bool true))) (.t 46),none⟩]) (.cond (.t 47) (.seq (.region [⟨some 6,.mv (.c (.v (.bool true))),none⟩]) .ret) .skip)) (.seq (.region [⟨some 49,.load none (.t 3),none⟩,⟨some 50,.mv (.t 1),none⟩,⟨some 51,.call (.c (.fn 6 [])) [(.t 49),(.t 50)],none⟩,⟨some 48,.mv (.t 51),none⟩,⟨some 52,.extract 0 (.t 48),none⟩,⟨some 53,.extract 1 (.t 48),none⟩,⟨some 7,.alloc [(.v (.int .i64 0)),(.v (.bool false)),(.v .zsl),(.v .zsl),(.v .zsl)],none⟩,⟨none,.store 5 (.t 7) (.t 52),none⟩,⟨some 8,.mv (.t 53),none⟩]) (.seq (.seq (.region [⟨some 54,.mv (.t 8),none⟩,⟨some 55,.bin .neq (.t 54) (.c (.v (.int .i64 0))),none⟩]) (.cond (.t 55) (.seq (.region [⟨some 6,.mv (.c (.v (.bool false))),none⟩]) .ret) .skip)) (.seq (.region [⟨some 9,.alloc [(.v .zsl)],none⟩]) (.seq (.region [⟨some 10,.alloc [(.v .zsl)],none⟩,⟨some 11,.alloc [(.v .zsl)],none⟩,⟨some 12,.alloc [(.v .zsl)],none⟩]) (.seq (.region [⟨some 56,.mkmap,none⟩,⟨some 13,.alloc [(.v .nilm)],none⟩,⟨none,.store 1 (.t 13) (.t 56),none⟩]) (.seq (.region [⟨some 57,.mkfn 7 [(.t 7),(.t 9),(.t 10),(.t 12),(.t 3),(.t 13),(.t 11)],none⟩,⟨some 14,.mv (.t 57),none⟩]) (.seq (.seq (.region [⟨some 58,.mv (.t 2),none⟩,⟨some 59,.len (.t 58),none⟩,⟨some 60,.mv (.c (.v (.int .i64 0))),none⟩]) (.block 0 (.loop (.seq (.region [⟨some 61,.bin .lss (.t 60) (.t 59),none⟩]) (.seq (.cond (.t 61) .skip (.exit 0)) (.seq (.block 1 (.seq (.region [⟨some 62,.iaddr 4 (.t 58) (.t 60),none⟩,⟨some 63,.load (some 4) (.t 62),none⟩,⟨some 16,.alloc [(.v (.int .u8 0)),(.v (.int .u8 0)),(.v (.int .u8 0)),(.v (.int .u8 0))],none⟩,⟨none,.store 4 (.t 16) (.t 63),none⟩]) (.seq (.draw [⟨0,⟨some 64,.faddr 1 (.t 16),none⟩,[]⟩,⟨1,⟨some 65,.load none (.t 64),none⟩,[]⟩,⟨2,⟨some 66,.conv .i64 (.t 65),none⟩,[]⟩,⟨3,⟨some 67,.bin .rem (.t 66) (.c (.v (.int .i64 8))),none⟩,[]⟩,⟨4,⟨some 68,.faddr 2 (.t 16),none⟩,[]⟩,⟨5,⟨some 69,.load none (.t 68),none⟩,[]⟩,⟨6,⟨some 70,.conv .i64 (.t 69),none⟩,[]⟩,⟨7,⟨some 71,.bin .rem (.t 70) (.c (.v (.int .i64 8))),none⟩,[]⟩,⟨8,⟨some 17,.mv (.t 67),none⟩,[]⟩,⟨9,⟨some 18,.mv (.t 71),none⟩,[]⟩]) (.seq (.block 2 (.seq (.region [⟨some 87,.faddr 0 (.t 16),none⟩,⟨some 88,.load none (.t 87),none⟩,⟨some 89,.bin .eql (.t 88) (.c (.v (.int .u8 0))),none⟩,⟨some 90,.mv (.t 89),none⟩,⟨some 91,.mv (.t 17),some (90,true)⟩,⟨some 92,.mv (.t 18),some (90,true)⟩,⟨some 93,.bin .neq (.t 91) (.t 92),some (90,true)⟩,⟨some 94,.pick (.t 90) (.t 93) (.c (.v (.bool false))),none⟩,⟨some 86,.mv (.t 94),none⟩]) (.cond (.t 86) (.seq (.region [⟨some 95,.mv (.t 17),none⟩,⟨some 96,.mv (.t 18),none⟩,⟨some 97,.load none (.t 9),none⟩,⟨some 98,.len (.t 97),none⟩,⟨some 99,.faddr 3 (.t 16),none⟩,⟨some 100,.load none (.t 99),none⟩,⟨some 101,.conv .i64 (.t 100),none⟩,⟨some 102,.bslice 1 [(.v (.int .i64 0))] 1 [(0,(.t 101))],none⟩,⟨some 103,.build [(.v (.int .i64 0)),(.v (.int .i64 0)),(.v (.int .i64 0)),(.v .zsl)] [(0,1,(.t 95)),(1,1,(.t 96)),(2,1,(.t 98)),(3,1,(.t 102))],none⟩,⟨some 19,.alloc [(.v (.int .i64 0)),(.v (.int .i64 0)),(.v (.int .i64 0)),(.v .zsl)],none⟩,⟨none,.store 4 (.t 19) (.t 103),none⟩]) (.seq (.region [⟨some 105,.load (some 5) (.t 7),none⟩,⟨some 106,.load (some 4) (.t 19),none⟩,⟨some 107,.call (.c (.fn 11 [])) [(.t 105),(.t 106)],none⟩,⟨some 104,.mv (.t 107),none⟩,⟨some 108,.extract 0 (.t 104),none⟩,⟨some 109,.extract 1 (.t 104),none⟩,⟨some 20,.alloc [(.v (.int .i64 0)),(.v (.bool false)),(.v .zsl),(.v .zsl),(.v .zsl)],none⟩,⟨none,.store 5 (.t 20) (.t 108),none⟩,⟨some 21,.mv (.t 109),none⟩]) (.seq (.seq (.region [⟨some 110,.mv (.t 21),none⟩,⟨some 111,.bin .neq (.t 110) (.c (.v (.int .i64 0))),none⟩]) (.cond (.t 111) (.seq (.region [⟨some 6,.mv (.c (.v (.bool false))),none⟩]) .ret) .skip)) (.seq (.region [⟨some 112,.load (some 5) (.t 20),none⟩,⟨none,.store 5 (.t 7) (.t 112),none⟩]) (.seq (.region [⟨some 22,.mv (.c (.v (.int .i64 1))),none⟩,⟨some 23,.mv (.c (.v (.int .i64 0))),none⟩]) (.seq (.seq (.region [⟨some 113,.load none (.t 9),none⟩,⟨some 114,.len (.t 113),none⟩,⟨some 115,.mv (.t 1),none⟩,⟨some 116,.len (.t 115),none⟩,⟨some 117,.bin .lss (.t 114) (.t 116),none⟩]) (.cond (.t 117) (.draw [⟨0,⟨some 118,.mv (.t 1),none⟩,[]⟩,⟨1,⟨some 119,.load none (.t 9),none⟩,[]⟩,⟨2,⟨some 120,.len (.t 119),none⟩,[]⟩,⟨3,⟨some 121,.iaddr 2 (.t 118) (.t 120),none⟩,[]⟩,⟨4,⟨some 122,.faddr 0 (.t 121),none⟩,[]⟩,⟨5,⟨some 123,.load none (.t 122),none⟩,[]⟩,⟨6,⟨some 124,.mv (.t 1),none⟩,[]⟩,⟨7,⟨some 125,.load none (.t 9),none⟩,[]⟩,⟨8,⟨some 126,.len (.t 125),none⟩,[]⟩,⟨9,⟨some 127,.iaddr 2 (.t 124) (.t 126),none⟩,[]⟩,⟨10,⟨some 128,.faddr 1 (.t 127),none⟩,[]⟩,⟨11,⟨some 129,.load none (.t 128),none⟩,[]⟩,⟨12,⟨some 22,.mv (.t 123),none⟩,[]⟩,⟨13,⟨some 23,.mv (.t 129),none⟩,[]⟩]) .skip)) (.draw [⟨0,⟨some 130,.load none (.t 9),none⟩,[]⟩,⟨1,⟨some 131,.load (some 4) (.t 19),none⟩,[]⟩,⟨2,⟨some 132,.islb 4 [(.v (.int .i64 0)),(.v (.int .i64 0)),(.v (.int .i64 0)),(.v .zsl)] 1 [(0,(.t 131))],none⟩,[]⟩,⟨4,⟨some 134,.load none (.t 10),none⟩,[]⟩,⟨5,⟨some 135,.faddr 0 (.t 7),none⟩,[]⟩,⟨6,⟨some 136,.load none (.t 135),none⟩,[]⟩,⟨7,⟨some 137,.mv (.t 23),none⟩,[]⟩,⟨8,⟨some 138,.bin .add (.t 136) (.t 137),none⟩,[]⟩,⟨9,⟨some 139,.islb 1 [(.v (.int .i64 0))] 1 [(0,(.t 138))],none⟩,[]⟩,⟨11,⟨some 141,.load none (.t 11),none⟩,[]⟩,⟨12,⟨some 142,.mv (.t 22),none⟩,[]⟩,⟨13,⟨some 143,.islb 1 [(.v (.int .i64 0))] 1 [(0,(.t 142))],none⟩,[]⟩,⟨15,⟨some 145,.load none (.t 12),none⟩,[]⟩,⟨16,⟨some 146,.islb 1 [(.v (.int .i64 0))] 1 [(0,(.c (.v (.int .i64 0))))],none⟩,[]⟩,⟨3,⟨some 133,.append 4 48 (.t 130) (.t 132),none⟩,[⟨some 134,.load none (.t 10),none⟩,⟨some 135,.faddr 0 (.t 7),none⟩,⟨some 136,.load none (.t 135),none⟩,⟨some 137,.mv (.t 23),none⟩,⟨some 138,.bin .add (.t 136) (.t 137),none⟩,⟨some 139,.islb 1 [(.v (.int .i64 0))] 1 [(0,(.t 138))],none⟩,⟨some 141,.load none (.t 11),none⟩,⟨some 142,.mv (.t 22),none⟩,⟨some 143,.islb 1 [(.v (.int .i64 0))] 1 [(0,(.t 142))],none⟩,⟨some 145,.load none (.t 12),none⟩,⟨some 146,.islb 1 [(.v (.int .i64 0))] 1 [(0,(.c (.v (.int .i64 0))))],none⟩]⟩,⟨10,⟨some 140,.append 1 8 (.t 134) (.t 139),none⟩,[⟨some 141,.load none (.t 11),none⟩,⟨some 142,.mv (.t 22),none⟩,⟨some 143,.islb 1 [(.v (.int .i64 0))] 1 [(0,(.t 142))],none⟩,⟨some 145,.load none (.t 12),none⟩,⟨some 146,.islb 1 [(.v (.int .i64 0))] 1 [(0,(.c (.v (.int .i64 0))))],none⟩]⟩,⟨14,⟨some 144,.append 1 8 (.t 141) (.t 143),none⟩,[⟨some 145,.load none (.t 12),none⟩,⟨some 146,.islb 1 [(.v (.int .i64 0))] 1 [(0,(.c (.v (.int .i64 0))))],none⟩]⟩,⟨17,⟨some 147,.append 1 8 (.t 145) (.t 146),none⟩,[]⟩,⟨18,⟨none,.store 1 (.t 9) (.t 133),none⟩,[]⟩,⟨19,⟨none,.store 1 (.t 10) (.t 140),none⟩,[]⟩,⟨20,⟨none,.store 1 (.t 11) (.t 144),none⟩,[]⟩,⟨21,⟨none,.store 1 (.t 12) (.t 147),none⟩,[]⟩]))))))) (.seq (.region [⟨some 149,.faddr 0 (.t 16),none⟩,⟨some 150,.load none (.t 149),none⟩,⟨some 151,.bin .eql (.t 150) (.c (.v (.int .u8 1))),none⟩,⟨some 148,.mv (.t 151),none⟩]) (.cond (.t 148) (.seq (.region [⟨some 153,.mv (.t 14),none⟩,⟨some 154,.mv (.t 18),none⟩,⟨some 155,.call (.t 153) [(.t 154)],none⟩,⟨some 152,.mv (.t 155),none⟩,⟨some 156,.extract 0 (.t 152),none⟩,⟨some 157,.extract 1 (.t 152),none⟩,⟨some 24,.mv (.t 156),none⟩,⟨some 25,.mv (.t 157),none⟩]) (.seq (.region [⟨some 158,.mv (.t 25),none⟩,⟨some 159,.not (.t 158),none⟩]) (.cond (.t 159) (.seq (.region [⟨some 6,.mv (.c (.v (.bool false))),none⟩]) .ret) .skip))) (.seq (.region [⟨some 73,.load (some 5) (.t 7),none⟩,⟨some 74,.faddr 0 (.t 7),none⟩,⟨some 75,.load none (.t 74),none⟩,⟨some 76,.faddr 3 (.t 16),none⟩,⟨some 77,.load none (.t 76),none⟩,⟨some 78,.conv .i64 (.t 77),none⟩,⟨some 79,.bin .add (.t 75) (.t 78),none⟩,⟨some 80,.call (.c (.fn 12 [])) [(.t 73),(.t 79)],none⟩,⟨some 72,.mv (.t 80),none⟩,⟨some 81,.extract 0 (.t 72),none⟩,⟨some 82,.extract 1 (.t 72),none⟩,⟨some 26,.alloc [(.v (.int .i64 0)),(.v (.bool false)),(.v .zsl),(.v .zsl),(.v .zsl)],none⟩,⟨none,.store 5 (.t 26) (.t 81),none⟩,⟨some 27,.mv (.t 82),none⟩]) (.seq (.seq (.region [⟨some 83,.mv (.t 27),none⟩,⟨some 84,.bin .neq (.t 83) (.c (.v (.int .i64 0))),none⟩]) (.cond (.t 84) (.seq (.region [⟨some 6,.mv (.c (.v (.bool false))),none⟩]) .ret) .skip)) (.region [⟨some 85,.load (some 5) (.t 26),none⟩,⟨none,.store 5 (.t 7) (.t 85),none⟩])))))))) (.seq (.region [⟨some 160,.load (some 5) (.t 7),none⟩,⟨some 161,.call (.c (.fn 13 [])) [(.t 160)],none⟩,⟨some 162,.not (.t 161),none⟩]) (.cond (.t 162) (.seq (.region [⟨some 6,.mv (.c (.v (.bool false))),none⟩]) .ret) .skip)))))) (.region [⟨some 163,.bin .add (.t 60) (.c (.v (.int .i64 1))),none⟩,⟨some 60,.mv (.t 163),none⟩]))))))) (.seq (.seq (.region [⟨some 165,.load (some 5) (.t 7),none⟩,⟨some 166,.call (.c (.fn 14 [])) [(.t 165)],none⟩,⟨some 164,.mv (.t 166),none⟩,⟨some 167,.extract 0 (.t 164),none⟩,⟨some 168,.extract 1 (.t 164),none⟩,⟨some 28,.mv (.t 167),none⟩,⟨some 29,.mv (.t 168),none⟩]) (.block 3 (.loop (.seq (.seq (.region [⟨some 169,.mv (.t 29),none⟩]) (.cond (.t 169) .skip (.exit 3))) (.seq (.block 4 (.seq (.region [⟨some 176,.load (some 5) (.t 7),none⟩,⟨some 177,.mv (.t 28),none⟩,⟨some 178,.call (.c (.fn 12 [])) [(.t 176),(.t 177)],none⟩,⟨some 175,.mv (.t 178),none⟩,⟨some 179,.extract 0 (.t 175),none⟩,⟨some 180,.extract 1 (.t 175),none⟩,⟨none,.store 5 (.t 7) (.t 179),none⟩,⟨some 8,.mv (.t 180),none⟩]) (.seq (.region [⟨some 181,.mv (.t 8),none⟩,⟨some 182,.bin .neq (.t 181) (.c (.v (.int .i64 0))),none⟩]) (.cond (.t 182) (.seq (.region [⟨some 6,.mv (.c (.v (.bool false))),none⟩]) .ret) .skip)))) (.region [⟨some 171,.load (some 5) (.t 7),none⟩,⟨some 172,.call (.c (.fn 14 [])) [(.t 171)],none⟩,⟨some 170,.mv (.t 172),none⟩,⟨some 173,.extract 0 (.t 170),none⟩,⟨some 174,.extract 1 (.t 170),none⟩,⟨some 28,.mv (.t 173),none⟩,⟨some 29,.mv (.t 174),none⟩])))))) (.seq (.seq (.region [⟨some 183,.mv (.c (.v (.int .i64 0))),none⟩]) (.block 5 (.loop (.seq (.region [⟨some 184,.bin .lss (.t 183) (.c (.v (.int .i64 8))),none⟩]) (.seq (.cond (.t 184) .skip (.exit 5)) (.seq (.block 6 (.seq (.region [⟨some 185,.mv (.t 183),none⟩,⟨some 30,.mv (.t 185),none⟩]) (.block 7 (.loop (.block 8 (.seq (.region [⟨some 187,.mv (.t 14),none⟩,⟨some 188,.mv (.t 30),none⟩,⟨some 189,.call (.t 187) [(.t 188)],none⟩,⟨some 186,.mv (.t 189),none⟩,⟨some 190,.extract 0 (.t 186),none⟩,⟨some 191,.extract 1 (.t 186),none⟩,⟨some 31,.mv (.t 190),none⟩,⟨some 32,.mv (.t 191),none⟩]) (.seq (.seq (.region [⟨some 192,.mv (.t 32),none⟩,⟨some 193,.not (.t 192),none⟩]) (.cond (.t 193) (.seq (.region [⟨some 6,.mv (.c (.v (.bool false))),none⟩]) .ret) .skip)) (.seq (.region [⟨some 194,.mv (.t 31),none⟩,⟨some 195,.not (.t 194),none⟩]) (.cond (.t 195) (.exit 7) .skip))))))))) (.region [⟨some 196,.bin .add (.t 183) (.c (.v (.int .i64 1))),none⟩,⟨some 183,.mv (.t 196),none⟩]))))))) (.seq (.region [⟨some 197,.load none (.t 12),none⟩,⟨some 198,.load none (.t 11),none⟩,⟨some 199,.call (.c (.fn 15 [])) [(.t 197),(.t 198)],none⟩,⟨some 200,.mv (.t 199),none⟩,⟨some 201,.faddr 2 (.t 7),some (200,true)⟩,⟨some 202,.load none (.t 201),some (200,true)⟩,⟨some 203,.len (.t 202),some (200,true)⟩,⟨some 204,.bin .eql (.t 203) (.c (.v (.int .i64 0))),some (200,true)⟩,⟨some 205,.pick (.t 200) (.t 204) (.c (.v (.bool false))),none⟩,⟨some 6,.mv (.t 205),none⟩]) .ret)))))))))))))⟩
theorem a_lawDel_ok : cFunc Try.prog 3 = some a_lawDel := by kernel_rfl
def r_lawDel0 : List (Nat × Nat) := [(6, 6), (16, 27), (60, 163)]
def r_lawDel1 : List (Nat × Nat) := [(6, 6), (8, 8), (28, 29), (169, 182)]
def r_lawDel2 : List (Nat × Nat) := [(6, 6), (30, 32), (183, 196)]
def r_lawDel3 : List (Nat × Nat) := [(6, 6), (31, 32), (186, 195)]

structure Dd where
 k : Int
 f : Int
 t : Int
 y : Int
def eDd (d : Dd) : List IV := [.int .u8 d.k, .int .u8 d.f, .int .u8 d.t, .int .u8 d.y]
def DdOk (d : Dd) : Prop := (0 ≤ d.k ∧ d.k < 256) ∧ (0 ≤ d.f ∧ d.f < 256) ∧ (0 ≤ d.t ∧ d.t < 256) ∧ 0 ≤ d.y ∧ d.y < 256
theorem mod8 {x : Int} (h : 0 ≤ x ∧ x < 256) : ∃ k : Nat, Int.tmod x 8 = k ∧ k < 8 :=
 ⟨(x % 8).toNat, by rw [Int.tmod_eq_emod_of_nonneg h.1]; omega, by omega⟩
theorem rep1 {α : Type} (x : α) : List.replicate 1 x = [x] := rfl
theorem rowI_map (r : List IV) : rowI (r.map .v) = some r := by
 induction r with
 | nil => rfl
 | cons a r ih => simp only [List.map_cons, rowI, ih]
theorem rowsI_vs (r : List (List IV)) : rowsI (vs r) = some r := by
 unfold vs
 induction r with
 | nil => rfl
 | cons a r ih => simp only [List.map_cons, rowsI, rowI_map, ih]
theorem chR_frz {id ver sz : Nat} {rows : List (List IV)} (M : ChM) : (chR M).map (List.map (frz0 id ver sz rows)) = chR M := by
 unfold chR
 rw [List.map_map]
 refine List.map_congr_left (fun z _ => rfl)
theorem frzR {P : Program} {f i ver sz : Nat} {args args' : List AV} {rows : List (List IV)} {b l l' : List Row} {Q : AV → List Row → List Row → Prop} (hi : l[i]? = some (.live ver sz (vs rows)))
  (ha : args.map (deep (frz0 (b.length + i) ver sz rows) 2) = args') (hl : (l.set i (.dead ver)).map (rowMap (frz0 (b.length + i) ver sz rows)) = l') (h : ACalls P f args' b l' Q) : ACalls P f args b l Q := by
 subst ha; subst hl
 exact E1.ACalls.freezeDeep 2 hi h
theorem scR_frz {n j ver sz : Nat} {rows : List (List IV)} (hj : 12 ≤ j) (s : Sc) (M : ChM) : (scR n s M).map (rowMap (frz0 (n + j) ver sz rows)) = scR n s M := by
 unfold scR
 have ne : ∀ i, i < 12 → (n + i = n + j) = False := fun i hi => eq_false oM
 simp only [List.map_cons, List.map_nil, rowMap, frz0, vs_frz0, chR_frz, ne 8 oM, ne 9 oM, ne 10 oM, ne 11 oM, false_and, if_false]
theorem scR_send (n : Nat) (s : Sc) (M : ChM) (N : Nw) (m : Ms) (d c : Int) : scR n ⟨N, s.sent ++ [m], s.due ++ [d], s.copies ++ [c], s.got ++ [0], s.last⟩ M = [
 .live 0 1 [[.v (.bool N.fifo)]],
 .live 0 5 [[.v (.int .i64 N.now), .v (.bool N.fifo), .v (.isl 4 (N.l.map eMs)), .v (.isl 1 (N.tm.map eI)), .v (.isl 2 (N.fates.map eFt))]],
 .live 0 1 [[.sl (n + 8) (s.sent.length + 1) 0 (s.sent.length + 1)]],
 .live 0 1 [[.sl (n + 9) (s.sent.length + 1) 0 (s.sent.length + 1)]],
 .live 0 1 [[.sl (n + 10) (s.sent.length + 1) 0 (s.sent.length + 1)]],
 .live 0 1 [[.sl (n + 11) (s.sent.length + 1) 0 (s.sent.length + 1)]],
 .live 0 0 (chR M),
 .live 0 1 [[.mp (n + 6) 0]],
 .live (s.sent.length + 1) 4 (vs (s.sent.map eMs ++ [[.int .i64 m.fr, .int .i64 m.to, .int .i64 m.nu, .isl 1 (m.body.map eI)]])),
 .live (s.sent.length + 1) 1 (vs (s.due.map eI ++ [[.int .i64 d]])),
 .live (s.sent.length + 1) 1 (vs (s.copies.map eI ++ [[.int .i64 c]])),
 .live (s.sent.length + 1) 1 (vs (s.got.map eI ++ [[.int .i64 0]]))] := by
 unfold scR
 simp only [List.length_append, List.length_singleton, List.map_append, List.map_cons, List.map_nil]
 rfl
theorem scR_open (n : Nat) (s : Sc) (M : ChM) : scR n s M = [
 .live 0 1 [[.v (.bool s.n.fifo)]],
 .live 0 5 [[.v (.int .i64 s.n.now), .v (.bool s.n.fifo), .v (.isl 4 (s.n.l.map eMs)), .v (.isl 1 (s.n.tm.map eI)), .v (.isl 2 (s.n.fates.map eFt))]],
 .live 0 1 [[.sl (n + 8) s.sent.length 0 s.sent.length]],
 .live 0 1 [[.sl (n + 9) s.sent.length 0 s.sent.length]],
 .live 0 1 [[.sl (n + 10) s.sent.length 0 s.sent.length]],
 .live 0 1 [[.sl (n + 11) s.sent.length 0 s.sent.length]],
 .live 0 0 (chR M),
 .live 0 1 [[.mp (n + 6) 0]],
 .live s.sent.length 4 (vs (s.sent.map eMs)),
 .live s.sent.length 1 (vs (s.due.map eI)),
 .live s.sent.length 1 (vs (s.copies.map eI)),
 .live s.sent.length 1 (vs (s.got.map eI))] := rfl
structure LwOk (fs : List (Int × Int)) (i : Nat) (z : Sc × ChM) : Prop where
 ok : ScOk fs z.1
 m : z.1.last = chF z.2
 few : z.1.sent.length ≤ i
 now : z.1.n.now ≤ 256 * i
 tm : ∀ x ∈ z.1.n.tm, x ≤ 2000000
theorem chR_lt {m : Nat} (M : ChM) : ∀ row ∈ chR M, ∀ c ∈ row, AVlt m c := by
 unfold chR
 intro row hrow c hc
 obtain ⟨z, _, rfl⟩ := List.mem_map.1 hrow
 rcases List.mem_cons.1 hc with rfl | hc
 ·simp only [lts.down, Nat.reduceLT, Nat.reduceAdd]
 ·rcases List.mem_cons.1 hc with rfl | hc
  ·simp only [lts.down, Nat.reduceLT, Nat.reduceAdd]
  ·cases hc
theorem chR_ltT {m : Nat} (M : ChM) : (∀ row ∈ chR M, ∀ c ∈ row, AVlt m c) ↔ True := ⟨fun _ => trivial, fun _ => chR_lt M⟩
def tkS (s : Sc) (k q : Nat) : Sc := ⟨woN s.n k, s.sent, s.due, s.copies, s.got.set q (s.got.getD q 0 + 1), fun x y => if x = (s.n.l.getD k dfMs).fr ∧ y = (s.n.l.getD k dfMs).to then q else s.last x y⟩
def tkM (s : Sc) (M : ChM) (k q : Nat) : ChM := chU M (s.n.l.getD k dfMs).fr (s.n.l.getD k dfMs).to q
theorem take_any {fs : List (Int × Int)} {s : Sc} (h : ScOk fs s) (h60 : s.sent.length ≤ 60) (M : ChM) (hM : s.last = chF M) (to : Nat) (hto : to < 8) :
  (fiR s.n to < 0 ∧ ∀ b l J, l = scR b.length s M ++ J → ACalls Try.prog 7 [.v (.int .i64 to), .ptr (b.length + 1) 0 0 0, .ptr (b.length + 2) 0 0 0, .ptr (b.length + 3) 0 0 0, .ptr (b.length + 5) 0 0 0, .ptr b.length 0 0 0, .ptr (b.length + 7) 0 0 0, .ptr (b.length + 4) 0 0 0] b l
   (fun r b' l' => r = .tup [.v (.bool false), .v (.bool true)] ∧ b' = b ∧ l' = scR b.length s M ++ J)) ∨
  ∃ k q : Nat, k < s.n.l.length ∧ ScOk fs (tkS s k q) ∧ (tkS s k q).last = chF (tkM s M k q) ∧ ∀ b l J, l = scR b.length s M ++ J → ACalls Try.prog 7 [.v (.int .i64 to), .ptr (b.length + 1) 0 0 0, .ptr (b.length + 2) 0 0 0, .ptr (b.length + 3) 0 0 0, .ptr (b.length + 5) 0 0 0, .ptr b.length 0 0 0, .ptr (b.length + 7) 0 0 0, .ptr (b.length + 4) 0 0 0] b l
   (fun r b' l' => r = .tup [.v (.bool true), .v (.bool true)] ∧ b' = b ∧ l' = scR b.length (tkS s k q) (tkM s M k q) ++ J) := by
 by_cases hf : fiR s.n to < 0
 ·exact .inl ⟨hf, fun b l J hl => take_spec h h60 M hM to hto b l J hl false _ (.inl ⟨rfl, hf, hl.symm⟩)⟩
 ·obtain ⟨k, hk, hkl, ha, h0⟩ := fiR_in (show 0 ≤ fiR s.n to by omega)
  obtain ⟨q, q1, q2, q3, q4, q5, q6, q7, q8⟩ := h.recv hkl ha h0
  have hr := h.rng q q1
  refine .inr ⟨k, q, hkl, q8, ?_, fun b l J hl => take_spec h h60 M hM to hto b l J hl true _ (.inr ⟨rfl, k, q, hk, hkl, q1, q2, q3, q4, q5, q6, hr.1, q7, hr.2, rfl⟩)⟩
  show (fun x y => if x = (s.n.l.getD k dfMs).fr ∧ y = (s.n.l.getD k dfMs).to then (q : Int) else s.last x y) = chF (tkM s M k q)
  unfold tkM
  rw [chF_U, hM]
set_option maxRecDepth 20000 in
set_option maxHeartbeats 16000000 in
theorem lawDel_run (fifo : Bool) (fs : List (Int × Int)) (hfs : fs.length ≤ maxLen) (ds : List Dd) (hds : ∀ d ∈ ds, DdOk d) (b l : List Row) :
  ACalls Try.prog 3 [.v (.bool fifo), .v (.isl 2 (fs.map eFt)), .v (.isl 4 (ds.map eDd))] b l (fun r b' l' => r = .v (.bool true) ∧ b' = b ∧ l' = l) := by
 refine calls_kept a_lawDel_ok rfl (by decide) ?_
 intro B g hB hR hE hA; simp only [KArgs] at hA
 have n0 : ((0 : Int) != 0) = false := rfl
 simp (disch := (first | decide | omega)) only [a_lawDel, hA, go_sem]
 refine ACalls.nxt (awake53_spec _ _) ?_
 by_cases g1 : ds.length ≤ 60
 case neg =>
  have d1 : decide ((ds.length : Int) > 60) = true := decide_eq_true oM
  simp (disch := (first | decide | omega)) only [hA, d1, List.length_map, go_sem]
  exact leave_pure (xs := [.v (.bool true)]) (.inr rfl) (by simp (disch := (first | decide | omega)) only [resVs, resV, go_sem, hA]) kO hR hB ⟨rfl, rfl, rfl⟩
 have d1 : decide ((ds.length : Int) > 60) = false := decide_eq_false oM
 by_cases g2 : fs.length ≤ 60
 case neg =>
  have d2 : decide ((fs.length : Int) > 60) = true := decide_eq_true oM
  simp (disch := (first | decide | omega)) only [hA, d1, d2, List.length_map, go_sem]
  exact leave_pure (xs := [.v (.bool true)]) (.inr rfl) (by simp (disch := (first | decide | omega)) only [resVs, resV, go_sem, hA]) kO hR hB ⟨rfl, rfl, rfl⟩
 have d2 : decide ((fs.length : Int) > 60) = false := decide_eq_false oM
 simp (disch := (first | decide | omega)) only [hA, d1, d2, List.length_map, go_sem]
 refine ACalls.nxt (rfates_spec fs oM _ _) ?_
 cases g3 : ftsB fs
 ·simp (disch := (first | decide | omega)) only [hA, d1, d2, go_sem]
  exact leave_pure (xs := [.v (.bool true)]) (.inr rfl) (by simp (disch := (first | decide | omega)) only [resVs, resV, go_sem, hA]) kO hR hB ⟨rfl, rfl, rfl⟩
 have hN : newE fs = 0 := by unfold newE; rw [if_neg oM, if_pos g3]
 have hNR : newR fifo fs = ⟨0, fifo, [], [], fs⟩ := if_pos hN
 have cN := fun b l => nNew_spec fifo fs b l
 rw [hN, hNR] at cN
 simp (disch := (first | decide | omega)) only [hA, d1, d2, go_sem]
 refine ACalls.nxt (cN _ _) ?_
 simp (disch := (first | decide | omega)) only [hA, n0, setFrom, cellsOf, nwA_open, List.length_map, go_sem]
 have lw0 : LwOk fs 0 (⟨⟨0, fifo, [], [], fs⟩, [], [], [], [], fun _ _ => 0⟩, []) := ⟨ScOk.start fifo (fun f hf => by unfold ftsB at g3; exact List.all_eq_true.1 g3 f hf) oM, rfl, by simp, by simp, by simp⟩
 refine loop_kept (ι := Nat × Sc × ChM) r_lawDel0 (fun i => [(60, .v (.int .i64 i.1))]) 8 (fun i => scR B.length i.2.1 i.2.2)
  (fun i => i.1 ≤ ds.length ∧ LwOk fs i.1 i.2) (fun i => ds.length - i.1) (0, ⟨⟨0, fifo, [], [], fs⟩, [], [], [], [], fun _ _ => 0⟩, []) ⟨Nat.zero_le _, lw0⟩ (by (repeat (first | exact hE.mono oM | refine KLt.up ?_ kL))) (by ((try simp (disch := decide) only [hA, go_sem]) <;> exact kH)) (fun e => ?_) ?_
 ·have w1 := Weak.nilcell (e := e) (b := B) (l := [.live 0 1 [[.v (.bool fifo)]], .live 0 5 [[.v (.int .i64 0), .v (.bool fifo), .v (.isl 4 []), .v (.isl 1 []), .v (.isl 2 (fs.map eFt))]], .live 0 1 [[.v .zsl]], .live 0 1 [[.v .zsl]], .live 0 1 [[.v .zsl]], .live 0 1 [[.v .zsl]], .live 0 0 [], .live 0 1 [[.mp (B.length + 6) 0]]]) (i := 2) (k := 0) (j := 0) (sz := 4) rfl rfl rfl
  have w2 := Weak.nilcell (e := e) (b := B) (l := [.live 0 1 [[.v (.bool fifo)]], .live 0 5 [[.v (.int .i64 0), .v (.bool fifo), .v (.isl 4 []), .v (.isl 1 []), .v (.isl 2 (fs.map eFt))]], .live 0 1 [[.sl (B.length + 8) 0 0 0]], .live 0 1 [[.v .zsl]], .live 0 1 [[.v .zsl]], .live 0 1 [[.v .zsl]], .live 0 0 [], .live 0 1 [[.mp (B.length + 6) 0]], .live 0 4 []]) (i := 3) (k := 0) (j := 0) (sz := 1) rfl rfl rfl
  have w3 := Weak.nilcell (e := e) (b := B) (l := [.live 0 1 [[.v (.bool fifo)]], .live 0 5 [[.v (.int .i64 0), .v (.bool fifo), .v (.isl 4 []), .v (.isl 1 []), .v (.isl 2 (fs.map eFt))]], .live 0 1 [[.sl (B.length + 8) 0 0 0]], .live 0 1 [[.sl (B.length + 9) 0 0 0]], .live 0 1 [[.v .zsl]], .live 0 1 [[.v .zsl]], .live 0 0 [], .live 0 1 [[.mp (B.length + 6) 0]], .live 0 4 [], .live 0 1 []]) (i := 4) (k := 0) (j := 0) (sz := 1) rfl rfl rfl
  have w4 := Weak.nilcell (e := e) (b := B) (l := [.live 0 1 [[.v (.bool fifo)]], .live 0 5 [[.v (.int .i64 0), .v (.bool fifo), .v (.isl 4 []), .v (.isl 1 []), .v (.isl 2 (fs.map eFt))]], .live 0 1 [[.sl (B.length + 8) 0 0 0]], .live 0 1 [[.sl (B.length + 9) 0 0 0]], .live 0 1 [[.sl (B.length + 10) 0 0 0]], .live 0 1 [[.v .zsl]], .live 0 0 [], .live 0 1 [[.mp (B.length + 6) 0]], .live 0 4 [], .live 0 1 [], .live 0 1 []]) (i := 5) (k := 0) (j := 0) (sz := 1) rfl rfl rfl
  exact w1.trans (w2.trans (w3.trans w4))
 rintro h1 hE1 hEE1 hg1 ⟨i, s, M⟩ ⟨hi, hok⟩
 simp only at hi hok
 have hS : ScOk fs s := hok.ok
 have hnow : s.n.now ≤ 256 * (i : Int) := hok.now
 have hnow0 := hS.v.now
 have hfew : s.sent.length ≤ i := hok.few
 have hsc := scR_open B.length s M
 by_cases hlt : i < ds.length
 case neg =>
  obtain rfl : i = ds.length := by omega
  have dlt : decide ((ds.length : Int) < (ds.length : Int)) = false := by simp
  have htm := hok.tm
  have ntv : ∀ t : Int, s.n.now ≤ t → t ≤ 2000000 → ScOk fs { s with n := { s.n with now := t } } := fun t h1 h2 => hS.at ⟨by omega, by omega⟩
  have cX : ∀ (t : Int) (b l : List Row), ACalls Try.prog 14 [.agg [.v (.int .i64 t), .v (.bool s.n.fifo), .v (.isl 4 (s.n.l.map eMs)), .v (.isl 1 (s.n.tm.map eI)), .v (.isl 2 (s.n.fates.map eFt))]] b l (fun r b' l' => r = .tup [.v (.int .i64 (nextN { s.n with now := t }).1), .v (.bool (nextN { s.n with now := t }).2)] ∧ b' = b ∧ l' = l) := fun t b l => nNext_spec { s.n with now := t } b l
  simp (disch := (first | decide | omega)) only [hA, hg1, hsc, dlt, setFrom, cellsOf, go_sem]
  refine ACalls.nxt (cX _ _ _) ?_
  simp (disch := (first | decide | omega)) only [hA, hg1, hsc, dlt, setFrom, cellsOf, go_sem]
  refine loop_kept (ι := Int) r_lawDel1 (fun t => [(28, .v (.int .i64 (nextN { s.n with now := t }).1)), (29, .v (.bool (nextN { s.n with now := t }).2))]) 8 (fun t => scR B.length { s with n := { s.n with now := t } } M)
   (fun t => s.n.now ≤ t ∧ t ≤ 2000000) (fun t => s.n.tm.length - leN s.n.tm t) s.n.now ⟨by omega, by omega⟩ (by (repeat (first | exact hE1.mono oM | refine KLt.up ?_ kL))) (by ((try simp (disch := decide) only [hA, hg1, go_sem]) <;> exact kH)) (fun e => Weak.refl _ _ _) ?_
  rintro h2 hE2 hEE2 hg2 t ⟨ht1, ht2⟩
  have hSt := ntv t ht1 ht2
  have hsct := scR_open B.length { s with n := { s.n with now := t } } M
  simp only at hsct
  by_cases hle : leN s.n.tm t < s.n.tm.length
  ·obtain ⟨at', hat⟩ : ∃ a, s.n.tm.getD (leN s.n.tm t) 0 = a := ⟨_, rfl⟩
   have hnx : nextN { s.n with now := t } = (at', true) := by unfold nextN; rw [if_pos ⟨nwB_iff.2 hSt.v, hle⟩, hat]
   obtain ⟨m1, m2⟩ := leN_more hSt.v hle
   simp only [hat] at m1 m2
   have hab : at' ≤ 2000000 := by rw [← hat, getD_at hle]; exact htm _ (List.getElem_mem hle)
   have cG : ∀ (b l : List Row), ACalls Try.prog 12 [.agg [.v (.int .i64 t), .v (.bool s.n.fifo), .v (.isl 4 (s.n.l.map eMs)), .v (.isl 1 (s.n.tm.map eI)), .v (.isl 2 (s.n.fates.map eFt))], .v (.int .i64 at')] b l (fun r b' l' => r = .tup [nwA { s.n with now := at' }, .v (.int .i64 0)] ∧ b' = b ∧ l' = l) := fun b l => by
    have hgo : goE { s.n with now := t } at' = 0 := by unfold goE; rw [if_pos (nwB_iff.2 hSt.v), if_neg oM, if_neg (by simp only; omega)]
    have := nGo_spec { s.n with now := t } at' b l
    rw [hgo, show goN { s.n with now := t } at' = { s.n with now := at' } from if_pos hgo] at this
    exact this
   simp only [hnx]
   simp (disch := (first | decide | omega)) only [hA, hg1, hg2, hsct, setFrom, cellsOf, go_sem]
   refine ACalls.nxt (cG _ _) ?_
   simp (disch := (first | decide | omega)) only [hA, hg1, hg2, n0, nwA_open, setFrom, cellsOf, go_sem]
   refine ACalls.nxt (cX _ _ _) ?_
   simp (disch := (first | decide | omega)) only [hA, hg1, hg2, n0, nwA_open, setFrom, cellsOf, go_sem]
   refine ⟨at', ⟨by omega, hab⟩, by simp only; omega, ?_⟩
   simp only [scR_open]
   exact Weak.kround (p := r_lawDel1) (k := 8) (by ((repeat refine (kAny_up rfl).trans ?_); exact hEE2)) (by ((try simp (disch := decide) only [hA, hg1, hg2, go_sem]) <;> exact kH)) rfl hE2 (by simp) kV hR (by simp (disch := omega) only [chR_ltT, lts.down, Nat.reduceLT, Nat.reduceAdd])
  ·have hnx : nextN { s.n with now := t } = (0, false) := by unfold nextN; rw [if_neg (fun h => hle h.2)]
   have hall : AllIn { s.n with now := t } := allIn_of hSt.v hle
   simp only [hnx]
   simp (disch := (first | decide | omega)) only [hA, hg1, hg2, setFrom, cellsOf, go_sem]
   refine loop_kept (ι := Nat × Sc × ChM) r_lawDel2 (fun z => [(183, .v (.int .i64 z.1))]) 8 (fun z => scR B.length z.2.1 z.2.2)
    (fun z => z.1 ≤ 8 ∧ (ScOk fs z.2.1 ∧ z.2.1.last = chF z.2.2 ∧ z.2.1.sent.length ≤ 60 ∧ AllIn z.2.1.n) ∧ Drn z.2.1.n z.1) (fun z => 8 - z.1) (0, { s with n := { s.n with now := t } }, M) ⟨by omega, ⟨hSt, hok.m, by show s.sent.length ≤ 60; omega, hall⟩, Drn.zero hSt.v⟩ (by (repeat (first | exact hE2.mono oM | refine KLt.up ?_ kL))) (by ((try simp (disch := decide) only [hA, hg1, hg2, go_sem]) <;> exact kH)) (fun e => Weak.refl _ _ _) ?_
   rintro h3 hE3 hEE3 hg3 ⟨to, u, K⟩ ⟨hto8, ⟨hSu, hKu, hlu, hau⟩, hdu⟩
   simp only at hto8 hSu hKu hlu hau hdu
   have hscu := scR_open B.length u K
   by_cases hto : to < 8
   case neg =>
    obtain rfl : to = 8 := by omega
    have hnil := hdu.end hSu.v
    have hgc := hSu.done hnil
    have hll := hSu.lg
    have d8 : decide (((8 : Nat) : Int) < 8) = false := by decide
    have z00 : (((0 : Nat) : Int) == 0) = true := rfl
    have cE : ∀ bb ll, (bb ++ ll)[B.length + 11]? = some (.live u.sent.length 1 (vs (u.got.map eI))) → (bb ++ ll)[B.length + 10]? = some (.live u.sent.length 1 (vs (u.copies.map eI))) → ACalls Try.prog 15 [.sl (B.length + 11) u.sent.length 0 u.sent.length, .sl (B.length + 10) u.sent.length 0 u.sent.length] bb ll (fun r b' l' => r = .v (.bool true) ∧ b' = bb ∧ l' = ll) := fun bb ll q1 q2 => by
     refine ACalls.peek (args' := [.v (.isl 1 (u.got.map eI)), .v (.isl 1 (u.copies.map eI))]) rfl (fun j x y hx hy => ?_) Pln.bool ?_
     ·match j, hx, hy with
      | 0, hx, hy => cases hx; cases hy; exact Dv.sl0 q1 (by rw [List.length_map]; exact hll.symm)
      | 1, hx, hy => cases hx; cases hy; exact Dv.sl0 q2 (by rw [List.length_map, ← hgc]; exact hll.symm)
     ·have := eq1_spec u.got u.copies oM ((bb ++ ll).map deadR) []
      rw [decide_eq_true hgc] at this
      exact this
    simp (disch := (first | decide | omega)) only [hA, hg1, hg2, hg3, hscu, d8, setFrom, cellsOf, go_sem]
    refine ACalls.nxt (cE _ _ (by rw [List.getElem?_append_right oM, Nat.add_sub_cancel_left]; rfl) (by rw [List.getElem?_append_right oM, Nat.add_sub_cancel_left]; rfl)) ?_
    simp (disch := (first | decide | omega)) only [hA, hg1, hg2, hg3, hscu, hnil, z00, setFrom, cellsOf, go_sem]
    exact leave_pure (xs := [.v (.bool true)]) (.inr rfl) (by simp (disch := (first | decide | omega)) only [resVs, resV, go_sem, hA, hg1, hg2, hg3]) kO hR hB ⟨rfl, rfl, rfl⟩
   have dto : decide ((to : Int) < 8) = true := decide_eq_true oM
   simp (disch := (first | decide | omega)) only [hA, hg1, hg2, hg3, dto, setFrom, cellsOf, go_sem]
   refine loop_kept (ι := Sc × ChM) r_lawDel3 (fun z => []) 8 (fun z => scR B.length z.1 z.2)
    (fun z => (ScOk fs z.1 ∧ z.1.last = chF z.2 ∧ z.1.sent.length ≤ 60 ∧ AllIn z.1.n) ∧ Drn z.1.n to) (fun z => z.1.n.l.length) (u, K) ⟨⟨hSu, hKu, hlu, hau⟩, hdu⟩ (by (repeat (first | exact hE3.mono oM | refine KLt.up ?_ kL))) (by ((try simp (disch := decide) only [hA, hg1, hg2, hg3, go_sem]) <;> exact kH)) (fun e => Weak.refl _ _ _) ?_
   rintro h4 hE4 hEE4 hg4 ⟨v, H⟩ ⟨⟨hSv, hHv, hlv, hav⟩, hdv⟩
   simp only at hSv hHv hlv hav hdv
   rcases take_any hSv hlv H hHv to hto with ⟨hneg, cT⟩ | ⟨k, q, hkl, hS2, hM2, cT⟩
   ·simp (disch := (first | decide | omega)) only [hA, hg1, hg2, hg3, hg4, setFrom, cellsOf, go_sem]
    refine ACalls.nxt (cT _ _ [] (List.append_nil _).symm) ?_
    simp (disch := (first | decide | omega)) only [hA, hg1, hg2, hg3, hg4, setFrom, cellsOf, go_sem]
    refine ⟨(to + 1, v, H), ⟨hto, ⟨hSv, hHv, hlv, hav⟩, hdv.next hav (fiR_not hneg)⟩, by simp only; omega, ?_⟩
    simp only [scR_open]
    exact Weak.kround (p := r_lawDel2) (k := 8) (by ((repeat refine (kAny_up rfl).trans ?_); refine (kAny_sub hg4 (kIn_sub rfl)).trans ?_; (repeat refine (kAny_up rfl).trans ?_); exact hEE3)) (by ((try simp (disch := decide) only [hA, hg1, hg2, hg3, hg4, go_sem]) <;> exact kH)) rfl hE3 (by simp) kV hR (by simp (disch := omega) only [chR_ltT, lts.down, Nat.reduceLT, Nat.reduceAdd])
   ·have hll : (woN v.n k).l.length < v.n.l.length := by
     have ll : (woN v.n k).l.length = v.n.l.length - 1 := cut_length hkl
     omega
    simp (disch := (first | decide | omega)) only [hA, hg1, hg2, hg3, hg4, setFrom, cellsOf, go_sem]
    refine ACalls.nxt (cT _ _ [] (List.append_nil _).symm) ?_
    simp (disch := (first | decide | omega)) only [hA, hg1, hg2, hg3, hg4, setFrom, cellsOf, go_sem]
    refine ⟨(tkS v k q, tkM v H k q), ⟨⟨hS2, hM2, hlv, hav.out hSv.v hkl⟩, hdv.out hkl⟩, hll, ?_⟩
    simp only [scR_open]
    exact Weak.kround (p := r_lawDel3) (k := 8) (by ((repeat refine (kAny_up rfl).trans ?_); exact hEE4)) (by ((try simp (disch := decide) only [hA, hg1, hg2, hg3, hg4, go_sem]) <;> exact kH)) rfl hE4 (by simp) kV hR (by simp (disch := omega) only [chR_ltT, lts.down, Nat.reduceLT, Nat.reduceAdd])
 obtain ⟨d, hd⟩ : ∃ d, ds[i] = d := ⟨_, rfl⟩
 obtain ⟨bk, bf, bt, by'⟩ := hds d (by rw [← hd]; exact List.getElem_mem hlt)
 have hgd : (ds.map eDd)[i]? = some [.int .u8 d.k, .int .u8 d.f, .int .u8 d.t, .int .u8 d.y] := by rw [List.getElem?_map, List.getElem?_eq_getElem hlt, hd]; rfl
 obtain ⟨fr, hfr, hfr8⟩ := mod8 bf
 obtain ⟨to, hto, hto8⟩ := mod8 bt
 have h80 : ((8 : Int) = 0) = False := by decide
 have cG := fun b l => nGo_spec s.n (s.n.now + d.y) b l
 have hgo : goE s.n (s.n.now + d.y) = 0 := by unfold goE; rw [if_pos (nwB_iff.2 hS.v), if_neg oM, if_neg oM]
 have hgN : goN s.n (s.n.now + d.y) = { s.n with now := s.n.now + d.y } := if_pos hgo
 rw [hgo, hgN] at cG
 simp only [eNw, List.map_cons, List.map_nil] at cG
 have hsG := hS.at (t := s.n.now + d.y) oM
 have cV := fun b l => nValid_spec { s.n with now := s.n.now + d.y } b l
 rw [nwB_iff.2 hsG.v] at cV
 simp only [eNw, List.map_cons, List.map_nil] at cV
 by_cases hsend : d.k = 0 ∧ fr ≠ to
 case pos =>
  have dk0 : (d.k == 0) = true := by simpa using hsend.1
  have dft : ((fr : Int) != (to : Int)) = true := by have := hsend.2; simp; omega
  obtain ⟨m, hm⟩ : ∃ m : Ms, m = ⟨fr, to, s.sent.length, [d.y]⟩ := ⟨_, rfl⟩
  have hmB : msB m = true := by
   subst hm
   unfold msB ptB vlB
   simp
   omega
  obtain ⟨he, hS2⟩ := hS.send hmB (by rw [hm]) oM
  obtain ⟨N, hNN⟩ : ∃ N, N = sdR s.n m := ⟨_, rfl⟩
  have hsE : sndE s.n m = 0 := by unfold sndE; rw [if_pos (nwB_iff.2 hS.v), if_pos hmB, he]
  have hsN : sndN s.n m = N := by rw [hNN]; unfold sndN sdR; rw [if_pos hsE, if_pos he]
  have hNi : N = insN s.n m (timN s.n m) (copN s.n).toNat := by rw [hNN]; unfold sdR; rw [if_pos he]
  have hNn : N.now = s.n.now := by rw [hNi]; rfl
  have hNf : N.fifo = s.n.fifo := by rw [hNi]; rfl
  have cS := fun b l => nSend_spec s.n m b l
  rw [hsE, hsN] at cS
  rw [← hNN] at hS2
  obtain ⟨⟨c, dl⟩, hcd⟩ : ∃ z, s.n.fates.headD (1, 0) = z := ⟨_, rfl⟩
  rw [hcd] at hS2
  simp only at hS2
  have hho := head_ok hS.v
  rw [hcd] at hho
  simp only at hho
  have htb : ∀ x ∈ N.tm, x ≤ 2000000 := by
   rw [hNi]
   exact ins_ub (arAt_ub hS.v.len (by rw [hcd]; simp only; omega) hok.tm _ (Nat.le_refl _)) hok.tm
  have cV := fun b l => nValid_spec N b l
  rw [nwB_iff.2 hS2.v] at cV
  simp only [eNw, List.map_cons, List.map_nil, hNn, hNf] at cV cS
  rw [hm] at cS
  simp only at cS
  have t1 : (s.sent.map eMs).take s.sent.length = s.sent.map eMs := by rw [List.take_of_length_le (by rw [List.length_map]; omega)]
  have t2 : (s.due.map eI).take s.sent.length = s.due.map eI := by rw [List.take_of_length_le (by rw [List.length_map, hS.ld]; omega)]
  have t3 : (s.copies.map eI).take s.sent.length = s.copies.map eI := by rw [List.take_of_length_le (by rw [List.length_map, hS.lc]; omega)]
  have t4 : (s.got.map eI).take s.sent.length = s.got.map eI := by rw [List.take_of_length_le (by rw [List.length_map, hS.lg]; omega)]
  have hld := hS.ld
  have hlc := hS.lc
  have hlg := hS.lg
  have hwd : IntKind.i64.wrap (s.n.now + dl) = s.n.now + dl := wrap_id oM oM
  simp (disch := (first | decide | omega)) only [hA, hg1, hsc, hgd, dk0, dft, hfr, hto, h80, setFrom, cellsOf, fillA, vs_len, List.length_map, go_sem]
  refine frzR (i := 13) (ver := 0) (sz := 1) (rows := [[.int .i64 d.y]]) (args' := [.agg [.v (.int .i64 s.n.now), .v (.bool s.n.fifo), .v (.isl 4 (s.n.l.map eMs)), .v (.isl 1 (s.n.tm.map eI)), .v (.isl 2 (s.n.fates.map eFt))], .agg [.v (.int .i64 fr), .v (.int .i64 to), .v (.int .i64 s.sent.length), .v (.isl 1 [[.int .i64 d.y]])]])
   (l' := scR B.length s M ++ [.live 0 4 [[.v (.int .u8 d.k), .v (.int .u8 d.f), .v (.int .u8 d.t), .v (.int .u8 d.y)]], .dead 0, .live 0 4 [[.v (.int .i64 fr), .v (.int .i64 to), .v (.int .i64 s.sent.length), .v (.isl 1 [[.int .i64 d.y]])]]]) rfl ?_ ?_ ?_
  ·simp [deep, frz0]
  ·show ((scR B.length s M ++ ([.live 0 4 [[.v (.int .u8 d.k), .v (.int .u8 d.f), .v (.int .u8 d.t), .v (.int .u8 d.y)]], .dead 0, .live 0 4 [[.v (.int .i64 fr), .v (.int .i64 to), .v (.int .i64 s.sent.length), .sl (B.length + 13) 0 0 1]]] : List Row)).map _) = _
   rw [List.map_append, scR_frz oM]
   simp [rowMap, frz0]
  refine ACalls.nxt (cS _ _) ?_
  simp (disch := (first | decide | omega)) only [hA, hg1, hsc, n0, nwA_open, setFrom, cellsOf, vs_len, List.length_map, go_sem]
  by_cases hfl : s.sent.length < fs.length
  case' pos =>
   have dfl : decide ((s.sent.length : Int) < (fs.length : Int)) = true := decide_eq_true oM
   have hgf : (fs.map eFt)[s.sent.length]? = some [.int .i64 c, .int .i64 dl] := by
    have hx := hcd
    rw [hS.fates, List.drop_eq_getElem_cons hfl, List.headD_cons] at hx
    rw [List.getElem?_map, List.getElem?_eq_getElem hfl, hx]; rfl
   simp (disch := (first | decide | omega)) only [hA, hg1, hsc, n0, dfl, hgf, hNn, hNf, hwd, hld, hlc, hlg, t1, t2, t3, t4, setFrom, cellsOf, vs_len, vs_snoc4, rep1, rowsI_vs, List.length_map, go_sem]
  case' neg =>
   have dfl : decide ((s.sent.length : Int) < (fs.length : Int)) = false := decide_eq_false oM
   have hx := hcd
   rw [hS.fates, List.drop_eq_nil_of_le oM, List.headD_nil] at hx
   cases hx
   simp (disch := (first | decide | omega)) only [hA, hg1, hsc, n0, dfl, hNn, hNf, hwd, hld, hlc, hlg, t1, t2, t3, t4, setFrom, cellsOf, vs_len, vs_snoc4, rep1, rowsI_vs, List.length_map, go_sem]
  all_goals
   refine ACalls.nxt (cV _ _) ?_
   simp (disch := (first | decide | omega)) only [hA, hg1, setFrom, cellsOf, go_sem]
   refine ⟨(i + 1, ⟨N, s.sent ++ [m], _, _, s.got ++ [0], s.last⟩, M), ⟨hlt, hS2, hok.m, ?_, ?_, htb⟩, by simp only; omega, ?_⟩
   ·show (s.sent ++ [m]).length ≤ i + 1
    rw [List.length_append, List.length_singleton]; omega
   ·show N.now ≤ _
    rw [hNn]; simp only; omega
   ·simp only [scR_send, hNn, hNf, hm, List.map_cons, List.map_nil, eI]
    exact Weak.kround (p := r_lawDel0) (k := 8) (by ((repeat refine (kAny_up rfl).trans ?_); exact hEE1)) (by ((try simp (disch := decide) only [hA, hg1, go_sem]) <;> exact kH)) rfl hE1 (by simp) kV hR (by simp (disch := omega) only [chR_ltT, lts.down, Nat.reduceLT, Nat.reduceAdd])
 by_cases hk1 : d.k = 1
 case pos =>
  have dk1 : (d.k == 1) = true := by simpa using hk1
  have dk0 : (d.k == 0) = false := by rw [hk1]; rfl
  have cV := fun b l => nValid_spec s.n b l
  rw [nwB_iff.2 hS.v] at cV
  simp only [eNw, List.map_cons, List.map_nil] at cV
  rcases take_any hS oM M hok.m to hto8 with ⟨_, cT⟩ | ⟨k, q, hkl, hS2, hM2, cT⟩
  ·simp (disch := (first | decide | omega)) only [hA, hg1, hsc, hgd, dk0, dk1, hfr, hto, h80, setFrom, cellsOf, go_sem]
   refine ACalls.nxt (cT _ _ [.live 0 4 [[.v (.int .u8 d.k), .v (.int .u8 d.f), .v (.int .u8 d.t), .v (.int .u8 d.y)]]] rfl) ?_
   simp (disch := (first | decide | omega)) only [hA, hg1, hsc, setFrom, cellsOf, go_sem]
   refine ACalls.nxt (cV _ _) ?_
   simp (disch := (first | decide | omega)) only [hA, hg1, hsc, setFrom, cellsOf, go_sem]
   refine ⟨(i + 1, s, M), ⟨hlt, hS, hok.m, by show s.sent.length ≤ i + 1; omega, by simp only; omega, hok.tm⟩, by simp only; omega, ?_⟩
   simp only [scR_open]
   exact Weak.kround (p := r_lawDel0) (k := 8) (by ((repeat refine (kAny_up rfl).trans ?_); exact hEE1)) (by ((try simp (disch := decide) only [hA, hg1, go_sem]) <;> exact kH)) rfl hE1 (by simp) kV hR (by simp (disch := omega) only [chR_ltT, lts.down, Nat.reduceLT, Nat.reduceAdd])
  ·have cV := fun b l => nValid_spec (woN s.n k) b l
   rw [nwB_iff.2 (hS.v.out hkl)] at cV
   simp only [eNw, List.map_cons, List.map_nil] at cV
   have hsc2 := scR_open B.length (tkS s k q) (tkM s M k q)
   have e1 : (tkS s k q).n = woN s.n k := rfl
   have e2 : (tkS s k q).sent = s.sent := rfl
   have e3 : (tkS s k q).due = s.due := rfl
   have e4 : (tkS s k q).copies = s.copies := rfl
   rw [e1, e2, e3, e4] at hsc2
   simp (disch := (first | decide | omega)) only [hA, hg1, hsc, hgd, dk0, dk1, hfr, hto, h80, setFrom, cellsOf, go_sem]
   refine ACalls.nxt (cT _ _ [.live 0 4 [[.v (.int .u8 d.k), .v (.int .u8 d.f), .v (.int .u8 d.t), .v (.int .u8 d.y)]]] rfl) ?_
   simp (disch := (first | decide | omega)) only [hA, hg1, hsc2, setFrom, cellsOf, go_sem]
   refine ACalls.nxt (cV _ _) ?_
   simp (disch := (first | decide | omega)) only [hA, hg1, hsc2, setFrom, cellsOf, go_sem]
   refine ⟨(i + 1, tkS s k q, tkM s M k q), ⟨hlt, hS2, hM2, by show s.sent.length ≤ i + 1; omega, by show s.n.now ≤ _; simp only; omega, wo_ub hok.tm⟩, by simp only; omega, ?_⟩
   simp only [scR_open, e1, e2, e3, e4]
   exact Weak.kround (p := r_lawDel0) (k := 8) (by ((repeat refine (kAny_up rfl).trans ?_); exact hEE1)) (by ((try simp (disch := decide) only [hA, hg1, go_sem]) <;> exact kH)) rfl hE1 (by simp) kV hR (by simp (disch := omega) only [chR_ltT, lts.down, Nat.reduceLT, Nat.reduceAdd])
 case neg =>
  have dk1 : (d.k == 1) = false := by simpa using hk1
  by_cases hk0 : d.k = 0
  case' pos =>
   have dk0 : (d.k == 0) = true := by simpa using hk0
   have dft : ((fr : Int) != (to : Int)) = false := by
    have : fr = to := Classical.byContradiction fun h => hsend ⟨hk0, h⟩
    rw [this]; simp
   simp (disch := (first | decide | omega)) only [hA, hg1, hsc, hgd, dk0, dft, dk1, hfr, hto, h80, setFrom, cellsOf, go_sem]
  case' neg =>
   have dk0 : (d.k == 0) = false := by simpa using hk0
   simp (disch := (first | decide | omega)) only [hA, hg1, hsc, hgd, dk0, dk1, hfr, hto, h80, setFrom, cellsOf, go_sem]
  all_goals
   refine ACalls.nxt (cG _ _) ?_
   simp (disch := (first | decide | omega)) only [hA, hg1, n0, nwA_open, setFrom, cellsOf, go_sem]
   refine ACalls.nxt (cV _ _) ?_
   simp (disch := (first | decide | omega)) only [hA, hg1, n0, nwA_open, setFrom, cellsOf, go_sem]
   refine ⟨(i + 1, { s with n := { s.n with now := s.n.now + d.y } }, M), ⟨hlt, hsG, hok.m, by show s.sent.length ≤ i + 1; omega, by simp only; omega, hok.tm⟩, by simp only; omega, ?_⟩
   simp only [scR_open]
   exact Weak.kround (p := r_lawDel0) (k := 8) (by ((repeat refine (kAny_up rfl).trans ?_); exact hEE1)) (by ((try simp (disch := decide) only [hA, hg1, go_sem]) <;> exact kH)) rfl hE1 (by simp) kV hR (by simp (disch := omega) only [chR_ltT, lts.down, Nat.reduceLT, Nat.reduceAdd])
end Go.Proofs.Ytpkemmchpccjdaa
namespace Go.Proofs.Ytpkemmchpccjdaa
open Go.RowKit
set_option linter.unusedVariables false
theorem wf_n8 {n : Int} (h : (Lit.int .u8 n).wf = true) : 0 ≤ n ∧ n < 256 := by
 have h1 : (decide (IntKind.min .u8 ≤ n) && decide (n ≤ IntKind.max .u8)) = true := h
 rw [show IntKind.min .u8 = 0 from rfl, show IntKind.max .u8 = 255 from by decide] at h1
 simp at h1
 omega
theorem tr_deed8 : TR Try.prog 5 1 (fun n : Int => [.int .u8 n]) (fun n => (Lit.int .u8 n).wf = true) := tr_int Try.underlying5
theorem tr_deed : TR Try.prog 43 4 eDd DdOk :=
 (tr_struct Try.underlying43 (trf_cons tr_deed8 (by kernel_rfl) rfl (trf_cons tr_deed8 (by kernel_rfl) rfl (trf_cons tr_deed8 (by kernel_rfl) rfl (trf_cons tr_deed8 (by kernel_rfl) rfl trf_nil))))).map
  (fun y => ⟨y.1, y.2.1, y.2.2.1, y.2.2.2.1⟩) (fun _ => rfl) (fun _ h => ⟨wf_n8 h.1, wf_n8 h.2.1, wf_n8 h.2.2.1, wf_n8 h.2.2.2.1⟩)
theorem tr_deeds : TR Try.prog 23 1 (fun l : List Dd => [.isl 4 (l.map eDd)]) (fun l => l.length ≤ maxLen ∧ ∀ d ∈ l, DdOk d) :=
 tr_slice tr_deed Try.underlying23 (by kernel_rfl) (by decide)
end Go.Proofs.Ytpkemmchpccjdaa
