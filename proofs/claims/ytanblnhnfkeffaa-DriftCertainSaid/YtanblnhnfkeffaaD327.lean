/- Texts of one proof, laid together: YL. No condition. -/
import Derived.Test.YtanblnhnfkeffaaD325
import Derived.Test.YtanblnhnfkeffaaD326
import Derived.Test.YtanblnhnfkeffaaD311
namespace Go.Proofs.Ytanblnhnfkeffaa
set_option linter.unusedVariables false
set_option linter.unusedSimpArgs false
attribute [local go_sem ↓] run_skip run_region run_draw run_both run_seq run_block run_exit run_ret run_cond atN_app seqC_normal seqC_exit seqC_ret seqQ_normal seqQ_exit seqQ_ret blkQ_normal blkQ_exit blkQ_ret runOps_nil runOps_cons runD_nil runD_cons grdO_true grdO_false grdD_true grdD_false ifC_true ifC_false opS_val opS_call opS_two opK_app dS_val dS_call dS_two dK_app kUp_same kUp_ne
attribute [local go_sem] rechks_nil rechks_cons rechk gcase_true gcase_false ex_val ex_val0 gd_none gd_some ev_t ev_c evs_nil evs_cons evo_some evo_none hget_at hget_first hsetB_at hsetB_first hsetL_at hsetL_first ofOpt_some aop aload astore aslice aappend aiaddr aiaddrA afaddr alen alenS acopy amm acall alookup amupdate alenM atostr comma keyEq apick binV binVB binVS isSh intOp strOp boolOp shOp eqC eqF and2 cellsOf setFrom fillA fillS rd rdI elems mk bounds AV.cell List.all_cons List.all_nil Bool.and_true Bool.true_and Bool.and_self List.length_cons List.length_nil List.length_append Nat.reduceAdd Nat.reduceSub Nat.reduceMul Nat.zero_add Nat.add_zero List.cons_append List.nil_append List.append_assoc List.append_nil List.getElem?_cons_zero List.getElem?_cons_succ List.getElem?_nil List.set_cons_zero List.set_cons_succ List.drop_zero List.drop_succ_cons List.take_zero List.take_succ_cons List.take_nil List.drop_nil List.map_cons List.map_nil Option.map_some if_true if_false Bool.false_eq_true and_self true_and and_true Nat.reduceLeDiff Nat.reduceLT Nat.le_refl Nat.reduceEqDiff ite_true ite_false beq_self_eq_true beq_true beq_false Bool.not_true Bool.not_false Bool.true_beq Bool.false_beq map_vs vs_len vs_get vs_take vs_drop vs_snoc1 vs_snoc2 vs_snoc3 vs_snoc5 vs_set1 vs_set2 vs_rep wrap_id le_T lt_T le_F lt_F leI_T ltI_T leI_F ltI_F geI gtI get_T decide_true decide_false room List.getElem?_map List.length_map List.length_take Int.toNat_natCast Nat.min_def Nat.min_self nth_kOf put_kOf put_kNo kOv_cons kOv_nil KHas KArgs List.getElem_cons_zero List.getElem_cons_succ
def a_driftCertain : AFunc := ⟨6,213,[.tmp 12],(.seq (.region [⟨some 6,.box (.t 0),none⟩,⟨some 7,.box (.t 1),none⟩,⟨some 8,.box (.t 2),none⟩,⟨some 9,.box (.t 3),none⟩,⟨some 10,.box (.t 4),none⟩,⟨some 12,.mv (.c (.v (.bool false))),none⟩]) (.seq (.seq (.region [⟨some 23,.call (.c (.fn 47 [])) [],none⟩,⟨some 24,.not (.t 23),none⟩]) (.cond (.t 24) (.seq (.region [⟨some 12,.mv (.c (.v (.bool false))),none⟩]) .ret) .skip)) (.seq (.seq (.region [⟨some 25,.load (some 1) (.t 6),none⟩,⟨some 26,.call (.c (.fn 48 [])) [(.t 25)],none⟩,⟨some 27,.not (.t 26),none⟩,⟨some 28,.mv (.t 27),none⟩,⟨some 29,.faddr 0 (.t 7),some (28,false)⟩,⟨some 30,.load none (.t 29),some (28,false)⟩,⟨some 31,.len (.t 30),some (28,false)⟩,⟨some 32,.bin .gtr (.t 31) (.c (.v (.int .i64 20))),some (28,false)⟩,⟨some 33,.pick (.t 28) (.c (.v (.bool true))) (.t 32),none⟩,⟨some 34,.mv (.t 33),none⟩,⟨some 35,.load (some 1) (.t 6),some (34,false)⟩,⟨some 36,.load (some 3) (.t 7),some (34,false)⟩,⟨some 37,.call (.c (.fn 52 [])) [(.t 35),(.t 36)],some (34,false)⟩,⟨some 38,.not (.t 37),some (34,false)⟩,⟨some 39,.pick (.t 34) (.c (.v (.bool true))) (.t 38),none⟩,⟨some 40,.mv (.t 39),none⟩,⟨some 41,.load (some 1) (.t 6),some (40,false)⟩,⟨some 42,.load (some 2) (.t 8),some (40,false)⟩,⟨some 43,.call (.c (.fn 56 [])) [(.t 41),(.t 42)],some (40,false)⟩,⟨some 44,.not (.t 43),some (40,false)⟩,⟨some 45,.pick (.t 40) (.c (.v (.bool true))) (.t 44),none⟩,⟨some 46,.mv (.t 45),none⟩,⟨some 47,.load (some 1) (.t 6),some (46,false)⟩,⟨some 48,.load (some 2) (.t 9),some (46,false)⟩,⟨some 49,.call (.c (.fn 56 [])) [(.t 47),(.t 48)],some (46,false)⟩,⟨some 50,.not (.t 49),some (46,false)⟩,⟨some 51,.pick (.t 46) (.c (.v (.bool true))) (.t 50),none⟩,⟨some 52,.mv (.t 51),none⟩,⟨some 53,.load (some 1) (.t 6),some (52,false)⟩,⟨some 54,.load (some 2) (.t 10),some (52,false)⟩,⟨some 55,.call (.c (.fn 56 [])) [(.t 53),(.t 54)],some (52,false)⟩,⟨some 56,.not (.t 55),some (52,false)⟩,⟨some 57,.pick (.t 52) (.c (.v (.bool true))) (.t 56),none⟩,⟨some 58,.mv (.t 57),none⟩,⟨some 59,.mv (.t 5),some (58,false)⟩,⟨some 60,.len (.t 59),some (58,false)⟩,⟨some 61,.bin .gtr (.t 60) (.c (.v (.int .i64 20))),some (58,false)⟩,⟨some 62,.pick (.t 58) (.c (.v (.bool true))) (.t 61),none⟩,⟨some 63,.mv (.t 62),none⟩,⟨some 64,.mv (.t 5),some (63,false)⟩,⟨some 65,.call (.c (.fn 49 [])) [(.t 64),(.c (.fn 69 []))],some (63,false)⟩,⟨some 66,.pick (.t 63) (.c (.v (.bool true))) (.t 65),none⟩]) (.cond (.t 66) (.seq (.region [⟨some 12,.mv (.c (.v (.bool true))),none⟩]) .ret) .skip)) (.seq (.region [⟨some 68,.load (some 1) (.t 6),none⟩,⟨some 69,.load (some 3) (.t 7),none⟩,⟨some 70,.load (some 2) (.t 8),none⟩,⟨some 71,.load (some 2) (.t 9),none⟩,⟨some 72,.call (.c (.fn 59 [])) [(.t 68),(.t 69),(.t 70),(.t 71)],none⟩,⟨some 67,.mv (.t 72),none⟩,⟨some 73,.extract 0 (.t 67),none⟩,⟨some 74,.extract 1 (.t 67),none⟩,⟨some 13,.mv (.t 73),none⟩,⟨some 14,.mv (.t 74),none⟩]) (.seq (.region [⟨some 76,.load (some 1) (.t 6),none⟩,⟨some 77,.load (some 3) (.t 7),none⟩,⟨some 78,.load (some 2) (.t 9),none⟩,⟨some 79,.load (some 2) (.t 8),none⟩,⟨some 80,.call (.c (.fn 59 [])) [(.t 76),(.t 77),(.t 78),(.t 79)],none⟩,⟨some 75,.mv (.t 80),none⟩,⟨some 81,.extract 0 (.t 75),none⟩,⟨some 82,.extract 1 (.t 75),none⟩,⟨some 15,.mv (.t 81),none⟩,⟨some 16,.mv (.t 82),none⟩]) (.seq (.region [⟨some 84,.load (some 1) (.t 6),none⟩,⟨some 85,.load (some 3) (.t 7),none⟩,⟨some 86,.load (some 2) (.t 9),none⟩,⟨some 87,.load (some 2) (.t 10),none⟩,⟨some 88,.call (.c (.fn 59 [])) [(.t 84),(.t 85),(.t 86),(.t 87)],none⟩,⟨some 83,.mv (.t 88),none⟩,⟨some 89,.extract 0 (.t 83),none⟩,⟨some 90,.extract 1 (.t 83),none⟩,⟨some 17,.mv (.t 89),none⟩,⟨some 18,.mv (.t 90),none⟩]) (.seq (.region [⟨some 92,.load (some 1) (.t 6),none⟩,⟨some 93,.load (some 3) (.t 7),none⟩,⟨some 94,.load (some 2) (.t 8),none⟩,⟨some 95,.load (some 2) (.t 10),none⟩,⟨some 96,.call (.c (.fn 59 [])) [(.t 92),(.t 93),(.t 94),(.t 95)],none⟩,⟨some 91,.mv (.t 96),none⟩,⟨some 97,.extract 0 (.t 91),none⟩,⟨some 98,.extract 1 (.t 91),none⟩,⟨some 19,.mv (.t 97),none⟩,⟨some 20,.mv (.t 98),none⟩]) (.seq (.seq (.region [⟨some 99,.mv (.t 14),none⟩,⟨some 100,.bin .neq (.t 99) (.c (.v (.int .i64 0))),none⟩]) (.cond (.t 100) (.seq (.region [⟨some 101,.mv (.t 14),none⟩,⟨some 102,.bin .eql (.t 101) (.c (.v (.int .i64 11))),none⟩,⟨some 103,.mv (.t 102),none⟩,⟨some 104,.mv (.t 16),some (103,true)⟩,⟨some 105,.mv (.t 14),some (103,true)⟩,⟨some 106,.bin .eql (.t 104) (.t 105),some (103,true)⟩,⟨some 107,.pick (.t 103) (.t 106) (.c (.v (.bool false))),none⟩,⟨some 108,.mv (.t 107),none⟩,⟨some 109,.mv (.t 18),some (108,true)⟩,⟨some 110,.mv (.t 14),some (108,true)⟩,⟨some 111,.bin .eql (.t 109) (.t 110),some (108,true)⟩,⟨some 112,.pick (.t 108) (.t 111) (.c (.v (.bool false))),none⟩,⟨some 113,.mv (.t 112),none⟩,⟨some 114,.mv (.t 20),some (113,true)⟩,⟨some 115,.mv (.t 14),some (113,true)⟩,⟨some 116,.bin .eql (.t 114) (.t 115),some (113,true)⟩,⟨some 117,.pick (.t 113) (.t 116) (.c (.v (.bool false))),none⟩,⟨some 12,.mv (.t 117),none⟩]) .ret) .skip)) (.seq (.region [⟨some 119,.load (some 1) (.t 6),none⟩,⟨some 120,.load (some 2) (.t 8),none⟩,⟨some 121,.load (some 2) (.t 9),none⟩,⟨some 122,.call (.c (.fn 70 [])) [(.t 119),(.t 120),(.t 121)],none⟩,⟨some 118,.mv (.t 122),none⟩,⟨some 123,.extract 0 (.t 118),none⟩,⟨some 124,.extract 1 (.t 118),none⟩,⟨some 21,.mv (.t 123),none⟩,⟨some 22,.mv (.t 124),none⟩]) (.seq (.seq (.region [⟨some 125,.mv (.t 16),none⟩,⟨some 126,.bin .neq (.t 125) (.c (.v (.int .i64 0))),none⟩,⟨some 127,.mv (.t 126),none⟩,⟨some 128,.mv (.t 18),some (127,false)⟩,⟨some 129,.bin .neq (.t 128) (.c (.v (.int .i64 0))),some (127,false)⟩,⟨some 130,.pick (.t 127) (.c (.v (.bool true))) (.t 129),none⟩,⟨some 131,.mv (.t 130),none⟩,⟨some 132,.mv (.t 20),some (131,false)⟩,⟨some 133,.bin .neq (.t 132) (.c (.v (.int .i64 0))),some (131,false)⟩,⟨some 134,.pick (.t 131) (.c (.v (.bool true))) (.t 133),none⟩,⟨some 135,.mv (.t 134),none⟩,⟨some 136,.mv (.t 22),some (135,false)⟩,⟨some 137,.bin .neq (.t 136) (.c (.v (.int .i64 0))),some (135,false)⟩,⟨some 138,.pick (.t 135) (.c (.v (.bool true))) (.t 137),none⟩]) (.cond (.t 138) (.seq (.region [⟨some 12,.mv (.c (.v (.bool false))),none⟩]) .ret) .skip)) (.seq (.seq (.region [⟨some 139,.mv (.t 13),none⟩,⟨some 140,.mv (.t 139),none⟩,⟨some 141,.mv (.t 15),some (140,true)⟩,⟨some 142,.mv (.t 141),some (140,true)⟩,⟨some 143,.load (some 2) (.t 8),some (142,false)⟩,⟨some 144,.load (some 2) (.t 9),some (142,false)⟩,⟨some 145,.eqs false [.i,.i] (.t 143) (.t 144),some (142,false)⟩,⟨some 146,.pick (.t 142) (.c (.v (.bool true))) (.t 145),some (140,true)⟩,⟨some 147,.pick (.t 140) (.t 146) (.c (.v (.bool false))),none⟩,⟨some 148,.mv (.t 147),none⟩,⟨some 149,.mv (.t 13),some (148,false)⟩,⟨some 150,.mv (.t 149),some (148,false)⟩,⟨some 151,.mv (.t 17),some (150,true)⟩,⟨some 152,.pick (.t 150) (.t 151) (.c (.v (.bool false))),some (148,false)⟩,⟨some 153,.mv (.t 152),some (148,false)⟩,⟨some 154,.mv (.t 19),some (153,true)⟩,⟨some 155,.not (.t 154),some (153,true)⟩,⟨some 156,.pick (.t 153) (.t 155) (.c (.v (.bool false))),some (148,false)⟩,⟨some 157,.pick (.t 148) (.c (.v (.bool true))) (.t 156),none⟩,⟨some 158,.mv (.t 157),none⟩,⟨some 159,.mv (.t 21),some (158,false)⟩,⟨some 160,.mv (.t 159),some (158,false)⟩,⟨some 161,.mv (.t 15),some (160,true)⟩,⟨some 162,.pick (.t 160) (.t 161) (.c (.v (.bool false))),some (158,false)⟩,⟨some 163,.pick (.t 158) (.c (.v (.bool true))) (.t 162),none⟩]) (.cond (.t 163) (.seq (.region [⟨some 12,.mv (.c (.v (.bool false))),none⟩]) .ret) .skip)) (.seq (.seq (.region [⟨some 164,.mv (.t 21),none⟩,⟨some 165,.mv (.t 164),none⟩,⟨some 166,.faddr 1 (.t 7),some (165,true)⟩,⟨some 167,.load none (.t 166),some (165,true)⟩,⟨some 168,.bin .gtr (.t 167) (.c (.v (.int .i64 0))),some (165,true)⟩,⟨some 169,.pick (.t 165) (.t 168) (.c (.v (.bool false))),none⟩,⟨some 170,.mv (.t 169),none⟩,⟨some 171,.faddr 0 (.t 8),some (170,true)⟩,⟨some 172,.load none (.t 171),some (170,true)⟩,⟨some 173,.faddr 0 (.t 9),some (170,true)⟩,⟨some 174,.load none (.t 173),some (170,true)⟩,⟨some 175,.bin .neq (.t 172) (.t 174),some (170,true)⟩,⟨some 176,.pick (.t 170) (.t 175) (.c (.v (.bool false))),none⟩,⟨some 177,.mv (.t 176),none⟩,⟨some 178,.mv (.t 13),some (177,true)⟩,⟨some 179,.not (.t 178),some (177,true)⟩,⟨some 180,.pick (.t 177) (.t 179) (.c (.v (.bool false))),none⟩]) (.cond (.t 180) (.seq (.region [⟨some 12,.mv (.c (.v (.bool false))),none⟩]) .ret) .skip)) (.seq (.draw [⟨0,⟨some 181,.mv (.t 13),none⟩,[]⟩,⟨1,⟨some 182,.not (.t 181),none⟩,[]⟩,⟨2,⟨some 183,.mv (.t 182),none⟩,[]⟩,⟨3,⟨some 184,.load (some 1) (.t 6),some (183,false)⟩,[]⟩,⟨4,⟨some 185,.load (some 3) (.t 7),some (183,false)⟩,[]⟩,⟨5,⟨some 186,.mv (.t 5),some (183,false)⟩,[]⟩,⟨6,⟨some 187,.call (.c (.fn 55 [])) [(.t 184),(.t 185),(.t 186)],some (183,false)⟩,[]⟩,⟨7,⟨some 188,.not (.t 187),some (183,false)⟩,[]⟩,⟨8,⟨some 189,.pick (.t 183) (.c (.v (.bool true))) (.t 188),none⟩,[]⟩,⟨9,⟨some 190,.mv (.t 189),none⟩,[]⟩,⟨10,⟨some 191,.mv (.t 5),some (190,false)⟩,[]⟩,⟨11,⟨some 192,.faddr 0 (.t 8),some (190,false)⟩,[]⟩,⟨12,⟨some 193,.load none (.t 192),some (190,false)⟩,[]⟩,⟨13,⟨some 194,.iaddr 1 (.t 191) (.t 193),some (190,false)⟩,[]⟩,⟨14,⟨some 195,.load none (.t 194),some (190,false)⟩,[]⟩,⟨15,⟨some 196,.faddr 1 (.t 8),some (190,false)⟩,[]⟩,⟨16,⟨some 197,.load none (.t 196),some (190,false)⟩,[]⟩,⟨17,⟨some 198,.bin .sub (.t 197) (.c (.v (.int .i64 1))),some (190,false)⟩,[]⟩,⟨18,⟨some 199,.iaddr 1 (.t 195) (.t 198),some (190,false)⟩,[]⟩,⟨19,⟨some 200,.load none (.t 199),some (190,false)⟩,[]⟩,⟨20,⟨some 201,.mv (.t 5),some (190,false)⟩,[]⟩,⟨21,⟨some 202,.faddr 0 (.t 9),some (190,false)⟩,[]⟩,⟨22,⟨some 203,.load none (.t 202),some (190,false)⟩,[]⟩,⟨23,⟨some 204,.iaddr 1 (.t 201) (.t 203),some (190,false)⟩,[]⟩,⟨24,⟨some 205,.load none (.t 204),some (190,false)⟩,[]⟩,⟨25,⟨some 206,.faddr 1 (.t 9),some (190,false)⟩,[]⟩,⟨26,⟨some 207,.load none (.t 206),some (190,false)⟩,[]⟩,⟨27,⟨some 208,.bin .sub (.t 207) (.c (.v (.int .i64 1))),some (190,false)⟩,[]⟩,⟨28,⟨some 209,.iaddr 1 (.t 205) (.t 208),some (190,false)⟩,[]⟩,⟨29,⟨some 210,.load none (.t 209),some (190,false)⟩,[]⟩,⟨30,⟨some 211,.bin .lss (.t 200) (.t 210),some (190,false)⟩,[]⟩,⟨31,⟨some 212,.pick (.t 190) (.c (.v (.bool true))) (.t 211),none⟩,[]⟩,⟨32,⟨some 12,.mv (.t 212),none⟩,[]⟩]) .ret)))))))))))))⟩
theorem a_driftCertain_ok : cFunc Try.prog 12 = some a_driftCertain := by kernel_rfl

set_option maxRecDepth 100000
set_option maxHeartbeats 8000000 in
theorem driftCertain_run (t : Tr) (hN : Nm t) (bn : Bn) (x y z : Int × Int) (m : List (List Int)) (b l : List Row) :
  ACalls Try.prog 12 [.agg [.v (eT t)], .agg (eBn bn), idP x, idP y, idP z, .v (.isl 1 (m.map eRw))] b l (fun r b' l' => r = .v (.bool true) ∧ b' = b ∧ l' = l) := by
 refine calls_kept a_driftCertain_ok rfl (by decide) ?_
 intro B g hB hR hE hA
 simp only [KArgs] at hA
 simp only [eBn, idP] at hA
 simp (disch := (first | decide | omega)) only [a_driftCertain, hA, go_sem]
 refine ACalls.nxt (awake19_spec _ _) ?_
 simp (disch := (first | decide | omega)) only [hA, go_sem]
 refine ACalls.nxt (few19_spec t _ _) ?_
 cases hf : few19B t with
 | false =>
   simp (disch := (first | decide | omega)) only [hA, go_sem]
   exact leave_pure (xs := [.v (.bool true)]) (.inr rfl) (by simp (disch := (first | decide | omega)) only [resVs, resV, go_sem, hA]) kO hR hB ⟨rfl, rfl, rfl⟩
 | true =>
   have hS := (few19_in hf).2.1
   obtain ⟨hn, he70, hC⟩ := len_few19 hf
   by_cases h1 : 20 < bn.er.length
   ·have hd : decide ((bn.er.length : Int) > 20) = true := decide_eq_true oM
    simp (disch := (first | decide | omega)) only [hA, List.length_map, hd, go_sem]
    exact leave_pure (xs := [.v (.bool true)]) (.inr rfl) (by simp (disch := (first | decide | omega)) only [resVs, resV, go_sem, hA]) kO hR hB ⟨rfl, rfl, rfl⟩
   have hd : decide ((bn.er.length : Int) > 20) = false := decide_eq_false oM
   have hbl : bn.er.length ≤ 4611686018427387904 := by omega
   have cV := fun b l => rValid19_spec t hS hN bn hbl b l
   have cX := fun b l => rEvent19_spec t hS x b l
   have cY := fun b l => rEvent19_spec t hS y b l
   have cZ := fun b l => rEvent19_spec t hS z b l
   simp only [eBn, idP] at cV cX cY cZ
   cases hv : bnB t bn with
   | false =>
     rw [hv] at cV
     simp (disch := (first | decide | omega)) only [hA, List.length_map, hd, go_sem]
     refine ACalls.nxt (cV _ _) ?_
     simp (disch := (first | decide | omega)) only [hA, List.length_map, hd, go_sem]
     exact leave_pure (xs := [.v (.bool true)]) (.inr rfl) (by simp (disch := (first | decide | omega)) only [resVs, resV, go_sem, hA]) kO hR hB ⟨rfl, rfl, rfl⟩
   | true =>
     obtain ⟨hval, hok⟩ := bn_ok hv
     rw [hv] at cV
     simp (disch := (first | decide | omega)) only [hA, List.length_map, hd, go_sem]
     refine ACalls.nxt (cV _ _) ?_
     simp (disch := (first | decide | omega)) only [hA, List.length_map, hd, go_sem]
     refine ACalls.nxt (cX _ _) ?_
     cases hx : existsB t x.1 x.2 with
     | false =>
       simp (disch := (first | decide | omega)) only [hA, go_sem]
       exact leave_pure (xs := [.v (.bool true)]) (.inr rfl) (by simp (disch := (first | decide | omega)) only [resVs, resV, go_sem, hA]) kO hR hB ⟨rfl, rfl, rfl⟩
     | true =>
       simp (disch := (first | decide | omega)) only [hA, go_sem]
       refine ACalls.nxt (cY _ _) ?_
       cases hy : existsB t y.1 y.2 with
       | false =>
         simp (disch := (first | decide | omega)) only [hA, go_sem]
         exact leave_pure (xs := [.v (.bool true)]) (.inr rfl) (by simp (disch := (first | decide | omega)) only [resVs, resV, go_sem, hA]) kO hR hB ⟨rfl, rfl, rfl⟩
       | true =>
         simp (disch := (first | decide | omega)) only [hA, go_sem]
         refine ACalls.nxt (cZ _ _) ?_
         cases hz : existsB t z.1 z.2 with
         | false =>
           simp (disch := (first | decide | omega)) only [hA, go_sem]
           exact leave_pure (xs := [.v (.bool true)]) (.inr rfl) (by simp (disch := (first | decide | omega)) only [resVs, resV, go_sem, hA]) kO hR hB ⟨rfl, rfl, rfl⟩
         | true =>
           by_cases h2 : 20 < m.length
           ·have hd2 : decide ((m.length : Int) > 20) = true := decide_eq_true oM
            simp (disch := (first | decide | omega)) only [hA, List.length_map, hd2, go_sem]
            exact leave_pure (xs := [.v (.bool true)]) (.inr rfl) (by simp (disch := (first | decide | omega)) only [resVs, resV, go_sem, hA]) kO hR hB ⟨rfl, rfl, rfl⟩
           have hd2 : decide ((m.length : Int) > 20) = false := decide_eq_false oM
           simp (disch := (first | decide | omega)) only [hA, List.length_map, hd2, go_sem]
           refine ACalls.nxt (containsM_spec m _ [] (fun j => decide (40 < (m.getD j []).length)) oM _ _ (fun i hi => by simp only [getD_at hi]; exact dgC_spec _ _ _)) ?_
           cases hcl : (List.range m.length).any (fun j => decide (40 < (m.getD j []).length)) with
           | true =>
             simp (disch := (first | decide | omega)) only [hA, go_sem]
             exact leave_pure (xs := [.v (.bool true)]) (.inr rfl) (by simp (disch := (first | decide | omega)) only [resVs, resV, go_sem, hA]) kO hR hB ⟨rfl, rfl, rfl⟩
           | false =>
             have hmr := rows40 hcl
             obtain ⟨p, i, hpi, rfl⟩ := id_back hx
             obtain ⟨q, j, hqj, rfl⟩ := id_back hy
             obtain ⟨u, k, huk, rfl⟩ := id_back hz
             have c1 := fun b l => dCert_spec t hS hN hn he70 hC bn hbl ((p : Int), ((i + 1 : Nat) : Int)) ((q : Int), ((j + 1 : Nat) : Int)) b l
             have c2 := fun b l => dCert_spec t hS hN hn he70 hC bn hbl ((q : Int), ((j + 1 : Nat) : Int)) ((p : Int), ((i + 1 : Nat) : Int)) b l
             have c3 := fun b l => dCert_spec t hS hN hn he70 hC bn hbl ((q : Int), ((j + 1 : Nat) : Int)) ((u : Int), ((k + 1 : Nat) : Int)) b l
             have c4 := fun b l => dCert_spec t hS hN hn he70 hC bn hbl ((p : Int), ((i + 1 : Nat) : Int)) ((u : Int), ((k + 1 : Nat) : Int)) b l
             simp only [eBn, idP, certR, hv, hx, hy, hz, Bool.true_eq_false, Bool.false_eq_true, or_self, if_false, Int.toNat_natCast] at c1 c2 c3 c4
             have z1 : ((11 : Int) == 11) = true := rfl
             have z2 : ((11 : Int) != 0) = true := rfl
             have z3 : ((0 : Int) != 0) = false := rfl
             cases hk : okB t bn with
             | false =>
               simp only [hk, if_true] at c1 c2 c3 c4
               simp (disch := (first | decide | omega)) only [hA, z1, z2, z3, go_sem]
               refine ACalls.nxt (c1 _ _) ?_
               simp (disch := (first | decide | omega)) only [hA, z1, z2, z3, go_sem]
               refine ACalls.nxt (c2 _ _) ?_
               simp (disch := (first | decide | omega)) only [hA, z1, z2, z3, go_sem]
               refine ACalls.nxt (c3 _ _) ?_
               simp (disch := (first | decide | omega)) only [hA, z1, z2, z3, go_sem]
               refine ACalls.nxt (c4 _ _) ?_
               simp (disch := (first | decide | omega)) only [hA, z1, z2, z3, go_sem]
               exact leave_pure (xs := [.v (.bool true)]) (.inr rfl) (by simp (disch := (first | decide | omega)) only [resVs, resV, go_sem, hA, z1, z2, z3]) kO hR hB ⟨rfl, rfl, rfl⟩
             | true =>
               have cB := fun b l => Before_spec t hS hN (fun _ => by omega) ((p : Int), ((i + 1 : Nat) : Int)) ((q : Int), ((j + 1 : Nat) : Int)) b l
               have cR := fun b l => rCheck19_spec t hS hN bn hval hok m oM hmr b l
               have eB : befR t ((p : Int), ((i + 1 : Nat) : Int)) ((q : Int), ((j + 1 : Nat) : Int)) = .tup [.v (.bool (befB t (p, i + 1) (q, j + 1))), .v (.int .i64 0)] := befR_ids (a := (p, i + 1)) (c := (q, j + 1)) hval hpi hqj
               simp only [eBn, idP, eB] at cB cR
               simp only [hk, Bool.true_eq_false, Bool.false_eq_true, if_false] at c1 c2 c3 c4
               have hyx : cerB t bn (p, i + 1) (q, j + 1) = true → cerB t bn (q, j + 1) (p, i + 1) = false ∧ (p, i + 1) ≠ (q, j + 1) := fun h => hok.cer_anti hk hpi hqj h
               have hxz : cerB t bn (p, i + 1) (q, j + 1) = true → cerB t bn (q, j + 1) (u, k + 1) = true → cerB t bn (p, i + 1) (u, k + 1) = true := fun h h' => hok.cer_trans hk hpi hqj huk h h'
               have hbb : befB t (p, i + 1) (q, j + 1) = true → cerB t bn (q, j + 1) (p, i + 1) = false ∧ (0 < bn.lo → p ≠ q → cerB t bn (p, i + 1) (q, j + 1) = true) := fun h => hok.cer_hb hk hpi ((befB_iff hok.v hpi hqj).1 h)
               cases hxy : cerB t bn (p, i + 1) (q, j + 1) with
               | false =>
                 simp only [hxy] at c1
                 cases hbf : befB t (p, i + 1) (q, j + 1) with
                 | false =>
                   simp only [hbf] at cB
                   simp (disch := (first | decide | omega)) only [hA, z1, z2, z3, go_sem]
                   refine ACalls.nxt (c1 _ _) ?_
                   simp (disch := (first | decide | omega)) only [hA, z1, z2, z3, go_sem]
                   refine ACalls.nxt (c2 _ _) ?_
                   simp (disch := (first | decide | omega)) only [hA, z1, z2, z3, go_sem]
                   refine ACalls.nxt (c3 _ _) ?_
                   simp (disch := (first | decide | omega)) only [hA, z1, z2, z3, go_sem]
                   refine ACalls.nxt (c4 _ _) ?_
                   simp (disch := (first | decide | omega)) only [hA, z1, z2, z3, go_sem]
                   refine ACalls.nxt (cB _ _) ?_
                   simp (disch := (first | decide | omega)) only [hA, z1, z2, z3, go_sem]
                   exact leave_pure (xs := [.v (.bool true)]) (.inr rfl) (by simp (disch := (first | decide | omega)) only [resVs, resV, go_sem, hA]) kO hR hB ⟨rfl, rfl, rfl⟩
                 | true =>
                   simp only [hbf] at cB
                   simp only [(hbb hbf).1] at c2
                   by_cases hl : 0 < bn.lo
                   ·have hpq : p = q := Classical.byContradiction (fun e => by have := (hbb hbf).2 hl e; rw [hxy] at this; cases this)
                    have dl : decide (bn.lo > 0) = true := decide_eq_true hl
                    have zp : ((p : Int) != (q : Int)) = false := by rw [hpq]; exact bne_self_eq_false _
                    simp (disch := (first | decide | omega)) only [hA, z1, z2, z3, dl, zp, go_sem]
                    refine ACalls.nxt (c1 _ _) ?_
                    simp (disch := (first | decide | omega)) only [hA, z1, z2, z3, dl, zp, go_sem]
                    refine ACalls.nxt (c2 _ _) ?_
                    simp (disch := (first | decide | omega)) only [hA, z1, z2, z3, dl, zp, go_sem]
                    refine ACalls.nxt (c3 _ _) ?_
                    simp (disch := (first | decide | omega)) only [hA, z1, z2, z3, dl, zp, go_sem]
                    refine ACalls.nxt (c4 _ _) ?_
                    simp (disch := (first | decide | omega)) only [hA, z1, z2, z3, dl, zp, go_sem]
                    refine ACalls.nxt (cB _ _) ?_
                    simp (disch := (first | decide | omega)) only [hA, z1, z2, z3, dl, zp, go_sem]
                    exact leave_pure (xs := [.v (.bool true)]) (.inr rfl) (by simp (disch := (first | decide | omega)) only [resVs, resV, go_sem, hA]) kO hR hB ⟨rfl, rfl, rfl⟩
                   ·have dl : decide (bn.lo > 0) = false := decide_eq_false oM
                    simp (disch := (first | decide | omega)) only [hA, z1, z2, z3, dl, go_sem]
                    refine ACalls.nxt (c1 _ _) ?_
                    simp (disch := (first | decide | omega)) only [hA, z1, z2, z3, dl, go_sem]
                    refine ACalls.nxt (c2 _ _) ?_
                    simp (disch := (first | decide | omega)) only [hA, z1, z2, z3, dl, go_sem]
                    refine ACalls.nxt (c3 _ _) ?_
                    simp (disch := (first | decide | omega)) only [hA, z1, z2, z3, dl, go_sem]
                    refine ACalls.nxt (c4 _ _) ?_
                    simp (disch := (first | decide | omega)) only [hA, z1, z2, z3, dl, go_sem]
                    refine ACalls.nxt (cB _ _) ?_
                    simp (disch := (first | decide | omega)) only [hA, z1, z2, z3, dl, go_sem]
                    exact leave_pure (xs := [.v (.bool true)]) (.inr rfl) (by simp (disch := (first | decide | omega)) only [resVs, resV, go_sem, hA]) kO hR hB ⟨rfl, rfl, rfl⟩
               | true =>
                 simp only [hxy] at c1
                 simp only [(hyx hxy).1] at c2
                 have hne := (hyx hxy).2
                 have NE : ((p : Int) == (q : Int) && ((i + 1 : Nat) : Int) == ((j + 1 : Nat) : Int)) = false := by
                  cases h : ((p : Int) == (q : Int) && ((i + 1 : Nat) : Int) == ((j + 1 : Nat) : Int)) with
                  | false => rfl
                  | true =>
                    rw [Bool.and_eq_true, beq_iff_eq, beq_iff_eq] at h
                    exact absurd (Prod.ext (by simp only; omega) (by simp only; omega)) hne
                 cases hyz : cerB t bn (q, j + 1) (u, k + 1) with
                 | false =>
                   simp only [hyz] at c3
                   cases hbf : befB t (p, i + 1) (q, j + 1) with
                   | false =>
                     simp only [hbf] at cB
                     simp (disch := (first | decide | omega)) only [hA, z1, z2, z3, NE, go_sem]
                     refine ACalls.nxt (c1 _ _) ?_
                     simp (disch := (first | decide | omega)) only [hA, z1, z2, z3, NE, go_sem]
                     refine ACalls.nxt (c2 _ _) ?_
                     simp (disch := (first | decide | omega)) only [hA, z1, z2, z3, NE, go_sem]
                     refine ACalls.nxt (c3 _ _) ?_
                     simp (disch := (first | decide | omega)) only [hA, z1, z2, z3, NE, go_sem]
                     refine ACalls.nxt (c4 _ _) ?_
                     simp (disch := (first | decide | omega)) only [hA, z1, z2, z3, NE, go_sem]
                     refine ACalls.nxt (cB _ _) ?_
                     simp (disch := (first | decide | omega)) only [hA, z1, z2, z3, NE, go_sem]
                     cases ham : asgB t bn m with
                     | false =>
                       simp only [ham] at cR
                       refine ACalls.nxt (cR _ _) ?_
                       simp (disch := (first | decide | omega)) only [hA, z1, z2, z3, NE, go_sem]
                       exact leave_pure (xs := [.v (.bool true)]) (.inr rfl) (by simp (disch := (first | decide | omega)) only [resVs, resV, go_sem, hA]) kO hR hB ⟨rfl, rfl, rfl⟩
                     | true =>
                       simp only [ham] at cR
                       have hAs : Asg' t bn m := by unfold asgB at ham; simpa using ham
                       obtain ⟨hp2, hi2, r1, r2, _⟩ := chk_facts (bn := bn) hAs.1 hpi
                       obtain ⟨hq2, hj2, r3, r4, _⟩ := chk_facts (bn := bn) hAs.1 hqj
                       have hci : ((i + 1 : Nat) : Int) - 1 = (i : Int) := by omega
                       have hcj : ((j + 1 : Nat) : Int) - 1 = (j : Int) := by omega
                       have hpl := hmr _ (List.getElem_mem hp2)
                       have hql := hmr _ (List.getElem_mem hq2)
                       have hlt := hok.cer_asg hk ham hpi hqj hxy
                       have hdl : decide (tmA m p i < tmA m q j) = true := decide_eq_true hlt
                       refine ACalls.nxt (cR _ _) ?_
                       simp (disch := (first | decide | omega)) only [hA, z1, z2, z3, NE, hci, hcj, r1, r2, r3, r4, hdl, go_sem]
                       exact leave_pure (xs := [.v (.bool true)]) (.inr rfl) (by simp (disch := (first | decide | omega)) only [resVs, resV, go_sem, hA]) kO hR hB ⟨rfl, rfl, rfl⟩
                   | true =>
                     simp only [hbf] at cB
                     by_cases hl : 0 < bn.lo
                     ·have dl : decide (bn.lo > 0) = true := decide_eq_true hl
                      by_cases hpq : p = q
                      ·have zp : ((p : Int) != (q : Int)) = false := by rw [hpq]; exact bne_self_eq_false _
                       simp (disch := (first | decide | omega)) only [hA, z1, z2, z3, NE, dl, zp, go_sem]
                       refine ACalls.nxt (c1 _ _) ?_
                       simp (disch := (first | decide | omega)) only [hA, z1, z2, z3, NE, dl, zp, go_sem]
                       refine ACalls.nxt (c2 _ _) ?_
                       simp (disch := (first | decide | omega)) only [hA, z1, z2, z3, NE, dl, zp, go_sem]
                       refine ACalls.nxt (c3 _ _) ?_
                       simp (disch := (first | decide | omega)) only [hA, z1, z2, z3, NE, dl, zp, go_sem]
                       refine ACalls.nxt (c4 _ _) ?_
                       simp (disch := (first | decide | omega)) only [hA, z1, z2, z3, NE, dl, zp, go_sem]
                       refine ACalls.nxt (cB _ _) ?_
                       simp (disch := (first | decide | omega)) only [hA, z1, z2, z3, NE, dl, zp, go_sem]
                       cases ham : asgB t bn m with
                       | false =>
                         simp only [ham] at cR
                         refine ACalls.nxt (cR _ _) ?_
                         simp (disch := (first | decide | omega)) only [hA, z1, z2, z3, NE, dl, zp, go_sem]
                         exact leave_pure (xs := [.v (.bool true)]) (.inr rfl) (by simp (disch := (first | decide | omega)) only [resVs, resV, go_sem, hA]) kO hR hB ⟨rfl, rfl, rfl⟩
                       | true =>
                         simp only [ham] at cR
                         have hAs : Asg' t bn m := by unfold asgB at ham; simpa using ham
                         obtain ⟨hp2, hi2, r1, r2, _⟩ := chk_facts (bn := bn) hAs.1 hpi
                         obtain ⟨hq2, hj2, r3, r4, _⟩ := chk_facts (bn := bn) hAs.1 hqj
                         have hci : ((i + 1 : Nat) : Int) - 1 = (i : Int) := by omega
                         have hcj : ((j + 1 : Nat) : Int) - 1 = (j : Int) := by omega
                         have hpl := hmr _ (List.getElem_mem hp2)
                         have hql := hmr _ (List.getElem_mem hq2)
                         have hlt := hok.cer_asg hk ham hpi hqj hxy
                         have hdl : decide (tmA m p i < tmA m q j) = true := decide_eq_true hlt
                         refine ACalls.nxt (cR _ _) ?_
                         simp (disch := (first | decide | omega)) only [hA, z1, z2, z3, NE, dl, zp, hci, hcj, r1, r2, r3, r4, hdl, go_sem]
                         exact leave_pure (xs := [.v (.bool true)]) (.inr rfl) (by simp (disch := (first | decide | omega)) only [resVs, resV, go_sem, hA]) kO hR hB ⟨rfl, rfl, rfl⟩
                      ·have zp : ((p : Int) != (q : Int)) = true := bne_iff_ne.2 oM
                       simp (disch := (first | decide | omega)) only [hA, z1, z2, z3, NE, dl, zp, go_sem]
                       refine ACalls.nxt (c1 _ _) ?_
                       simp (disch := (first | decide | omega)) only [hA, z1, z2, z3, NE, dl, zp, go_sem]
                       refine ACalls.nxt (c2 _ _) ?_
                       simp (disch := (first | decide | omega)) only [hA, z1, z2, z3, NE, dl, zp, go_sem]
                       refine ACalls.nxt (c3 _ _) ?_
                       simp (disch := (first | decide | omega)) only [hA, z1, z2, z3, NE, dl, zp, go_sem]
                       refine ACalls.nxt (c4 _ _) ?_
                       simp (disch := (first | decide | omega)) only [hA, z1, z2, z3, NE, dl, zp, go_sem]
                       refine ACalls.nxt (cB _ _) ?_
                       simp (disch := (first | decide | omega)) only [hA, z1, z2, z3, NE, dl, zp, go_sem]
                       cases ham : asgB t bn m with
                       | false =>
                         simp only [ham] at cR
                         refine ACalls.nxt (cR _ _) ?_
                         simp (disch := (first | decide | omega)) only [hA, z1, z2, z3, NE, dl, zp, go_sem]
                         exact leave_pure (xs := [.v (.bool true)]) (.inr rfl) (by simp (disch := (first | decide | omega)) only [resVs, resV, go_sem, hA]) kO hR hB ⟨rfl, rfl, rfl⟩
                       | true =>
                         simp only [ham] at cR
                         have hAs : Asg' t bn m := by unfold asgB at ham; simpa using ham
                         obtain ⟨hp2, hi2, r1, r2, _⟩ := chk_facts (bn := bn) hAs.1 hpi
                         obtain ⟨hq2, hj2, r3, r4, _⟩ := chk_facts (bn := bn) hAs.1 hqj
                         have hci : ((i + 1 : Nat) : Int) - 1 = (i : Int) := by omega
                         have hcj : ((j + 1 : Nat) : Int) - 1 = (j : Int) := by omega
                         have hpl := hmr _ (List.getElem_mem hp2)
                         have hql := hmr _ (List.getElem_mem hq2)
                         have hlt := hok.cer_asg hk ham hpi hqj hxy
                         have hdl : decide (tmA m p i < tmA m q j) = true := decide_eq_true hlt
                         refine ACalls.nxt (cR _ _) ?_
                         simp (disch := (first | decide | omega)) only [hA, z1, z2, z3, NE, dl, zp, hci, hcj, r1, r2, r3, r4, hdl, go_sem]
                         exact leave_pure (xs := [.v (.bool true)]) (.inr rfl) (by simp (disch := (first | decide | omega)) only [resVs, resV, go_sem, hA]) kO hR hB ⟨rfl, rfl, rfl⟩
                     ·have dl : decide (bn.lo > 0) = false := decide_eq_false oM
                      simp (disch := (first | decide | omega)) only [hA, z1, z2, z3, NE, dl, go_sem]
                      refine ACalls.nxt (c1 _ _) ?_
                      simp (disch := (first | decide | omega)) only [hA, z1, z2, z3, NE, dl, go_sem]
                      refine ACalls.nxt (c2 _ _) ?_
                      simp (disch := (first | decide | omega)) only [hA, z1, z2, z3, NE, dl, go_sem]
                      refine ACalls.nxt (c3 _ _) ?_
                      simp (disch := (first | decide | omega)) only [hA, z1, z2, z3, NE, dl, go_sem]
                      refine ACalls.nxt (c4 _ _) ?_
                      simp (disch := (first | decide | omega)) only [hA, z1, z2, z3, NE, dl, go_sem]
                      refine ACalls.nxt (cB _ _) ?_
                      simp (disch := (first | decide | omega)) only [hA, z1, z2, z3, NE, dl, go_sem]
                      cases ham : asgB t bn m with
                      | false =>
                        simp only [ham] at cR
                        refine ACalls.nxt (cR _ _) ?_
                        simp (disch := (first | decide | omega)) only [hA, z1, z2, z3, NE, dl, go_sem]
                        exact leave_pure (xs := [.v (.bool true)]) (.inr rfl) (by simp (disch := (first | decide | omega)) only [resVs, resV, go_sem, hA]) kO hR hB ⟨rfl, rfl, rfl⟩
                      | true =>
                        simp only [ham] at cR
                        have hAs : Asg' t bn m := by unfold asgB at ham; simpa using ham
                        obtain ⟨hp2, hi2, r1, r2, _⟩ := chk_facts (bn := bn) hAs.1 hpi
                        obtain ⟨hq2, hj2, r3, r4, _⟩ := chk_facts (bn := bn) hAs.1 hqj
                        have hci : ((i + 1 : Nat) : Int) - 1 = (i : Int) := by omega
                        have hcj : ((j + 1 : Nat) : Int) - 1 = (j : Int) := by omega
                        have hpl := hmr _ (List.getElem_mem hp2)
                        have hql := hmr _ (List.getElem_mem hq2)
                        have hlt := hok.cer_asg hk ham hpi hqj hxy
                        have hdl : decide (tmA m p i < tmA m q j) = true := decide_eq_true hlt
                        refine ACalls.nxt (cR _ _) ?_
                        simp (disch := (first | decide | omega)) only [hA, z1, z2, z3, NE, dl, hci, hcj, r1, r2, r3, r4, hdl, go_sem]
                        exact leave_pure (xs := [.v (.bool true)]) (.inr rfl) (by simp (disch := (first | decide | omega)) only [resVs, resV, go_sem, hA]) kO hR hB ⟨rfl, rfl, rfl⟩
                 | true =>
                   simp only [hyz] at c3
                   simp only [hxz hxy hyz] at c4
                   cases hbf : befB t (p, i + 1) (q, j + 1) with
                   | false =>
                     simp only [hbf] at cB
                     simp (disch := (first | decide | omega)) only [hA, z1, z2, z3, NE, go_sem]
                     refine ACalls.nxt (c1 _ _) ?_
                     simp (disch := (first | decide | omega)) only [hA, z1, z2, z3, NE, go_sem]
                     refine ACalls.nxt (c2 _ _) ?_
                     simp (disch := (first | decide | omega)) only [hA, z1, z2, z3, NE, go_sem]
                     refine ACalls.nxt (c3 _ _) ?_
                     simp (disch := (first | decide | omega)) only [hA, z1, z2, z3, NE, go_sem]
                     refine ACalls.nxt (c4 _ _) ?_
                     simp (disch := (first | decide | omega)) only [hA, z1, z2, z3, NE, go_sem]
                     refine ACalls.nxt (cB _ _) ?_
                     simp (disch := (first | decide | omega)) only [hA, z1, z2, z3, NE, go_sem]
                     cases ham : asgB t bn m with
                     | false =>
                       simp only [ham] at cR
                       refine ACalls.nxt (cR _ _) ?_
                       simp (disch := (first | decide | omega)) only [hA, z1, z2, z3, NE, go_sem]
                       exact leave_pure (xs := [.v (.bool true)]) (.inr rfl) (by simp (disch := (first | decide | omega)) only [resVs, resV, go_sem, hA]) kO hR hB ⟨rfl, rfl, rfl⟩
                     | true =>
                       simp only [ham] at cR
                       have hAs : Asg' t bn m := by unfold asgB at ham; simpa using ham
                       obtain ⟨hp2, hi2, r1, r2, _⟩ := chk_facts (bn := bn) hAs.1 hpi
                       obtain ⟨hq2, hj2, r3, r4, _⟩ := chk_facts (bn := bn) hAs.1 hqj
                       have hci : ((i + 1 : Nat) : Int) - 1 = (i : Int) := by omega
                       have hcj : ((j + 1 : Nat) : Int) - 1 = (j : Int) := by omega
                       have hpl := hmr _ (List.getElem_mem hp2)
                       have hql := hmr _ (List.getElem_mem hq2)
                       have hlt := hok.cer_asg hk ham hpi hqj hxy
                       have hdl : decide (tmA m p i < tmA m q j) = true := decide_eq_true hlt
                       refine ACalls.nxt (cR _ _) ?_
                       simp (disch := (first | decide | omega)) only [hA, z1, z2, z3, NE, hci, hcj, r1, r2, r3, r4, hdl, go_sem]
                       exact leave_pure (xs := [.v (.bool true)]) (.inr rfl) (by simp (disch := (first | decide | omega)) only [resVs, resV, go_sem, hA]) kO hR hB ⟨rfl, rfl, rfl⟩
                   | true =>
                     simp only [hbf] at cB
                     by_cases hl : 0 < bn.lo
                     ·have dl : decide (bn.lo > 0) = true := decide_eq_true hl
                      by_cases hpq : p = q
                      ·have zp : ((p : Int) != (q : Int)) = false := by rw [hpq]; exact bne_self_eq_false _
                       simp (disch := (first | decide | omega)) only [hA, z1, z2, z3, NE, dl, zp, go_sem]
                       refine ACalls.nxt (c1 _ _) ?_
                       simp (disch := (first | decide | omega)) only [hA, z1, z2, z3, NE, dl, zp, go_sem]
                       refine ACalls.nxt (c2 _ _) ?_
                       simp (disch := (first | decide | omega)) only [hA, z1, z2, z3, NE, dl, zp, go_sem]
                       refine ACalls.nxt (c3 _ _) ?_
                       simp (disch := (first | decide | omega)) only [hA, z1, z2, z3, NE, dl, zp, go_sem]
                       refine ACalls.nxt (c4 _ _) ?_
                       simp (disch := (first | decide | omega)) only [hA, z1, z2, z3, NE, dl, zp, go_sem]
                       refine ACalls.nxt (cB _ _) ?_
                       simp (disch := (first | decide | omega)) only [hA, z1, z2, z3, NE, dl, zp, go_sem]
                       cases ham : asgB t bn m with
                       | false =>
                         simp only [ham] at cR
                         refine ACalls.nxt (cR _ _) ?_
                         simp (disch := (first | decide | omega)) only [hA, z1, z2, z3, NE, dl, zp, go_sem]
                         exact leave_pure (xs := [.v (.bool true)]) (.inr rfl) (by simp (disch := (first | decide | omega)) only [resVs, resV, go_sem, hA]) kO hR hB ⟨rfl, rfl, rfl⟩
                       | true =>
                         simp only [ham] at cR
                         have hAs : Asg' t bn m := by unfold asgB at ham; simpa using ham
                         obtain ⟨hp2, hi2, r1, r2, _⟩ := chk_facts (bn := bn) hAs.1 hpi
                         obtain ⟨hq2, hj2, r3, r4, _⟩ := chk_facts (bn := bn) hAs.1 hqj
                         have hci : ((i + 1 : Nat) : Int) - 1 = (i : Int) := by omega
                         have hcj : ((j + 1 : Nat) : Int) - 1 = (j : Int) := by omega
                         have hpl := hmr _ (List.getElem_mem hp2)
                         have hql := hmr _ (List.getElem_mem hq2)
                         have hlt := hok.cer_asg hk ham hpi hqj hxy
                         have hdl : decide (tmA m p i < tmA m q j) = true := decide_eq_true hlt
                         refine ACalls.nxt (cR _ _) ?_
                         simp (disch := (first | decide | omega)) only [hA, z1, z2, z3, NE, dl, zp, hci, hcj, r1, r2, r3, r4, hdl, go_sem]
                         exact leave_pure (xs := [.v (.bool true)]) (.inr rfl) (by simp (disch := (first | decide | omega)) only [resVs, resV, go_sem, hA]) kO hR hB ⟨rfl, rfl, rfl⟩
                      ·have zp : ((p : Int) != (q : Int)) = true := bne_iff_ne.2 oM
                       simp (disch := (first | decide | omega)) only [hA, z1, z2, z3, NE, dl, zp, go_sem]
                       refine ACalls.nxt (c1 _ _) ?_
                       simp (disch := (first | decide | omega)) only [hA, z1, z2, z3, NE, dl, zp, go_sem]
                       refine ACalls.nxt (c2 _ _) ?_
                       simp (disch := (first | decide | omega)) only [hA, z1, z2, z3, NE, dl, zp, go_sem]
                       refine ACalls.nxt (c3 _ _) ?_
                       simp (disch := (first | decide | omega)) only [hA, z1, z2, z3, NE, dl, zp, go_sem]
                       refine ACalls.nxt (c4 _ _) ?_
                       simp (disch := (first | decide | omega)) only [hA, z1, z2, z3, NE, dl, zp, go_sem]
                       refine ACalls.nxt (cB _ _) ?_
                       simp (disch := (first | decide | omega)) only [hA, z1, z2, z3, NE, dl, zp, go_sem]
                       cases ham : asgB t bn m with
                       | false =>
                         simp only [ham] at cR
                         refine ACalls.nxt (cR _ _) ?_
                         simp (disch := (first | decide | omega)) only [hA, z1, z2, z3, NE, dl, zp, go_sem]
                         exact leave_pure (xs := [.v (.bool true)]) (.inr rfl) (by simp (disch := (first | decide | omega)) only [resVs, resV, go_sem, hA]) kO hR hB ⟨rfl, rfl, rfl⟩
                       | true =>
                         simp only [ham] at cR
                         have hAs : Asg' t bn m := by unfold asgB at ham; simpa using ham
                         obtain ⟨hp2, hi2, r1, r2, _⟩ := chk_facts (bn := bn) hAs.1 hpi
                         obtain ⟨hq2, hj2, r3, r4, _⟩ := chk_facts (bn := bn) hAs.1 hqj
                         have hci : ((i + 1 : Nat) : Int) - 1 = (i : Int) := by omega
                         have hcj : ((j + 1 : Nat) : Int) - 1 = (j : Int) := by omega
                         have hpl := hmr _ (List.getElem_mem hp2)
                         have hql := hmr _ (List.getElem_mem hq2)
                         have hlt := hok.cer_asg hk ham hpi hqj hxy
                         have hdl : decide (tmA m p i < tmA m q j) = true := decide_eq_true hlt
                         refine ACalls.nxt (cR _ _) ?_
                         simp (disch := (first | decide | omega)) only [hA, z1, z2, z3, NE, dl, zp, hci, hcj, r1, r2, r3, r4, hdl, go_sem]
                         exact leave_pure (xs := [.v (.bool true)]) (.inr rfl) (by simp (disch := (first | decide | omega)) only [resVs, resV, go_sem, hA]) kO hR hB ⟨rfl, rfl, rfl⟩
                     ·have dl : decide (bn.lo > 0) = false := decide_eq_false oM
                      simp (disch := (first | decide | omega)) only [hA, z1, z2, z3, NE, dl, go_sem]
                      refine ACalls.nxt (c1 _ _) ?_
                      simp (disch := (first | decide | omega)) only [hA, z1, z2, z3, NE, dl, go_sem]
                      refine ACalls.nxt (c2 _ _) ?_
                      simp (disch := (first | decide | omega)) only [hA, z1, z2, z3, NE, dl, go_sem]
                      refine ACalls.nxt (c3 _ _) ?_
                      simp (disch := (first | decide | omega)) only [hA, z1, z2, z3, NE, dl, go_sem]
                      refine ACalls.nxt (c4 _ _) ?_
                      simp (disch := (first | decide | omega)) only [hA, z1, z2, z3, NE, dl, go_sem]
                      refine ACalls.nxt (cB _ _) ?_
                      simp (disch := (first | decide | omega)) only [hA, z1, z2, z3, NE, dl, go_sem]
                      cases ham : asgB t bn m with
                      | false =>
                        simp only [ham] at cR
                        refine ACalls.nxt (cR _ _) ?_
                        simp (disch := (first | decide | omega)) only [hA, z1, z2, z3, NE, dl, go_sem]
                        exact leave_pure (xs := [.v (.bool true)]) (.inr rfl) (by simp (disch := (first | decide | omega)) only [resVs, resV, go_sem, hA]) kO hR hB ⟨rfl, rfl, rfl⟩
                      | true =>
                        simp only [ham] at cR
                        have hAs : Asg' t bn m := by unfold asgB at ham; simpa using ham
                        obtain ⟨hp2, hi2, r1, r2, _⟩ := chk_facts (bn := bn) hAs.1 hpi
                        obtain ⟨hq2, hj2, r3, r4, _⟩ := chk_facts (bn := bn) hAs.1 hqj
                        have hci : ((i + 1 : Nat) : Int) - 1 = (i : Int) := by omega
                        have hcj : ((j + 1 : Nat) : Int) - 1 = (j : Int) := by omega
                        have hpl := hmr _ (List.getElem_mem hp2)
                        have hql := hmr _ (List.getElem_mem hq2)
                        have hlt := hok.cer_asg hk ham hpi hqj hxy
                        have hdl : decide (tmA m p i < tmA m q j) = true := decide_eq_true hlt
                        refine ACalls.nxt (cR _ _) ?_
                        simp (disch := (first | decide | omega)) only [hA, z1, z2, z3, NE, dl, hci, hcj, r1, r2, r3, r4, hdl, go_sem]
                        exact leave_pure (xs := [.v (.bool true)]) (.inr rfl) (by simp (disch := (first | decide | omega)) only [resVs, resV, go_sem, hA]) kO hR hB ⟨rfl, rfl, rfl⟩
end Go.Proofs.Ytanblnhnfkeffaa
