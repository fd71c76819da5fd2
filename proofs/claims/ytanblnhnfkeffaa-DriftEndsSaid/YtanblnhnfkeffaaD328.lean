/- Texts of one proof, laid together: YM. No condition. -/
import Derived.Test.YtanblnhnfkeffaaD325
import Derived.Test.YtanblnhnfkeffaaD326
namespace Go.Proofs.Ytanblnhnfkeffaa
set_option linter.unusedVariables false
set_option linter.unusedSimpArgs false
attribute [local go_sem ↓] run_skip run_region run_draw run_both run_seq run_block run_exit run_ret run_cond atN_app seqC_normal seqC_exit seqC_ret seqQ_normal seqQ_exit seqQ_ret blkQ_normal blkQ_exit blkQ_ret runOps_nil runOps_cons runD_nil runD_cons grdO_true grdO_false grdD_true grdD_false ifC_true ifC_false opS_val opS_call opS_two opK_app dS_val dS_call dS_two dK_app kUp_same kUp_ne
attribute [local go_sem] rechks_nil rechks_cons rechk gcase_true gcase_false ex_val ex_val0 gd_none gd_some ev_t ev_c evs_nil evs_cons evo_some evo_none hget_at hget_first hsetB_at hsetB_first hsetL_at hsetL_first ofOpt_some aop aload astore aslice aappend aiaddr aiaddrA afaddr alen alenS acopy amm acall alookup amupdate alenM atostr comma keyEq apick binV binVB binVS isSh intOp strOp boolOp shOp eqC eqF and2 cellsOf setFrom fillA fillS rd rdI elems mk bounds AV.cell List.all_cons List.all_nil Bool.and_true Bool.true_and Bool.and_self List.length_cons List.length_nil List.length_append Nat.reduceAdd Nat.reduceSub Nat.reduceMul Nat.zero_add Nat.add_zero List.cons_append List.nil_append List.append_assoc List.append_nil List.getElem?_cons_zero List.getElem?_cons_succ List.getElem?_nil List.set_cons_zero List.set_cons_succ List.drop_zero List.drop_succ_cons List.take_zero List.take_succ_cons List.take_nil List.drop_nil List.map_cons List.map_nil Option.map_some if_true if_false Bool.false_eq_true and_self true_and and_true Nat.reduceLeDiff Nat.reduceLT Nat.le_refl Nat.reduceEqDiff ite_true ite_false beq_self_eq_true beq_true beq_false Bool.not_true Bool.not_false Bool.true_beq Bool.false_beq map_vs vs_len vs_get vs_take vs_drop vs_snoc1 vs_snoc2 vs_snoc3 vs_snoc5 vs_set1 vs_set2 vs_rep wrap_id le_T lt_T le_F lt_F leI_T ltI_T leI_F ltI_F geI gtI get_T decide_true decide_false room List.getElem?_map List.length_map List.length_take Int.toNat_natCast Nat.min_def Nat.min_self nth_kOf put_kOf put_kNo kOv_cons kOv_nil KHas KArgs List.getElem_cons_zero List.getElem_cons_succ
def a_driftEnds : AFunc := ⟨3,198,[.tmp 6],(.seq (.region [⟨some 3,.box (.t 0),none⟩,⟨some 4,.box (.t 1),none⟩,⟨some 6,.mv (.c (.v (.bool false))),none⟩]) (.seq (.seq (.region [⟨some 19,.call (.c (.fn 47 [])) [],none⟩,⟨some 20,.not (.t 19),none⟩]) (.cond (.t 20) (.seq (.region [⟨some 6,.mv (.c (.v (.bool false))),none⟩]) .ret) .skip)) (.seq (.seq (.region [⟨some 21,.load (some 1) (.t 3),none⟩,⟨some 22,.call (.c (.fn 48 [])) [(.t 21)],none⟩,⟨some 23,.not (.t 22),none⟩,⟨some 24,.mv (.t 23),none⟩,⟨some 25,.faddr 0 (.t 4),some (24,false)⟩,⟨some 26,.load none (.t 25),some (24,false)⟩,⟨some 27,.len (.t 26),some (24,false)⟩,⟨some 28,.bin .gtr (.t 27) (.c (.v (.int .i64 20))),some (24,false)⟩,⟨some 29,.pick (.t 24) (.c (.v (.bool true))) (.t 28),none⟩,⟨some 30,.mv (.t 29),none⟩,⟨some 31,.load (some 1) (.t 3),some (30,false)⟩,⟨some 32,.load (some 3) (.t 4),some (30,false)⟩,⟨some 33,.call (.c (.fn 52 [])) [(.t 31),(.t 32)],some (30,false)⟩,⟨some 34,.not (.t 33),some (30,false)⟩,⟨some 35,.pick (.t 30) (.c (.v (.bool true))) (.t 34),none⟩,⟨some 36,.mv (.t 35),none⟩,⟨some 37,.mv (.t 2),some (36,false)⟩,⟨some 38,.len (.t 37),some (36,false)⟩,⟨some 39,.bin .gtr (.t 38) (.c (.v (.int .i64 20))),some (36,false)⟩,⟨some 40,.pick (.t 36) (.c (.v (.bool true))) (.t 39),none⟩,⟨some 41,.mv (.t 40),none⟩,⟨some 42,.mv (.t 2),some (41,false)⟩,⟨some 43,.call (.c (.fn 49 [])) [(.t 42),(.c (.fn 60 []))],some (41,false)⟩,⟨some 44,.pick (.t 41) (.c (.v (.bool true))) (.t 43),none⟩]) (.cond (.t 44) (.seq (.region [⟨some 6,.mv (.c (.v (.bool true))),none⟩]) .ret) .skip)) (.seq (.region [⟨some 46,.load (some 1) (.t 3),none⟩,⟨some 47,.load (some 3) (.t 4),none⟩,⟨some 48,.call (.c (.fn 58 [])) [(.t 46),(.t 47)],none⟩,⟨some 45,.mv (.t 48),none⟩,⟨some 49,.extract 0 (.t 45),none⟩,⟨some 50,.extract 1 (.t 45),none⟩,⟨some 7,.mv (.t 49),none⟩,⟨some 8,.mv (.t 50),none⟩]) (.seq (.region [⟨some 52,.load (some 1) (.t 3),none⟩,⟨some 53,.load (some 3) (.t 4),none⟩,⟨some 54,.call (.c (.fn 61 [])) [(.t 52),(.t 53)],none⟩,⟨some 51,.mv (.t 54),none⟩,⟨some 55,.extract 0 (.t 51),none⟩,⟨some 56,.extract 1 (.t 51),none⟩,⟨some 9,.mv (.t 55),none⟩,⟨some 10,.mv (.t 56),none⟩]) (.seq (.region [⟨some 57,.load (some 1) (.t 3),none⟩,⟨some 58,.load (some 3) (.t 4),none⟩,⟨some 59,.mv (.t 2),none⟩,⟨some 60,.call (.c (.fn 54 [])) [(.t 57),(.t 58),(.t 59)],none⟩,⟨some 11,.mv (.t 60),none⟩]) (.seq (.seq (.region [⟨some 61,.mv (.t 11),none⟩,⟨some 62,.load (some 1) (.t 3),none⟩,⟨some 63,.load (some 3) (.t 4),none⟩,⟨some 64,.mv (.t 2),none⟩,⟨some 65,.call (.c (.fn 55 [])) [(.t 62),(.t 63),(.t 64)],none⟩,⟨some 66,.binB .neq (.t 61) (.t 65),none⟩]) (.cond (.t 66) (.seq (.region [⟨some 6,.mv (.c (.v (.bool false))),none⟩]) .ret) .skip)) (.seq (.seq (.region [⟨some 67,.mv (.t 8),none⟩,⟨some 68,.bin .neq (.t 67) (.c (.v (.int .i64 0))),none⟩]) (.cond (.t 68) (.seq (.region [⟨some 69,.mv (.t 8),none⟩,⟨some 70,.bin .eql (.t 69) (.c (.v (.int .i64 11))),none⟩,⟨some 71,.mv (.t 70),none⟩,⟨some 72,.mv (.t 10),some (71,true)⟩,⟨some 73,.mv (.t 8),some (71,true)⟩,⟨some 74,.bin .eql (.t 72) (.t 73),some (71,true)⟩,⟨some 75,.pick (.t 71) (.t 74) (.c (.v (.bool false))),none⟩,⟨some 76,.mv (.t 75),none⟩,⟨some 77,.mv (.t 7),some (76,true)⟩,⟨some 78,.len (.t 77),some (76,true)⟩,⟨some 79,.bin .eql (.t 78) (.c (.v (.int .i64 0))),some (76,true)⟩,⟨some 80,.pick (.t 76) (.t 79) (.c (.v (.bool false))),none⟩,⟨some 81,.mv (.t 80),none⟩,⟨some 82,.mv (.t 11),some (81,true)⟩,⟨some 83,.not (.t 82),some (81,true)⟩,⟨some 84,.pick (.t 81) (.t 83) (.c (.v (.bool false))),none⟩,⟨some 6,.mv (.t 84),none⟩]) .ret) .skip)) (.seq (.seq (.region [⟨some 85,.mv (.t 10),none⟩,⟨some 86,.bin .neq (.t 85) (.c (.v (.int .i64 0))),none⟩,⟨some 87,.mv (.t 86),none⟩,⟨some 88,.mv (.t 7),some (87,false)⟩,⟨some 89,.len (.t 88),some (87,false)⟩,⟨some 90,.faddr 0 (.t 3),some (87,false)⟩,⟨some 91,.load none (.t 90),some (87,false)⟩,⟨some 92,.len (.t 91),some (87,false)⟩,⟨some 93,.bin .neq (.t 89) (.t 92),some (87,false)⟩,⟨some 94,.pick (.t 87) (.c (.v (.bool true))) (.t 93),none⟩]) (.cond (.t 94) (.seq (.region [⟨some 6,.mv (.c (.v (.bool false))),none⟩]) .ret) .skip)) (.seq (.seq (.region [⟨some 95,.mv (.t 7),none⟩,⟨some 96,.len (.t 95),none⟩,⟨some 97,.mv (.c (.v (.int .i64 0))),none⟩]) (.block 0 (.loop (.seq (.region [⟨some 98,.bin .lss (.t 97) (.t 96),none⟩]) (.seq (.cond (.t 98) .skip (.exit 0)) (.seq (.block 1 (.seq (.region [⟨some 99,.mv (.t 97),none⟩,⟨some 100,.iaddr 1 (.t 95) (.t 97),none⟩,⟨some 101,.load none (.t 100),none⟩,⟨some 12,.mv (.t 99),none⟩,⟨some 13,.mv (.t 101),none⟩]) (.seq (.seq (.region [⟨some 102,.mv (.t 13),none⟩,⟨some 103,.len (.t 102),none⟩,⟨some 104,.faddr 0 (.t 3),none⟩,⟨some 105,.load none (.t 104),none⟩,⟨some 106,.mv (.t 12),none⟩,⟨some 107,.iaddr 3 (.t 105) (.t 106),none⟩,⟨some 108,.faddr 2 (.t 107),none⟩,⟨some 109,.load none (.t 108),none⟩,⟨some 110,.len (.t 109),none⟩,⟨some 111,.bin .neq (.t 103) (.t 110),none⟩]) (.cond (.t 111) (.seq (.region [⟨some 6,.mv (.c (.v (.bool false))),none⟩]) .ret) .skip)) (.seq (.region [⟨some 112,.mv (.t 13),none⟩,⟨some 113,.len (.t 112),none⟩,⟨some 114,.mv (.c (.v (.int .i64 0))),none⟩]) (.block 2 (.loop (.seq (.region [⟨some 115,.bin .lss (.t 114) (.t 113),none⟩]) (.seq (.cond (.t 115) .skip (.exit 2)) (.seq (.block 3 (.seq (.region [⟨some 116,.mv (.t 114),none⟩,⟨some 117,.iaddr 2 (.t 112) (.t 114),none⟩,⟨some 118,.load (some 2) (.t 117),none⟩,⟨some 15,.alloc [(.v (.int .i64 0)),(.v (.int .i64 0))],none⟩,⟨some 14,.mv (.t 116),none⟩,⟨none,.store 2 (.t 15) (.t 118),none⟩]) (.seq (.region [⟨some 120,.load (some 1) (.t 3),none⟩,⟨some 121,.load (some 3) (.t 4),none⟩,⟨some 122,.mv (.t 12),none⟩,⟨some 123,.mv (.t 14),none⟩,⟨some 124,.bin .add (.t 123) (.c (.v (.int .i64 1))),none⟩,⟨some 125,.build [(.v (.int .i64 0)),(.v (.int .i64 0))] [(0,1,(.t 122)),(1,1,(.t 124))],none⟩,⟨some 126,.call (.c (.fn 51 [])) [(.t 120),(.t 121),(.t 125)],none⟩,⟨some 119,.mv (.t 126),none⟩,⟨some 127,.extract 0 (.t 119),none⟩,⟨some 128,.extract 1 (.t 119),none⟩,⟨some 129,.extract 2 (.t 119),none⟩,⟨some 16,.mv (.t 127),none⟩,⟨some 17,.mv (.t 128),none⟩,⟨some 18,.mv (.t 129),none⟩]) (.seq (.draw [⟨0,⟨some 130,.mv (.t 18),none⟩,[]⟩,⟨1,⟨some 131,.bin .neq (.t 130) (.c (.v (.int .i64 0))),none⟩,[]⟩,⟨2,⟨some 132,.mv (.t 131),none⟩,[]⟩,⟨3,⟨some 133,.iaddrA 2 1 (.t 15) (.c (.v (.int .i64 0))),some (132,false)⟩,[]⟩,⟨4,⟨some 134,.load none (.t 133),some (132,false)⟩,[]⟩,⟨5,⟨some 135,.mv (.t 16),some (132,false)⟩,[]⟩,⟨6,⟨some 136,.bin .lss (.t 134) (.t 135),some (132,false)⟩,[]⟩,⟨7,⟨some 137,.pick (.t 132) (.c (.v (.bool true))) (.t 136),none⟩,[]⟩,⟨8,⟨some 138,.mv (.t 137),none⟩,[]⟩,⟨9,⟨some 139,.iaddrA 2 1 (.t 15) (.c (.v (.int .i64 1))),some (138,false)⟩,[]⟩,⟨10,⟨some 140,.load none (.t 139),some (138,false)⟩,[]⟩,⟨11,⟨some 141,.mv (.t 17),some (138,false)⟩,[]⟩,⟨12,⟨some 142,.bin .gtr (.t 140) (.t 141),some (138,false)⟩,[]⟩,⟨13,⟨some 143,.pick (.t 138) (.c (.v (.bool true))) (.t 142),none⟩,[]⟩,⟨14,⟨some 144,.mv (.t 143),none⟩,[]⟩,⟨15,⟨some 145,.iaddrA 2 1 (.t 15) (.c (.v (.int .i64 0))),some (144,false)⟩,[]⟩,⟨16,⟨some 146,.load none (.t 145),some (144,false)⟩,[]⟩,⟨17,⟨some 147,.iaddrA 2 1 (.t 15) (.c (.v (.int .i64 1))),some (144,false)⟩,[]⟩,⟨18,⟨some 148,.load none (.t 147),some (144,false)⟩,[]⟩,⟨19,⟨some 149,.bin .gtr (.t 146) (.t 148),some (144,false)⟩,[]⟩,⟨20,⟨some 150,.pick (.t 144) (.c (.v (.bool true))) (.t 149),none⟩,[]⟩,⟨21,⟨some 151,.mv (.t 150),none⟩,[]⟩,⟨22,⟨some 152,.mv (.t 11),some (151,false)⟩,[]⟩,⟨23,⟨some 153,.mv (.t 152),some (151,false)⟩,[]⟩,⟨24,⟨some 154,.mv (.t 2),some (153,true)⟩,[]⟩,⟨25,⟨some 155,.mv (.t 12),some (153,true)⟩,[]⟩,⟨26,⟨some 156,.iaddr 1 (.t 154) (.t 155),some (153,true)⟩,[]⟩,⟨27,⟨some 157,.load none (.t 156),some (153,true)⟩,[]⟩,⟨28,⟨some 158,.mv (.t 14),some (153,true)⟩,[]⟩,⟨29,⟨some 159,.iaddr 1 (.t 157) (.t 158),some (153,true)⟩,[]⟩,⟨30,⟨some 160,.load none (.t 159),some (153,true)⟩,[]⟩,⟨31,⟨some 161,.iaddrA 2 1 (.t 15) (.c (.v (.int .i64 0))),some (153,true)⟩,[]⟩,⟨32,⟨some 162,.load none (.t 161),some (153,true)⟩,[]⟩,⟨33,⟨some 163,.bin .lss (.t 160) (.t 162),some (153,true)⟩,[]⟩,⟨34,⟨some 164,.mv (.t 163),some (153,true)⟩,[]⟩,⟨35,⟨some 165,.mv (.t 2),some (164,false)⟩,[]⟩,⟨36,⟨some 166,.mv (.t 12),some (164,false)⟩,[]⟩,⟨37,⟨some 167,.iaddr 1 (.t 165) (.t 166),some (164,false)⟩,[]⟩,⟨38,⟨some 168,.load none (.t 167),some (164,false)⟩,[]⟩,⟨39,⟨some 169,.mv (.t 14),some (164,false)⟩,[]⟩,⟨40,⟨some 170,.iaddr 1 (.t 168) (.t 169),some (164,false)⟩,[]⟩,⟨41,⟨some 171,.load none (.t 170),some (164,false)⟩,[]⟩,⟨42,⟨some 172,.iaddrA 2 1 (.t 15) (.c (.v (.int .i64 1))),some (164,false)⟩,[]⟩,⟨43,⟨some 173,.load none (.t 172),some (164,false)⟩,[]⟩,⟨44,⟨some 174,.bin .gtr (.t 171) (.t 173),some (164,false)⟩,[]⟩,⟨45,⟨some 175,.pick (.t 164) (.c (.v (.bool true))) (.t 174),some (153,true)⟩,[]⟩,⟨46,⟨some 176,.pick (.t 153) (.t 175) (.c (.v (.bool false))),some (151,false)⟩,[]⟩,⟨47,⟨some 177,.pick (.t 151) (.c (.v (.bool true))) (.t 176),none⟩,[]⟩]) (.cond (.t 177) (.seq (.region [⟨some 6,.mv (.c (.v (.bool false))),none⟩]) .ret) .skip))))) (.region [⟨some 178,.bin .add (.t 114) (.c (.v (.int .i64 1))),none⟩,⟨some 114,.mv (.t 178),none⟩])))))))))) (.region [⟨some 179,.bin .add (.t 97) (.c (.v (.int .i64 1))),none⟩,⟨some 97,.mv (.t 179),none⟩]))))))) (.seq (.draw [⟨0,⟨some 180,.mv (.t 9),none⟩,[]⟩,⟨1,⟨some 181,.mv (.t 7),none⟩,[]⟩,⟨2,⟨some 182,.call (.c (.fn 63 [])) [(.t 181),(.c (.v (.int .i64 0)))],none⟩,[⟨some 180,.mv (.t 9),none⟩]⟩,⟨3,⟨some 183,.call (.c (.fn 62 [])) [(.t 180),(.t 182)],none⟩,[]⟩,⟨4,⟨some 184,.mv (.t 183),none⟩,[]⟩,⟨5,⟨some 185,.load (some 1) (.t 3),some (184,true)⟩,[]⟩,⟨6,⟨some 186,.load (some 3) (.t 4),some (184,true)⟩,[]⟩,⟨7,⟨some 187,.mv (.t 7),some (184,true)⟩,[]⟩,⟨8,⟨some 188,.call (.c (.fn 63 [])) [(.t 187),(.c (.v (.int .i64 0)))],some (184,true)⟩,[⟨some 185,.load (some 1) (.t 3),some (184,true)⟩,⟨some 186,.load (some 3) (.t 4),some (184,true)⟩]⟩,⟨9,⟨some 189,.call (.c (.fn 55 [])) [(.t 185),(.t 186),(.t 188)],some (184,true)⟩,[]⟩,⟨10,⟨some 190,.pick (.t 184) (.t 189) (.c (.v (.bool false))),none⟩,[]⟩,⟨11,⟨some 191,.mv (.t 190),none⟩,[]⟩,⟨12,⟨some 192,.load (some 1) (.t 3),some (191,true)⟩,[]⟩,⟨13,⟨some 193,.load (some 3) (.t 4),some (191,true)⟩,[]⟩,⟨14,⟨some 194,.mv (.t 7),some (191,true)⟩,[]⟩,⟨15,⟨some 195,.call (.c (.fn 63 [])) [(.t 194),(.c (.v (.int .i64 1)))],some (191,true)⟩,[⟨some 192,.load (some 1) (.t 3),some (191,true)⟩,⟨some 193,.load (some 3) (.t 4),some (191,true)⟩]⟩,⟨16,⟨some 196,.call (.c (.fn 55 [])) [(.t 192),(.t 193),(.t 195)],some (191,true)⟩,[]⟩,⟨17,⟨some 197,.pick (.t 191) (.t 196) (.c (.v (.bool false))),none⟩,[]⟩,⟨18,⟨some 6,.mv (.t 197),none⟩,[]⟩]) .ret)))))))))))⟩
theorem a_driftEnds_ok : cFunc Try.prog 10 = some a_driftEnds := by kernel_rfl
def r_driftEnds0 : List (Nat × Nat) := [(6, 6), (12, 18), (97, 179)]
def r_driftEnds1 : List (Nat × Nat) := [(6, 6), (14, 18), (114, 178)]

theorem en_fit {t : Tr} {bn : Bn} {w : Nat} (hn : t.length ≤ 20) (he : ∀ x ∈ t, x.evs.length ≤ 70) : (enAll t bn w t.length).length ≤ 1000000 ∧ ∀ r ∈ enAll t bn w t.length, r.length ≤ 1000000 := by
 have hl : (enAll t bn w t.length).length = t.length := fl_len
 refine ⟨by omega, fun r hr => ?_⟩
 obtain ⟨i, hi, rfl⟩ := List.getElem_of_mem hr
 have hg : (enAll t bn w t.length)[i]? = some (enRow t bn w i (evsOf t i).length) := fl_get oM
 rw [List.getElem?_eq_getElem hi, Option.some.injEq] at hg
 rw [hg]
 have := he _ (List.getElem_mem (show i < t.length by omega))
 unfold enRow
 rw [fl_len, evsOf_lt oM]
 omega
set_option maxRecDepth 100000
set_option maxHeartbeats 8000000 in
theorem driftEnds_run (t : Tr) (hN : Nm t) (bn : Bn) (m : List (List Int)) (b l : List Row) :
  ACalls Try.prog 10 [.agg [.v (eT t)], .agg (eBn bn), .v (.isl 1 (m.map eRw))] b l (fun r b' l' => r = .v (.bool true) ∧ b' = b ∧ l' = l) := by
 refine calls_kept a_driftEnds_ok rfl (by decide) ?_
 intro B g hB hR hE hA
 simp only [KArgs] at hA
 have eTe : eT t = .isl 3 (t.map ePr) := rfl
 simp only [eBn, eTe] at hA
 have cF := fun b l => few19_spec t b l
 simp only [eTe] at cF
 simp (disch := (first | decide | omega)) only [a_driftEnds, hA, go_sem]
 refine ACalls.nxt (awake19_spec _ _) ?_
 simp (disch := (first | decide | omega)) only [hA, go_sem]
 refine ACalls.nxt (cF _ _) ?_
 cases hf : few19B t with
 | false =>
   simp (disch := (first | decide | omega)) only [hA, go_sem]
   exact leave_pure (xs := [.v (.bool true)]) (.inr rfl) (by simp (disch := (first | decide | omega)) only [resVs, resV, go_sem, hA]) kO hR hB ⟨rfl, rfl, rfl⟩
 | true =>
   have hS := (few19_in hf).2.1
   obtain ⟨hn, he70, hC⟩ := len_few19 hf
   by_cases h1 : 20 < bn.er.length
   ·have hd : decide ((bn.er.length : Int) > 20) = true := decide_eq_true oM
    simp (disch := (first | decide | omega)) only [hA, List.length_map, hd, go_sem]
    exact leave_pure (xs := [.v (.bool true)]) (.inr rfl) (by simp (disch := (first | decide | omega)) only [resVs, resV, go_sem, hA]) kO hR hB ⟨rfl, rfl, rfl⟩
   have hd : decide ((bn.er.length : Int) > 20) = false := decide_eq_false oM
   have hbl : bn.er.length ≤ 4611686018427387904 := by omega
   have cV := fun b l => rValid19_spec t hS hN bn hbl b l
   simp only [eBn, eTe] at cV
   cases hv : bnB t bn with
   | false =>
     rw [hv] at cV
     simp (disch := (first | decide | omega)) only [hA, List.length_map, hd, go_sem]
     refine ACalls.nxt (cV _ _) ?_
     simp (disch := (first | decide | omega)) only [hA, List.length_map, hd, go_sem]
     exact leave_pure (xs := [.v (.bool true)]) (.inr rfl) (by simp (disch := (first | decide | omega)) only [resVs, resV, go_sem, hA]) kO hR hB ⟨rfl, rfl, rfl⟩
   | true =>
     obtain ⟨hval, hok⟩ := bn_ok hv
     rw [hv] at cV
     simp (disch := (first | decide | omega)) only [hA, List.length_map, hd, go_sem]
     refine ACalls.nxt (cV _ _) ?_
     by_cases h2 : 20 < m.length
     ·have hd2 : decide ((m.length : Int) > 20) = true := decide_eq_true oM
      simp (disch := (first | decide | omega)) only [hA, List.length_map, hd2, go_sem]
      exact leave_pure (xs := [.v (.bool true)]) (.inr rfl) (by simp (disch := (first | decide | omega)) only [resVs, resV, go_sem, hA]) kO hR hB ⟨rfl, rfl, rfl⟩
     have hd2 : decide ((m.length : Int) > 20) = false := decide_eq_false oM
     simp (disch := (first | decide | omega)) only [hA, List.length_map, hd2, go_sem]
     refine ACalls.nxt (containsM_spec m _ [] (fun j => decide (40 < (m.getD j []).length)) oM _ _ (fun i hi => by simp only [getD_at hi]; exact dgE_spec _ _ _)) ?_
     cases hcl : (List.range m.length).any (fun j => decide (40 < (m.getD j []).length)) with
     | true =>
       simp (disch := (first | decide | omega)) only [hA, go_sem]
       exact leave_pure (xs := [.v (.bool true)]) (.inr rfl) (by simp (disch := (first | decide | omega)) only [resVs, resV, go_sem, hA]) kO hR hB ⟨rfl, rfl, rfl⟩
     | false =>
       have hmr := rows40 hcl
       have cT := fun b l => dTight_spec t hS hN hn he70 hC bn hbl b l
       have cE := fun b l => dEarly_spec t hS hN hn he70 hC bn hbl b l
       have cC := fun b l => dCheck_spec t hS hN bn hbl m oM hmr b l
       have cR := fun b l => rCheck19_spec t hS hN bn hval hok m oM hmr b l
       simp only [eBn, eTe] at cT cE cC cR
       simp only [hv, Bool.true_and] at cC
       have z1 : ((11 : Int) == 11) = true := rfl
       have z2 : ((11 : Int) != 0) = true := rfl
       have z3 : ((0 : Int) != 0) = false := rfl
       have z4 : ((0 : Int) == 0) = true := rfl
       cases hk : okB t bn with
       | false =>
         have e1 : tightR t bn = .tup [.v .zsl, .v (.int .i64 11)] := by unfold tightR; rw [if_neg (by rw [hv]; decide), if_pos hk]
         have e2 : earlyR t bn = .tup [.v .zsl, .v (.int .i64 11)] := by unfold earlyR; rw [if_neg (by rw [hv]; decide), if_pos hk]
         simp only [e1, e2] at cT cE
         simp only [hok.asg_none hk m] at cC cR
         have zf : (false != false) = false := rfl
         simp (disch := (first | decide | omega)) only [hA, z1, z2, z3, z4, zf, go_sem]
         refine ACalls.nxt (cT _ _) ?_
         simp (disch := (first | decide | omega)) only [hA, z1, z2, z3, z4, zf, go_sem]
         refine ACalls.nxt (cE _ _) ?_
         simp (disch := (first | decide | omega)) only [hA, z1, z2, z3, z4, zf, go_sem]
         refine ACalls.nxt (cC _ _) ?_
         simp (disch := (first | decide | omega)) only [hA, z1, z2, z3, z4, zf, go_sem]
         refine ACalls.nxt (cR _ _) ?_
         simp (disch := (first | decide | omega)) only [hA, z1, z2, z3, z4, zf, go_sem]
         exact leave_pure (xs := [.v (.bool true)]) (.inr rfl) (by simp (disch := (first | decide | omega)) only [resVs, resV, go_sem, hA]) kO hR hB ⟨rfl, rfl, rfl⟩
       | true =>
         have e1 : tightR t bn = .tup [.v (.isl 1 (tiAll t bn t.length)), .v (.int .i64 0)] := by unfold tightR; rw [if_neg (by rw [hv]; decide), if_neg (by rw [hk]; decide)]
         have e2 : earlyR t bn = .tup [.v (.isl 1 ((eaAll t bn t.length).map eRw)), .v (.int .i64 0)] := by unfold earlyR; rw [if_neg (by rw [hv]; decide), if_neg (by rw [hk]; decide)]
         have c0 := fun b l => rEnds19_spec t hS bn 0 (by decide) b l
         have c1 := fun b l => rEnds19_spec t hS bn 1 (by decide) b l
         have cQ := fun b l => sRows_spec (eaAll t bn t.length) (eaAll t bn t.length) (ea_fit hn he70) b l
         have cR0 := fun b l => rCheck19_spec t hS hN bn hval hok (enAll t bn 0 t.length) (en_fit (w := 0) hn he70).1 (en_fit (w := 0) hn he70).2 b l
         have cR1 := fun b l => rCheck19_spec t hS hN bn hval hok (enAll t bn 1 t.length) (en_fit (w := 1) hn he70).1 (en_fit (w := 1) hn he70).2 b l
         simp only [eBn, eTe, hok.en_asg hk] at cR0 cR1
         simp only [en_zero] at c0 cR0
         simp only [decide_eq_true rfl] at cQ
         simp only [e1, e2] at cT cE
         have htl : (tiAll t bn t.length).length = t.length := fl_len
         have hnp := hS.np
         have zl : ((t.length : Int) != (t.length : Int)) = false := bne_self_eq_false _
         obtain ⟨ab, hab⟩ : ∃ ab, asgB t bn m = ab := ⟨_, rfl⟩
         simp only [hab] at cC cR
         cases ab with
         | false =>
           have zb : (false != false) = false := rfl
           simp (disch := (first | decide | omega)) only [hA, z1, z2, z3, z4, go_sem]
           refine ACalls.nxt (cT _ _) ?_
           simp (disch := (first | decide | omega)) only [hA, z1, z2, z3, z4, go_sem]
           refine ACalls.nxt (cE _ _) ?_
           simp (disch := (first | decide | omega)) only [hA, z1, z2, z3, z4, go_sem]
           refine ACalls.nxt (cC _ _) ?_
           simp (disch := (first | decide | omega)) only [hA, z1, z2, z3, z4, go_sem]
           refine ACalls.nxt (cR _ _) ?_
           simp (disch := (first | decide | omega)) only [hA, z1, z2, z3, z4, zb, htl, List.length_map, zl, go_sem]
           refine loop_kept (ι := Nat) r_driftEnds0 (fun q => [(97, .v (.int .i64 q))]) 2 (fun q => [.live 0 1 [[.v (.isl 3 (t.map ePr))]], .live 0 3 [[.v (.isl 1 (bn.er.map eI)), .v (.int .i64 bn.lo), .v (.int .i64 bn.hi)]]])
            (fun q => q ≤ t.length) (fun q => t.length - q) 0 (Nat.zero_le _) (by (repeat (first | exact hE.mono oM | refine KLt.up ?_ kL))) (by ((try simp (disch := decide) only [hA, go_sem]) <;> exact kH)) (fun e => Weak.refl _ _ _) ?_
           intro g1 hE1 hEE1 hg1 q hq
           by_cases hlt : q < t.length
           ·have heq := evsOf_lt hlt
            have hne := hS.ne _ (List.getElem_mem hlt)
            have hgr : (tiAll t bn t.length)[q]? = some [.isl 2 (tiR t bn q t[q].evs.length)] := by rw [← heq]; exact fl_get hlt
            have trl : (tiR t bn q t[q].evs.length).length = t[q].evs.length := fl_len
            have zq : ((t[q].evs.length : Int) != (t[q].evs.length : Int)) = false := bne_self_eq_false _
            simp (disch := (first | decide | omega)) only [hA, hg1, hgr, htl, trl, List.length_map, ePr, zq, go_sem]
            refine loop_kept (ι := Nat) r_driftEnds1 (fun j => [(114, .v (.int .i64 j))]) 2 (fun j => [.live 0 1 [[.v (.isl 3 (t.map ePr))]], .live 0 3 [[.v (.isl 1 (bn.er.map eI)), .v (.int .i64 bn.lo), .v (.int .i64 bn.hi)]]])
             (fun j => j ≤ t[q].evs.length) (fun j => t[q].evs.length - j) 0 (Nat.zero_le _) (by (repeat (first | exact hE1.mono oM | refine KLt.up ?_ kL))) (by ((try simp (disch := decide) only [hA, hg1, go_sem]) <;> exact kH)) (fun e => Weak.refl _ _ _) ?_
            intro g2 hE2 hEE2 hg2 j hj
            by_cases hjl : j < t[q].evs.length
            ·have gl : (tiR t bn q t[q].evs.length)[j]? = some [.int .i64 (loN t bn (evN t q + j)), .int .i64 (hiN t bn (evN t q + j))] := fl_get hjl
             have hx : (q, j + 1) ∈ ids t := mem_ids2.2 ⟨hlt, by rw [heq]; exact hjl⟩
             have hxe : existsB t (q : Int) ((j + 1 : Nat) : Int) = true := existsB_of hx
             have hin : intR t bn ((q : Int), ((j + 1 : Nat) : Int)) = .tup [.v (.int .i64 (loA t bn (q, j + 1))), .v (.int .i64 (hiA t bn (q, j + 1))), .v (.int .i64 0)] := by
              unfold intR
              rw [if_neg (by rw [hv]; decide), if_neg (by simp only [hxe]; decide)]
              simp only [Int.toNat_natCast]
             have cI := fun b l => dInterval_spec t hS hN bn hbl ((q : Int), ((j + 1 : Nat) : Int)) b l
             simp only [eBn, eTe, idP, hin] at cI
             have hinc : (j : Int) + 1 = ((j + 1 : Nat) : Int) := by omega
             obtain ⟨o1, o2, o3⟩ := hok.tight_own hk hx
             have d1 : decide (loN t bn (evN t q + j) < loA t bn (q, j + 1)) = false := decide_eq_false oM
             have d2 : decide (hiN t bn (evN t q + j) > hiA t bn (q, j + 1)) = false := decide_eq_false oM
             have d3 : decide (loN t bn (evN t q + j) > hiN t bn (evN t q + j)) = false := decide_eq_false oM
             have z01 : Int.toNat 0 = 0 := rfl
             have z11 : Int.toNat 1 = 1 := rfl
             simp (disch := (first | decide | omega)) only [hA, hg1, hg2, gl, trl, hinc, z01, z11, go_sem]
             refine ACalls.nxt (cI _ _) ?_
             simp (disch := (first | decide | omega)) only [hA, hg1, hg2, z1, z2, z3, z4, z01, z11, d1, d2, d3, hinc, go_sem]
             refine ⟨j + 1, hjl, by simp only; omega, ?_⟩
             exact Weak.kround (p := r_driftEnds1) (k := 2) (by ((repeat refine (kAny_up rfl).trans ?_); exact hEE2)) (by ((try simp (disch := decide) only [hA, go_sem]) <;> exact kH)) rfl hE2 (by simp) kV hR kL
            ·obtain rfl : j = t[q].evs.length := by omega
             simp (disch := (first | decide | omega)) only [hA, hg1, hg2, trl, go_sem]
             refine ⟨q + 1, hlt, by simp only; omega, ?_⟩
             exact Weak.kround (p := r_driftEnds0) (k := 2) (by ((repeat refine (kAny_up rfl).trans ?_); refine (kAny_sub hg2 (kIn_sub rfl)).trans ?_; (repeat refine (kAny_up rfl).trans ?_); exact hEE1)) (by ((try simp (disch := decide) only [hA, hg1, go_sem]) <;> exact kH)) rfl hE1 (by simp) kV hR kL
           ·obtain rfl : q = t.length := by omega
            simp (disch := (first | decide | omega)) only [hA, hg1, htl, go_sem]
            refine ACalls.nxt (c0 _ _) ?_
            simp (disch := (first | decide | omega)) only [hA, hg1, go_sem]
            refine ACalls.nxt (cQ _ _) ?_
            simp (disch := (first | decide | omega)) only [hA, hg1, go_sem]
            refine ACalls.nxt (c0 _ _) ?_
            simp (disch := (first | decide | omega)) only [hA, hg1, go_sem]
            refine ACalls.nxt (cR0 _ _) ?_
            simp (disch := (first | decide | omega)) only [hA, hg1, go_sem]
            refine ACalls.nxt (c1 _ _) ?_
            simp (disch := (first | decide | omega)) only [hA, hg1, go_sem]
            refine ACalls.nxt (cR1 _ _) ?_
            simp (disch := (first | decide | omega)) only [hA, hg1, go_sem]
            exact leave_pure (xs := [.v (.bool true)]) (.inr rfl) (by simp (disch := (first | decide | omega)) only [resVs, resV, go_sem, hA]) kO hR hB ⟨rfl, rfl, rfl⟩
         | true =>
           have zb : (true != true) = false := rfl
           simp (disch := (first | decide | omega)) only [hA, z1, z2, z3, z4, go_sem]
           refine ACalls.nxt (cT _ _) ?_
           simp (disch := (first | decide | omega)) only [hA, z1, z2, z3, z4, go_sem]
           refine ACalls.nxt (cE _ _) ?_
           simp (disch := (first | decide | omega)) only [hA, z1, z2, z3, z4, go_sem]
           refine ACalls.nxt (cC _ _) ?_
           simp (disch := (first | decide | omega)) only [hA, z1, z2, z3, z4, go_sem]
           refine ACalls.nxt (cR _ _) ?_
           simp (disch := (first | decide | omega)) only [hA, z1, z2, z3, z4, zb, htl, List.length_map, zl, go_sem]
           refine loop_kept (ι := Nat) r_driftEnds0 (fun q => [(97, .v (.int .i64 q))]) 2 (fun q => [.live 0 1 [[.v (.isl 3 (t.map ePr))]], .live 0 3 [[.v (.isl 1 (bn.er.map eI)), .v (.int .i64 bn.lo), .v (.int .i64 bn.hi)]]])
            (fun q => q ≤ t.length) (fun q => t.length - q) 0 (Nat.zero_le _) (by (repeat (first | exact hE.mono oM | refine KLt.up ?_ kL))) (by ((try simp (disch := decide) only [hA, go_sem]) <;> exact kH)) (fun e => Weak.refl _ _ _) ?_
           intro g1 hE1 hEE1 hg1 q hq
           by_cases hlt : q < t.length
           ·have heq := evsOf_lt hlt
            have hne := hS.ne _ (List.getElem_mem hlt)
            have hgr : (tiAll t bn t.length)[q]? = some [.isl 2 (tiR t bn q t[q].evs.length)] := by rw [← heq]; exact fl_get hlt
            have trl : (tiR t bn q t[q].evs.length).length = t[q].evs.length := fl_len
            have zq : ((t[q].evs.length : Int) != (t[q].evs.length : Int)) = false := bne_self_eq_false _
            simp (disch := (first | decide | omega)) only [hA, hg1, hgr, htl, trl, List.length_map, ePr, zq, go_sem]
            refine loop_kept (ι := Nat) r_driftEnds1 (fun j => [(114, .v (.int .i64 j))]) 2 (fun j => [.live 0 1 [[.v (.isl 3 (t.map ePr))]], .live 0 3 [[.v (.isl 1 (bn.er.map eI)), .v (.int .i64 bn.lo), .v (.int .i64 bn.hi)]]])
             (fun j => j ≤ t[q].evs.length) (fun j => t[q].evs.length - j) 0 (Nat.zero_le _) (by (repeat (first | exact hE1.mono oM | refine KLt.up ?_ kL))) (by ((try simp (disch := decide) only [hA, hg1, go_sem]) <;> exact kH)) (fun e => Weak.refl _ _ _) ?_
            intro g2 hE2 hEE2 hg2 j hj
            by_cases hjl : j < t[q].evs.length
            ·have gl : (tiR t bn q t[q].evs.length)[j]? = some [.int .i64 (loN t bn (evN t q + j)), .int .i64 (hiN t bn (evN t q + j))] := fl_get hjl
             have hx : (q, j + 1) ∈ ids t := mem_ids2.2 ⟨hlt, by rw [heq]; exact hjl⟩
             have hxe : existsB t (q : Int) ((j + 1 : Nat) : Int) = true := existsB_of hx
             have hin : intR t bn ((q : Int), ((j + 1 : Nat) : Int)) = .tup [.v (.int .i64 (loA t bn (q, j + 1))), .v (.int .i64 (hiA t bn (q, j + 1))), .v (.int .i64 0)] := by
              unfold intR
              rw [if_neg (by rw [hv]; decide), if_neg (by simp only [hxe]; decide)]
              simp only [Int.toNat_natCast]
             have cI := fun b l => dInterval_spec t hS hN bn hbl ((q : Int), ((j + 1 : Nat) : Int)) b l
             simp only [eBn, eTe, idP, hin] at cI
             have hinc : (j : Int) + 1 = ((j + 1 : Nat) : Int) := by omega
             obtain ⟨o1, o2, o3⟩ := hok.tight_own hk hx
             have d1 : decide (loN t bn (evN t q + j) < loA t bn (q, j + 1)) = false := decide_eq_false oM
             have d2 : decide (hiN t bn (evN t q + j) > hiA t bn (q, j + 1)) = false := decide_eq_false oM
             have d3 : decide (loN t bn (evN t q + j) > hiN t bn (evN t q + j)) = false := decide_eq_false oM
             have hAs : Asg' t bn m := by unfold asgB at hab; simpa using hab
             obtain ⟨hp2, hi2, r1, r2, _⟩ := chk_facts (bn := bn) hAs.1 hx
             have hpl := hmr _ (List.getElem_mem hp2)
             have hin2 := hok.asg_in hk hab hx
             have d4 : decide (tmA m q j < loN t bn (evN t q + j)) = false := decide_eq_false oM
             have d5 : decide (tmA m q j > hiN t bn (evN t q + j)) = false := decide_eq_false oM
             have z01 : Int.toNat 0 = 0 := rfl
             have z11 : Int.toNat 1 = 1 := rfl
             simp (disch := (first | decide | omega)) only [hA, hg1, hg2, gl, trl, hinc, z01, z11, go_sem]
             refine ACalls.nxt (cI _ _) ?_
             simp (disch := (first | decide | omega)) only [hA, hg1, hg2, z1, z2, z3, z4, z01, z11, d1, d2, d3, hinc, r1, r2, d4, d5, go_sem]
             refine ⟨j + 1, hjl, by simp only; omega, ?_⟩
             exact Weak.kround (p := r_driftEnds1) (k := 2) (by ((repeat refine (kAny_up rfl).trans ?_); exact hEE2)) (by ((try simp (disch := decide) only [hA, go_sem]) <;> exact kH)) rfl hE2 (by simp) kV hR kL
            ·obtain rfl : j = t[q].evs.length := by omega
             simp (disch := (first | decide | omega)) only [hA, hg1, hg2, trl, go_sem]
             refine ⟨q + 1, hlt, by simp only; omega, ?_⟩
             exact Weak.kround (p := r_driftEnds0) (k := 2) (by ((repeat refine (kAny_up rfl).trans ?_); refine (kAny_sub hg2 (kIn_sub rfl)).trans ?_; (repeat refine (kAny_up rfl).trans ?_); exact hEE1)) (by ((try simp (disch := decide) only [hA, hg1, go_sem]) <;> exact kH)) rfl hE1 (by simp) kV hR kL
           ·obtain rfl : q = t.length := by omega
            simp (disch := (first | decide | omega)) only [hA, hg1, htl, go_sem]
            refine ACalls.nxt (c0 _ _) ?_
            simp (disch := (first | decide | omega)) only [hA, hg1, go_sem]
            refine ACalls.nxt (cQ _ _) ?_
            simp (disch := (first | decide | omega)) only [hA, hg1, go_sem]
            refine ACalls.nxt (c0 _ _) ?_
            simp (disch := (first | decide | omega)) only [hA, hg1, go_sem]
            refine ACalls.nxt (cR0 _ _) ?_
            simp (disch := (first | decide | omega)) only [hA, hg1, go_sem]
            refine ACalls.nxt (c1 _ _) ?_
            simp (disch := (first | decide | omega)) only [hA, hg1, go_sem]
            refine ACalls.nxt (cR1 _ _) ?_
            simp (disch := (first | decide | omega)) only [hA, hg1, go_sem]
            exact leave_pure (xs := [.v (.bool true)]) (.inr rfl) (by simp (disch := (first | decide | omega)) only [resVs, resV, go_sem, hA]) kO hR hB ⟨rfl, rfl, rfl⟩
end Go.Proofs.Ytanblnhnfkeffaa
