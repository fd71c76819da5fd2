/- Texts of one proof, laid together: OG. No condition. -/
import Derived.Test.YtilcmenglgdljaaOR10
import Derived.Test.YtilcmenglgdljaaOR13
import Derived.Test.YtilcmenglgdljaaOR9
import Derived.Test.YtilcmenglgdljaaOR2
namespace Go.Proofs.Ytilcmenglgdljaa
set_option linter.unusedVariables false
set_option linter.unusedSimpArgs false
attribute [local go_sem ↓] run_skip run_region run_draw run_seq run_block run_exit run_ret run_cond atN_app seqC_normal seqC_exit seqC_ret seqQ_normal seqQ_exit seqQ_ret blkQ_normal blkQ_exit blkQ_ret runOps_nil runOps_cons runD_nil runD_cons grdO_true grdO_false grdD_true grdD_false ifC_true ifC_false opS_val opS_call opS_two opK_app dS_val dS_call dS_two dK_app kUp_same kUp_ne
attribute [local go_sem] rechks_nil rechks_cons rechk gcase_true gcase_false ex_val ex_val0 gd_none gd_some ev_t ev_c evs_nil evs_cons evo_some evo_none hget_at hget_first hsetB_at hsetB_first hsetL_at hsetL_first ofOpt_some aop aload astore aslice aappend aiaddr aiaddrA afaddr alen alenS acopy amm acall alookup amupdate alenM comma keyEq apick binV binVB binVS isSh intOp strOp boolOp shOp eqC eqF and2 cellsOf setFrom fillA fillS rd rdI elems mk bounds AV.cell List.all_cons List.all_nil Bool.and_true Bool.true_and Bool.and_self List.length_cons List.length_nil List.length_append Nat.reduceAdd Nat.reduceSub Nat.reduceMul Nat.zero_add Nat.add_zero List.cons_append List.nil_append List.append_assoc List.append_nil List.getElem?_cons_zero List.getElem?_cons_succ List.getElem?_nil List.set_cons_zero List.set_cons_succ List.drop_zero List.drop_succ_cons List.take_zero List.take_succ_cons List.take_nil List.drop_nil List.map_cons List.map_nil Option.map_some if_true if_false Bool.false_eq_true and_self true_and and_true Nat.reduceLeDiff Nat.reduceLT Nat.le_refl Nat.reduceEqDiff ite_true ite_false beq_self_eq_true beq_true beq_false Bool.not_true Bool.not_false Bool.true_beq Bool.false_beq map_vs vs_len vs_get vs_take vs_drop vs_snoc1 vs_snoc2 vs_snoc3 vs_snoc5 vs_set1 vs_set2 vs_rep wrap_id le_T lt_T le_F lt_F leI_T ltI_T leI_F ltI_F geI gtI get_T decide_true decide_false room List.getElem?_map List.length_map List.length_take Int.toNat_natCast Nat.min_def Nat.min_self nth_kOf put_kOf put_kNo kOv_cons kOv_nil KHas KArgs List.getElem_cons_zero List.getElem_cons_succ
def a_rLensO : AFunc := ⟨1,23,[.tmp 2],(.seq (.region [⟨some 1,.box (.t 0),none⟩,⟨some 2,.mv (.c (.v .zsl)),none⟩]) (.seq (.region [⟨some 3,.mv (.c (.v .zsl)),none⟩]) (.seq (.seq (.region [⟨some 4,.mv (.c (.v (.int .i64 0))),none⟩]) (.block 0 (.loop (.seq (.seq (.region [⟨some 5,.mv (.t 4),none⟩,⟨some 6,.faddr 0 (.t 1),none⟩,⟨some 7,.load none (.t 6),none⟩,⟨some 8,.len (.t 7),none⟩,⟨some 9,.bin .lss (.t 5) (.t 8),none⟩]) (.cond (.t 9) .skip (.exit 0))) (.seq (.block 1 (.region [⟨some 12,.mv (.t 3),none⟩,⟨some 13,.faddr 0 (.t 1),none⟩,⟨some 14,.load none (.t 13),none⟩,⟨some 15,.mv (.t 4),none⟩,⟨some 16,.iaddr 3 (.t 14) (.t 15),none⟩,⟨some 17,.faddr 2 (.t 16),none⟩,⟨some 18,.load none (.t 17),none⟩,⟨some 19,.len (.t 18),none⟩,⟨some 20,.bslice 1 [(.v (.int .i64 0))] 1 [(0,(.t 19))],none⟩,⟨some 21,.append 1 8 (.t 12) (.t 20),none⟩,⟨some 3,.mv (.t 21),none⟩])) (.region [⟨some 10,.mv (.t 4),none⟩,⟨some 11,.bin .add (.t 10) (.c (.v (.int .i64 1))),none⟩,⟨some 4,.mv (.t 11),none⟩])))))) (.seq (.region [⟨some 22,.mv (.t 3),none⟩,⟨some 2,.mv (.t 22),none⟩]) .ret))))⟩
theorem a_rLensO_ok : cFunc Try.prog 18 = some a_rLensO := by kernel_rfl
def r_rLensO0 : List (Nat × Nat) := [(3, 21)]
def a_OrdL : AFunc := ⟨3,143,[.tmp 6],(.seq (.region [⟨some 3,.box (.t 0),none⟩,⟨some 6,.mv (.c (.v (.bool false))),none⟩]) (.seq (.seq (.region [⟨some 18,.call (.c (.fn 14 [])) [],none⟩,⟨some 19,.not (.t 18),none⟩]) (.cond (.t 19) (.seq (.region [⟨some 6,.mv (.c (.v (.bool false))),none⟩]) .ret) .skip)) (.seq (.seq (.region [⟨some 20,.load (some 1) (.t 3),none⟩,⟨some 21,.call (.c (.fn 15 [])) [(.t 20)],none⟩,⟨some 22,.not (.t 21),none⟩,⟨some 23,.mv (.t 22),none⟩,⟨some 24,.load (some 1) (.t 3),some (23,false)⟩,⟨some 25,.call (.c (.fn 16 [])) [(.t 24)],some (23,false)⟩,⟨some 26,.not (.t 25),some (23,false)⟩,⟨some 27,.pick (.t 23) (.c (.v (.bool true))) (.t 26),none⟩]) (.cond (.t 27) (.seq (.region [⟨some 6,.mv (.c (.v (.bool true))),none⟩]) .ret) .skip)) (.seq (.region [⟨some 28,.mv (.t 1),none⟩,⟨some 29,.conv .i64 (.t 28),none⟩,⟨some 30,.faddr 0 (.t 3),none⟩,⟨some 31,.load none (.t 30),none⟩,⟨some 32,.len (.t 31),none⟩,⟨some 33,.bin .rem (.t 29) (.t 32),none⟩,⟨some 7,.mv (.t 33),none⟩]) (.seq (.region [⟨some 34,.faddr 0 (.t 3),none⟩,⟨some 35,.load none (.t 34),none⟩,⟨some 36,.mv (.t 7),none⟩,⟨some 37,.iaddr 3 (.t 35) (.t 36),none⟩,⟨some 38,.faddr 2 (.t 37),none⟩,⟨some 39,.load none (.t 38),none⟩,⟨some 8,.mv (.t 39),none⟩]) (.seq (.seq (.region [⟨some 40,.mv (.t 8),none⟩,⟨some 41,.len (.t 40),none⟩,⟨some 42,.bin .lss (.t 41) (.c (.v (.int .i64 2))),none⟩]) (.cond (.t 42) (.seq (.region [⟨some 6,.mv (.c (.v (.bool true))),none⟩]) .ret) .skip)) (.seq (.region [⟨some 43,.mv (.t 2),none⟩,⟨some 44,.conv .i64 (.t 43),none⟩,⟨some 45,.mv (.t 8),none⟩,⟨some 46,.len (.t 45),none⟩,⟨some 47,.bin .sub (.t 46) (.c (.v (.int .i64 1))),none⟩,⟨some 48,.bin .rem (.t 44) (.t 47),none⟩,⟨some 9,.mv (.t 48),none⟩]) (.seq (.draw [⟨0,⟨some 49,.load (some 1) (.t 3),none⟩,[]⟩,⟨1,⟨some 50,.load (some 1) (.t 3),none⟩,[]⟩,⟨2,⟨some 51,.call (.c (.fn 18 [])) [(.t 50)],none⟩,[⟨some 49,.load (some 1) (.t 3),none⟩]⟩,⟨3,⟨some 52,.call (.c (.fn 17 [])) [(.t 49),(.t 51)],none⟩,[]⟩,⟨4,⟨some 10,.alloc [(.v .zsl)],none⟩,[⟨some 49,.load (some 1) (.t 3),none⟩,⟨some 50,.load (some 1) (.t 3),none⟩]⟩,⟨5,⟨none,.store 1 (.t 10) (.t 52),none⟩,[]⟩]) (.seq (.draw [⟨0,⟨some 53,.faddr 0 (.t 10),none⟩,[]⟩,⟨1,⟨some 54,.load none (.t 53),none⟩,[]⟩,⟨2,⟨some 55,.mv (.t 7),none⟩,[]⟩,⟨3,⟨some 56,.iaddr 3 (.t 54) (.t 55),none⟩,[]⟩,⟨4,⟨some 57,.faddr 2 (.t 56),none⟩,[]⟩,⟨5,⟨some 58,.load none (.t 57),none⟩,[]⟩,⟨6,⟨some 59,.mv (.t 9),none⟩,[]⟩,⟨7,⟨some 60,.iaddr 5 (.t 58) (.t 59),none⟩,[]⟩,⟨8,⟨some 61,.load (some 5) (.t 60),none⟩,[]⟩,⟨9,⟨some 62,.faddr 0 (.t 10),none⟩,[]⟩,⟨10,⟨some 63,.load none (.t 62),none⟩,[]⟩,⟨11,⟨some 64,.mv (.t 7),none⟩,[]⟩,⟨12,⟨some 65,.iaddr 3 (.t 63) (.t 64),none⟩,[]⟩,⟨13,⟨some 66,.faddr 2 (.t 65),none⟩,[]⟩,⟨14,⟨some 67,.load none (.t 66),none⟩,[]⟩,⟨15,⟨some 68,.mv (.t 9),none⟩,[]⟩,⟨16,⟨some 69,.bin .add (.t 68) (.c (.v (.int .i64 1))),none⟩,[]⟩,⟨17,⟨some 70,.iaddr 5 (.t 67) (.t 69),none⟩,[]⟩,⟨18,⟨some 71,.load (some 5) (.t 70),none⟩,[]⟩,⟨19,⟨some 11,.alloc [(.v (.int .i64 0)),(.v (.int .i64 0)),(.v (.int .i64 0)),(.v (.int .i64 0)),(.v .zsl)],none⟩,[⟨some 53,.faddr 0 (.t 10),none⟩,⟨some 54,.load none (.t 53),none⟩,⟨some 55,.mv (.t 7),none⟩,⟨some 56,.iaddr 3 (.t 54) (.t 55),none⟩,⟨some 57,.faddr 2 (.t 56),none⟩,⟨some 58,.load none (.t 57),none⟩,⟨some 59,.mv (.t 9),none⟩,⟨some 60,.iaddr 5 (.t 58) (.t 59),none⟩,⟨some 61,.load (some 5) (.t 60),none⟩,⟨some 62,.faddr 0 (.t 10),none⟩,⟨some 63,.load none (.t 62),none⟩,⟨some 64,.mv (.t 7),none⟩,⟨some 65,.iaddr 3 (.t 63) (.t 64),none⟩,⟨some 66,.faddr 2 (.t 65),none⟩,⟨some 67,.load none (.t 66),none⟩,⟨some 68,.mv (.t 9),none⟩,⟨some 69,.bin .add (.t 68) (.c (.v (.int .i64 1))),none⟩,⟨some 70,.iaddr 5 (.t 67) (.t 69),none⟩,⟨some 71,.load (some 5) (.t 70),none⟩]⟩,⟨20,⟨some 12,.alloc [(.v (.int .i64 0)),(.v (.int .i64 0)),(.v (.int .i64 0)),(.v (.int .i64 0)),(.v .zsl)],none⟩,[⟨some 53,.faddr 0 (.t 10),none⟩,⟨some 54,.load none (.t 53),none⟩,⟨some 55,.mv (.t 7),none⟩,⟨some 56,.iaddr 3 (.t 54) (.t 55),none⟩,⟨some 57,.faddr 2 (.t 56),none⟩,⟨some 58,.load none (.t 57),none⟩,⟨some 59,.mv (.t 9),none⟩,⟨some 60,.iaddr 5 (.t 58) (.t 59),none⟩,⟨some 61,.load (some 5) (.t 60),none⟩,⟨some 62,.faddr 0 (.t 10),none⟩,⟨some 63,.load none (.t 62),none⟩,⟨some 64,.mv (.t 7),none⟩,⟨some 65,.iaddr 3 (.t 63) (.t 64),none⟩,⟨some 66,.faddr 2 (.t 65),none⟩,⟨some 67,.load none (.t 66),none⟩,⟨some 68,.mv (.t 9),none⟩,⟨some 69,.bin .add (.t 68) (.c (.v (.int .i64 1))),none⟩,⟨some 70,.iaddr 5 (.t 67) (.t 69),none⟩,⟨some 71,.load (some 5) (.t 70),none⟩]⟩,⟨21,⟨none,.store 5 (.t 11) (.t 61),none⟩,[⟨some 62,.faddr 0 (.t 10),none⟩,⟨some 63,.load none (.t 62),none⟩,⟨some 64,.mv (.t 7),none⟩,⟨some 65,.iaddr 3 (.t 63) (.t 64),none⟩,⟨some 66,.faddr 2 (.t 65),none⟩,⟨some 67,.load none (.t 66),none⟩,⟨some 68,.mv (.t 9),none⟩,⟨some 69,.bin .add (.t 68) (.c (.v (.int .i64 1))),none⟩,⟨some 70,.iaddr 5 (.t 67) (.t 69),none⟩,⟨some 71,.load (some 5) (.t 70),none⟩]⟩,⟨22,⟨none,.store 5 (.t 12) (.t 71),none⟩,[]⟩]) (.seq (.region [⟨some 72,.faddr 3 (.t 12),none⟩,⟨some 73,.load none (.t 72),none⟩,⟨some 74,.faddr 3 (.t 11),none⟩,⟨some 75,.load none (.t 74),none⟩,⟨some 76,.faddr 3 (.t 11),none⟩,⟨none,.store 1 (.t 76) (.t 73),none⟩,⟨some 77,.faddr 3 (.t 12),none⟩,⟨none,.store 1 (.t 77) (.t 75),none⟩]) (.seq (.draw [⟨0,⟨some 78,.faddr 0 (.t 10),none⟩,[]⟩,⟨1,⟨some 79,.load none (.t 78),none⟩,[]⟩,⟨2,⟨some 80,.mv (.t 7),none⟩,[]⟩,⟨3,⟨some 81,.iaddr 3 (.t 79) (.t 80),none⟩,[]⟩,⟨4,⟨some 82,.faddr 2 (.t 81),none⟩,[]⟩,⟨5,⟨some 83,.load none (.t 82),none⟩,[]⟩,⟨6,⟨some 84,.mv (.t 9),none⟩,[]⟩,⟨7,⟨some 85,.faddr 0 (.t 10),none⟩,[]⟩,⟨8,⟨some 86,.load none (.t 85),none⟩,[]⟩,⟨9,⟨some 87,.mv (.t 7),none⟩,[]⟩,⟨10,⟨some 88,.iaddr 3 (.t 86) (.t 87),none⟩,[]⟩,⟨11,⟨some 89,.faddr 2 (.t 88),none⟩,[]⟩,⟨12,⟨some 90,.load none (.t 89),none⟩,[]⟩,⟨13,⟨some 91,.mv (.t 9),none⟩,[]⟩,⟨14,⟨some 92,.bin .add (.t 91) (.c (.v (.int .i64 1))),none⟩,[]⟩,⟨15,⟨some 93,.load (some 5) (.t 12),none⟩,[]⟩,⟨16,⟨some 94,.load (some 5) (.t 11),none⟩,[]⟩,⟨17,⟨some 95,.iaddr 5 (.t 83) (.t 84),none⟩,[]⟩,⟨18,⟨none,.store 5 (.t 95) (.t 93),none⟩,[⟨some 91,.mv (.t 9),none⟩,⟨some 92,.bin .add (.t 91) (.c (.v (.int .i64 1))),none⟩,⟨some 94,.load (some 5) (.t 11),none⟩]⟩,⟨19,⟨some 96,.iaddr 5 (.t 90) (.t 92),none⟩,[]⟩,⟨20,⟨none,.store 5 (.t 96) (.t 94),none⟩,[]⟩]) (.seq (.region [⟨some 98,.load (some 1) (.t 10),none⟩,⟨some 99,.call (.c (.fn 19 [])) [(.t 98)],none⟩,⟨some 97,.mv (.t 99),none⟩,⟨some 100,.extract 0 (.t 97),none⟩,⟨some 101,.extract 1 (.t 97),none⟩,⟨some 13,.alloc [(.v (.int .i64 0)),(.v (.int .i64 0))],none⟩,⟨none,.store 2 (.t 13) (.t 100),none⟩,⟨some 14,.mv (.t 101),none⟩]) (.seq (.region [⟨some 15,.mv (.c (.v (.bool false))),none⟩]) (.seq (.seq (.region [⟨some 102,.faddr 0 (.t 12),none⟩,⟨some 103,.load none (.t 102),none⟩,⟨some 104,.bin .eql (.t 103) (.c (.v (.int .i64 3))),none⟩]) (.cond (.t 104) (.seq (.region [⟨some 105,.load (some 1) (.t 3),none⟩,⟨some 106,.faddr 2 (.t 12),none⟩,⟨some 107,.load none (.t 106),none⟩,⟨some 108,.call (.c (.fn 20 [])) [(.t 105),(.c (.v (.int .i64 2))),(.t 107)],none⟩,⟨some 16,.alloc [(.v (.int .i64 0)),(.v (.int .i64 0))],none⟩,⟨none,.store 2 (.t 16) (.t 108),none⟩]) (.seq (.region [⟨some 109,.mv (.t 7),none⟩,⟨some 110,.mv (.t 9),none⟩,⟨some 111,.bin .add (.t 110) (.c (.v (.int .i64 1))),none⟩,⟨some 112,.build [(.v (.int .i64 0)),(.v (.int .i64 0))] [(0,1,(.t 109)),(1,1,(.t 111))],none⟩,⟨some 17,.alloc [(.v (.int .i64 0)),(.v (.int .i64 0))],none⟩,⟨none,.store 2 (.t 17) (.t 112),none⟩]) (.region [⟨some 113,.load (some 1) (.t 3),none⟩,⟨some 114,.load (some 2) (.t 16),none⟩,⟨some 115,.call (.c (.fn 21 [])) [(.t 113),(.t 114)],none⟩,⟨some 116,.mv (.t 7),none⟩,⟨some 117,.iaddr 1 (.t 115) (.t 116),none⟩,⟨some 118,.load none (.t 117),none⟩,⟨some 119,.mv (.t 9),none⟩,⟨some 120,.bin .add (.t 119) (.c (.v (.int .i64 1))),none⟩,⟨some 121,.iaddr 1 (.t 118) (.t 120),none⟩,⟨some 122,.load none (.t 121),none⟩,⟨some 123,.mv (.t 122),none⟩,⟨some 124,.load (some 2) (.t 16),some (123,false)⟩,⟨some 125,.load (some 2) (.t 17),some (123,false)⟩,⟨some 126,.eqs false [.i,.i] (.t 124) (.t 125),some (123,false)⟩,⟨some 127,.pick (.t 123) (.c (.v (.bool true))) (.t 126),none⟩,⟨some 15,.mv (.t 127),none⟩]))) .skip)) (.seq (.seq (.region [⟨some 128,.mv (.t 15),none⟩]) (.cond (.t 128) (.seq (.region [⟨some 129,.mv (.t 14),none⟩,⟨some 130,.bin .eql (.t 129) (.c (.v (.int .i64 10))),none⟩,⟨some 131,.mv (.t 130),none⟩,⟨some 132,.faddr 1 (.t 13),some (131,true)⟩,⟨some 133,.load none (.t 132),some (131,true)⟩,⟨some 134,.bin .gtr (.t 133) (.c (.v (.int .i64 0))),some (131,true)⟩,⟨some 135,.pick (.t 131) (.t 134) (.c (.v (.bool false))),none⟩,⟨some 6,.mv (.t 135),none⟩]) .ret) .skip)) (.seq (.region [⟨some 136,.mv (.t 14),none⟩,⟨some 137,.bin .eql (.t 136) (.c (.v (.int .i64 0))),none⟩,⟨some 138,.mv (.t 137),none⟩,⟨some 139,.load (some 2) (.t 13),some (138,true)⟩,⟨some 140,.build [(.v (.int .i64 0)),(.v (.int .i64 0))] [],some (138,true)⟩,⟨some 141,.eqs false [.i,.i] (.t 139) (.t 140),some (138,true)⟩,⟨some 142,.pick (.t 138) (.t 141) (.c (.v (.bool false))),none⟩,⟨some 6,.mv (.t 142),none⟩]) .ret))))))))))))))))⟩
theorem a_OrdL_ok : cFunc Try.prog 3 = some a_OrdL := by kernel_rfl

theorem rLens_spec (t : Tr) (hS : Small t) (b l : List Row) : ACalls Try.prog 18 [.agg [.v (eT t)]] b l (fun r b' l' => r = .v (.isl 1 ((lensT t).map eI)) ∧ b' = b ∧ l' = l) := by
 refine calls_kept a_rLensO_ok rfl (by decide) ?_
 intro B g hB hR hE hA
 simp only [KArgs] at hA
 have hnp := hS.np
 have hll : (lensT t).length = t.length := List.length_map _
 simp (disch := (first | decide | omega)) only [a_rLensO, hA, eT, go_sem]
 refine loop_kept_nil (ι := Nat) 3 1 r_rLensO0 (fun i => [(3, .sl (B.length + 1) i 0 i), (4, .v (.int .i64 i))]) 2 (fun i => [.live 0 1 [[.v (.isl 3 (t.map ePr))]], .live i 1 (vs (((lensT t).take i).map eI))])
  (fun i => i ≤ t.length) (fun i => t.length - i) 0 (Nat.zero_le _) (by simp (disch := decide) only [hA, go_sem]) (by decide) rfl (by (repeat (first | exact hE.mono oM | refine KLt.up ?_ kL))) (by ((try simp (disch := decide) only [hA, go_sem]) <;> exact kH)) (fun e => by simpa [vs] using Weak.refl _ _ _) ?_
 intro g1 hE1 hEE1 hg1 i hi
 by_cases hlt : i < t.length
 ·have hget : (t.map ePr)[i]? = some [.str t[i].name, .isl 2 (t[i].vars.map eVr), .isl 5 (t[i].evs.map eEv)] := by rw [List.getElem?_map, List.getElem?_eq_getElem hlt]; rfl
  have dk : decide ((i : Int) < (t.length : Int)) = true := decide_eq_true oM
  have hel : min i (lensT t).length = i := by omega
  have hr2 : List.take i (List.map eI (List.take i (lensT t))) = ((lensT t).take i).map eI := List.take_of_length_le (by simp; omega)
  have hr : ((lensT t).take i).map eI ++ [[.int .i64 (t[i].evs.length : Int)]] = ((lensT t).take (i + 1)).map eI := by
   rw [← mapw_snoc (f := eI) (show i < (lensT t).length by omega)]
   unfold lensT
   rw [List.getElem_map]; rfl
  simp (disch := (first | decide | omega)) only [hA, hg1, hget, dk, hel, hr2, hr, List.length_map, List.length_take, fillS, List.replicate_succ, List.replicate_zero, List.set_cons_zero, go_sem]
  refine ⟨i + 1, hlt, by simp only; omega, ?_⟩
  exact Weak.kround (p := r_rLensO0) (k := 2) (by ((repeat refine (kAny_up rfl).trans ?_); exact hEE1)) (by ((try simp (disch := decide) only [hA, hg1, go_sem]) <;> exact kH)) rfl hE1 (by simp) kV hR kL
 ·obtain rfl : i = t.length := by omega
  have dk : decide ((t.length : Int) < (t.length : Int)) = false := by simp
  simp (disch := (first | decide | omega)) only [hA, hg1, dk, List.length_map, go_sem]
  have htk : (lensT t).take t.length = lensT t := List.take_of_length_le oM
  rw [htk]
  exact leave_frz (i := 1) (ver := t.length) (sz := 1) (n := t.length) (rows := (lensT t).map eI) (.inr rfl) (by simp (disch := (first | decide | omega)) only [resVs, resV, hA, hg1, go_sem]) rfl (by simp; omega) hR hB ⟨rfl, rfl, rfl⟩
theorem wf_u8 {n : Int} (h : (Lit.int .u8 n).wf = true) : 0 ≤ n ∧ n < 256 := by
 have h1 : (decide (IntKind.min .u8 ≤ n) && decide (n ≤ IntKind.max .u8)) = true := h
 rw [show IntKind.min .u8 = 0 from rfl, show IntKind.max .u8 = 255 from by decide] at h1
 simp at h1
 omega
theorem mem_swL {l : List Ev} {j : Nat} (h : j + 1 < l.length) {e : Ev} (he : e ∈ swL l j) : ∃ e' ∈ l, e.asg = e'.asg := by
 unfold swL at he
 rcases List.mem_or_eq_of_mem_set he with he | rfl
 ·rcases List.mem_or_eq_of_mem_set he with he | rfl
  ·exact ⟨e, he, rfl⟩
  ·exact ⟨_, List.getElem_mem h, by rw [getD_lt dfEv _ h]; rfl⟩
 ·exact ⟨_, List.getElem_mem (show j < l.length by omega), by rw [getD_lt dfEv _ (show j < l.length by omega)]; rfl⟩
theorem mem_swT {t : Tr} {k j : Nat} (h : k < t.length) {x : Pr} (hx : x ∈ swT t k j) : ∃ y ∈ t, x.vars = y.vars ∧ x.name = y.name ∧ (x.evs = y.evs ∨ (y = t.getD k dfPr ∧ x.evs = swL (evsOf t k) j)) := by
 unfold swT at hx
 rcases List.mem_or_eq_of_mem_set hx with hx | rfl
 ·exact ⟨x, hx, rfl, rfl, .inl rfl⟩
 ·exact ⟨t.getD k dfPr, by rw [getD_lt dfPr t h]; exact List.getElem_mem h, rfl, rfl, .inr ⟨rfl, rfl⟩⟩
theorem sw_small {t : Tr} {k j : Nat} (h : Sw t k j) (hS : Small t) : Small (swT t k j) := by
 refine ⟨by rw [swT_len]; exact hS.np, fun x hx => ?_, fun x hx => ?_, fun x hx e he => ?_⟩
 ·obtain ⟨y, hy, e1, _⟩ := mem_swT h.k hx
  rw [e1]; exact hS.nv y hy
 ·obtain ⟨y, hy, _, _, e1 | ⟨e0, e1⟩⟩ := mem_swT h.k hx
  ·rw [e1]; exact hS.ne y hy
  ·rw [e1, swL_len]
   subst e0
   exact hS.ne _ hy
 ·obtain ⟨y, hy, _, _, e1 | ⟨e0, e1⟩⟩ := mem_swT h.k hx
  ·rw [e1] at he; exact hS.na y hy e he
  ·rw [e1] at he
   obtain ⟨e', he', e2⟩ := mem_swL h.j he
   subst e0
   rw [e2]; exact hS.na _ hy e' he'
theorem sw_nm {t : Tr} {k j : Nat} (h : Sw t k j) (hN : Nm t) : Nm (swT t k j) := fun x hx => by
 obtain ⟨y, hy, e1, e2, _⟩ := mem_swT h.k hx
 rw [e1, e2]; exact hN y hy
theorem ACalls.nxtF {P : Program} {f : Nat} {args : List AV} {b l B' L' : List Row} {x : AV} {K : AV → List Row → List Row → Prop} (h : ACalls P f args b l (fun r b' l' => r = x ∧ b' = B' ∧ l' = L')) (k : ∀ l2, l2 = L' → K x B' l2) : ACalls P f args b l K := ACalls.nxt h (k _ rfl)
theorem kO {p : Prop} (h : p := by simp only [one, lts.down, Nat.reduceLT, Nat.reduceAdd]) : p := h
set_option maxRecDepth 20000 in
set_option maxHeartbeats 16000000 in
theorem traceOrders_run (t : Tr) (hF : Fits t) (hN : Nm t) (p i : Int) (hp : 0 ≤ p ∧ p < 256) (hi : 0 ≤ i ∧ i < 256) (b l : List Row) :
  ACalls Try.prog 3 [.agg [.v (eT t)], .v (.int .u8 p), .v (.int .u8 i)] b l (fun r b' l' => r = .v (.bool true) ∧ b' = b ∧ l' = l) := by
 refine calls_kept a_OrdL_ok rfl (by decide) ?_
 intro B g hB hR hE hA
 simp only [KArgs] at hA
 simp (disch := (first | decide | omega)) only [a_OrdL, hA, go_sem]
 refine ACalls.nxt (awake_spec _ _) ?_
 simp (disch := (first | decide | omega)) only [hA, go_sem]
 refine ACalls.nxt (few_spec t hF _ _) ?_
 cases hf : fewB t
 case' false =>
  simp (disch := (first | decide | omega)) only [hA, go_sem]
  exact leave_pure (xs := [.v (.bool true)]) (.inr rfl) (by simp (disch := (first | decide | omega)) only [resVs, resV, go_sem, hA]) kO hR hB ⟨rfl, rfl, rfl⟩
 have hS := few_small hf
 simp (disch := (first | decide | omega)) only [hA, go_sem]
 refine ACalls.nxt (valid_spec t hS hN _ _) ?_
 cases hval : validL t
 case' false =>
  simp (disch := (first | decide | omega)) only [hA, go_sem]
  exact leave_pure (xs := [.v (.bool true)]) (.inr rfl) (by simp (disch := (first | decide | omega)) only [resVs, resV, go_sem, hA]) kO hR hB ⟨rfl, rfl, rfl⟩
 have hv := vok hval
 have hlo := hv.lo
 have hhi := hv.hi
 obtain ⟨pp, rfl⟩ : ∃ n : Nat, p = n := ⟨p.toNat, by omega⟩
 obtain ⟨ii, rfl⟩ : ∃ n : Nat, i = n := ⟨i.toNat, by omega⟩
 obtain ⟨k, hk⟩ : ∃ k, pp % t.length = k := ⟨_, rfl⟩
 have hkn : k < t.length := by rw [← hk]; exact Nat.mod_lt _ oM
 have w0 : IntKind.i64.wrap (pp : Int) = (pp : Int) := by rw [IntKind.wrap_i64]; omega
 have w0' : IntKind.i64.wrap (ii : Int) = (ii : Int) := by rw [IntKind.wrap_i64]; omega
 have w3 : Int.tmod (pp : Int) (t.length : Int) = (k : Int) := by rw [← hk]; rfl
 have w5 : ((t.length : Int) = 0) = False := eq_false oM
 have hget : (t.map ePr)[k]? = some [.str t[k].name, .isl 2 (t[k].vars.map eVr), .isl 5 (t[k].evs.map eEv)] := by rw [List.getElem?_map, List.getElem?_eq_getElem hkn]; rfl
 have hne := hS.ne t[k] (List.getElem_mem hkn)
 have eTe : eT t = .isl 3 (t.map ePr) := rfl
 simp (disch := (first | decide | omega)) only [hA, w0, w0', w3, w5, hget, eTe, List.length_map, go_sem]
 by_cases h2 : t[k].evs.length < 2
 case' pos =>
  have d2 : decide ((t[k].evs.length : Int) < 2) = true := decide_eq_true oM
  simp (disch := (first | decide | omega)) only [hA, d2, go_sem]
  exact leave_pure (xs := [.v (.bool true)]) (.inr rfl) (by simp (disch := (first | decide | omega)) only [resVs, resV, go_sem, hA]) kO hR hB ⟨rfl, rfl, rfl⟩
 have d2 : decide ((t[k].evs.length : Int) < 2) = false := decide_eq_false oM
 have w6 : (t[k].evs.length : Int) - 1 = ((t[k].evs.length - 1 : Nat) : Int) := by omega
 have w7 : (((t[k].evs.length - 1 : Nat) : Int) = 0) = False := eq_false oM
 obtain ⟨j, hj⟩ : ∃ j, ii % (t[k].evs.length - 1) = j := ⟨_, rfl⟩
 have hjn : j < t[k].evs.length - 1 := by rw [← hj]; exact Nat.mod_lt _ oM
 have w8 : Int.tmod (ii : Int) ((t[k].evs.length - 1 : Nat) : Int) = (j : Int) := by rw [← hj]; rfl
 have cL := fun b l => rLens_spec t hS b l
 have cC := fun b l => rCopy_live t hS b l
 rw [eTe] at cL cC
 simp (disch := (first | decide | omega)) only [hA, d2, w0', w6, w7, w8, List.length_map, go_sem]
 refine ACalls.nxt (cL _ _) ?_
 simp (disch := (first | decide | omega)) only [hA, go_sem]
 refine ACalls.nxtF (cC _ _) (fun l2 hl2 => ?_)
 have hl2 : l2 = [.live 0 1 [[.v (.isl 3 (t.map ePr))]]] ++ cpR t (B.length + 1) := hl2
 have hq : l2.length = t.length + 2 := by rw [hl2]; simp [cpR, fl_len]
 have p0 : ∀ R, (l2 ++ R)[0]? = some (.live 0 1 [[.v (.isl 3 (t.map ePr))]]) := fun R => by rw [hl2]; rfl
 have p1 : ∀ R, (l2 ++ R)[1]? = some (.live t.length 3 (fl t.length (cpC t (B.length + 1) 1))) := fun R => by rw [hl2]; rfl
 have hpk : prA t k = t[k] := getD_lt dfPr t hkn
 have hEk : (fl t.length (cpC t (B.length + 1) 1))[k]? = some [.v (.str t[k].name), .v (.isl 2 (t[k].vars.map eVr)), .sl (B.length + (2 + k)) t[k].evs.length 0 t[k].evs.length] := by
  rw [fl_get hkn]
  unfold cpC
  rw [hpk, show B.length + 1 + (1 + k) = B.length + (2 + k) by omega]
 have pk : ∀ R, (l2 ++ R)[2 + k]? = some (.live t[k].evs.length 5 (vs (t[k].evs.map eEv))) := fun R => by
  rw [List.getElem?_append_left oM, hl2, show 2 + k = (k + 1) + 1 by omega]
  show (fl t.length (cpE t))[k]? = _
  rw [fl_get hkn]
  unfold cpE
  rw [hpk]
 generalize hE' : fl t.length (cpC t (B.length + 1) 1) = EL at p1 hEk
 have hjl : j < t[k].evs.length := by omega
 have hj1l : j + 1 < t[k].evs.length := by omega
 obtain ⟨ea, hea⟩ : ∃ e, t[k].evs[j] = e := ⟨_, rfl⟩
 obtain ⟨eb, heb⟩ : ∃ e, t[k].evs[j + 1] = e := ⟨_, rfl⟩
 have hgj : (t[k].evs.map eEv)[j]? = some [.int .i64 ea.kind, .int .i64 ea.peer, .int .i64 ea.msg, .int .i64 ea.time, .isl 2 (ea.asg.map eAsg)] := by rw [List.getElem?_map, List.getElem?_eq_getElem hjl, hea]; rfl
 have hgj1 : (t[k].evs.map eEv)[j + 1]? = some [.int .i64 eb.kind, .int .i64 eb.peer, .int .i64 eb.msg, .int .i64 eb.time, .isl 2 (eb.asg.map eAsg)] := by rw [List.getElem?_map, List.getElem?_eq_getElem hj1l, heb]; rfl
 have hc : (j : Int) + 1 = ((j + 1 : Nat) : Int) := by omega
 generalize hys : t[k].evs = ys at *
 have hysl : (ys.map eEv).length = ys.length := List.length_map _
 generalize hyr : ys.map eEv = yr at hgj hgj1 pk hysl
 have s2 : ∀ R Y, ((l2 ++ R).set (2 + k) Y)[2 + k]? = some Y := fun R Y => List.getElem?_set_self (by rw [List.length_append]; omega)
 have s10 : ∀ R Y, ((l2 ++ R).set (2 + k) Y)[l2.length]? = R[0]? := fun R Y => by rw [List.getElem?_set_ne oM]; exact app_at0
 have s11 : ∀ R Y i, ((l2 ++ R).set (2 + k) Y)[l2.length + i]? = R[i]? := fun R Y i => by rw [List.getElem?_set_ne oM]; exact app_at
 have hgs : ∀ C : List AV, ((vs yr).set j C)[j + 1]? = some [.v (.int .i64 eb.kind), .v (.int .i64 eb.peer), .v (.int .i64 eb.msg), .v (.int .i64 eb.time), .v (.isl 2 (eb.asg.map eAsg))] := fun C => by rw [List.getElem?_set_ne oM, vs_get, hgj1]; rfl
 simp (disch := (first | decide | omega)) only [hA, p0, p1, hEk, pk, hgj, hgj1, hgs, hc, s2, s10, s11, vs_get, app_at0, app_at, app_set0, app_set, setFrom, cellsOf, List.length_map, vs_len, hysl, List.set_set, go_sem]
 have hSw : Sw t k j := ⟨hv, hkn, by rw [evsOf_lt hkn, hys]; exact hj1l⟩
 have hev2 : evAt t (k, j + 2) = eb := by
  unfold evAt
  show (evsOf t k).getD (j + 1) dfEv = eb
  rw [evsOf_lt hkn, hys, getD_lt dfEv ys hj1l, heb]
 have hfin : (Leads t k j ∧ ∃ x ∈ ids t, faultL (swT t k j) = (x, 10)) ∨ (¬ Leads t k j ∧ faultL (swT t k j) = ((0, 0), 0)) := sw_fault hSw
 have hY : ((vs yr).set j [.v (.int .i64 eb.kind), .v (.int .i64 eb.peer), .v (.int .i64 eb.msg), .v (.int .i64 ea.time), .v (.isl 2 (eb.asg.map eAsg))]).set (j + 1) [.v (.int .i64 ea.kind), .v (.int .i64 ea.peer), .v (.int .i64 ea.msg), .v (.int .i64 eb.time), .v (.isl 2 (ea.asg.map eAsg))] = vs ((swL ys j).map eEv) := by
  unfold swL
  rw [List.map_set, List.map_set, hyr, getD_lt dfEv ys hj1l, getD_lt dfEv ys hjl, hea, heb]
  unfold vs
  rw [List.map_set, List.map_set]
  rfl
 have hLL : ∀ R Y, (l2 ++ R).set (2 + k) Y = [.live 0 1 [[.v (.isl 3 (t.map ePr))]]] ++ ((cpR t (B.length + 1)).set (1 + k) Y ++ R) := fun R Y => by
  rw [List.set_append_left _ _ oM, hl2, show 2 + k = (1 + k) + 1 by omega, ← List.append_assoc]
  rfl
 obtain ⟨N, hNd⟩ : ∃ N, N = (cpR t (B.length + 1)).set (1 + k) (.live ys.length 5 (vs ((swL ys j).map eEv))) := ⟨_, rfl⟩
 have hNl : N.length = t.length + 1 := by rw [hNd]; simp [cpR, fl_len]
 have hdv : Dv (B.length + 1) N (.agg [.sl (B.length + 1) t.length 0 t.length]) (.agg [.v (eT (swT t k j))]) := by
  refine cp_dv hSw (by rw [hNd, List.getElem?_set_ne oM]; rfl) (fun p hp => ?_)
  rw [hNd]
  by_cases hpk' : p = k
  ·subst hpk'
   rw [List.getElem?_set_self (by simp [cpR, fl_len]; omega), sw_evk hkn, evsOf_lt hkn, hpk, hys]
  ·rw [List.getElem?_set_ne oM, show 1 + p = p + 1 by omega, sw_evp hpk']
   show (fl t.length (cpE t))[p]? = _
   rw [fl_get hp]
   rfl
 rw [hLL, hY, ← hNd]
 refine ACalls.deepMid (args' := [.agg [.v (eT (swT t k j))]]) rfl (fun i x y hx hy => ?_) ?_
 ·cases i with
  | zero => simp at hx hy; subst hx; subst hy; exact hdv
  | succ i => simp at hx
 have hcf := fun b l => fault_spec (swT t k j) (sw_small hSw hS) (sw_nm hSw hN) b l
 obtain ⟨⟨⟨fa, fc⟩, fe⟩, hff⟩ : ∃ z, faultL (swT t k j) = z := ⟨_, rfl⟩
 rw [hff] at hfin
 simp only [hff, idA] at hcf
 refine ACalls.nxtF (hcf _ _) (fun l3 hl3 => ?_)
 obtain ⟨D, hD⟩ : ∃ D, D = .live 0 1 [[.v (.isl 3 (t.map ePr))]] :: N.map deadR := ⟨_, rfl⟩
 have hDl : l2.length = D.length := by rw [hD]; simp [hNl, hq]
 have d0 : ∀ R, (D ++ R)[0]? = some (.live 0 1 [[.v (.isl 3 (t.map ePr))]]) := fun R => by rw [hD]; rfl
 have hl3 : l3 = D ++ [.live 0 1 [[.sl (B.length + 1) t.length 0 t.length]], .live 0 5 [[.v (.int .i64 ea.kind), .v (.int .i64 ea.peer), .v (.int .i64 ea.msg), .v (.int .i64 eb.time), .v (.isl 2 (ea.asg.map eAsg))]], .live 0 5 [[.v (.int .i64 eb.kind), .v (.int .i64 eb.peer), .v (.int .i64 eb.msg), .v (.int .i64 ea.time), .v (.isl 2 (eb.asg.map eAsg))]]] := by rw [hl3, hD]; rfl
 rw [hl3, hDl]
 clear hl3 s2 s10 s11 hgs hLL hdv hcf p0 p1 pk
 by_cases hk3 : eb.kind = 3
 ·have d3 : (eb.kind == (3 : Int)) = true := by rw [hk3]; rfl
  have hb : (k, j + 2) ∈ ids t := mem_ids2.2 ⟨hkn, by have := hSw.j; omega⟩
  have ha : (k, j + 1) ∈ ids t := mem_ids2.2 ⟨hkn, by have := hSw.j; omega⟩
  have hsm := (sndr_in hv hb (by rw [hev2]; exact hk3)).1
  have hLd : Leads t k j ↔ (k, j + 1) = sndr t (k, j + 2) ∨ Hb t (k, j + 1) (sndr t (k, j + 2)) := by
   unfold Leads Le
   rw [hev2]
   exact ⟨fun h => h.2, fun h => ⟨hk3, h⟩⟩
  have hsd : sndr t (k, j + 2) = findV t 2 eb.msg := by unfold sndr; rw [hev2]
  have cFi := fun b l => rFind_spec t hS hN 2 eb.msg b l
  have cPa := fun b l => past_spec t hv hS hN (sndr t (k, j + 2)) hsm (by have := vok_ids hv; omega) b l
  rw [hsd] at cPa hLd
  generalize findV t 2 eb.msg = sv at cFi cPa hLd
  obtain ⟨q1, q2⟩ := sv
  simp only [eTe, idA] at cFi cPa
  simp (disch := (first | decide | omega)) only [hA, d0, d3, app_at0, app_at, app_set0, app_set, setFrom, cellsOf, List.length_map, go_sem]
  refine ACalls.nxt (cFi _ _) ?_
  simp (disch := (first | decide | omega)) only [hA, d0, d3, app_at0, app_at, app_set0, app_set, setFrom, cellsOf, List.length_map, hc, go_sem]
  refine ACalls_mono _ _ _ _ _ _ (cPa _ _) ?_
  rintro r b' l' ⟨S, hSS, rfl, rfl, rfl⟩
  have tvE : tabV t S = .isl 1 (fl t.length fun p => [.isl 1 (tabRow S p ((evsOf t p).length + 1))]) := rfl
  have hT1 : (fl t.length fun p => [IV.isl 1 (tabRow S p ((evsOf t p).length + 1))])[k]? = some [.isl 1 (tabRow S k ((evsOf t k).length + 1))] := fl_get hkn
  have hT2 : (tabRow S k ((evsOf t k).length + 1))[j + 1]? = some [.bool (decide ((k, j + 1) ∈ S))] := fl_get (by have := hSw.j; omega)
  rw [tvE]
  have hSm := hSS _ ha
  rw [← hSm] at hLd
  by_cases hm : (k, j + 1) ∈ S
  ·have dm : decide ((k, j + 1) ∈ S) = true := decide_eq_true hm
   obtain ⟨_, x, hx, hfx⟩ := hfin.resolve_right (fun h => h.1 (hLd.2 (.inr hm)))
   have hpos := mem_pos hx
   obtain ⟨rfl, rfl⟩ : x = (fa, fc) ∧ fe = 10 := by cases hfx; exact ⟨rfl, rfl⟩
   have e10 : (((10 : Nat) : Int) == 10) = true := rfl
   have hfc : decide ((0 : Int) < (fc : Int)) = true := decide_eq_true (by simp only at hpos; omega)
   have hfc' : decide ((fc : Int) > 0) = true := hfc
   simp (disch := (first | decide | omega)) only [hA, d0, hT1, hT2, dm, e10, hfc, hfc', app_at0, app_at, app_set0, app_set, setFrom, cellsOf, List.length_map, hc, go_sem]
   exact leave_pure (xs := [.v (.bool true)]) (.inr rfl) (by simp (disch := (first | decide | omega)) only [resVs, resV, go_sem, hA]) kO hR hB ⟨rfl, rfl, rfl⟩
  ·have dm : decide ((k, j + 1) ∈ S) = false := decide_eq_false hm
   by_cases hse : q1 = k ∧ q2 = j + 1
   ·have dq : ((q1 : Int) == (k : Int) && (q2 : Int) == ((j + 1 : Nat) : Int)) = true := by rw [hse.1, hse.2]; simp
    obtain ⟨_, x, hx, hfx⟩ := hfin.resolve_right (fun h => h.1 (hLd.2 (.inl (by rw [hse.1, hse.2]))))
    have hpos := mem_pos hx
    obtain ⟨rfl, rfl⟩ : x = (fa, fc) ∧ fe = 10 := by cases hfx; exact ⟨rfl, rfl⟩
    have e10 : (((10 : Nat) : Int) == 10) = true := rfl
    have hfc : decide ((0 : Int) < (fc : Int)) = true := decide_eq_true (by simp only at hpos; omega)
    have hfc' : decide ((fc : Int) > 0) = true := hfc
    simp (disch := (first | decide | omega)) only [hA, d0, hT1, hT2, dm, dq, e10, hfc, hfc', app_at0, app_at, app_set0, app_set, setFrom, cellsOf, List.length_map, hc, go_sem]
    exact leave_pure (xs := [.v (.bool true)]) (.inr rfl) (by simp (disch := (first | decide | omega)) only [resVs, resV, go_sem, hA]) kO hR hB ⟨rfl, rfl, rfl⟩
   ·have dq : ((q1 : Int) == (k : Int) && (q2 : Int) == ((j + 1 : Nat) : Int)) = false := by
     cases h : ((q1 : Int) == (k : Int) && (q2 : Int) == ((j + 1 : Nat) : Int)) with
     | false => rfl
     | true =>
       exfalso
       rw [Bool.and_eq_true, beq_iff_eq, beq_iff_eq] at h
       omega
    have hnl : ¬ Leads t k j := fun h => by
     rcases hLd.1 h with h | h
     ·cases h; exact hse ⟨rfl, rfl⟩
     ·exact hm h
    obtain ⟨_, hfx⟩ := hfin.resolve_left (fun h => hnl h.1)
    obtain ⟨⟨rfl, rfl⟩, rfl⟩ : (fa = 0 ∧ fc = 0) ∧ fe = 0 := by cases hfx; exact ⟨⟨rfl, rfl⟩, rfl⟩
    have hz : ((0 : Nat) : Int) = 0 := rfl
    have e00 : ((0 : Int) == 0) = true := rfl
    simp (disch := (first | decide | omega)) only [hA, d0, hT1, hT2, dm, dq, hz, e00, app_at0, app_at, app_set0, app_set, setFrom, cellsOf, List.length_map, hc, go_sem]
    exact leave_pure (xs := [.v (.bool true)]) (.inr rfl) (by simp (disch := (first | decide | omega)) only [resVs, resV, go_sem, hA]) kO hR hB ⟨rfl, rfl, rfl⟩
 ·have d3 : (eb.kind == (3 : Int)) = false := by simpa using hk3
  have hnl : ¬ Leads t k j := fun h => hk3 (by rw [← hev2]; exact h.1)
  obtain ⟨_, hfx⟩ := hfin.resolve_left (fun h => hnl h.1)
  obtain ⟨⟨rfl, rfl⟩, rfl⟩ : (fa = 0 ∧ fc = 0) ∧ fe = 0 := by cases hfx; exact ⟨⟨rfl, rfl⟩, rfl⟩
  have hz : ((0 : Nat) : Int) = 0 := rfl
  have e00 : ((0 : Int) == 0) = true := rfl
  simp (disch := (first | decide | omega)) only [hA, d0, d3, hz, e00, app_at0, app_at, app_set0, app_set, setFrom, cellsOf, List.length_map, go_sem]
  exact leave_pure (xs := [.v (.bool true)]) (.inr rfl) (by simp (disch := (first | decide | omega)) only [resVs, resV, go_sem, hA]) kO hR hB ⟨rfl, rfl, rfl⟩
end Go.Proofs.Ytilcmenglgdljaa
