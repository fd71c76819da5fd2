/- Texts of one proof, laid together: NB, NC. No condition. -/
import Derived.Test.YtpkemmchpccjdaaND5
import Derived.Test.YtpkemmchpccjdaaND4
import Derived.Test.YtpkemmchpccjdaaND2
namespace Go.Proofs.Ytpkemmchpccjdaa
set_option linter.unusedVariables false
set_option linter.unusedSimpArgs false
attribute [local go_sem ↓] run_skip run_region run_draw run_both run_seq run_block run_exit run_ret run_cond atN_app seqC_normal seqC_exit seqC_ret seqQ_normal seqQ_exit seqQ_ret blkQ_normal blkQ_exit blkQ_ret runOps_nil runOps_cons runD_nil runD_cons grdO_true grdO_false grdD_true grdD_false ifC_true ifC_false opS_val opS_call opS_two opK_app dS_val dS_call dS_two dK_app kUp_same kUp_ne
attribute [local go_sem] rechks_nil rechks_cons rechk gcase_true gcase_false ex_val ex_val0 gd_none gd_some ev_t ev_c evs_nil evs_cons evo_some evo_none hget_at hget_first hsetB_at hsetB_first hsetL_at hsetL_first ofOpt_some aop aload astore aslice aappend aiaddr aiaddrA afaddr alen alenS acopy amm acall alookup amupdate alenM atostr aappz comma keyEq apick binV binVB binVS isSh intOp strOp boolOp shOp eqC eqF and2 cellsOf setFrom fillA fillS rowsI rowI rd rdI elems mk bounds AV.cell List.all_cons List.all_nil Bool.and_true Bool.true_and Bool.and_self List.length_cons List.length_nil List.length_append Nat.reduceAdd Nat.reduceSub Nat.reduceMul Nat.zero_add Nat.add_zero List.cons_append List.nil_append List.append_assoc List.append_nil List.getElem?_cons_zero List.getElem?_cons_succ List.getElem?_nil List.set_cons_zero List.set_cons_succ List.drop_zero List.drop_succ_cons List.take_zero List.take_succ_cons List.take_nil List.drop_nil List.map_cons List.map_nil Option.map_some if_true if_false Bool.false_eq_true and_self true_and and_true Nat.reduceLeDiff Nat.reduceLT Nat.le_refl Nat.reduceEqDiff ite_true ite_false beq_self_eq_true beq_true beq_false Bool.not_true Bool.not_false Bool.true_beq Bool.false_beq map_vs vs_len vs_get vs_take vs_drop vs_snoc1 vs_snoc2 vs_snoc3 vs_snoc5 vs_set1 vs_set2 vs_rep wrap_id le_T lt_T le_F lt_F leI_T ltI_T leI_F ltI_F geI gtI get_T decide_true decide_false room List.getElem?_map List.length_map List.length_take Int.toNat_natCast Nat.min_def Nat.min_self nth_kOf put_kOf put_kNo kOv_cons kOv_nil KHas KArgs List.getElem_cons_zero List.getElem_cons_succ
def a_nparty : AFunc := ⟨1,9,[.tmp 2],(.seq (.region [⟨some 2,.mv (.c (.v (.bool false))),none⟩]) (.seq (.region [⟨some 3,.mv (.t 0),none⟩,⟨some 4,.bin .geq (.t 3) (.c (.v (.int .i64 0))),none⟩,⟨some 5,.mv (.t 4),none⟩,⟨some 6,.mv (.t 0),some (5,true)⟩,⟨some 7,.bin .lss (.t 6) (.c (.v (.int .i64 8))),some (5,true)⟩,⟨some 8,.pick (.t 5) (.t 7) (.c (.v (.bool false))),none⟩,⟨some 2,.mv (.t 8),none⟩]) .ret))⟩
theorem a_nparty_ok : cFunc Try.prog 20 = some a_nparty := by kernel_rfl
def a_nmsg : AFunc := ⟨1,40,[.tmp 2],(.seq (.region [⟨some 1,.box (.t 0),none⟩,⟨some 2,.mv (.c (.v (.bool false))),none⟩]) (.seq (.seq (.region [⟨some 3,.faddr 0 (.t 1),none⟩,⟨some 4,.load none (.t 3),none⟩,⟨some 5,.call (.c (.fn 20 [])) [(.t 4)],none⟩,⟨some 6,.not (.t 5),none⟩,⟨some 7,.mv (.t 6),none⟩,⟨some 8,.faddr 1 (.t 1),some (7,false)⟩,⟨some 9,.load none (.t 8),some (7,false)⟩,⟨some 10,.call (.c (.fn 20 [])) [(.t 9)],some (7,false)⟩,⟨some 11,.not (.t 10),some (7,false)⟩,⟨some 12,.pick (.t 7) (.c (.v (.bool true))) (.t 11),none⟩,⟨some 13,.mv (.t 12),none⟩,⟨some 14,.faddr 0 (.t 1),some (13,false)⟩,⟨some 15,.load none (.t 14),some (13,false)⟩,⟨some 16,.faddr 1 (.t 1),some (13,false)⟩,⟨some 17,.load none (.t 16),some (13,false)⟩,⟨some 18,.bin .eql (.t 15) (.t 17),some (13,false)⟩,⟨some 19,.pick (.t 13) (.c (.v (.bool true))) (.t 18),none⟩,⟨some 20,.mv (.t 19),none⟩,⟨some 21,.faddr 2 (.t 1),some (20,false)⟩,⟨some 22,.load none (.t 21),some (20,false)⟩,⟨some 23,.bin .lss (.t 22) (.c (.v (.int .i64 0))),some (20,false)⟩,⟨some 24,.pick (.t 20) (.c (.v (.bool true))) (.t 23),none⟩,⟨some 25,.mv (.t 24),none⟩,⟨some 26,.faddr 2 (.t 1),some (25,false)⟩,⟨some 27,.load none (.t 26),some (25,false)⟩,⟨some 28,.bin .gtr (.t 27) (.c (.v (.int .i64 199))),some (25,false)⟩,⟨some 29,.pick (.t 25) (.c (.v (.bool true))) (.t 28),none⟩,⟨some 30,.mv (.t 29),none⟩,⟨some 31,.faddr 3 (.t 1),some (30,false)⟩,⟨some 32,.load none (.t 31),some (30,false)⟩,⟨some 33,.len (.t 32),some (30,false)⟩,⟨some 34,.bin .gtr (.t 33) (.c (.v (.int .i64 20))),some (30,false)⟩,⟨some 35,.pick (.t 30) (.c (.v (.bool true))) (.t 34),none⟩]) (.cond (.t 35) (.seq (.region [⟨some 2,.mv (.c (.v (.bool false))),none⟩]) .ret) .skip)) (.seq (.region [⟨some 36,.faddr 3 (.t 1),none⟩,⟨some 37,.load none (.t 36),none⟩,⟨some 38,.call (.c (.fn 37 [])) [(.t 37),(.c (.fn 38 []))],none⟩,⟨some 39,.not (.t 38),none⟩,⟨some 2,.mv (.t 39),none⟩]) .ret)))⟩
theorem a_nmsg_ok : cFunc Try.prog 26 = some a_nmsg := by kernel_rfl
def a_nmsgc : AFunc := ⟨1,9,[.tmp 2],(.seq (.region [⟨some 2,.mv (.c (.v (.bool false))),none⟩]) (.seq (.region [⟨some 3,.mv (.t 0),none⟩,⟨some 4,.bin .lss (.t 3) (.c (.v (.int .i64 (-1073741824)))),none⟩,⟨some 5,.mv (.t 4),none⟩,⟨some 6,.mv (.t 0),some (5,false)⟩,⟨some 7,.bin .gtr (.t 6) (.c (.v (.int .i64 1073741824))),some (5,false)⟩,⟨some 8,.pick (.t 5) (.c (.v (.bool true))) (.t 7),none⟩,⟨some 2,.mv (.t 8),none⟩]) .ret))⟩
theorem a_nmsgc_ok : cFunc Try.prog 38 = some a_nmsgc := by kernel_rfl
def a_nfate : AFunc := ⟨1,21,[.tmp 2],(.seq (.region [⟨some 1,.box (.t 0),none⟩,⟨some 2,.mv (.c (.v (.bool false))),none⟩]) (.seq (.region [⟨some 3,.faddr 0 (.t 1),none⟩,⟨some 4,.load none (.t 3),none⟩,⟨some 5,.bin .geq (.t 4) (.c (.v (.int .i64 0))),none⟩,⟨some 6,.mv (.t 5),none⟩,⟨some 7,.faddr 0 (.t 1),some (6,true)⟩,⟨some 8,.load none (.t 7),some (6,true)⟩,⟨some 9,.bin .leq (.t 8) (.c (.v (.int .i64 3))),some (6,true)⟩,⟨some 10,.pick (.t 6) (.t 9) (.c (.v (.bool false))),none⟩,⟨some 11,.mv (.t 10),none⟩,⟨some 12,.faddr 1 (.t 1),some (11,true)⟩,⟨some 13,.load none (.t 12),some (11,true)⟩,⟨some 14,.bin .geq (.t 13) (.c (.v (.int .i64 0))),some (11,true)⟩,⟨some 15,.pick (.t 11) (.t 14) (.c (.v (.bool false))),none⟩,⟨some 16,.mv (.t 15),none⟩,⟨some 17,.faddr 1 (.t 1),some (16,true)⟩,⟨some 18,.load none (.t 17),some (16,true)⟩,⟨some 19,.bin .leq (.t 18) (.c (.v (.int .i64 1000000))),some (16,true)⟩,⟨some 20,.pick (.t 16) (.t 19) (.c (.v (.bool false))),none⟩,⟨some 2,.mv (.t 20),none⟩]) .ret))⟩
theorem a_nfate_ok : cFunc Try.prog 34 = some a_nfate := by kernel_rfl
def a_nfatc : AFunc := ⟨1,6,[.tmp 2],(.seq (.region [⟨some 1,.box (.t 0),none⟩,⟨some 2,.mv (.c (.v (.bool false))),none⟩]) (.seq (.region [⟨some 3,.load (some 2) (.t 1),none⟩,⟨some 4,.call (.c (.fn 34 [])) [(.t 3)],none⟩,⟨some 5,.not (.t 4),none⟩,⟨some 2,.mv (.t 5),none⟩]) .ret))⟩
theorem a_nfatc_ok : cFunc Try.prog 33 = some a_nfatc := by kernel_rfl
def a_nfats : AFunc := ⟨1,6,[.tmp 2],(.seq (.region [⟨some 2,.mv (.c (.v (.bool false))),none⟩]) (.seq (.region [⟨some 3,.mv (.t 0),none⟩,⟨some 4,.call (.c (.fn 32 [])) [(.t 3),(.c (.fn 33 []))],none⟩,⟨some 5,.not (.t 4),none⟩,⟨some 2,.mv (.t 5),none⟩]) .ret))⟩
theorem a_nfats_ok : cFunc Try.prog 18 = some a_nfats := by kernel_rfl
def a_nValid : AFunc := ⟨1,86,[.tmp 2],(.seq (.region [⟨some 1,.box (.t 0),none⟩,⟨some 2,.mv (.c (.v (.bool false))),none⟩]) (.seq (.seq (.region [⟨some 5,.faddr 0 (.t 1),none⟩,⟨some 6,.load none (.t 5),none⟩,⟨some 7,.bin .lss (.t 6) (.c (.v (.int .i64 0))),none⟩,⟨some 8,.mv (.t 7),none⟩,⟨some 9,.faddr 0 (.t 1),some (8,false)⟩,⟨some 10,.load none (.t 9),some (8,false)⟩,⟨some 11,.bin .gtr (.t 10) (.c (.v (.int .i64 1099511627776))),some (8,false)⟩,⟨some 12,.pick (.t 8) (.c (.v (.bool true))) (.t 11),none⟩,⟨some 13,.mv (.t 12),none⟩,⟨some 14,.faddr 2 (.t 1),some (13,false)⟩,⟨some 15,.load none (.t 14),some (13,false)⟩,⟨some 16,.len (.t 15),some (13,false)⟩,⟨some 17,.faddr 3 (.t 1),some (13,false)⟩,⟨some 18,.load none (.t 17),some (13,false)⟩,⟨some 19,.len (.t 18),some (13,false)⟩,⟨some 20,.bin .neq (.t 16) (.t 19),some (13,false)⟩,⟨some 21,.pick (.t 13) (.c (.v (.bool true))) (.t 20),none⟩,⟨some 22,.mv (.t 21),none⟩,⟨some 23,.faddr 2 (.t 1),some (22,false)⟩,⟨some 24,.load none (.t 23),some (22,false)⟩,⟨some 25,.len (.t 24),some (22,false)⟩,⟨some 26,.bin .gtr (.t 25) (.c (.v (.int .i64 1000))),some (22,false)⟩,⟨some 27,.pick (.t 22) (.c (.v (.bool true))) (.t 26),none⟩,⟨some 28,.mv (.t 27),none⟩,⟨some 29,.faddr 4 (.t 1),some (28,false)⟩,⟨some 30,.load none (.t 29),some (28,false)⟩,⟨some 31,.len (.t 30),some (28,false)⟩,⟨some 32,.bin .gtr (.t 31) (.c (.v (.int .i64 1000))),some (28,false)⟩,⟨some 33,.pick (.t 28) (.c (.v (.bool true))) (.t 32),none⟩,⟨some 34,.mv (.t 33),none⟩,⟨some 35,.faddr 4 (.t 1),some (34,false)⟩,⟨some 36,.load none (.t 35),some (34,false)⟩,⟨some 37,.call (.c (.fn 18 [])) [(.t 36)],some (34,false)⟩,⟨some 38,.not (.t 37),some (34,false)⟩,⟨some 39,.pick (.t 34) (.c (.v (.bool true))) (.t 38),none⟩]) (.cond (.t 39) (.seq (.region [⟨some 2,.mv (.c (.v (.bool false))),none⟩]) .ret) .skip)) (.seq (.seq (.region [⟨some 40,.faddr 2 (.t 1),none⟩,⟨some 41,.load none (.t 40),none⟩,⟨some 42,.len (.t 41),none⟩,⟨some 43,.mv (.c (.v (.int .i64 0))),none⟩]) (.block 0 (.loop (.seq (.region [⟨some 44,.bin .lss (.t 43) (.t 42),none⟩]) (.seq (.cond (.t 44) .skip (.exit 0)) (.seq (.block 1 (.seq (.region [⟨some 45,.mv (.t 43),none⟩,⟨some 46,.iaddr 4 (.t 41) (.t 43),none⟩,⟨some 47,.load (some 4) (.t 46),none⟩,⟨some 4,.alloc [(.v (.int .i64 0)),(.v (.int .i64 0)),(.v (.int .i64 0)),(.v .zsl)],none⟩,⟨some 3,.mv (.t 45),none⟩,⟨none,.store 4 (.t 4) (.t 47),none⟩]) (.seq (.draw [⟨0,⟨some 48,.load (some 4) (.t 4),none⟩,[]⟩,⟨1,⟨some 49,.call (.c (.fn 26 [])) [(.t 48)],none⟩,[]⟩,⟨2,⟨some 50,.not (.t 49),none⟩,[]⟩,⟨3,⟨some 51,.mv (.t 50),none⟩,[]⟩,⟨4,⟨some 52,.faddr 3 (.t 1),some (51,false)⟩,[]⟩,⟨5,⟨some 53,.load none (.t 52),some (51,false)⟩,[]⟩,⟨6,⟨some 54,.mv (.t 3),some (51,false)⟩,[]⟩,⟨7,⟨some 55,.iaddr 1 (.t 53) (.t 54),some (51,false)⟩,[]⟩,⟨8,⟨some 56,.load none (.t 55),some (51,false)⟩,[]⟩,⟨9,⟨some 57,.bin .lss (.t 56) (.c (.v (.int .i64 0))),some (51,false)⟩,[]⟩,⟨10,⟨some 58,.pick (.t 51) (.c (.v (.bool true))) (.t 57),none⟩,[]⟩,⟨11,⟨some 59,.mv (.t 58),none⟩,[]⟩,⟨12,⟨some 60,.faddr 3 (.t 1),some (59,false)⟩,[]⟩,⟨13,⟨some 61,.load none (.t 60),some (59,false)⟩,[]⟩,⟨14,⟨some 62,.mv (.t 3),some (59,false)⟩,[]⟩,⟨15,⟨some 63,.iaddr 1 (.t 61) (.t 62),some (59,false)⟩,[]⟩,⟨16,⟨some 64,.load none (.t 63),some (59,false)⟩,[]⟩,⟨17,⟨some 65,.bin .gtr (.t 64) (.c (.v (.int .i64 1099512627776))),some (59,false)⟩,[]⟩,⟨18,⟨some 66,.pick (.t 59) (.c (.v (.bool true))) (.t 65),none⟩,[]⟩,⟨19,⟨some 67,.mv (.t 66),none⟩,[]⟩,⟨20,⟨some 68,.mv (.t 3),some (67,false)⟩,[]⟩,⟨21,⟨some 69,.bin .gtr (.t 68) (.c (.v (.int .i64 0))),some (67,false)⟩,[]⟩,⟨22,⟨some 70,.mv (.t 69),some (67,false)⟩,[]⟩,⟨23,⟨some 71,.faddr 3 (.t 1),some (70,true)⟩,[]⟩,⟨24,⟨some 72,.load none (.t 71),some (70,true)⟩,[]⟩,⟨25,⟨some 73,.mv (.t 3),some (70,true)⟩,[]⟩,⟨26,⟨some 74,.iaddr 1 (.t 72) (.t 73),some (70,true)⟩,[]⟩,⟨27,⟨some 75,.load none (.t 74),some (70,true)⟩,[]⟩,⟨28,⟨some 76,.faddr 3 (.t 1),some (70,true)⟩,[]⟩,⟨29,⟨some 77,.load none (.t 76),some (70,true)⟩,[]⟩,⟨30,⟨some 78,.mv (.t 3),some (70,true)⟩,[]⟩,⟨31,⟨some 79,.bin .sub (.t 78) (.c (.v (.int .i64 1))),some (70,true)⟩,[]⟩,⟨32,⟨some 80,.iaddr 1 (.t 77) (.t 79),some (70,true)⟩,[]⟩,⟨33,⟨some 81,.load none (.t 80),some (70,true)⟩,[]⟩,⟨34,⟨some 82,.bin .lss (.t 75) (.t 81),some (70,true)⟩,[]⟩,⟨35,⟨some 83,.pick (.t 70) (.t 82) (.c (.v (.bool false))),some (67,false)⟩,[]⟩,⟨36,⟨some 84,.pick (.t 67) (.c (.v (.bool true))) (.t 83),none⟩,[]⟩]) (.cond (.t 84) (.seq (.region [⟨some 2,.mv (.c (.v (.bool false))),none⟩]) .ret) .skip)))) (.region [⟨some 85,.bin .add (.t 43) (.c (.v (.int .i64 1))),none⟩,⟨some 43,.mv (.t 85),none⟩]))))))) (.seq (.region [⟨some 2,.mv (.c (.v (.bool true))),none⟩]) .ret))))⟩
theorem a_nValid_ok : cFunc Try.prog 13 = some a_nValid := by kernel_rfl
def r_nValid0 : List (Nat × Nat) := [(2, 4), (43, 85)]

theorem nparty_spec (p : Int) (b l : List Row) : ACalls Try.prog 20 [.v (.int .i64 p)] b l (fun r b' l' => r = .v (.bool (ptB p)) ∧ b' = b ∧ l' = l) := by
 refine calls_kept a_nparty_ok rfl (by decide) ?_
 intro B g hB hR hE hA; simp only [KArgs] at hA
 by_cases h1 : 0 ≤ p
 ·have d1 : decide (p ≥ 0) = true := decide_eq_true h1
  have d1' : decide (0 ≤ p) = true := d1
  by_cases h2 : p ≤ 7
  ·have d2 : decide (p < 8) = true := decide_eq_true oM
   simp (disch := (first | decide | omega)) only [a_nparty, hA, d1, d1', d2, go_sem]
   exact leave_pure (xs := [.v (.bool true)]) (.inr rfl) (by simp (disch := (first | decide | omega)) only [resVs, resV, go_sem, hA]) kO hR hB ⟨by unfold ptB; rw [decide_eq_true ⟨h1, h2⟩]; rfl, rfl, rfl⟩
  ·have d2 : decide (p < 8) = false := decide_eq_false oM
   simp (disch := (first | decide | omega)) only [a_nparty, hA, d1, d1', d2, go_sem]
   exact leave_pure (xs := [.v (.bool false)]) (.inr rfl) (by simp (disch := (first | decide | omega)) only [resVs, resV, go_sem, hA]) kO hR hB ⟨by unfold ptB; rw [decide_eq_false oM]; rfl, rfl, rfl⟩
 ·have d1 : decide (p ≥ 0) = false := decide_eq_false h1
  have d1' : decide (0 ≤ p) = false := d1
  simp (disch := (first | decide | omega)) only [a_nparty, hA, d1, d1', go_sem]
  exact leave_pure (xs := [.v (.bool false)]) (.inr rfl) (by simp (disch := (first | decide | omega)) only [resVs, resV, go_sem, hA]) kO hR hB ⟨by unfold ptB; rw [decide_eq_false oM]; rfl, rfl, rfl⟩
theorem nmsgc_spec (n : Int) (b l : List Row) : ACalls Try.prog 38 [.v (.int .i64 n)] b l (fun r b' l' => r = .v (.bool (!vlB n)) ∧ b' = b ∧ l' = l) := by
 refine calls_kept a_nmsgc_ok rfl (by decide) ?_
 intro B g hB hR hE hA; simp only [KArgs] at hA
 by_cases h1 : n < -1073741824
 ·have d1 := decide_eq_true h1
  simp (disch := (first | decide | omega)) only [a_nmsgc, hA, d1, go_sem]
  exact leave_pure (xs := [.v (.bool true)]) (.inr rfl) (by simp (disch := (first | decide | omega)) only [resVs, resV, go_sem, hA, d1]) kO hR hB ⟨by unfold vlB; rw [decide_eq_false oM]; rfl, rfl, rfl⟩
 ·have d1 := decide_eq_false h1
  by_cases h2 : n > 1073741824
  ·have d2 := decide_eq_true h2
   have d2' : decide (1073741824 < n) = true := d2
   simp (disch := (first | decide | omega)) only [a_nmsgc, hA, d1, d2, d2', go_sem]
   exact leave_pure (xs := [.v (.bool true)]) (.inr rfl) (by simp (disch := (first | decide | omega)) only [resVs, resV, go_sem, hA]) kO hR hB ⟨by unfold vlB; rw [decide_eq_false oM]; rfl, rfl, rfl⟩
  ·have d2 := decide_eq_false h2
   have d2' : decide (1073741824 < n) = false := d2
   simp (disch := (first | decide | omega)) only [a_nmsgc, hA, d1, d2, d2', go_sem]
   exact leave_pure (xs := [.v (.bool false)]) (.inr rfl) (by simp (disch := (first | decide | omega)) only [resVs, resV, go_sem, hA]) kO hR hB ⟨by unfold vlB; rw [decide_eq_true oM]; rfl, rfl, rfl⟩
theorem any_not_all {α : Type} {p : α → Bool} : ∀ {v : List α}, (v.any fun x => !p x) = !v.all p
 | [] => rfl
 | x :: v => by simp [any_not_all (v := v)]
theorem any_range {α : Type} {d : α} {p : α → Bool} {v : List α} : (List.range v.length).any (fun i => p (v.getD i d)) = v.any p := by
 rw [Bool.eq_iff_iff]
 simp only [List.any_eq_true, List.mem_range]
 constructor
 ·rintro ⟨i, hi, h⟩
  exact ⟨v[i], List.getElem_mem hi, by rwa [getD_at hi] at h⟩
 ·rintro ⟨x, hx, h⟩
  obtain ⟨i, hi, rfl⟩ := List.getElem_of_mem hx
  exact ⟨i, hi, by rwa [getD_at hi]⟩
set_option maxRecDepth 20000 in
set_option maxHeartbeats 1000000 in
theorem nmsg_spec (m : Ms) (b l : List Row) : ACalls Try.prog 26 [.agg [.v (.int .i64 m.fr), .v (.int .i64 m.to), .v (.int .i64 m.nu), .v (.isl 1 (m.body.map eI))]] b l (fun r b' l' => r = .v (.bool (msB m)) ∧ b' = b ∧ l' = l) := by
 refine calls_kept a_nmsg_ok rfl (by decide) ?_
 intro B g hB hR hE hA; simp only [KArgs] at hA
 simp (disch := (first | decide | omega)) only [a_nmsg, hA, go_sem]
 refine ACalls.nxt (nparty_spec m.fr _ _) ?_
 cases h1 : ptB m.fr
 ·simp (disch := (first | decide | omega)) only [hA, go_sem]
  exact leave_pure (xs := [.v (.bool false)]) (.inr rfl) (by simp (disch := (first | decide | omega)) only [resVs, resV, go_sem, hA]) kO hR hB ⟨by unfold msB; rw [h1]; rfl, rfl, rfl⟩
 simp (disch := (first | decide | omega)) only [hA, go_sem]
 refine ACalls.nxt (nparty_spec m.to _ _) ?_
 cases h2 : ptB m.to
 ·simp (disch := (first | decide | omega)) only [hA, go_sem]
  exact leave_pure (xs := [.v (.bool false)]) (.inr rfl) (by simp (disch := (first | decide | omega)) only [resVs, resV, go_sem, hA]) kO hR hB ⟨by unfold msB; rw [h1, h2]; rfl, rfl, rfl⟩
 by_cases h3 : m.fr = m.to
 ·have d3 : (m.fr == m.to) = true := by rw [h3]; simp
  simp (disch := (first | decide | omega)) only [hA, d3, go_sem]
  exact leave_pure (xs := [.v (.bool false)]) (.inr rfl) (by simp (disch := (first | decide | omega)) only [resVs, resV, go_sem, hA]) kO hR hB ⟨by unfold msB; rw [h1, h2, decide_eq_false oM]; rfl, rfl, rfl⟩
 have d3 : (m.fr == m.to) = false := beq_eq_false_iff_ne.2 h3
 by_cases h4 : m.nu < 0
 ·have d4 := decide_eq_true h4
  simp (disch := (first | decide | omega)) only [hA, d3, d4, go_sem]
  exact leave_pure (xs := [.v (.bool false)]) (.inr rfl) (by simp (disch := (first | decide | omega)) only [resVs, resV, go_sem, hA]) kO hR hB ⟨by unfold msB; rw [h1, h2, decide_eq_true h3, decide_eq_false oM]; rfl, rfl, rfl⟩
 have d4 := decide_eq_false h4
 by_cases h5 : 199 < m.nu
 ·have d5 := decide_eq_true h5
  simp (disch := (first | decide | omega)) only [hA, d3, d4, d5, go_sem]
  exact leave_pure (xs := [.v (.bool false)]) (.inr rfl) (by simp (disch := (first | decide | omega)) only [resVs, resV, go_sem, hA]) kO hR hB ⟨by unfold msB; rw [h1, h2, decide_eq_true h3, decide_eq_false oM]; rfl, rfl, rfl⟩
 have d5 := decide_eq_false h5
 by_cases h6 : 20 < m.body.length
 ·have d6 : decide ((20 : Int) < (m.body.length : Int)) = true := decide_eq_true oM
  simp (disch := (first | decide | omega)) only [hA, d3, d4, d5, d6, List.length_map, go_sem]
  exact leave_pure (xs := [.v (.bool false)]) (.inr rfl) (by simp (disch := (first | decide | omega)) only [resVs, resV, go_sem, hA]) kO hR hB ⟨by unfold msB; rw [h1, h2, decide_eq_true h3, decide_eq_true (show 0 ≤ m.nu ∧ m.nu ≤ 199 by omega), decide_eq_false (show ¬ m.body.length ≤ 20 by omega)]; rfl, rfl, rfl⟩
 have d6 : decide ((20 : Int) < (m.body.length : Int)) = false := decide_eq_false oM
 simp (disch := (first | decide | omega)) only [hA, d3, d4, d5, d6, List.length_map, go_sem]
 refine ACalls.nxt (contains1_spec m.body _ [] (fun i => !vlB (m.body.getD i 0)) oM _ _ (fun i hi => by
  have := nmsgc_spec m.body[i] (B ++ [Row.live 0 4 [[AV.v (IV.int .i64 m.fr), AV.v (IV.int .i64 m.to), AV.v (IV.int .i64 m.nu), AV.v (IV.isl 1 (m.body.map eI))]]]) []
  simp only [getD_at hi]
  exact this)) ?_
 rw [any_range (p := fun x => !vlB x), any_not_all]
 simp (disch := (first | decide | omega)) only [hA, Bool.not_not, go_sem]
 exact leave_pure (xs := [.v (.bool (m.body.all vlB))]) (.inr rfl) (by simp (disch := (first | decide | omega)) only [resVs, resV, go_sem, hA]) kO hR hB ⟨by unfold msB; rw [h1, h2, decide_eq_true h3, decide_eq_true (show 0 ≤ m.nu ∧ m.nu ≤ 199 by omega), decide_eq_true (show m.body.length ≤ 20 by omega)]; rfl, rfl, rfl⟩
theorem nfate_spec (f : Int × Int) (b l : List Row) : ACalls Try.prog 34 [.agg [.v (.int .i64 f.1), .v (.int .i64 f.2)]] b l (fun r b' l' => r = .v (.bool (ftB f)) ∧ b' = b ∧ l' = l) := by
 refine calls_kept a_nfate_ok rfl (by decide) ?_
 intro B g hB hR hE hA; simp only [KArgs] at hA
 by_cases h1 : 0 ≤ f.1
 case neg =>
  have d1 := decide_eq_false h1
  simp (disch := (first | decide | omega)) only [a_nfate, hA, d1, go_sem]
  exact leave_pure (xs := [.v (.bool false)]) (.inr rfl) (by simp (disch := (first | decide | omega)) only [resVs, resV, go_sem, hA]) kO hR hB ⟨by unfold ftB; rw [decide_eq_false oM]; rfl, rfl, rfl⟩
 have d1 := decide_eq_true h1
 by_cases h2 : f.1 ≤ 3
 case neg =>
  have d2 := decide_eq_false h2
  simp (disch := (first | decide | omega)) only [a_nfate, hA, d1, d2, go_sem]
  exact leave_pure (xs := [.v (.bool false)]) (.inr rfl) (by simp (disch := (first | decide | omega)) only [resVs, resV, go_sem, hA]) kO hR hB ⟨by unfold ftB; rw [decide_eq_false oM]; rfl, rfl, rfl⟩
 have d2 := decide_eq_true h2
 by_cases h3 : 0 ≤ f.2
 case neg =>
  have d3 := decide_eq_false h3
  simp (disch := (first | decide | omega)) only [a_nfate, hA, d1, d2, d3, go_sem]
  exact leave_pure (xs := [.v (.bool false)]) (.inr rfl) (by simp (disch := (first | decide | omega)) only [resVs, resV, go_sem, hA]) kO hR hB ⟨by unfold ftB; rw [decide_eq_false oM]; rfl, rfl, rfl⟩
 have d3 := decide_eq_true h3
 by_cases h4 : f.2 ≤ 1000000
 ·have d4 := decide_eq_true h4
  simp (disch := (first | decide | omega)) only [a_nfate, hA, d1, d2, d3, d4, go_sem]
  exact leave_pure (xs := [.v (.bool true)]) (.inr rfl) (by simp (disch := (first | decide | omega)) only [resVs, resV, go_sem, hA]) kO hR hB ⟨by unfold ftB; rw [decide_eq_true oM]; rfl, rfl, rfl⟩
 ·have d4 := decide_eq_false h4
  simp (disch := (first | decide | omega)) only [a_nfate, hA, d1, d2, d3, d4, go_sem]
  exact leave_pure (xs := [.v (.bool false)]) (.inr rfl) (by simp (disch := (first | decide | omega)) only [resVs, resV, go_sem, hA]) kO hR hB ⟨by unfold ftB; rw [decide_eq_false oM]; rfl, rfl, rfl⟩
theorem nfatc_spec (f : Int × Int) (b l : List Row) : ACalls Try.prog 33 [.agg [.v (.int .i64 f.1), .v (.int .i64 f.2)]] b l (fun r b' l' => r = .v (.bool (!ftB f)) ∧ b' = b ∧ l' = l) := by
 refine calls_kept a_nfatc_ok rfl (by decide) ?_
 intro B g hB hR hE hA; simp only [KArgs] at hA
 simp (disch := (first | decide | omega)) only [a_nfatc, hA, go_sem]
 refine ACalls.nxt (nfate_spec f _ _) ?_
 simp (disch := (first | decide | omega)) only [hA, go_sem]
 exact leave_pure (xs := [.v (.bool (!ftB f))]) (.inr rfl) (by simp (disch := (first | decide | omega)) only [resVs, resV, go_sem, hA]) kO hR hB ⟨rfl, rfl, rfl⟩
theorem nfats_spec (v : List (Int × Int)) (hn : v.length ≤ 1000000) (b l : List Row) : ACalls Try.prog 18 [.v (.isl 2 (v.map eFt))] b l (fun r b' l' => r = .v (.bool (ftsB v)) ∧ b' = b ∧ l' = l) := by
 refine calls_kept a_nfats_ok rfl (by decide) ?_
 intro B g hB hR hE hA; simp only [KArgs] at hA
 simp (disch := (first | decide | omega)) only [a_nfats, hA, go_sem]
 refine ACalls.nxt (contains_spec (P := Try.prog) (sz := 2) (f := 32) (g := 44) (by kernel_rfl) (by kernel_rfl) (v.map eFt) _ [] (fun i => !ftB (v.getD i (0, 0))) (by intro row hr; obtain ⟨f, _, rfl⟩ := List.mem_map.1 hr; rfl) (by simpa using hn) _ _ (fun i row hi => by
  rw [List.getElem?_map] at hi
  cases hq : v[i]? with
  | none => rw [hq] at hi; cases hi
  | some f =>
    rw [hq] at hi; cases hi
    have := nfatc_spec f (B ++ []) []
    simp only [List.getD_eq_getElem?_getD, hq, Option.getD_some]
    exact this)) ?_
 rw [List.length_map, any_range (p := fun x => !ftB x), any_not_all]
 simp (disch := (first | decide | omega)) only [hA, Bool.not_not, go_sem]
 exact leave_pure (xs := [.v (.bool (v.all ftB))]) (.inr rfl) (by simp (disch := (first | decide | omega)) only [resVs, resV, go_sem, hA]) kO hR hB ⟨rfl, rfl, rfl⟩
theorem eMs_get {l : List Ms} {i : Nat} (h : i < l.length) : (l.map eMs)[i]? = some [.int .i64 l[i].fr, .int .i64 l[i].to, .int .i64 l[i].nu, .isl 1 (l[i].body.map eI)] := by
 rw [List.getElem?_map, List.getElem?_eq_getElem h]; rfl
theorem eI_get {l : List Int} {i : Nat} (h : i < l.length) : (l.map eI)[i]? = some [.int .i64 (l.getD i 0)] := by
 rw [List.getElem?_map, List.getElem?_eq_getElem h, getD_at h]; rfl
theorem nwB_mt {n : Nw} (hb : (decide (0 ≤ n.now ∧ n.now ≤ 1099511627776) && (decide (n.l.length = n.tm.length) && (decide (n.l.length ≤ 1000) && (decide (n.fates.length ≤ 1000) && ftsB n.fates)))) = true) : nwB n = (List.range n.l.length).all (mtB n) := by
 simp only [Bool.and_eq_true] at hb
 unfold nwB
 rw [hb.1, hb.2.1, hb.2.2.1, hb.2.2.2.1, hb.2.2.2.2]
 rfl
set_option maxRecDepth 20000 in
set_option maxHeartbeats 4000000 in
theorem nValid_spec (n : Nw) (b l : List Row) : ACalls Try.prog 13 [.agg ((eNw n).map .v)] b l (fun r b' l' => r = .v (.bool (nwB n)) ∧ b' = b ∧ l' = l) := by
 refine calls_kept a_nValid_ok rfl (by decide) ?_
 intro B g hB hR hE hA; simp only [KArgs] at hA
 have F : ∀ {p : Prop} [Decidable p], ¬ p → decide p = false := fun h => decide_eq_false h
 by_cases h1 : n.now < 0
 ·have d1 := decide_eq_true h1
  simp (disch := (first | decide | omega)) only [a_nValid, hA, eNw, d1, go_sem]
  exact leave_pure (xs := [.v (.bool false)]) (.inr rfl) (by simp (disch := (first | decide | omega)) only [resVs, resV, go_sem, hA]) kO hR hB ⟨by unfold nwB; rw [F (show ¬ (0 ≤ n.now ∧ n.now ≤ 1099511627776) by omega)]; rfl, rfl, rfl⟩
 have d1 := decide_eq_false h1
 by_cases h2 : 1099511627776 < n.now
 ·have d2 := decide_eq_true h2
  simp (disch := (first | decide | omega)) only [a_nValid, hA, eNw, d1, d2, go_sem]
  exact leave_pure (xs := [.v (.bool false)]) (.inr rfl) (by simp (disch := (first | decide | omega)) only [resVs, resV, go_sem, hA]) kO hR hB ⟨by unfold nwB; rw [F (show ¬ (0 ≤ n.now ∧ n.now ≤ 1099511627776) by omega)]; rfl, rfl, rfl⟩
 have d2 := decide_eq_false h2
 have e1 : decide (0 ≤ n.now ∧ n.now ≤ 1099511627776) = true := decide_eq_true oM
 by_cases h3 : n.l.length = n.tm.length
 case neg =>
  have d3 : ((n.l.length : Int) != (n.tm.length : Int)) = true := by simp; omega
  simp (disch := (first | decide | omega)) only [a_nValid, hA, eNw, d1, d2, d3, List.length_map, go_sem]
  exact leave_pure (xs := [.v (.bool false)]) (.inr rfl) (by simp (disch := (first | decide | omega)) only [resVs, resV, go_sem, hA]) kO hR hB ⟨by unfold nwB; rw [e1, F h3]; rfl, rfl, rfl⟩
 have d3 : ((n.l.length : Int) != (n.tm.length : Int)) = false := by simp; omega
 have e3 : decide (n.l.length = n.tm.length) = true := decide_eq_true h3
 by_cases h4 : 1000 < n.l.length
 ·have d4 : decide ((1000 : Int) < (n.l.length : Int)) = true := decide_eq_true oM
  simp (disch := (first | decide | omega)) only [a_nValid, hA, eNw, d1, d2, d3, d4, List.length_map, go_sem]
  exact leave_pure (xs := [.v (.bool false)]) (.inr rfl) (by simp (disch := (first | decide | omega)) only [resVs, resV, go_sem, hA]) kO hR hB ⟨by unfold nwB; rw [e1, e3, F (show ¬ n.l.length ≤ 1000 by omega)]; rfl, rfl, rfl⟩
 have d4 : decide ((1000 : Int) < (n.l.length : Int)) = false := decide_eq_false oM
 have e4 : decide (n.l.length ≤ 1000) = true := decide_eq_true oM
 by_cases h5 : 1000 < n.fates.length
 ·have d5 : decide ((1000 : Int) < (n.fates.length : Int)) = true := decide_eq_true oM
  simp (disch := (first | decide | omega)) only [a_nValid, hA, eNw, d1, d2, d3, d4, d5, List.length_map, go_sem]
  exact leave_pure (xs := [.v (.bool false)]) (.inr rfl) (by simp (disch := (first | decide | omega)) only [resVs, resV, go_sem, hA]) kO hR hB ⟨by unfold nwB; rw [e1, e3, e4, F (show ¬ n.fates.length ≤ 1000 by omega)]; rfl, rfl, rfl⟩
 have d5 : decide ((1000 : Int) < (n.fates.length : Int)) = false := decide_eq_false oM
 have e5 : decide (n.fates.length ≤ 1000) = true := decide_eq_true oM
 simp (disch := (first | decide | omega)) only [a_nValid, hA, eNw, d1, d2, d3, d4, d5, List.length_map, go_sem]
 refine ACalls.nxt (nfats_spec n.fates oM _ _) ?_
 cases h6 : ftsB n.fates
 ·simp (disch := (first | decide | omega)) only [hA, go_sem]
  exact leave_pure (xs := [.v (.bool false)]) (.inr rfl) (by simp (disch := (first | decide | omega)) only [resVs, resV, go_sem, hA]) kO hR hB ⟨by unfold nwB; rw [e1, e3, e4, e5, h6]; rfl, rfl, rfl⟩
 have hall := nwB_mt (n := n) (by rw [e1, e3, e4, e5, h6]; rfl)
 simp (disch := (first | decide | omega)) only [hA, List.length_map, go_sem]
 refine loop_kept (ι := Nat) r_nValid0 (fun i => [(43, .v (.int .i64 i))]) 1 (fun _ => [.live 0 5 [[.v (.int .i64 n.now), .v (.bool n.fifo), .v (.isl 4 (n.l.map eMs)), .v (.isl 1 (n.tm.map eI)), .v (.isl 2 (n.fates.map eFt))]]])
  (fun i => i ≤ n.l.length ∧ ∀ j, j < i → mtB n j = true) (fun i => n.l.length - i) 0 ⟨Nat.zero_le _, fun j hj => by omega⟩ (by (repeat (first | exact hE.mono oM | refine KLt.up ?_ kL))) (by ((try simp (disch := decide) only [hA, go_sem]) <;> exact kH)) (fun e => Weak.refl _ _ _) ?_
 rintro g1 hE1 hEE1 hg1 i ⟨hi, h0⟩
 by_cases hlt : i < n.l.length
 ·have hm := eMs_get hlt
  have ht := eI_get (show i < n.tm.length by omega)
  have hbad : mtB n i = false → nwB n = false := fun h => by
   rw [hall, List.all_eq_false]
   exact ⟨i, List.mem_range.2 hlt, by rw [h]; simp⟩
  have hgd : n.l.getD i dfMs = n.l[i] := getD_at hlt
  simp (disch := (first | decide | omega)) only [hA, hg1, hm, List.length_map, go_sem]
  refine ACalls.nxt (nmsg_spec n.l[i] _ _) ?_
  cases q1 : msB n.l[i]
  ·simp (disch := (first | decide | omega)) only [hA, hg1, go_sem]
   exact leave_pure (xs := [.v (.bool false)]) (.inr rfl) (by simp (disch := (first | decide | omega)) only [resVs, resV, go_sem, hA, hg1]) kO hR hB ⟨by rw [hbad (by unfold mtB; rw [hgd, q1]; rfl)]; rfl, rfl, rfl⟩
  by_cases q2 : n.tm.getD i 0 < 0
  ·have c2 := decide_eq_true q2
   simp (disch := (first | decide | omega)) only [hA, hg1, ht, c2, go_sem]
   exact leave_pure (xs := [.v (.bool false)]) (.inr rfl) (by simp (disch := (first | decide | omega)) only [resVs, resV, go_sem, hA, hg1]) kO hR hB ⟨by rw [hbad (by unfold mtB; rw [hgd, q1, F oM]; rfl)]; rfl, rfl, rfl⟩
  have c2 := decide_eq_false q2
  by_cases q3 : 1099512627776 < n.tm.getD i 0
  ·have c3 := decide_eq_true q3
   simp (disch := (first | decide | omega)) only [hA, hg1, ht, c2, c3, go_sem]
   exact leave_pure (xs := [.v (.bool false)]) (.inr rfl) (by simp (disch := (first | decide | omega)) only [resVs, resV, go_sem, hA, hg1]) kO hR hB ⟨by rw [hbad (by unfold mtB; rw [hgd, q1, F oM]; rfl)]; rfl, rfl, rfl⟩
  have c3 := decide_eq_false q3
  by_cases q4 : 0 < i
  ·have c4 : decide ((0 : Int) < (i : Int)) = true := decide_eq_true oM
   have hi1 : (i : Int) - 1 = ((i - 1 : Nat) : Int) := by omega
   have ht1 := eI_get (l := n.tm) (show i - 1 < n.tm.length by omega)
   by_cases q5 : n.tm.getD i 0 < n.tm.getD (i - 1) 0
   ·have c5 := decide_eq_true q5
    simp (disch := (first | decide | omega)) only [hA, hg1, ht, c2, c3, c4, hi1, ht1, c5, go_sem]
    exact leave_pure (xs := [.v (.bool false)]) (.inr rfl) (by simp (disch := (first | decide | omega)) only [resVs, resV, go_sem, hA, hg1]) kO hR hB ⟨by rw [hbad (by unfold mtB; rw [hgd, q1, F (fun h => by have := h.2.2 q4; omega)]; rfl)]; rfl, rfl, rfl⟩
   have c5 := decide_eq_false q5
   simp (disch := (first | decide | omega)) only [hA, hg1, ht, c2, c3, c4, hi1, ht1, c5, go_sem]
   refine ⟨i + 1, ⟨hlt, fun j hj => ?_⟩, by simp only; omega, ?_⟩
   ·rcases Nat.lt_or_ge j i with hji | hji
    ·exact h0 j hji
    ·obtain rfl : j = i := by omega
     unfold mtB; rw [hgd, q1, decide_eq_true ⟨by omega, by omega, fun _ => by omega⟩]; rfl
   exact Weak.kround (p := r_nValid0) (k := 1) (by ((repeat refine (kAny_up rfl).trans ?_); exact hEE1)) (by ((try simp (disch := decide) only [hA, go_sem]) <;> exact kH)) rfl hE1 (by simp) kV hR kL
  ·have c4 : decide ((0 : Int) < (i : Int)) = false := decide_eq_false oM
   simp (disch := (first | decide | omega)) only [hA, hg1, ht, c2, c3, c4, go_sem]
   refine ⟨i + 1, ⟨hlt, fun j hj => ?_⟩, by simp only; omega, ?_⟩
   ·rcases Nat.lt_or_ge j i with hji | hji
    ·exact h0 j hji
    ·obtain rfl : j = i := by omega
     unfold mtB; rw [hgd, q1, decide_eq_true ⟨by omega, by omega, fun _ => by omega⟩]; rfl
   exact Weak.kround (p := r_nValid0) (k := 1) (by ((repeat refine (kAny_up rfl).trans ?_); exact hEE1)) (by ((try simp (disch := decide) only [hA, go_sem]) <;> exact kH)) rfl hE1 (by simp) kV hR kL
 ·obtain rfl : i = n.l.length := by omega
  simp (disch := (first | decide | omega)) only [hA, hg1, List.length_map, go_sem]
  exact leave_pure (xs := [.v (.bool true)]) (.inr rfl) (by simp (disch := (first | decide | omega)) only [resVs, resV, go_sem, hA, hg1]) kO hR hB ⟨by rw [hall, List.all_eq_true.2 (fun j hj => h0 j (List.mem_range.1 hj))]; rfl, rfl, rfl⟩
def a_ncop : AFunc := ⟨1,8,[.cell 2 (some 4)],(.seq (.region [⟨some 1,.box (.t 0),none⟩,⟨some 2,.alloc [(.v (.int .i64 0)),(.v (.int .i64 0)),(.v (.int .i64 0)),(.v .zsl)],none⟩]) (.seq (.region [⟨some 3,.faddr 3 (.t 1),none⟩,⟨some 4,.load none (.t 3),none⟩,⟨some 5,.call (.c (.fn 35 [])) [(.t 4)],none⟩,⟨some 6,.faddr 3 (.t 1),none⟩,⟨none,.store 1 (.t 6) (.t 5),none⟩]) (.seq (.region [⟨some 7,.load (some 4) (.t 1),none⟩,⟨none,.store 4 (.t 2) (.t 7),none⟩]) .ret)))⟩
theorem a_ncop_ok : cFunc Try.prog 22 = some a_ncop := by kernel_rfl
def a_nclone : AFunc := ⟨1,33,[.cell 2 (some 5)],(.seq (.region [⟨some 1,.box (.t 0),none⟩,⟨some 2,.alloc [(.v (.int .i64 0)),(.v (.bool false)),(.v .zsl),(.v .zsl),(.v .zsl)],none⟩]) (.seq (.draw [⟨0,⟨some 5,.faddr 3 (.t 1),none⟩,[]⟩,⟨1,⟨some 6,.load none (.t 5),none⟩,[]⟩,⟨3,⟨some 8,.faddr 4 (.t 1),none⟩,[]⟩,⟨4,⟨some 9,.load none (.t 8),none⟩,[]⟩,⟨6,⟨some 11,.faddr 2 (.t 1),none⟩,[]⟩,⟨7,⟨some 12,.load none (.t 11),none⟩,[]⟩,⟨2,⟨some 7,.call (.c (.fn 35 [])) [(.t 6)],none⟩,[⟨some 8,.faddr 4 (.t 1),none⟩,⟨some 9,.load none (.t 8),none⟩,⟨some 11,.faddr 2 (.t 1),none⟩,⟨some 12,.load none (.t 11),none⟩]⟩,⟨9,⟨some 14,.faddr 3 (.t 1),none⟩,[]⟩,⟨5,⟨some 10,.call (.c (.fn 19 [])) [(.t 9)],none⟩,[⟨some 11,.faddr 2 (.t 1),none⟩,⟨some 12,.load none (.t 11),none⟩,⟨some 14,.faddr 3 (.t 1),none⟩]⟩,⟨8,⟨some 13,.call (.c (.fn 36 [])) [(.t 12)],none⟩,[⟨some 14,.faddr 3 (.t 1),none⟩]⟩,⟨10,⟨none,.store 1 (.t 14) (.t 7),none⟩,[]⟩,⟨11,⟨some 15,.faddr 4 (.t 1),none⟩,[]⟩,⟨12,⟨none,.store 1 (.t 15) (.t 10),none⟩,[]⟩,⟨13,⟨some 16,.faddr 2 (.t 1),none⟩,[]⟩,⟨14,⟨none,.store 1 (.t 16) (.t 13),none⟩,[]⟩]) (.seq (.seq (.region [⟨some 17,.faddr 2 (.t 1),none⟩,⟨some 18,.load none (.t 17),none⟩,⟨some 19,.len (.t 18),none⟩,⟨some 20,.mv (.c (.v (.int .i64 0))),none⟩]) (.block 0 (.loop (.seq (.region [⟨some 21,.bin .lss (.t 20) (.t 19),none⟩]) (.seq (.cond (.t 21) .skip (.exit 0)) (.seq (.block 1 (.seq (.region [⟨some 22,.mv (.t 20),none⟩,⟨some 23,.iaddr 4 (.t 18) (.t 20),none⟩,⟨some 24,.load (some 4) (.t 23),none⟩,⟨some 4,.alloc [(.v (.int .i64 0)),(.v (.int .i64 0)),(.v (.int .i64 0)),(.v .zsl)],none⟩,⟨some 3,.mv (.t 22),none⟩,⟨none,.store 4 (.t 4) (.t 24),none⟩]) (.draw [⟨0,⟨some 25,.faddr 2 (.t 1),none⟩,[]⟩,⟨1,⟨some 26,.load none (.t 25),none⟩,[]⟩,⟨2,⟨some 27,.mv (.t 3),none⟩,[]⟩,⟨3,⟨some 28,.load (some 4) (.t 4),none⟩,[]⟩,⟨4,⟨some 29,.call (.c (.fn 22 [])) [(.t 28)],none⟩,[⟨some 25,.faddr 2 (.t 1),none⟩,⟨some 26,.load none (.t 25),none⟩,⟨some 27,.mv (.t 3),none⟩]⟩,⟨5,⟨some 30,.iaddr 4 (.t 26) (.t 27),none⟩,[]⟩,⟨6,⟨none,.store 4 (.t 30) (.t 29),none⟩,[]⟩]))) (.region [⟨some 31,.bin .add (.t 20) (.c (.v (.int .i64 1))),none⟩,⟨some 20,.mv (.t 31),none⟩]))))))) (.seq (.region [⟨some 32,.load (some 5) (.t 1),none⟩,⟨none,.store 5 (.t 2) (.t 32),none⟩]) .ret))))⟩
theorem a_nclone_ok : cFunc Try.prog 23 = some a_nclone := by kernel_rfl
def r_nclone0 : List (Nat × Nat) := [(3, 4), (20, 31)]

theorem leave_nil1 {e : List AV} {l : List Row} {rs : List ARes} {Q : AV → List Row → List Row → Prop} {B : List Row} {ex : AExit} (hex : ex = .normal ∨ ex = .ret) (V sz : Nat) (hx : resVs e B l rs = some [.v .zsl]) (hR : RowsLt B.length B) {b0 l0 : List Row} (hB : B = b0 ++ l0) (hq : Q (.sl B.length V 0 0) b0 (l0 ++ [.live V sz []])) :
  Leaves rs Q b0.length ex e B l := by
 refine leave hex hx (y := .sl B.length V 0 0) (l' := [.live V sz []]) ((Weak.trim (l1 := []) rfl (by intro x hx; simp [one] at hx; subst hx; exact .v _) (by simpa using hR) RowsLt_nil).trans ?_) hB hq
 have := Weak.nilV (b := B) (l := []) (sz := sz) V
 simpa [one] using this
def a_cloneN (sz bytes : Nat) (zs : List AV) : AFunc := ⟨1, 8, [.tmp 2],
 (.seq (.region [⟨(some 2), .mv (.c (.v .zsl)), none⟩])
 (.seq (.seq (.region [⟨(some 3), .mv (.t 0), none⟩, ⟨(some 4), .isnil false (.t 3), none⟩])
 (.cond (.t 4) (.seq (.region [⟨(some 2), .mv (.c (.v .zsl)), none⟩])
 .ret)
 .skip))
 (.seq (.region [⟨(some 5), .bslice sz zs 0 [], none⟩, ⟨(some 6), .mv (.t 0), none⟩, ⟨(some 7), .append sz bytes (.t 5) (.t 6), none⟩, ⟨(some 2), .mv (.t 7), none⟩])
 .ret)))⟩
theorem cloN_spec {P : Program} {f sz bytes : Nat} {zs : List AV} (hf : cFunc P f = some (a_cloneN sz bytes zs)) (hby : bytes ≤ 1000) (rows : List (List IV)) (hn : rows.length ≤ 1000000) (b l : List Row) :
  ACalls P f [.v (.isl sz rows)] b l (fun r b' l' => r = .sl (b.length + l.length) 1 0 rows.length ∧ b' = b ∧ l' = l ++ [.live 1 sz (vs rows)]) := by
 refine calls_kept hf rfl (by show 1 ≤ 8; decide) ?_
 intro B g hB hR hE hA; simp only [KArgs] at hA
 have hq : rows.length * bytes ≤ 1000000 * 1000 := Nat.mul_le_mul hn hby
 have hr : rows.length * bytes ≤ 140737488355328 := by omega
 have hr2 : rows.length ≤ 140737488355328 := by omega
 simp (disch := (first | decide | omega)) only [a_cloneN, hA, go_sem]
 refine ⟨fun h => ?_, ?_⟩
 ·have h0 : rows = [] := List.isEmpty_iff.1 h
  subst h0
  exact leave_nil1 (.inr rfl) 1 sz (by simp (disch := (first | decide | omega)) only [resVs, resV, hA, go_sem]) hR hB ⟨by rw [hB, List.length_append]; rfl, rfl, rfl⟩
 ·refine leave (.inr rfl) (xs := [.sl B.length 1 0 rows.length]) (y := .sl B.length 1 0 rows.length) (l' := [.live 1 sz (vs rows)]) (by simp (disch := (first | decide | omega)) only [resVs, resV, hA, go_sem]) (Weak.trim (l1 := [.live 1 sz (vs rows)]) (junk := []) rfl ?_ (hR.mono oM) ?_) hB ⟨by rw [hB, List.length_append], rfl, rfl⟩
  ·intro x hx
   simp [one] at hx
   subst hx
   simp (disch := omega) only [lts.down, Nat.reduceLT, Nat.reduceAdd]
  ·simp (disch := omega) only [lts.down, Nat.reduceLT, Nat.reduceAdd]
theorem cloI_spec (v : List Int) (hn : v.length ≤ 1000000) (b l : List Row) : ACalls Try.prog 35 [.v (.isl 1 (v.map eI))] b l (fun r b' l' => r = .sl (b.length + l.length) 1 0 v.length ∧ b' = b ∧ l' = l ++ [.live 1 1 (vs (v.map eI))]) := by
 have := cloN_spec (P := Try.prog) (f := 35) (sz := 1) (bytes := 8) (zs := [.v (.int .i64 0)]) (by kernel_rfl) (by decide) (v.map eI) (by simpa using hn) b l
 rwa [List.length_map] at this
theorem cloF_spec (v : List (Int × Int)) (hn : v.length ≤ 1000000) (b l : List Row) : ACalls Try.prog 19 [.v (.isl 2 (v.map eFt))] b l (fun r b' l' => r = .sl (b.length + l.length) 1 0 v.length ∧ b' = b ∧ l' = l ++ [.live 1 2 (vs (v.map eFt))]) := by
 have := cloN_spec (P := Try.prog) (f := 19) (sz := 2) (bytes := 16) (zs := [.v (.int .i64 0), .v (.int .i64 0)]) (by kernel_rfl) (by decide) (v.map eFt) (by simpa using hn) b l
 rwa [List.length_map] at this
theorem cloM_spec (v : List Ms) (hn : v.length ≤ 1000000) (b l : List Row) : ACalls Try.prog 36 [.v (.isl 4 (v.map eMs))] b l (fun r b' l' => r = .sl (b.length + l.length) 1 0 v.length ∧ b' = b ∧ l' = l ++ [.live 1 4 (vs (v.map eMs))]) := by
 have := cloN_spec (P := Try.prog) (f := 36) (sz := 4) (bytes := 48) (zs := [.v (.int .i64 0), .v (.int .i64 0), .v (.int .i64 0), .v .zsl]) (by kernel_rfl) (by decide) (v.map eMs) (by simpa using hn) b l
 rwa [List.length_map] at this
theorem ncop_spec (m : Ms) (hn : m.body.length ≤ 1000000) (b l : List Row) : ACalls Try.prog 22 [.agg [.v (.int .i64 m.fr), .v (.int .i64 m.to), .v (.int .i64 m.nu), .v (.isl 1 (m.body.map eI))]] b l
  (fun r b' l' => r = .agg [.v (.int .i64 m.fr), .v (.int .i64 m.to), .v (.int .i64 m.nu), .sl (b.length + l.length) 1 0 m.body.length] ∧ b' = b ∧ l' = l ++ [.live 1 1 (vs (m.body.map eI))]) := by
 refine calls_kept a_ncop_ok rfl (by decide) ?_
 intro B g hB hR hE hA; simp only [KArgs] at hA
 simp (disch := (first | decide | omega)) only [a_ncop, hA, go_sem]
 refine ACalls.nxt (cloI_spec m.body hn _ _) ?_
 simp (disch := (first | decide | omega)) only [hA, go_sem]
 refine leave_ren (.inr rfl) (xs := [.agg [.v (.int .i64 m.fr), .v (.int .i64 m.to), .v (.int .i64 m.nu), .sl (B.length + 2) 1 0 m.body.length]]) (y := .agg [.v (.int .i64 m.fr), .v (.int .i64 m.to), .v (.int .i64 m.nu), .sl B.length 1 0 m.body.length]) (l' := [.live 1 1 (vs (m.body.map eI))]) (by simp (disch := (first | decide | omega)) only [resVs, resV, hA, go_sem]) (m := 1) rfl (fun j => j + 2) (fun i j _ _ h => by omega) (fun j r' h => ?_) ?_ hR hB ⟨by rw [hB, List.length_append], rfl, rfl⟩
 ·match j, h with
  | 0, h => cases h; exact ⟨_, rfl, RnR.plain⟩
 ·rw [one_agg]
  exact Rn.aggL (.cons (.v _) (.cons (.v _) (.cons (.v _) (.cons (Rn.slE (j := 0) rfl (by simp)) .nil))))
structure Lv where
 now : Int
 fifo : Bool
 vL : Nat
 vA : Nat
 o : Nat
 xs : List (Ms × Nat)
 tm : List Int
 fs : List (Int × Int)
 bd : List (List Int)
def lvE (base : Nat) (x : Ms × Nat) : List AV := [.v (.int .i64 x.1.fr), .v (.int .i64 x.1.to), .v (.int .i64 x.1.nu), .sl (base + (3 + x.2)) 1 0 x.1.body.length]
def bdR (v : List Int) : Row := .live 1 1 (vs (v.map eI))
def Lv.av (z : Lv) (base : Nat) : AV := .agg [.v (.int .i64 z.now), .v (.bool z.fifo), .sl base z.vL 0 z.xs.length, .sl (base + 1) z.vA 0 z.tm.length, .sl (base + 2) 1 z.o (z.fs.length - z.o)]
def Lv.rows (z : Lv) (base : Nat) : List Row := .live z.vL 4 (z.xs.map (lvE base)) :: .live z.vA 1 (vs (z.tm.map eI)) :: .live 1 2 (vs (z.fs.map eFt)) :: z.bd.map bdR
structure Lv.ok (z : Lv) : Prop where
 o : z.o ≤ z.fs.length
 bd : ∀ x ∈ z.xs, z.bd[x.2]? = some x.1.body
def Lv.nw (z : Lv) : Nw := ⟨z.now, z.fifo, z.xs.map (·.1), z.tm, z.fs.drop z.o⟩
theorem Lv.dv {z : Lv} (h : z.ok) (base : Nat) : Dv base (z.rows base) (z.av base) (.agg ((eNw z.nw).map .v)) := by
 unfold Lv.av Lv.rows eNw Lv.nw
 refine Dv.aggL (.cons (.v _) (.cons (.v _) (.cons ?_ (.cons ?_ (.cons ?_ .nil)))))
 ·refine Dv.slR (i := 0) rfl (by simp) (by simp) (fun k r row h1 h2 => ?_)
  rw [Nat.zero_add, List.getElem?_map] at h1
  rw [List.getElem?_map, List.getElem?_map] at h2
  cases hq : z.xs[k]? with
  | none => rw [hq] at h1; cases h1
  | some x =>
    rw [hq] at h1 h2
    cases h1; cases h2
    have hb := h.bd x (List.mem_of_getElem? hq)
    unfold lvE eMs
    refine .cons (.v _) (.cons (.v _) (.cons (.v _) (.cons ?_ .nil)))
    refine Dv.slV (i := 3 + x.2) (rows := x.1.body.map eI) ?_ (by simp)
    rw [Nat.add_comm 3]
    simp only [List.getElem?_cons_succ, List.getElem?_map, hb]
    rfl
 ·exact Dv.slV (i := 1) (rows := z.tm.map eI) rfl (by simp)
 ·have := Dv.slVoff (n := base) (l := .live z.vL 4 (z.xs.map (lvE base)) :: .live z.vA 1 (vs (z.tm.map eI)) :: .live 1 2 (vs (z.fs.map eFt)) :: z.bd.map bdR) (i := 2) (ver := 1) (sz := 2) (off := z.o) (len := z.fs.length - z.o) (rows := z.fs.map eFt) rfl (by have := h.o; simp; omega)
  rwa [← List.map_drop] at this
def clE (n : Nw) (base i : Nat) : List (List AV) := fl n.l.length fun j => if j < i then [.v (.int .i64 (n.l.getD j dfMs).fr), .v (.int .i64 (n.l.getD j dfMs).to), .v (.int .i64 (n.l.getD j dfMs).nu), .sl (base + (5 + j)) 1 0 (n.l.getD j dfMs).body.length] else (eMs (n.l.getD j dfMs)).map .v
def clB (n : Nw) (j : Nat) : Row := bdR (n.l.getD j dfMs).body
theorem clE_zero {n : Nw} {base : Nat} : clE n base 0 = vs (n.l.map eMs) := by
 unfold clE vs
 apply List.ext_getElem?
 intro j
 by_cases hj : j < n.l.length
 ·rw [fl_get hj, List.getElem?_map, List.getElem?_map, List.getElem?_eq_getElem hj, if_neg oM, getD_at hj]; rfl
 ·rw [fl_none oM, List.getElem?_eq_none (by simp; omega)]
def clone0 (n : Nw) : Lv := ⟨n.now, n.fifo, 1, 1, 0, fl n.l.length (fun i => (n.l.getD i dfMs, i)), n.tm, n.fates, n.l.map (·.body)⟩
theorem clone0_ok (n : Nw) : (clone0 n).ok := by
 refine ⟨Nat.zero_le _, fun x hx => ?_⟩
 obtain ⟨i, hi, rfl⟩ := List.mem_map.1 hx
 have hi := List.mem_range.1 hi
 show (n.l.map (·.body))[i]? = _
 rw [List.getElem?_map, List.getElem?_eq_getElem hi, getD_at hi]; rfl
theorem clone0_nw (n : Nw) : (clone0 n).nw = n := by
 have h : (clone0 n).xs.map (·.1) = n.l := by
  show (fl n.l.length fun i => (n.l.getD i dfMs, i)).map (·.1) = n.l
  rw [fl_map]; exact fl_list
 unfold Lv.nw
 rw [h]; rfl
set_option maxRecDepth 20000 in
set_option maxHeartbeats 4000000 in
theorem nclone_spec (n : Nw) (hS : NwS n) (b l : List Row) : ACalls Try.prog 23 [.agg ((eNw n).map .v)] b l
  (fun r b' l' => r = (clone0 n).av (b.length + l.length) ∧ b' = b ∧ l' = l ++ (clone0 n).rows (b.length + l.length)) := by
 refine calls_kept a_nclone_ok rfl (by decide) ?_
 intro B g hB hR hE hA; simp only [KArgs] at hA
 have hnl := hS.l
 simp (disch := (first | decide | omega)) only [a_nclone, hA, eNw, go_sem]
 refine ACalls.nxt (cloI_spec n.tm hS.tm _ _) ?_
 simp (disch := (first | decide | omega)) only [hA, go_sem]
 refine ACalls.nxt (cloF_spec n.fates hS.fates _ _) ?_
 simp (disch := (first | decide | omega)) only [hA, go_sem]
 refine ACalls.nxt (cloM_spec n.l hS.l _ _) ?_
 simp (disch := (first | decide | omega)) only [hA, go_sem]
 have hz := clE_zero (n := n) (base := B.length)
 refine loop_kept (ι := Nat) r_nclone0 (fun i => [(20, .v (.int .i64 i))]) 5 (fun i => .live 0 5 [[.v (.int .i64 n.now), .v (.bool n.fifo), .sl (B.length + 4) 1 0 n.l.length, .sl (B.length + 2) 1 0 n.tm.length, .sl (B.length + 3) 1 0 n.fates.length]] :: .live 0 5 [[.v (.int .i64 0), .v (.bool false), .v .zsl, .v .zsl, .v .zsl]] :: .live 1 1 (vs (n.tm.map eI)) :: .live 1 2 (vs (n.fates.map eFt)) :: .live 1 4 (clE n B.length i) :: fl i (clB n))
  (fun i => i ≤ n.l.length) (fun i => n.l.length - i) 0 (Nat.zero_le _) (by (repeat (first | exact hE.mono oM | refine KLt.up ?_ kL))) (by ((try simp (disch := decide) only [hA, go_sem]) <;> exact kH)) (fun e => by rw [hz]; exact Weak.refl _ _ _) ?_
 intro g1 hE1 hEE1 hg1 i hi
 by_cases hlt : i < n.l.length
 ·have hge : (clE n B.length i)[i]? = some [.v (.int .i64 n.l[i].fr), .v (.int .i64 n.l[i].to), .v (.int .i64 n.l[i].nu), .v (.isl 1 (n.l[i].body.map eI))] := by
   unfold clE
   rw [fl_get hlt, if_neg oM, getD_at hlt]; rfl
  simp (disch := (first | decide | omega)) only [hA, hg1, hge, fl_len, fz_tail0, fz_tail, fz_settail0, fz_settail, go_sem]
  refine ACalls.nxt (ncop_spec n.l[i] (hS.body _ (List.getElem_mem hlt)) _ _) ?_
  simp (disch := (first | decide | omega)) only [hA, hg1, hge, fl_len, fz_tail0, fz_tail, fz_settail0, fz_settail, setFrom, cellsOf, go_sem]
  refine ⟨i + 1, hlt, by simp only; omega, ?_⟩
  obtain ⟨σ, s1, s2⟩ : ∃ σ : Nat → Nat, (∀ j, j < 5 + i → σ j = j) ∧ (∀ j, 5 + i ≤ j → σ j = j + 1) := ⟨fun j => if j < 5 + i then j else j + 1, fun j h => if_pos h, fun j h => if_neg oM⟩
  refine Weak.kren (p := r_nclone0) (k := 5) (m := i + 6) (by simp [fl_len]) σ (by ((repeat refine (kAny_up rfl).trans ?_); exact hEE1)) (by ((try simp (disch := decide) only [hA, hg1, go_sem]) <;> exact kH)) hE1 oM (fun j hj => s1 j oM) kV hR (fun a c _ _ h => ?_) (fun j r' h => ?_)
  ·by_cases ha : a < 5 + i <;> by_cases hc : c < 5 + i
   ·rw [s1 a ha, s1 c hc] at h; exact h
   ·rw [s1 a ha, s2 c oM] at h; omega
   ·rw [s2 a oM, s1 c hc] at h; omega
   ·rw [s2 a oM, s2 c oM] at h; omega
  ·match j, h with
   | 0, h => rw [s1 0 oM]; cases h; exact ⟨_, rfl, RnR.rnK (k := 5) (fun j hj => s1 j oM) oM kL⟩
   | 1, h => rw [s1 1 oM]; cases h; exact ⟨_, rfl, RnR.rnK (k := 5) (fun j hj => s1 j oM) oM kL⟩
   | 2, h => rw [s1 2 oM]; cases h; exact ⟨_, rfl, RnR.plain⟩
   | 3, h => rw [s1 3 oM]; cases h; exact ⟨_, rfl, RnR.plain⟩
   | 4, h =>
     rw [s1 4 oM]; cases h
     refine ⟨_, rfl, rfl, rfl, by unfold clE; rw [List.length_set, fl_len, fl_len], fun k r r' h1 h2 => ?_⟩
     by_cases hk : k < n.l.length
     ·unfold clE at h2
      rw [fl_get hk] at h2
      by_cases hki : i = k
      ·subst hki
       rw [List.getElem?_set_self (by unfold clE; rw [fl_len]; exact hk)] at h1
       rw [if_pos oM, getD_at hk] at h2
       cases h1; cases h2
       exact .cons (.v _) (.cons (.v _) (.cons (.v _) (.cons (Rn.slE (j := 5 + i) (by rw [s2 _ (Nat.le_refl _)]; omega) oM) .nil)))
      ·rw [List.getElem?_set_ne hki] at h1
       unfold clE at h1
       rw [fl_get hk] at h1
       by_cases hlk : k < i
       ·rw [if_pos hlk] at h1
        rw [if_pos oM] at h2
        cases h1; cases h2
        exact .cons (.v _) (.cons (.v _) (.cons (.v _) (.cons (Rn.slE (s1 _ oM) oM) .nil)))
       ·rw [if_neg hlk] at h1
        rw [if_neg oM] at h2
        cases h1; cases h2
        exact RnL.plain
     ·unfold clE at h2
      rw [fl_none oM] at h2; cases h2
   | j + 5, h =>
     have h : (fl (i + 1) (clB n))[j]? = some r' := h
     by_cases hj : j < i
     ·rw [s1 _ oM]
      rw [fl_get oM] at h; cases h
      exact ⟨clB n j, by simp only [List.getElem?_cons_succ]; exact fz_at hj, RnR.plain⟩
     ·have hji : j = i := by
       have := (List.getElem?_eq_some_iff.1 h).1
       rw [fl_len] at this; omega
      subst hji
      rw [fl_get oM] at h; cases h
      rw [s2 _ oM]
      refine ⟨clB n j, ?_, RnR.plain⟩
      simp only [List.getElem?_cons_succ]
      rw [fz_tail]
      unfold clB bdR
      rw [getD_at hlt]; rfl
 ·obtain rfl : i = n.l.length := by omega
  simp (disch := (first | decide | omega)) only [hA, hg1, go_sem]
  obtain ⟨σ, s0, s1, s2, s3⟩ : ∃ σ : Nat → Nat, σ 0 = 4 ∧ σ 1 = 2 ∧ σ 2 = 3 ∧ (∀ j, σ (j + 3) = j + 5) := ⟨fun j => if j = 0 then 4 else if j = 1 then 2 else if j = 2 then 3 else j + 2, rfl, rfl, rfl, fun j => by simp only; rw [if_neg oM, if_neg oM, if_neg oM]⟩
  refine leave_ren (.inr rfl) (xs := [.agg [.v (.int .i64 n.now), .v (.bool n.fifo), .sl (B.length + 4) 1 0 n.l.length, .sl (B.length + 2) 1 0 n.tm.length, .sl (B.length + 3) 1 0 n.fates.length]]) (y := (clone0 n).av B.length) (l' := (clone0 n).rows B.length) (by simp (disch := (first | decide | omega)) only [resVs, resV, hA, hg1, go_sem]) (m := n.l.length + 3) (by simp [Lv.rows, clone0]) σ (fun a c _ _ h => ?_) (fun j r' h => ?_) ?_ hR hB ⟨by rw [hB, List.length_append], rfl, by rw [hB, List.length_append]⟩
  ·match a, c, h with
   | 0, 0, _ => rfl
   | 0, 1, h => rw [s0, s1] at h; omega
   | 0, 2, h => rw [s0, s2] at h; omega
   | 0, c + 3, h => rw [s0, s3] at h; omega
   | 1, 0, h => rw [s0, s1] at h; omega
   | 1, 1, _ => rfl
   | 1, 2, h => rw [s1, s2] at h; omega
   | 1, c + 3, h => rw [s1, s3] at h; omega
   | 2, 0, h => rw [s0, s2] at h; omega
   | 2, 1, h => rw [s1, s2] at h; omega
   | 2, 2, _ => rfl
   | 2, c + 3, h => rw [s2, s3] at h; omega
   | a + 3, 0, h => rw [s0, s3] at h; omega
   | a + 3, 1, h => rw [s1, s3] at h; omega
   | a + 3, 2, h => rw [s2, s3] at h; omega
   | a + 3, c + 3, h => rw [s3, s3] at h; omega
  ·match j, h with
   | 0, h =>
     rw [s0]; cases h
     refine ⟨_, rfl, rfl, rfl, by unfold clE clone0; rw [List.length_map, fl_len, fl_len], fun k r r' h1 h2 => ?_⟩
     rw [List.getElem?_map] at h2
     have hx : (clone0 n).xs = fl n.l.length (fun i => (n.l.getD i dfMs, i)) := rfl
     rw [hx] at h2
     by_cases hk : k < n.l.length
     ·unfold clE at h1
      rw [fl_get hk, if_pos hk] at h1
      rw [fl_get hk] at h2
      cases h1; cases h2
      exact .cons (.v _) (.cons (.v _) (.cons (.v _) (.cons (Rn.slE (by rw [Nat.add_comm 3, s3]; omega) (by simp only; omega)) .nil)))
     ·rw [fl_none oM] at h2; cases h2
   | 1, h => rw [s1]; cases h; exact ⟨_, rfl, RnR.plain⟩
   | 2, h => rw [s2]; cases h; exact ⟨_, rfl, RnR.plain⟩
   | j + 3, h =>
     rw [s3]
     have h : ((n.l.map (·.body)).map bdR)[j]? = some r' := h
     rw [List.map_map, List.getElem?_map] at h
     have hj : j < n.l.length := by
      cases hq : n.l[j]? with
      | none => rw [hq] at h; cases h
      | some x => exact (List.getElem?_eq_some_iff.1 hq).1
     rw [List.getElem?_eq_getElem hj] at h
     cases h
     refine ⟨clB n j, ?_, ?_⟩
     ·simp only [List.getElem?_cons_succ]; exact fl_get hj
     ·unfold clB; rw [getD_at hj]; exact RnR.plain
  ·rw [one_agg]
   unfold Lv.av
   have hxl : (clone0 n).xs.length = n.l.length := fl_len
   rw [hxl]
   exact Rn.aggL (.cons (.v _) (.cons (.v _) (.cons (Rn.slE (j := 0) s0 oM) (.cons (Rn.slE (j := 1) s1 oM) (.cons (Rn.slE (j := 2) s2 oM) .nil)))))
end Go.Proofs.Ytpkemmchpccjdaa
