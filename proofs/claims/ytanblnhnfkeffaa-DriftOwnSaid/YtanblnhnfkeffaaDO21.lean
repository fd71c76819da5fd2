/- Texts of one proof, laid together: YE. No condition. -/
import Derived.Test.YtanblnhnfkeffaaDO20
import Derived.Test.YtanblnhnfkeffaaDO18
import Derived.Test.YtanblnhnfkeffaaDO12
import Derived.Test.YtanblnhnfkeffaaDO13
namespace Go.Proofs.Ytanblnhnfkeffaa
set_option linter.unusedVariables false
set_option linter.unusedSimpArgs false
attribute [local go_sem ↓] run_skip run_region run_draw run_both run_seq run_block run_exit run_ret run_cond atN_app seqC_normal seqC_exit seqC_ret seqQ_normal seqQ_exit seqQ_ret blkQ_normal blkQ_exit blkQ_ret runOps_nil runOps_cons runD_nil runD_cons grdO_true grdO_false grdD_true grdD_false ifC_true ifC_false opS_val opS_call opS_two opK_app dS_val dS_call dS_two dK_app kUp_same kUp_ne
attribute [local go_sem] rechks_nil rechks_cons rechk gcase_true gcase_false ex_val ex_val0 gd_none gd_some ev_t ev_c evs_nil evs_cons evo_some evo_none hget_at hget_first hsetB_at hsetB_first hsetL_at hsetL_first ofOpt_some aop aload astore aslice aappend aiaddr aiaddrA afaddr alen alenS acopy amm acall alookup amupdate alenM atostr comma keyEq apick binV binVB binVS isSh intOp strOp boolOp shOp eqC eqF and2 cellsOf setFrom fillA fillS rd rdI elems mk bounds AV.cell List.all_cons List.all_nil Bool.and_true Bool.true_and Bool.and_self List.length_cons List.length_nil List.length_append Nat.reduceAdd Nat.reduceSub Nat.reduceMul Nat.zero_add Nat.add_zero List.cons_append List.nil_append List.append_assoc List.append_nil List.getElem?_cons_zero List.getElem?_cons_succ List.getElem?_nil List.set_cons_zero List.set_cons_succ List.drop_zero List.drop_succ_cons List.take_zero List.take_succ_cons List.take_nil List.drop_nil List.map_cons List.map_nil Option.map_some if_true if_false Bool.false_eq_true and_self true_and and_true Nat.reduceLeDiff Nat.reduceLT Nat.le_refl Nat.reduceEqDiff ite_true ite_false beq_self_eq_true beq_true beq_false Bool.not_true Bool.not_false Bool.true_beq Bool.false_beq map_vs vs_len vs_get vs_take vs_drop vs_snoc1 vs_snoc2 vs_snoc3 vs_snoc5 vs_set1 vs_set2 vs_rep wrap_id le_T lt_T le_F lt_F leI_T ltI_T leI_F ltI_F geI gtI get_T decide_true decide_false room List.getElem?_map List.length_map List.length_take Int.toNat_natCast Nat.min_def Nat.min_self nth_kOf put_kOf put_kNo kOv_cons kOv_nil KHas KArgs List.getElem_cons_zero List.getElem_cons_succ
def a_Eq22 : AFunc := ⟨2,26,[.tmp 4],(.seq (.region [⟨some 4,.mv (.c (.v (.bool false))),none⟩]) (.seq (.seq (.region [⟨some 6,.mv (.t 0),none⟩,⟨some 7,.len (.t 6),none⟩,⟨some 8,.mv (.t 1),none⟩,⟨some 9,.len (.t 8),none⟩,⟨some 10,.bin .neq (.t 7) (.t 9),none⟩]) (.cond (.t 10) (.seq (.region [⟨some 4,.mv (.c (.v (.bool false))),none⟩]) .ret) .skip)) (.seq (.seq (.region [⟨some 11,.mv (.t 0),none⟩,⟨some 12,.len (.t 11),none⟩,⟨some 13,.mv (.c (.v (.int .i64 0))),none⟩]) (.block 0 (.loop (.seq (.region [⟨some 14,.bin .lss (.t 13) (.t 12),none⟩]) (.seq (.cond (.t 14) .skip (.exit 0)) (.seq (.block 1 (.seq (.region [⟨some 15,.mv (.t 13),none⟩,⟨some 5,.mv (.t 15),none⟩]) (.seq (.draw [⟨0,⟨some 16,.mv (.t 0),none⟩,[]⟩,⟨1,⟨some 17,.mv (.t 5),none⟩,[]⟩,⟨2,⟨some 18,.iaddr 2 (.t 16) (.t 17),none⟩,[]⟩,⟨3,⟨some 19,.load (some 2) (.t 18),none⟩,[]⟩,⟨4,⟨some 20,.mv (.t 1),none⟩,[]⟩,⟨5,⟨some 21,.mv (.t 5),none⟩,[]⟩,⟨6,⟨some 22,.iaddr 2 (.t 20) (.t 21),none⟩,[]⟩,⟨7,⟨some 23,.load (some 2) (.t 22),none⟩,[]⟩,⟨8,⟨some 24,.eqs true [.i,.i] (.t 19) (.t 23),none⟩,[]⟩]) (.cond (.t 24) (.seq (.region [⟨some 4,.mv (.c (.v (.bool false))),none⟩]) .ret) .skip)))) (.region [⟨some 25,.bin .add (.t 13) (.c (.v (.int .i64 1))),none⟩,⟨some 13,.mv (.t 25),none⟩]))))))) (.seq (.region [⟨some 4,.mv (.c (.v (.bool true))),none⟩]) .ret))))⟩
theorem a_Eq22_ok : cFunc Try.prog 118 = some a_Eq22 := by kernel_rfl
def r_Eq220 : List (Nat × Nat) := [(4, 5), (13, 25)]

theorem eq22_refl (t : Tr) (bn : Bn) (p n : Nat) (hn : n ≤ 1000000) (b l : List Row) : ACalls Try.prog 118 [.v (.isl 2 (tiR t bn p n)), .v (.isl 2 (tiR t bn p n))] b l (fun r b' l' => r = .v (.bool true) ∧ b' = b ∧ l' = l) := by
 refine calls_kept a_Eq22_ok rfl (by decide) ?_
 intro B g hB hR hE hA
 simp only [KArgs] at hA
 have trl : (tiR t bn p n).length = n := fl_len
 have hd : ((n : Int) != (n : Int)) = false := by simp
 simp (disch := (first | decide | omega)) only [a_Eq22, hA, trl, hd, go_sem]
 refine loop_kept (ι := Nat) r_Eq220 (fun i => [(13, .v (.int .i64 i))]) 0 (fun _ => [])
  (fun i => i ≤ n) (fun i => n - i) 0 (Nat.zero_le _) (by (repeat (first | exact hE.mono oM | refine KLt.up ?_ kL))) (by ((try simp (disch := decide) only [hA, go_sem]) <;> exact kH)) (fun e => Weak.refl _ _ _) ?_
 intro g1 hE1 hEE1 hg1 i hi
 by_cases hlt : i < n
 ·have gl : (tiR t bn p n)[i]? = some [.int .i64 (loN t bn (evN t p + i)), .int .i64 (hiN t bn (evN t p + i))] := fl_get hlt
  have hd2 : ((loN t bn (evN t p + i) == loN t bn (evN t p + i)) && (hiN t bn (evN t p + i) == hiN t bn (evN t p + i))) = true := by simp
  simp (disch := (first | decide | omega)) only [hA, hg1, trl, gl, hd2, go_sem]
  refine ⟨i + 1, hlt, by simp only; omega, ?_⟩
  exact Weak.kround (p := r_Eq220) (k := 0) (by ((repeat refine (kAny_up rfl).trans ?_); exact hEE1)) (by ((try simp (disch := decide) only [hA, go_sem]) <;> exact kH)) rfl hE1 (by simp) kV hR kL
 ·obtain rfl : i = n := by omega
  simp (disch := (first | decide | omega)) only [hA, hg1, trl, go_sem]
  exact leave_pure (xs := [.v (.bool true)]) (.inr rfl) (by simp (disch := (first | decide | omega)) only [resVs, resV, go_sem, hA, hg1]) kO hR hB ⟨rfl, rfl, rfl⟩
end Go.Proofs.Ytanblnhnfkeffaa
