/- Texts of one proof, laid together: YG. No condition. -/
import Derived.Test.YtanblnhnfkeffaaD311
namespace Go.Proofs.Ytanblnhnfkeffaa
set_option linter.unusedVariables false
set_option linter.unusedSimpArgs false
attribute [local go_sem ↓] run_skip run_region run_draw run_both run_seq run_block run_exit run_ret run_cond atN_app seqC_normal seqC_exit seqC_ret seqQ_normal seqQ_exit seqQ_ret blkQ_normal blkQ_exit blkQ_ret runOps_nil runOps_cons runD_nil runD_cons grdO_true grdO_false grdD_true grdD_false ifC_true ifC_false opS_val opS_call opS_two opK_app dS_val dS_call dS_two dK_app kUp_same kUp_ne
attribute [local go_sem] rechks_nil rechks_cons rechk gcase_true gcase_false ex_val ex_val0 gd_none gd_some ev_t ev_c evs_nil evs_cons evo_some evo_none hget_at hget_first hsetB_at hsetB_first hsetL_at hsetL_first ofOpt_some aop aload astore aslice aappend aiaddr aiaddrA afaddr alen alenS acopy amm acall alookup amupdate alenM atostr comma keyEq apick binV binVB binVS isSh intOp strOp boolOp shOp eqC eqF and2 cellsOf setFrom fillA fillS rd rdI elems mk bounds AV.cell List.all_cons List.all_nil Bool.and_true Bool.true_and Bool.and_self List.length_cons List.length_nil List.length_append Nat.reduceAdd Nat.reduceSub Nat.reduceMul Nat.zero_add Nat.add_zero List.cons_append List.nil_append List.append_assoc List.append_nil List.getElem?_cons_zero List.getElem?_cons_succ List.getElem?_nil List.set_cons_zero List.set_cons_succ List.drop_zero List.drop_succ_cons List.take_zero List.take_succ_cons List.take_nil List.drop_nil List.map_cons List.map_nil Option.map_some if_true if_false Bool.false_eq_true and_self true_and and_true Nat.reduceLeDiff Nat.reduceLT Nat.le_refl Nat.reduceEqDiff ite_true ite_false beq_self_eq_true beq_true beq_false Bool.not_true Bool.not_false Bool.true_beq Bool.false_beq map_vs vs_len vs_get vs_take vs_drop vs_snoc1 vs_snoc2 vs_snoc3 vs_snoc5 vs_set1 vs_set2 vs_rep wrap_id le_T lt_T le_F lt_F leI_T ltI_T leI_F ltI_F geI gtI get_T decide_true decide_false room List.getElem?_map List.length_map List.length_take Int.toNat_natCast Nat.min_def Nat.min_self nth_kOf put_kOf put_kNo kOv_cons kOv_nil KHas KArgs List.getElem_cons_zero List.getElem_cons_succ
def a_IndM : AFunc := ⟨2,19,[.tmp 4],(.seq (.region [⟨some 4,.mv (.c (.v (.int .i64 0))),none⟩]) (.seq (.seq (.region [⟨some 6,.mv (.t 0),none⟩,⟨some 7,.len (.t 6),none⟩,⟨some 8,.mv (.c (.v (.int .i64 0))),none⟩]) (.block 0 (.loop (.seq (.region [⟨some 9,.bin .lss (.t 8) (.t 7),none⟩]) (.seq (.cond (.t 9) .skip (.exit 0)) (.seq (.block 1 (.seq (.region [⟨some 10,.mv (.t 8),none⟩,⟨some 5,.mv (.t 10),none⟩]) (.seq (.region [⟨some 11,.mv (.t 1),none⟩,⟨some 12,.mv (.t 0),none⟩,⟨some 13,.mv (.t 5),none⟩,⟨some 14,.iaddr 1 (.t 12) (.t 13),none⟩,⟨some 15,.load none (.t 14),none⟩,⟨some 16,.call (.t 11) [(.t 15)],none⟩]) (.cond (.t 16) (.seq (.region [⟨some 17,.mv (.t 5),none⟩,⟨some 4,.mv (.t 17),none⟩]) .ret) .skip)))) (.region [⟨some 18,.bin .add (.t 8) (.c (.v (.int .i64 1))),none⟩,⟨some 8,.mv (.t 18),none⟩]))))))) (.seq (.region [⟨some 4,.mv (.c (.v (.int .i64 (-1)))),none⟩]) .ret)))⟩
theorem a_IndM_ok : cFunc Try.prog 121 = some a_IndM := by kernel_rfl
def r_IndM0 : List (Nat × Nat) := [(4, 5), (8, 18)]
def a_ConM : AFunc := ⟨2,9,[.tmp 4],(.seq (.region [⟨some 4,.mv (.c (.v (.bool false))),none⟩]) (.seq (.region [⟨some 5,.mv (.t 0),none⟩,⟨some 6,.mv (.t 1),none⟩,⟨some 7,.call (.c (.fn 121 [])) [(.t 5),(.t 6)],none⟩,⟨some 8,.bin .geq (.t 7) (.c (.v (.int .i64 0))),none⟩,⟨some 4,.mv (.t 8),none⟩]) .ret))⟩
theorem a_ConM_ok : cFunc Try.prog 49 = some a_ConM := by kernel_rfl
def a_dgE : AFunc := ⟨1,6,[.tmp 2],(.seq (.region [⟨some 2,.mv (.c (.v (.bool false))),none⟩]) (.seq (.region [⟨some 3,.mv (.t 0),none⟩,⟨some 4,.len (.t 3),none⟩,⟨some 5,.bin .gtr (.t 4) (.c (.v (.int .i64 40))),none⟩,⟨some 2,.mv (.t 5),none⟩]) .ret))⟩
theorem a_dgE_ok : cFunc Try.prog 60 = some a_dgE := by kernel_rfl
def a_dgC : AFunc := ⟨1,6,[.tmp 2],(.seq (.region [⟨some 2,.mv (.c (.v (.bool false))),none⟩]) (.seq (.region [⟨some 3,.mv (.t 0),none⟩,⟨some 4,.len (.t 3),none⟩,⟨some 5,.bin .gtr (.t 4) (.c (.v (.int .i64 40))),none⟩,⟨some 2,.mv (.t 5),none⟩]) .ret))⟩
theorem a_dgC_ok : cFunc Try.prog 69 = some a_dgC := by kernel_rfl

theorem indexM_spec (v : List (List Int)) (k : Nat) (caps : List AV) (p : Nat → Bool) (hn : v.length ≤ 1000000) (b l : List Row)
  (hp : ∀ (i : Nat) (h : i < v.length), ACalls Try.prog k (.v (.isl 1 (v[i].map eI)) :: caps) (b ++ l) [] (fun r b' l' => r = .v (.bool (p i)) ∧ b' = b ++ l ∧ l' = [])) :
  ACalls Try.prog 121 [.v (.isl 1 (v.map eRw)), .fn k caps] b l (fun r b' l' => r = .v (.int .i64 (firstP p v.length)) ∧ b' = b ∧ l' = l) := by
 refine calls_kept a_IndM_ok rfl (by decide) ?_
 intro B g hB hR hE hA
 simp only [KArgs] at hA
 simp (disch := decide) only [a_IndM, hA, List.length_map, go_sem]
 refine loop_kept (ι := Nat) r_IndM0 (fun i => [(8, .v (.int .i64 i))]) 0 (fun _ => [])
  (fun i => i ≤ v.length ∧ ∀ j, j < i → p j = false) (fun i => v.length - i) 0 ⟨Nat.zero_le _, fun j hj => by omega⟩ (by (repeat (first | exact hE.mono oM | refine KLt.up ?_ kL))) (by ((try simp (disch := decide) only [hA, go_sem]) <;> exact kH)) (fun e => Weak.refl _ _ _) ?_
 rintro g1 hE1 hEE1 hg1 i ⟨hi, h0⟩
 by_cases hlt : i < v.length
 ·have hpi0 := hp i hlt
  try simp only [ List.map_cons, List.map_nil] at hpi0
  simp (disch := (first | decide | omega)) only [hA, hg1, eRw, List.length_map, go_sem]
  refine ACalls_mono _ _ _ _ _ _ (hB ▸ hpi0) ?_
  rintro r b' l' ⟨rfl, rfl, rfl⟩
  cases hpi : p i
  ·simp (disch := (first | decide | omega)) only [hA, hg1, hpi, go_sem]
   refine ⟨i + 1, ⟨hlt, fun j hj => ?_⟩, by simp only; omega, ?_⟩
   ·rcases Nat.lt_or_ge j i with hji | hji
    ·exact h0 j hji
    ·have : j = i := by omega
     rw [this]; exact hpi
   exact Weak.kround (p := r_IndM0) (k := 0) (by ((repeat refine (kAny_up rfl).trans ?_); exact hEE1)) (by ((try simp (disch := decide) only [hA, go_sem]) <;> exact kH)) rfl hE1 (by simp) kV hR kL
  ·simp (disch := (first | decide | omega)) only [hA, hg1, hpi, go_sem]
   exact leave_pure (xs := [.v (.int .i64 i)]) (.inr rfl) (by simp (disch := (first | decide | omega)) only [resVs, resV, go_sem, hA, hg1]) kO hR hB ⟨by rw [firstP_at hlt h0 hpi]; rfl, rfl, rfl⟩
 ·simp (disch := (first | decide | omega)) only [hA, hg1, List.length_map, go_sem]
  obtain rfl : i = v.length := by omega
  exact leave_pure (xs := [.v (.int .i64 (-1))]) (.inr rfl) (by simp (disch := (first | decide | omega)) only [resVs, resV, go_sem, hA, hg1]) kO hR hB ⟨by rw [firstP_none h0]; rfl, rfl, rfl⟩
theorem containsM_spec (v : List (List Int)) (k : Nat) (caps : List AV) (p : Nat → Bool) (hn : v.length ≤ 1000000) (b l : List Row)
  (hp : ∀ (i : Nat) (h : i < v.length), ACalls Try.prog k (.v (.isl 1 (v[i].map eI)) :: caps) (b ++ l) [] (fun r b' l' => r = .v (.bool (p i)) ∧ b' = b ++ l ∧ l' = [])) :
  ACalls Try.prog 49 [.v (.isl 1 (v.map eRw)), .fn k caps] b l (fun r b' l' => r = .v (.bool ((List.range v.length).any p)) ∧ b' = b ∧ l' = l) := by
 refine calls_kept a_ConM_ok rfl (by decide) ?_
 intro B g hB hR hE hA
 simp only [KArgs] at hA
 simp (disch := decide) only [a_ConM, hA, go_sem]
 refine ACalls.nxt (indexM_spec v k caps p hn B [] (by rw [List.append_nil, hB]; exact hp)) ?_
 simp (disch := decide) only [hA, go_sem]
 exact leave_pure (xs := [.v (.bool (decide (0 ≤ firstP p v.length)))]) (.inr rfl) (by simp (disch := (first | decide | omega)) only [resVs, resV, go_sem, hA]) kO hR hB ⟨by rw [firstP_ge]; rfl, rfl, rfl⟩

theorem dgE_spec (r : List Int) (b l : List Row) : ACalls Try.prog 60 [.v (.isl 1 (r.map eI))] b l (fun y b' l' => y = .v (.bool (decide (40 < r.length))) ∧ b' = b ∧ l' = l) := by
 refine calls_kept a_dgE_ok rfl (by decide) ?_
 intro B g hB hR hE hA
 simp only [KArgs] at hA
 simp (disch := decide) only [a_dgE, hA, List.length_map, go_sem]
 exact leave_pure (xs := [.v (.bool (decide ((r.length : Int) > 40)))]) (.inr rfl) (by simp (disch := (first | decide | omega)) only [resVs, resV, go_sem, hA]) kO hR hB ⟨by rw [show decide ((r.length : Int) > 40) = decide (40 < r.length) from decide_eq_decide.2 oM]; rfl, rfl, rfl⟩
theorem dgC_spec (r : List Int) (b l : List Row) : ACalls Try.prog 69 [.v (.isl 1 (r.map eI))] b l (fun y b' l' => y = .v (.bool (decide (40 < r.length))) ∧ b' = b ∧ l' = l) := by
 refine calls_kept a_dgC_ok rfl (by decide) ?_
 intro B g hB hR hE hA
 simp only [KArgs] at hA
 simp (disch := decide) only [a_dgC, hA, List.length_map, go_sem]
 exact leave_pure (xs := [.v (.bool (decide ((r.length : Int) > 40)))]) (.inr rfl) (by simp (disch := (first | decide | omega)) only [resVs, resV, go_sem, hA]) kO hR hB ⟨by rw [show decide ((r.length : Int) > 40) = decide (40 < r.length) from decide_eq_decide.2 oM]; rfl, rfl, rfl⟩
end Go.Proofs.Ytanblnhnfkeffaa
