/- Texts of one proof, laid together: J1, J3. No condition. -/
import Derived.Test.YtnihdkfmmbpilaaDoorPC14
import Derived.Test.YtnihdkfmmbpilaaDoorPC11
import Derived.Test.YtnihdkfmmbpilaaDoorPC9
import Derived.Test.YtnihdkfmmbpilaaDoorPC8
import Derived.Test.YtnihdkfmmbpilaaDoorPC3
import Derived.Test.YtnihdkfmmbpilaaDoorPC5
import Derived.Test.YtnihdkfmmbpilaaDoorPC2
import Derived.Test.YtnihdkfmmbpilaaDoorPC15
namespace Go.Proofs.YtnihdkfmmbpilaaDoor
set_option linter.unusedVariables false
set_option linter.unusedSimpArgs false
noncomputable def fst (t : Tr) (k : Nat) : Nat → Nat × Nat → Nat → Nat
 | 0, _, _ => 0
 | n + 1, x, c => max (if 1 < x.2 then fst t k n (x.1, x.2 - 1) c else 0) (if (evAt t x).kind = 3 then fst t k n (sndr t x) c else 0) + if x.1 % k = c then 1 else 0
noncomputable def fc (t : Tr) (k : Nat) (x : Nat × Nat) (c : Nat) : Nat := fst t k (ids t).length x c
noncomputable def fcs (t : Tr) (k : Nat) (x : Nat × Nat) : List Int := fl k fun c => (fc t k x c : Int)
end Go.Proofs.YtnihdkfmmbpilaaDoor
namespace Go.Proofs.YtnihdkfmmbpilaaDoor
set_option linter.unusedVariables false
set_option linter.unusedSimpArgs false
attribute [local go_sem ↓] run_skip run_region run_draw run_both run_seq run_block run_exit run_ret run_cond atN_app seqC_normal seqC_exit seqC_ret seqQ_normal seqQ_exit seqQ_ret blkQ_normal blkQ_exit blkQ_ret runOps_nil runOps_cons runD_nil runD_cons grdO_true grdO_false grdD_true grdD_false ifC_true ifC_false opS_val opS_call opS_two opK_app dS_val dS_call dS_two dK_app kUp_same kUp_ne
attribute [local go_sem] rechks_nil rechks_cons rechk gcase_true gcase_false ex_val ex_val0 gd_none gd_some ev_t ev_c evs_nil evs_cons evo_some evo_none hget_at hget_first hsetB_at hsetB_first hsetL_at hsetL_first ofOpt_some aop aload astore aslice aappend aiaddr aiaddrA afaddr alen alenS acopy amm acall alookup amupdate alenM atostr aappz comma keyEq apick binV binVB binVS isSh intOp strOp boolOp shOp eqC eqF and2 cellsOf setFrom fillA fillS rd rdI elems mk bounds AV.cell List.all_cons List.all_nil Bool.and_true Bool.true_and Bool.and_self List.length_cons List.length_nil List.length_append Nat.reduceAdd Nat.reduceSub Nat.reduceMul Nat.zero_add Nat.add_zero List.cons_append List.nil_append List.append_assoc List.append_nil List.getElem?_cons_zero List.getElem?_cons_succ List.getElem?_nil List.set_cons_zero List.set_cons_succ List.drop_zero List.drop_succ_cons List.take_zero List.take_succ_cons List.take_nil List.drop_nil List.map_cons List.map_nil Option.map_some if_true if_false Bool.false_eq_true and_self true_and and_true Nat.reduceLeDiff Nat.reduceLT Nat.le_refl Nat.reduceEqDiff ite_true ite_false beq_self_eq_true beq_true beq_false Bool.not_true Bool.not_false Bool.true_beq Bool.false_beq map_vs vs_len vs_get vs_take vs_drop vs_snoc1 vs_snoc2 vs_snoc3 vs_snoc5 vs_set1 vs_set2 vs_rep wrap_id le_T lt_T le_F lt_F leI_T ltI_T leI_F ltI_F geI gtI get_T decide_true decide_false room List.getElem?_map List.length_map List.length_take Int.toNat_natCast Nat.min_def Nat.min_self nth_kOf put_kOf put_kNo kOv_cons kOv_nil KHas KArgs List.getElem_cons_zero List.getElem_cons_succ
def a_pgiven : AFunc := ⟨2,13,[.tmp 4],(.seq (.region [⟨some 2,.box (.t 0),none⟩,⟨some 4,.mv (.c (.v (.int .i64 0))),none⟩]) (.seq (.block 0 (.seq (.region [⟨some 6,.load (some 1) (.t 2),none⟩,⟨some 7,.call (.c (.fn 68 [])) [(.t 6)],none⟩,⟨some 8,.not (.t 7),none⟩,⟨some 5,.mv (.t 8),none⟩]) (.cond (.t 5) (.seq (.region [⟨some 4,.mv (.c (.v (.int .i64 1))),none⟩]) .ret) (.seq (.region [⟨some 10,.mv (.t 1),none⟩,⟨some 11,.call (.c (.fn 80 [])) [(.t 10)],none⟩,⟨some 12,.not (.t 11),none⟩,⟨some 9,.mv (.t 12),none⟩]) (.cond (.t 9) (.seq (.region [⟨some 4,.mv (.c (.v (.int .i64 2))),none⟩]) .ret) .skip))))) (.seq (.region [⟨some 4,.mv (.c (.v (.int .i64 0))),none⟩]) .ret)))⟩
theorem a_pgiven_ok : cFunc Tryd.prog 37 = some a_pgiven := by kernel_rfl

noncomputable def givE (t : Tr) (k : Int) : Int := if validL t = true then (if 1 ≤ k ∧ k ≤ 8 then 0 else 2) else 1
theorem psized_int (k : Int) (b l : List Row) : ACalls Tryd.prog 80 [.v (.int .i64 k)] b l (fun r b' l' => r = .v (.bool (decide (1 ≤ k ∧ k ≤ 8))) ∧ b' = b ∧ l' = l) := by
 refine calls_kept a_psized_ok rfl (by decide) ?_
 intro B g hB hR hE hA
 simp only [KArgs] at hA
 by_cases h1 : 1 ≤ k
 ·have d1 : decide (k ≥ 1) = true := decide_eq_true h1
  have d1' : decide (1 ≤ k) = true := d1
  by_cases h2 : k ≤ 8
  ·have d2 : decide (k ≤ 8) = true := decide_eq_true h2
   simp (disch := (first | decide | omega)) only [a_psized, hA, d1, d1', d2, go_sem]
   exact leave_pure (xs := [.v (.bool true)]) (.inr rfl) (by simp (disch := (first | decide | omega)) only [resVs, resV, go_sem, hA]) kO hR hB ⟨rfl, rfl, rfl⟩
  ·have d2 : decide (k ≤ 8) = false := decide_eq_false h2
   simp (disch := (first | decide | omega)) only [a_psized, hA, d1, d1', d2, go_sem]
   exact leave_pure (xs := [.v (.bool false)]) (.inr rfl) (by simp (disch := (first | decide | omega)) only [resVs, resV, go_sem, hA]) kO hR hB ⟨rfl, rfl, rfl⟩
 ·have d1 : decide (k ≥ 1) = false := decide_eq_false h1
  have d1' : decide (1 ≤ k) = false := d1
  simp (disch := (first | decide | omega)) only [a_psized, hA, d1, d1', go_sem]
  exact leave_pure (xs := [.v (.bool false)]) (.inr rfl) (by simp (disch := (first | decide | omega)) only [resVs, resV, go_sem, hA]) kO hR hB ⟨rfl, rfl, rfl⟩
theorem pgiven_spec (t : Tr) (hS : Small t) (hN : Nm t) (k : Int) (b l : List Row) : ACalls Tryd.prog 37 [.agg [.v (eT t)], .v (.int .i64 k)] b l (fun r b' l' => r = .v (.int .i64 (givE t k)) ∧ b' = b ∧ l' = l) := by
 refine calls_kept a_pgiven_ok rfl (by decide) ?_
 intro B g hB hR hE hA
 simp only [KArgs] at hA
 simp (disch := (first | decide | omega)) only [a_pgiven, hA, go_sem]
 refine ACalls.nxt (valid_spec t hS hN _ _) ?_
 cases hval : validL t with
 | false =>
   simp (disch := (first | decide | omega)) only [hA, go_sem]
   exact leave_pure (xs := [.v (.int .i64 1)]) (.inr rfl) (by simp (disch := (first | decide | omega)) only [resVs, resV, go_sem, hA]) kO hR hB ⟨by unfold givE; rw [hval]; rfl, rfl, rfl⟩
 | true =>
   simp (disch := (first | decide | omega)) only [hA, go_sem]
   refine ACalls.nxt (psized_int k _ _) ?_
   by_cases hk : 1 ≤ k ∧ k ≤ 8
   ·rw [decide_eq_true hk]
    simp (disch := (first | decide | omega)) only [hA, go_sem]
    exact leave_pure (xs := [.v (.int .i64 0)]) (.inr rfl) (by simp (disch := (first | decide | omega)) only [resVs, resV, go_sem, hA]) kO hR hB ⟨by unfold givE; rw [if_pos hval, if_pos hk]; rfl, rfl, rfl⟩
   ·rw [decide_eq_false hk]
    simp (disch := (first | decide | omega)) only [hA, go_sem]
    exact leave_pure (xs := [.v (.int .i64 2)]) (.inr rfl) (by simp (disch := (first | decide | omega)) only [resVs, resV, go_sem, hA]) kO hR hB ⟨by unfold givE; rw [if_pos hval, if_neg hk]; rfl, rfl, rfl⟩
theorem giv_zero {t : Tr} {k : Int} (h : givE t k = 0) : validL t = true ∧ ∃ n : Nat, k = n ∧ 1 ≤ n ∧ n ≤ 8 := by
 unfold givE at h
 split at h
 ·rename_i hv
  split at h
  ·rename_i hk; exact ⟨hv, k.toNat, by omega, by omega, by omega⟩
  ·simp at h
 ·simp at h
end Go.Proofs.YtnihdkfmmbpilaaDoor
