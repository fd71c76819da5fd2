/- Texts of one proof, laid together: KA, KB. No condition. -/
import Derived.Test.YtnihdkfmmbpilaaDoorPK18
import Derived.Test.YtnihdkfmmbpilaaDoorPK19
import Derived.Test.YtnihdkfmmbpilaaDoorPK15
import Derived.Test.YtnihdkfmmbpilaaDoorPK11
namespace Go.Proofs.YtnihdkfmmbpilaaDoor
set_option linter.unusedVariables false
set_option linter.unusedSimpArgs false
attribute [local go_sem ↓] run_skip run_region run_draw run_both run_seq run_block run_exit run_ret run_cond atN_app seqC_normal seqC_exit seqC_ret seqQ_normal seqQ_exit seqQ_ret blkQ_normal blkQ_exit blkQ_ret runOps_nil runOps_cons runD_nil runD_cons grdO_true grdO_false grdD_true grdD_false ifC_true ifC_false opS_val opS_call opS_two opK_app dS_val dS_call dS_two dK_app kUp_same kUp_ne
attribute [local go_sem] rechks_nil rechks_cons rechk gcase_true gcase_false ex_val ex_val0 gd_none gd_some ev_t ev_c evs_nil evs_cons evo_some evo_none hget_at hget_first hsetB_at hsetB_first hsetL_at hsetL_first ofOpt_some aop aload astore aslice aappend aiaddr aiaddrA afaddr alen alenS acopy amm acall alookup amupdate alenM atostr aappz comma keyEq apick binV binVB binVS isSh intOp strOp boolOp shOp eqC eqF and2 cellsOf setFrom fillA fillS rd rdI elems mk bounds AV.cell List.all_cons List.all_nil Bool.and_true Bool.true_and Bool.and_self List.length_cons List.length_nil List.length_append Nat.reduceAdd Nat.reduceSub Nat.reduceMul Nat.zero_add Nat.add_zero List.cons_append List.nil_append List.append_assoc List.append_nil List.getElem?_cons_zero List.getElem?_cons_succ List.getElem?_nil List.set_cons_zero List.set_cons_succ List.drop_zero List.drop_succ_cons List.take_zero List.take_succ_cons List.take_nil List.drop_nil List.map_cons List.map_nil Option.map_some if_true if_false Bool.false_eq_true and_self true_and and_true Nat.reduceLeDiff Nat.reduceLT Nat.le_refl Nat.reduceEqDiff ite_true ite_false beq_self_eq_true beq_true beq_false Bool.not_true Bool.not_false Bool.true_beq Bool.false_beq map_vs vs_len vs_get vs_take vs_drop vs_snoc1 vs_snoc2 vs_snoc3 vs_snoc5 vs_set1 vs_set2 vs_rep wrap_id le_T lt_T le_F lt_F leI_T ltI_T leI_F ltI_F geI gtI get_T decide_true decide_false room List.getElem?_map List.length_map List.length_take Int.toNat_natCast Nat.min_def Nat.min_self nth_kOf put_kOf put_kNo kOv_cons kOv_nil KHas KArgs List.getElem_cons_zero List.getElem_cons_succ
theorem ord_num {N o c : Nat} (hC : N ≤ 512) (h : (o + c) * 2 = N * (N - 1)) : IntKind.i64.wrap (IntKind.i64.wrap (Int.tdiv (IntKind.i64.wrap ((N : Int) * IntKind.i64.wrap ((N : Int) - 1))) 2) - (c : Int)) = (o : Int) := by
 have hle : N * (N - 1) ≤ 512 * 512 := Nat.mul_le_mul hC oM
 have hm : (N : Int) * IntKind.i64.wrap ((N : Int) - 1) = ((N * (N - 1) : Nat) : Int) := by
  cases N with
  | zero => simp
  | succ n =>
    have e : IntKind.i64.wrap (((n + 1 : Nat) : Int) - 1) = (n : Int) := by rw [IntKind.wrap_i64]; omega
    rw [e, Nat.add_sub_cancel, Int.natCast_mul]
 rw [hm]
 obtain ⟨X, hX⟩ : ∃ X, N * (N - 1) = X := ⟨_, rfl⟩
 rw [hX] at h hle
 rw [hX]
 have e1 : IntKind.i64.wrap (X : Int) = (X : Int) := by rw [IntKind.wrap_i64]; omega
 rw [e1, Int.tdiv_eq_ediv_of_nonneg oM, IntKind.wrap_i64, IntKind.wrap_i64]
 omega
theorem ord_eq {t : Tr} (hval : validL t = true) (hC : (ids t).length ≤ 512) : IntKind.i64.wrap (IntKind.i64.wrap (Int.tdiv (IntKind.i64.wrap ((countR t : Int) * IntKind.i64.wrap ((countR t : Int) - 1))) 2) - nCo t) = (cLat (orN t) (ids t).length : Nat) := by
 have hc : countR t = (ids t).length := by unfold countR; rw [hval]; rfl
 have h1 : cLat (orN t) (ids t).length + cLat (cnN t) (ids t).length = cLat (fun _ _ => 1) (ids t).length := by
  rw [← cLat_add]
  exact cLat_congr (fun j i _ _ => by unfold orN cnN; split <;> rfl)
 have h2 := cLat_one (N := (ids t).length)
 rw [cnN_eq] at h1
 rw [nCo_nat hC, hc]
 exact ord_num hC (by rw [h1, h2])
theorem idN_mem {t : Tr} {i : Nat} (h : i < (ids t).length) : idN t i ∈ ids t := by unfold idN; rw [getD_at h]; exact List.getElem_mem h
theorem idN_inj {t : Tr} {i j : Nat} (hj : j < (ids t).length) (h : i < j) : idN t i ≠ idN t j := by
 unfold idN
 rw [getD_at hj, getD_at oM]
 exact List.pairwise_iff_getElem.1 (nodup_ids t) i j oM hj h
theorem wf_u8 {n : Int} (h : (Lit.int .u8 n).wf = true) : 0 ≤ n ∧ n < 256 := by
 have h1 : (decide (IntKind.min .u8 ≤ n) && decide (n ≤ IntKind.max .u8)) = true := h
 rw [show IntKind.min .u8 = 0 from rfl, show IntKind.max .u8 = 255 from by decide] at h1
 simp at h1
 omega
end Go.Proofs.YtnihdkfmmbpilaaDoor
