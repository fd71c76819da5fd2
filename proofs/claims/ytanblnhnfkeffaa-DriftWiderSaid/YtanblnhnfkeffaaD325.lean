/- Texts of one proof, laid together: YI, YH. No condition. -/
import Derived.Test.YtanblnhnfkeffaaD322
import Derived.Test.YtanblnhnfkeffaaD323
import Derived.Test.YtanblnhnfkeffaaD324
namespace Go.Proofs.Ytanblnhnfkeffaa
set_option linter.unusedVariables false
set_option linter.unusedSimpArgs false
attribute [local go_sem ↓] run_skip run_region run_draw run_both run_seq run_block run_exit run_ret run_cond atN_app seqC_normal seqC_exit seqC_ret seqQ_normal seqQ_exit seqQ_ret blkQ_normal blkQ_exit blkQ_ret runOps_nil runOps_cons runD_nil runD_cons grdO_true grdO_false grdD_true grdD_false ifC_true ifC_false opS_val opS_call opS_two opK_app dS_val dS_call dS_two dK_app kUp_same kUp_ne
attribute [local go_sem] rechks_nil rechks_cons rechk gcase_true gcase_false ex_val ex_val0 gd_none gd_some ev_t ev_c evs_nil evs_cons evo_some evo_none hget_at hget_first hsetB_at hsetB_first hsetL_at hsetL_first ofOpt_some aop aload astore aslice aappend aiaddr aiaddrA afaddr alen alenS acopy amm acall alookup amupdate alenM atostr comma keyEq apick binV binVB binVS isSh intOp strOp boolOp shOp eqC eqF and2 cellsOf setFrom fillA fillS rd rdI elems mk bounds AV.cell List.all_cons List.all_nil Bool.and_true Bool.true_and Bool.and_self List.length_cons List.length_nil List.length_append Nat.reduceAdd Nat.reduceSub Nat.reduceMul Nat.zero_add Nat.add_zero List.cons_append List.nil_append List.append_assoc List.append_nil List.getElem?_cons_zero List.getElem?_cons_succ List.getElem?_nil List.set_cons_zero List.set_cons_succ List.drop_zero List.drop_succ_cons List.take_zero List.take_succ_cons List.take_nil List.drop_nil List.map_cons List.map_nil Option.map_some if_true if_false Bool.false_eq_true and_self true_and and_true Nat.reduceLeDiff Nat.reduceLT Nat.le_refl Nat.reduceEqDiff ite_true ite_false beq_self_eq_true beq_true beq_false Bool.not_true Bool.not_false Bool.true_beq Bool.false_beq map_vs vs_len vs_get vs_take vs_drop vs_snoc1 vs_snoc2 vs_snoc3 vs_snoc5 vs_set1 vs_set2 vs_rep wrap_id le_T lt_T le_F lt_F leI_T ltI_T leI_F ltI_F geI gtI get_T decide_true decide_false room List.getElem?_map List.length_map List.length_take Int.toNat_natCast Nat.min_def Nat.min_self nth_kOf put_kOf put_kNo kOv_cons kOv_nil KHas KArgs List.getElem_cons_zero List.getElem_cons_succ
theorem len_few19 {t : Tr} (h : few19B t = true) : t.length ≤ 20 ∧ (∀ x ∈ t, x.evs.length ≤ 70) ∧ (ids t).length ≤ 190 := by
 obtain ⟨h1, _, h2, h3⟩ := few19_in h
 exact ⟨by omega, fun x hx => by have := h2 x hx; omega, by omega⟩
theorem id_back {t : Tr} {x : Int × Int} (h : existsB t x.1 x.2 = true) : ∃ p i, (p, i + 1) ∈ ids t ∧ x = ((p : Int), ((i + 1 : Nat) : Int)) := by
 obtain ⟨p, i, h1, h2, h3⟩ := existsB_in h
 exact ⟨p, i, h3, Prod.ext h1 h2⟩
theorem ea_fit {t : Tr} {bn : Bn} (hn : t.length ≤ 20) (he : ∀ x ∈ t, x.evs.length ≤ 70) : (eaAll t bn t.length).length = (eaAll t bn t.length).length → (eaAll t bn t.length).length ≤ 1000000 ∧ ∀ i (h : i < (eaAll t bn t.length).length) (h' : i < (eaAll t bn t.length).length), C1 (eaAll t bn t.length)[i] (eaAll t bn t.length)[i] := by
 intro _
 have hl : (eaAll t bn t.length).length = t.length := fl_len
 refine ⟨by omega, fun i h h' => ?_⟩
 have hg : (eaAll t bn t.length)[i]? = some (eaRow t bn i (evsOf t i).length) := fl_get oM
 rw [List.getElem?_eq_getElem h, Option.some.injEq] at hg
 rw [hg]
 intro _
 have := he _ (List.getElem_mem (show i < t.length by omega))
 exact ⟨by unfold eaRow; rw [fl_len, evsOf_lt oM]; omega, fun _ _ _ => trivial⟩
theorem rows40 {m : List (List Int)} (h : (List.range m.length).any (fun j => decide (40 < (m.getD j []).length)) = false) : ∀ r ∈ m, r.length ≤ 1000000 := by
 intro r hr
 obtain ⟨j, hj, rfl⟩ := List.getElem_of_mem hr
 simp only [List.any_eq_false, List.mem_range, decide_eq_true_eq] at h
 have := h j hj
 rw [getD_at hj] at this
 omega
end Go.Proofs.Ytanblnhnfkeffaa
