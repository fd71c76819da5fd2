/- Texts of one proof, laid together: ZM. No condition. -/
import Derived.Test.YtanblnhnfkeffaaTF22
import Derived.Test.YtanblnhnfkeffaaTF18
import Derived.Test.YtanblnhnfkeffaaTF21
import Derived.Test.YtanblnhnfkeffaaTE12
namespace Go.Proofs.Ytanblnhnfkeffaa
set_option linter.unusedVariables false
set_option linter.unusedSimpArgs false
attribute [local go_sem ↓] run_skip run_region run_draw run_both run_seq run_block run_exit run_ret run_cond atN_app seqC_normal seqC_exit seqC_ret seqQ_normal seqQ_exit seqQ_ret blkQ_normal blkQ_exit blkQ_ret runOps_nil runOps_cons runD_nil runD_cons grdO_true grdO_false grdD_true grdD_false ifC_true ifC_false opS_val opS_call opS_two opK_app dS_val dS_call dS_two dK_app kUp_same kUp_ne
attribute [local go_sem] rechks_nil rechks_cons rechk gcase_true gcase_false ex_val ex_val0 gd_none gd_some ev_t ev_c evs_nil evs_cons evo_some evo_none hget_at hget_first hsetB_at hsetB_first hsetL_at hsetL_first ofOpt_some aop aload astore aslice aappend aiaddr aiaddrA afaddr alen alenS acopy amm acall alookup amupdate alenM atostr aappz comma keyEq apick binV binVB binVS isSh intOp strOp boolOp shOp eqC eqF and2 cellsOf setFrom fillA fillS rd rdI elems mk bounds AV.cell List.all_cons List.all_nil Bool.and_true Bool.true_and Bool.and_self List.length_cons List.length_nil List.length_append Nat.reduceAdd Nat.reduceSub Nat.reduceMul Nat.zero_add Nat.add_zero List.cons_append List.nil_append List.append_assoc List.append_nil List.getElem?_cons_zero List.getElem?_cons_succ List.getElem?_nil List.set_cons_zero List.set_cons_succ List.drop_zero List.drop_succ_cons List.take_zero List.take_succ_cons List.take_nil List.drop_nil List.map_cons List.map_nil Option.map_some if_true if_false Bool.false_eq_true and_self true_and and_true Nat.reduceLeDiff Nat.reduceLT Nat.le_refl Nat.reduceEqDiff ite_true ite_false beq_self_eq_true beq_true beq_false Bool.not_true Bool.not_false Bool.true_beq Bool.false_beq map_vs vs_len vs_get vs_take vs_drop vs_snoc1 vs_snoc2 vs_snoc3 vs_snoc5 vs_set1 vs_set2 vs_rep wrap_id le_T lt_T le_F lt_F leI_T ltI_T leI_F ltI_F geI gtI get_T decide_true decide_false room List.getElem?_map List.length_map List.length_take Int.toNat_natCast Nat.min_def Nat.min_self nth_kOf put_kOf put_kNo kOv_cons kOv_nil KHas KArgs List.getElem_cons_zero List.getElem_cons_succ
def a_tcTraces : AFunc := ⟨2,74,[.tmp 4],(.seq (.region [⟨some 2,.box (.t 0),none⟩,⟨some 4,.mv (.c (.v (.bool false))),none⟩]) (.seq (.seq (.region [⟨some 12,.call (.c (.fn 33 [])) [],none⟩,⟨some 13,.not (.t 12),none⟩]) (.cond (.t 13) (.seq (.region [⟨some 4,.mv (.c (.v (.bool false))),none⟩]) .ret) .skip)) (.seq (.seq (.region [⟨some 14,.load (some 1) (.t 2),none⟩,⟨some 15,.call (.c (.fn 34 [])) [(.t 14)],none⟩,⟨some 16,.mv (.t 15),none⟩,⟨some 17,.mv (.t 1),some (16,false)⟩,⟨some 18,.len (.t 17),some (16,false)⟩,⟨some 19,.bin .gtr (.t 18) (.c (.v (.int .i64 20000))),some (16,false)⟩,⟨some 20,.pick (.t 16) (.c (.v (.bool true))) (.t 19),none⟩]) (.cond (.t 20) (.seq (.region [⟨some 4,.mv (.c (.v (.bool true))),none⟩]) .ret) .skip)) (.seq (.region [⟨some 22,.load (some 1) (.t 2),none⟩,⟨some 23,.call (.c (.fn 35 [])) [(.t 22)],none⟩,⟨some 21,.mv (.t 23),none⟩,⟨some 24,.extract 0 (.t 21),none⟩,⟨some 25,.extract 1 (.t 21),none⟩,⟨some 5,.mv (.t 24),none⟩,⟨some 6,.mv (.t 25),none⟩]) (.seq (.seq (.region [⟨some 26,.load (some 1) (.t 2),none⟩,⟨some 27,.call (.c (.fn 36 [])) [(.t 26)],none⟩,⟨some 28,.not (.t 27),none⟩]) (.cond (.t 28) (.seq (.region [⟨some 29,.mv (.t 6),none⟩,⟨some 30,.bin .neq (.t 29) (.c (.v (.int .i64 1))),none⟩,⟨some 31,.mv (.t 30),none⟩,⟨some 32,.mv (.t 5),some (31,false)⟩,⟨some 33,.len (.t 32),some (31,false)⟩,⟨some 34,.bin .neq (.t 33) (.c (.v (.int .i64 0))),some (31,false)⟩,⟨some 35,.pick (.t 31) (.c (.v (.bool true))) (.t 34),none⟩]) (.cond (.t 35) (.seq (.region [⟨some 4,.mv (.c (.v (.bool false))),none⟩]) .ret) .skip)) (.seq (.region [⟨some 36,.load (some 1) (.t 2),none⟩,⟨some 37,.call (.c (.fn 37 [])) [(.t 36)],none⟩,⟨some 7,.mv (.t 37),none⟩]) (.seq (.region [⟨some 38,.mv (.t 7),none⟩,⟨some 39,.len (.t 38),none⟩,⟨some 40,.bin .gtr (.t 39) (.c (.v (.int .i64 16384))),none⟩]) (.cond (.t 40) (.seq (.region [⟨some 41,.mv (.t 6),none⟩,⟨some 42,.bin .neq (.t 41) (.c (.v (.int .i64 5))),none⟩,⟨some 43,.mv (.t 42),none⟩,⟨some 44,.mv (.t 5),some (43,false)⟩,⟨some 45,.len (.t 44),some (43,false)⟩,⟨some 46,.bin .neq (.t 45) (.c (.v (.int .i64 0))),some (43,false)⟩,⟨some 47,.pick (.t 43) (.c (.v (.bool true))) (.t 46),none⟩]) (.cond (.t 47) (.seq (.region [⟨some 4,.mv (.c (.v (.bool false))),none⟩]) .ret) .skip)) (.seq (.region [⟨some 48,.mv (.t 6),none⟩,⟨some 49,.bin .neq (.t 48) (.c (.v (.int .i64 0))),none⟩,⟨some 50,.mv (.t 49),none⟩,⟨some 51,.mv (.t 5),some (50,false)⟩,⟨some 52,.mv (.t 7),some (50,false)⟩,⟨some 53,.call (.c (.fn 38 [])) [(.t 51),(.t 52)],some (50,false)⟩,⟨some 54,.not (.t 53),some (50,false)⟩,⟨some 55,.pick (.t 50) (.c (.v (.bool true))) (.t 54),none⟩]) (.cond (.t 55) (.seq (.region [⟨some 4,.mv (.c (.v (.bool false))),none⟩]) .ret) .skip))))))) (.seq (.region [⟨some 57,.mv (.t 1),none⟩,⟨some 58,.call (.c (.fn 39 [])) [(.t 57)],none⟩,⟨some 56,.mv (.t 58),none⟩,⟨some 59,.extract 0 (.t 56),none⟩,⟨some 60,.extract 1 (.t 56),none⟩,⟨some 8,.alloc [(.v .zsl)],none⟩,⟨none,.store 1 (.t 8) (.t 59),none⟩,⟨some 9,.mv (.t 60),none⟩]) (.seq (.region [⟨some 62,.mv (.t 1),none⟩,⟨some 63,.call (.c (.fn 40 [])) [(.t 62)],none⟩,⟨some 61,.mv (.t 63),none⟩,⟨some 64,.extract 0 (.t 61),none⟩,⟨some 65,.extract 1 (.t 61),none⟩,⟨some 10,.alloc [(.v .zsl)],none⟩,⟨none,.store 1 (.t 10) (.t 64),none⟩,⟨some 11,.mv (.t 65),none⟩]) (.seq (.region [⟨some 66,.load (some 1) (.t 8),none⟩,⟨some 67,.load (some 1) (.t 10),none⟩,⟨some 68,.call (.c (.fn 20 [])) [(.t 66),(.t 67)],none⟩,⟨some 69,.mv (.t 68),none⟩,⟨some 70,.mv (.t 9),some (69,true)⟩,⟨some 71,.mv (.t 11),some (69,true)⟩,⟨some 72,.bin .eql (.t 70) (.t 71),some (69,true)⟩,⟨some 73,.pick (.t 69) (.t 72) (.c (.v (.bool false))),none⟩,⟨some 4,.mv (.t 73),none⟩]) .ret))))))))⟩
theorem a_tcTraces_ok : cFunc Try.prog 5 = some a_tcTraces := by kernel_rfl

theorem dec_small (bs : List UInt8) : Small (decodeL bs).1 ∧ Nm (decodeL bs).1 := by
 have nil : Small ([] : Tr) ∧ Nm ([] : Tr) := ⟨⟨by decide, fun x h => (by cases h), fun x h => (by cases h), fun x h => (by cases h)⟩, fun x h => (by cases h)⟩
 unfold decodeL
 split
 ·exact nil
 rename_i h1
 split
 ·exact nil
 split
 ·exact nil
 split
 ·exact nil
 split
 ·exact nil
 obtain ⟨a, c⟩ := rdT_bd (s := (bs.take (bs.length - 2), false)) (by simp only [List.length_take]; omega)
 exact tr_fits a c
set_option maxRecDepth 100000
set_option maxHeartbeats 8000000 in
theorem tcTraces_run (t : Tr) (bs : List UInt8) (hl : bs.length ≤ 9223372036854775807) (b l : List Row) :
  ACalls Try.prog 5 [.agg [.v (eT t)], .v (.isl 1 (bs.map eB))] b l (fun r b' l' => r = .v (.bool true) ∧ b' = b ∧ l' = l) := by
 refine calls_kept a_tcTraces_ok rfl (by decide) ?_
 intro B g hB hR hE hA
 simp only [KArgs] at hA
 simp (disch := (first | decide | omega)) only [a_tcTraces, hA, go_sem]
 refine ACalls.nxt (awake21_spec _ _) ?_
 simp (disch := (first | decide | omega)) only [hA, go_sem]
 refine ACalls.nxt (great21_spec t _ _) ?_
 cases hg : great21B t with
 | true =>
   simp (disch := (first | decide | omega)) only [hA, go_sem]
   exact leave_pure (xs := [.v (.bool true)]) (.inr rfl) (by simp (disch := (first | decide | omega)) only [resVs, resV, go_sem, hA]) kO hR hB ⟨rfl, rfl, rfl⟩
 | false =>
 obtain ⟨hS, hN⟩ := great21_in hg
 by_cases h1 : 20000 < bs.length
 ·have hd : decide ((bs.length : Int) > 20000) = true := decide_eq_true oM
  simp (disch := (first | decide | omega)) only [hA, List.length_map, hd, go_sem]
  exact leave_pure (xs := [.v (.bool true)]) (.inr rfl) (by simp (disch := (first | decide | omega)) only [resVs, resV, go_sem, hA]) kO hR hB ⟨rfl, rfl, rfl⟩
 have hd : decide ((bs.length : Int) > 20000) = false := decide_eq_false oM
 have cE := fun b l => enc_spec t hS hN b l
 have cV := fun b l => rvalid_spec t hS hN b l
 have cD := fun b l => dec_spec bs oM b l
 have cR := fun b l => rdec_spec bs oM b l
 obtain ⟨dS, _⟩ := dec_small bs
 have cS := fun b l => sTr_refl (decodeL bs).1 dS b l
 have zc : ((decodeL bs).2 == (decodeL bs).2) = true := beq_self_eq_true _
 have z1 : ((1 : Int) != 1) = false := rfl
 have z2 : ((5 : Int) != 5) = false := rfl
 have z3 : ((0 : Int) != 0) = false := rfl
 have z4 : (((0 : Nat) : Int) != 0) = false := rfl
 simp only [decR] at cD cR
 cases hv : validL t with
 | false =>
   have e1 : encR t = .tup [.v .zsl, .v (.int .i64 1)] := by unfold encR; rw [if_pos hv]
   simp only [e1] at cE
   simp only [hv] at cV
   simp (disch := (first | decide | omega)) only [hA, List.length_map, hd, z1, z2, z3, z4, go_sem]
   refine ACalls.nxt (cE _ _) ?_
   simp (disch := (first | decide | omega)) only [hA, z1, z2, z3, z4, go_sem]
   refine ACalls.nxt (cV _ _) ?_
   simp (disch := (first | decide | omega)) only [hA, z1, z2, z3, z4, go_sem]
   refine ACalls.nxt (cD _ _) ?_
   simp (disch := (first | decide | omega)) only [hA, setFrom, cellsOf, go_sem]
   refine ACalls.nxt (cR _ _) ?_
   simp (disch := (first | decide | omega)) only [hA, setFrom, cellsOf, go_sem]
   refine ACalls.nxt (cS _ _) ?_
   simp (disch := (first | decide | omega)) only [hA, zc, go_sem]
   exact leave_pure (xs := [.v (.bool true)]) (.inr rfl) (by simp (disch := (first | decide | omega)) only [resVs, resV, go_sem, hA]) kO hR hB ⟨rfl, rfl, rfl⟩
 | true =>
   have cC := fun b l => rencode_spec t (vok hv) b l
   simp only [hv] at cV
   by_cases hbig : 16384 < (codeL t).length
   ·have e1 : encR t = .tup [.v .zsl, .v (.int .i64 5)] := by unfold encR; rw [if_neg (by rw [hv]; decide), if_pos hbig]
    have d2 : decide (((codeL t).length : Int) > 16384) = true := decide_eq_true oM
    simp only [e1] at cE
    simp (disch := (first | decide | omega)) only [hA, List.length_map, hd, z1, z2, z3, z4, go_sem]
    refine ACalls.nxt (cE _ _) ?_
    simp (disch := (first | decide | omega)) only [hA, z1, z2, z3, z4, go_sem]
    refine ACalls.nxt (cV _ _) ?_
    simp (disch := (first | decide | omega)) only [hA, z1, z2, z3, z4, go_sem]
    refine ACalls.nxt (cC _ _) ?_
    simp (disch := (first | decide | omega)) only [hA, z1, z2, z3, z4, d2, List.length_map, go_sem]
    refine ACalls.nxt (cD _ _) ?_
    simp (disch := (first | decide | omega)) only [hA, setFrom, cellsOf, go_sem]
    refine ACalls.nxt (cR _ _) ?_
    simp (disch := (first | decide | omega)) only [hA, setFrom, cellsOf, go_sem]
    refine ACalls.nxt (cS _ _) ?_
    simp (disch := (first | decide | omega)) only [hA, zc, go_sem]
    exact leave_pure (xs := [.v (.bool true)]) (.inr rfl) (by simp (disch := (first | decide | omega)) only [resVs, resV, go_sem, hA]) kO hR hB ⟨rfl, rfl, rfl⟩
   ·have e1 : encR t = .tup [.v (.isl 1 ((codeL t).map eB)), .v (.int .i64 0)] := by unfold encR; rw [if_neg (by rw [hv]; decide), if_neg hbig]
    have d2 : decide (((codeL t).length : Int) > 16384) = false := decide_eq_false oM
    have cB := fun b l => bEq_spec (codeL t) (codeL t) b l
    simp only [decide_true] at cB
    simp only [e1] at cE
    simp (disch := (first | decide | omega)) only [hA, List.length_map, hd, z1, z2, z3, z4, go_sem]
    refine ACalls.nxt (cE _ _) ?_
    simp (disch := (first | decide | omega)) only [hA, z1, z2, z3, z4, go_sem]
    refine ACalls.nxt (cV _ _) ?_
    simp (disch := (first | decide | omega)) only [hA, z1, z2, z3, z4, go_sem]
    refine ACalls.nxt (cC _ _) ?_
    simp (disch := (first | decide | omega)) only [hA, z1, z2, z3, z4, d2, List.length_map, go_sem]
    refine ACalls.nxt (cB _ _) ?_
    simp (disch := (first | decide | omega)) only [hA, z1, z2, z3, z4, go_sem]
    refine ACalls.nxt (cD _ _) ?_
    simp (disch := (first | decide | omega)) only [hA, setFrom, cellsOf, go_sem]
    refine ACalls.nxt (cR _ _) ?_
    simp (disch := (first | decide | omega)) only [hA, setFrom, cellsOf, go_sem]
    refine ACalls.nxt (cS _ _) ?_
    simp (disch := (first | decide | omega)) only [hA, zc, go_sem]
    exact leave_pure (xs := [.v (.bool true)]) (.inr rfl) (by simp (disch := (first | decide | omega)) only [resVs, resV, go_sem, hA]) kO hR hB ⟨rfl, rfl, rfl⟩
end Go.Proofs.Ytanblnhnfkeffaa
