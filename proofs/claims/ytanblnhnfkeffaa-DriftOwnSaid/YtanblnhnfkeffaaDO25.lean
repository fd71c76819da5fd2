/- Texts of one proof, laid together: YI, YH. No condition. -/
import Derived.Test.YtanblnhnfkeffaaDO22
import Derived.Test.YtanblnhnfkeffaaDO23
import Derived.Test.YtanblnhnfkeffaaDO24
namespace Go.Proofs.Ytanblnhnfkeffaa
set_option linter.unusedVariables false
set_option linter.unusedSimpArgs false
attribute [local go_sem ↓] run_skip run_region run_draw run_both run_seq run_block run_exit run_ret run_cond atN_app seqC_normal seqC_exit seqC_ret seqQ_normal seqQ_exit seqQ_ret blkQ_normal blkQ_exit blkQ_ret runOps_nil runOps_cons runD_nil runD_cons grdO_true grdO_false grdD_true grdD_false ifC_true ifC_false opS_val opS_call opS_two opK_app dS_val dS_call dS_two dK_app kUp_same kUp_ne
attribute [local go_sem] rechks_nil rechks_cons rechk gcase_true gcase_false ex_val ex_val0 gd_none gd_some ev_t ev_c evs_nil evs_cons evo_some evo_none hget_at hget_first hsetB_at hsetB_first hsetL_at hsetL_first ofOpt_some aop aload astore aslice aappend aiaddr aiaddrA afaddr alen alenS acopy amm acall alookup amupdate alenM atostr comma keyEq apick binV binVB binVS isSh intOp strOp boolOp shOp eqC eqF and2 cellsOf setFrom fillA fillS rd rdI elems mk bounds AV.cell List.all_cons List.all_nil Bool.and_true Bool.true_and Bool.and_self List.length_cons List.length_nil List.length_append Nat.reduceAdd Nat.reduceSub Nat.reduceMul Nat.zero_add Nat.add_zero List.cons_append List.nil_append List.append_assoc List.append_nil List.getElem?_cons_zero List.getElem?_cons_succ List.getElem?_nil List.set_cons_zero List.set_cons_succ List.drop_zero List.drop_succ_cons List.take_zero List.take_succ_cons List.take_nil List.drop_nil List.map_cons List.map_nil Option.map_some if_true if_false Bool.false_eq_true and_self true_and and_true Nat.reduceLeDiff Nat.reduceLT Nat.le_refl Nat.reduceEqDiff ite_true ite_false beq_self_eq_true beq_true beq_false Bool.not_true Bool.not_false Bool.true_beq Bool.false_beq map_vs vs_len vs_get vs_take vs_drop vs_snoc1 vs_snoc2 vs_snoc3 vs_snoc5 vs_set1 vs_set2 vs_rep wrap_id le_T lt_T le_F lt_F leI_T ltI_T leI_F ltI_F geI gtI get_T decide_true decide_false room List.getElem?_map List.length_map List.length_take Int.toNat_natCast Nat.min_def Nat.min_self nth_kOf put_kOf put_kNo kOv_cons kOv_nil KHas KArgs List.getElem_cons_zero List.getElem_cons_succ
theorem len_few19 {t : Tr} (h : few19B t = true) : t.length ≤ 20 ∧ (∀ x ∈ t, x.evs.length ≤ 70) ∧ (ids t).length ≤ 190 := by
 obtain ⟨h1, _, h2, h3⟩ := few19_in h
 exact ⟨by omega, fun x hx => by have := h2 x hx; omega, by omega⟩
theorem id_back {t : Tr} {x : Int × Int} (h : existsB t x.1 x.2 = true) : ∃ p i, (p, i + 1) ∈ ids t ∧ x = ((p : Int), ((i + 1 : Nat) : Int)) := by
 obtain ⟨p, i, h1, h2, h3⟩ := existsB_in h
 exact ⟨p, i, h3, Prod.ext h1 h2⟩
def a_driftOwn : AFunc := ⟨4,117,[.tmp 8],(.seq (.region [⟨some 4,.box (.t 0),none⟩,⟨some 5,.box (.t 1),none⟩,⟨some 6,.box (.t 2),none⟩,⟨some 8,.mv (.c (.v (.bool false))),none⟩]) (.seq (.seq (.region [⟨some 14,.call (.c (.fn 47 [])) [],none⟩,⟨some 15,.not (.t 14),none⟩]) (.cond (.t 15) (.seq (.region [⟨some 8,.mv (.c (.v (.bool false))),none⟩]) .ret) .skip)) (.seq (.seq (.region [⟨some 16,.load (some 1) (.t 4),none⟩,⟨some 17,.call (.c (.fn 48 [])) [(.t 16)],none⟩,⟨some 18,.not (.t 17),none⟩,⟨some 19,.mv (.t 18),none⟩,⟨some 20,.faddr 0 (.t 5),some (19,false)⟩,⟨some 21,.load none (.t 20),some (19,false)⟩,⟨some 22,.len (.t 21),some (19,false)⟩,⟨some 23,.bin .gtr (.t 22) (.c (.v (.int .i64 20))),some (19,false)⟩,⟨some 24,.pick (.t 19) (.c (.v (.bool true))) (.t 23),none⟩,⟨some 25,.mv (.t 24),none⟩,⟨some 26,.mv (.t 3),some (25,false)⟩,⟨some 27,.len (.t 26),some (25,false)⟩,⟨some 28,.bin .gtr (.t 27) (.c (.v (.int .i64 20))),some (25,false)⟩,⟨some 29,.pick (.t 25) (.c (.v (.bool true))) (.t 28),none⟩,⟨some 30,.mv (.t 29),none⟩,⟨some 31,.mv (.t 3),some (30,false)⟩,⟨some 32,.call (.c (.fn 49 [])) [(.t 31),(.c (.fn 50 []))],some (30,false)⟩,⟨some 33,.pick (.t 30) (.c (.v (.bool true))) (.t 32),none⟩]) (.cond (.t 33) (.seq (.region [⟨some 8,.mv (.c (.v (.bool true))),none⟩]) .ret) .skip)) (.seq (.region [⟨some 35,.load (some 1) (.t 4),none⟩,⟨some 36,.load (some 3) (.t 5),none⟩,⟨some 37,.load (some 2) (.t 6),none⟩,⟨some 38,.call (.c (.fn 51 [])) [(.t 35),(.t 36),(.t 37)],none⟩,⟨some 34,.mv (.t 38),none⟩,⟨some 39,.extract 0 (.t 34),none⟩,⟨some 40,.extract 1 (.t 34),none⟩,⟨some 41,.extract 2 (.t 34),none⟩,⟨some 9,.mv (.t 39),none⟩,⟨some 10,.mv (.t 40),none⟩,⟨some 11,.mv (.t 41),none⟩]) (.seq (.seq (.region [⟨some 42,.load (some 1) (.t 4),none⟩,⟨some 43,.load (some 3) (.t 5),none⟩,⟨some 44,.call (.c (.fn 52 [])) [(.t 42),(.t 43)],none⟩,⟨some 45,.not (.t 44),none⟩]) (.cond (.t 45) (.seq (.region [⟨some 46,.load (some 1) (.t 4),none⟩,⟨some 47,.load (some 3) (.t 5),none⟩,⟨some 48,.call (.c (.fn 53 [])) [(.t 46),(.t 47)],none⟩,⟨some 49,.not (.t 48),none⟩,⟨some 50,.mv (.t 49),none⟩,⟨some 51,.mv (.t 11),some (50,true)⟩,⟨some 52,.bin .eql (.t 51) (.c (.v (.int .i64 1))),some (50,true)⟩,⟨some 53,.pick (.t 50) (.t 52) (.c (.v (.bool false))),none⟩,⟨some 54,.mv (.t 53),none⟩,⟨some 55,.mv (.t 9),some (54,true)⟩,⟨some 56,.bin .eql (.t 55) (.c (.v (.int .i64 0))),some (54,true)⟩,⟨some 57,.pick (.t 54) (.t 56) (.c (.v (.bool false))),none⟩,⟨some 58,.mv (.t 57),none⟩,⟨some 59,.mv (.t 10),some (58,true)⟩,⟨some 60,.bin .eql (.t 59) (.c (.v (.int .i64 0))),some (58,true)⟩,⟨some 61,.pick (.t 58) (.t 60) (.c (.v (.bool false))),none⟩,⟨some 62,.mv (.t 61),none⟩,⟨some 63,.load (some 1) (.t 4),some (62,true)⟩,⟨some 64,.load (some 3) (.t 5),some (62,true)⟩,⟨some 65,.mv (.t 3),some (62,true)⟩,⟨some 66,.call (.c (.fn 54 [])) [(.t 63),(.t 64),(.t 65)],some (62,true)⟩,⟨some 67,.not (.t 66),some (62,true)⟩,⟨some 68,.pick (.t 62) (.t 67) (.c (.v (.bool false))),none⟩,⟨some 8,.mv (.t 68),none⟩]) .ret) .skip)) (.seq (.seq (.draw [⟨0,⟨some 69,.load (some 1) (.t 4),none⟩,[]⟩,⟨1,⟨some 70,.load (some 3) (.t 5),none⟩,[]⟩,⟨2,⟨some 71,.call (.c (.fn 53 [])) [(.t 69),(.t 70)],none⟩,[]⟩,⟨3,⟨some 72,.not (.t 71),none⟩,[]⟩,⟨4,⟨some 73,.mv (.t 72),none⟩,[]⟩,⟨5,⟨some 74,.load (some 1) (.t 4),some (73,false)⟩,[]⟩,⟨6,⟨some 75,.load (some 3) (.t 5),some (73,false)⟩,[]⟩,⟨7,⟨some 76,.mv (.t 3),some (73,false)⟩,[]⟩,⟨9,⟨some 78,.load (some 1) (.t 4),some (73,false)⟩,[]⟩,⟨10,⟨some 79,.load (some 3) (.t 5),some (73,false)⟩,[]⟩,⟨11,⟨some 80,.mv (.t 3),some (73,false)⟩,[]⟩,⟨8,⟨some 77,.call (.c (.fn 54 [])) [(.t 74),(.t 75),(.t 76)],some (73,false)⟩,[⟨some 78,.load (some 1) (.t 4),some (73,false)⟩,⟨some 79,.load (some 3) (.t 5),some (73,false)⟩,⟨some 80,.mv (.t 3),some (73,false)⟩]⟩,⟨12,⟨some 81,.call (.c (.fn 55 [])) [(.t 78),(.t 79),(.t 80)],some (73,false)⟩,[]⟩,⟨13,⟨some 82,.binB .neq (.t 77) (.t 81),some (73,false)⟩,[]⟩,⟨14,⟨some 83,.pick (.t 73) (.c (.v (.bool true))) (.t 82),none⟩,[]⟩]) (.cond (.t 83) (.seq (.region [⟨some 8,.mv (.c (.v (.bool false))),none⟩]) .ret) .skip)) (.seq (.seq (.region [⟨some 84,.load (some 1) (.t 4),none⟩,⟨some 85,.load (some 2) (.t 6),none⟩,⟨some 86,.call (.c (.fn 56 [])) [(.t 84),(.t 85)],none⟩,⟨some 87,.not (.t 86),none⟩]) (.cond (.t 87) (.seq (.region [⟨some 88,.mv (.t 11),none⟩,⟨some 89,.bin .eql (.t 88) (.c (.v (.int .i64 2))),none⟩,⟨some 90,.mv (.t 89),none⟩,⟨some 91,.mv (.t 9),some (90,true)⟩,⟨some 92,.bin .eql (.t 91) (.c (.v (.int .i64 0))),some (90,true)⟩,⟨some 93,.pick (.t 90) (.t 92) (.c (.v (.bool false))),none⟩,⟨some 94,.mv (.t 93),none⟩,⟨some 95,.mv (.t 10),some (94,true)⟩,⟨some 96,.bin .eql (.t 95) (.c (.v (.int .i64 0))),some (94,true)⟩,⟨some 97,.pick (.t 94) (.t 96) (.c (.v (.bool false))),none⟩,⟨some 8,.mv (.t 97),none⟩]) .ret) .skip)) (.seq (.region [⟨some 99,.load (some 1) (.t 4),none⟩,⟨some 100,.load (some 3) (.t 5),none⟩,⟨some 101,.load (some 2) (.t 6),none⟩,⟨some 102,.call (.c (.fn 57 [])) [(.t 99),(.t 100),(.t 101)],none⟩,⟨some 98,.mv (.t 102),none⟩,⟨some 103,.extract 0 (.t 98),none⟩,⟨some 104,.extract 1 (.t 98),none⟩,⟨some 12,.mv (.t 103),none⟩,⟨some 13,.mv (.t 104),none⟩]) (.seq (.region [⟨some 105,.mv (.t 11),none⟩,⟨some 106,.bin .eql (.t 105) (.c (.v (.int .i64 0))),none⟩,⟨some 107,.mv (.t 106),none⟩,⟨some 108,.mv (.t 9),some (107,true)⟩,⟨some 109,.mv (.t 12),some (107,true)⟩,⟨some 110,.bin .eql (.t 108) (.t 109),some (107,true)⟩,⟨some 111,.pick (.t 107) (.t 110) (.c (.v (.bool false))),none⟩,⟨some 112,.mv (.t 111),none⟩,⟨some 113,.mv (.t 10),some (112,true)⟩,⟨some 114,.mv (.t 13),some (112,true)⟩,⟨some 115,.bin .eql (.t 113) (.t 114),some (112,true)⟩,⟨some 116,.pick (.t 112) (.t 115) (.c (.v (.bool false))),none⟩,⟨some 8,.mv (.t 116),none⟩]) .ret)))))))))⟩
theorem a_driftOwn_ok : cFunc Try.prog 8 = some a_driftOwn := by kernel_rfl

theorem rows40 {m : List (List Int)} (h : (List.range m.length).any (fun j => decide (40 < (m.getD j []).length)) = false) : ∀ r ∈ m, r.length ≤ 1000000 := by
 intro r hr
 obtain ⟨j, hj, rfl⟩ := List.getElem_of_mem hr
 simp only [List.any_eq_false, List.mem_range, decide_eq_true_eq] at h
 have := h j hj
 rw [getD_at hj] at this
 omega
set_option maxHeartbeats 8000000 in
theorem driftOwn_run (t : Tr) (hN : Nm t) (bn : Bn) (x : Int × Int) (m : List (List Int)) (b l : List Row) :
  ACalls Try.prog 8 [.agg [.v (eT t)], .agg (eBn bn), idP x, .v (.isl 1 (m.map eRw))] b l (fun r b' l' => r = .v (.bool true) ∧ b' = b ∧ l' = l) := by
 refine calls_kept a_driftOwn_ok rfl (by decide) ?_
 intro B g hB hR hE hA
 simp only [KArgs] at hA
 simp only [eBn, idP] at hA
 simp (disch := (first | decide | omega)) only [a_driftOwn, hA, go_sem]
 refine ACalls.nxt (awake19_spec _ _) ?_
 simp (disch := (first | decide | omega)) only [hA, go_sem]
 refine ACalls.nxt (few19_spec t _ _) ?_
 cases hf : few19B t with
 | false =>
   simp (disch := (first | decide | omega)) only [hA, go_sem]
   exact leave_pure (xs := [.v (.bool true)]) (.inr rfl) (by simp (disch := (first | decide | omega)) only [resVs, resV, go_sem, hA]) kO hR hB ⟨rfl, rfl, rfl⟩
 | true =>
   have hS := (few19_in hf).2.1
   obtain ⟨hn, he70, hC⟩ := len_few19 hf
   by_cases h1 : 20 < bn.er.length
   ·have hd : decide ((bn.er.length : Int) > 20) = true := decide_eq_true oM
    simp (disch := (first | decide | omega)) only [hA, List.length_map, hd, go_sem]
    exact leave_pure (xs := [.v (.bool true)]) (.inr rfl) (by simp (disch := (first | decide | omega)) only [resVs, resV, go_sem, hA]) kO hR hB ⟨rfl, rfl, rfl⟩
   have hd : decide ((bn.er.length : Int) > 20) = false := decide_eq_false oM
   by_cases h2 : 20 < m.length
   ·have hd2 : decide ((m.length : Int) > 20) = true := decide_eq_true oM
    simp (disch := (first | decide | omega)) only [hA, List.length_map, hd, hd2, go_sem]
    exact leave_pure (xs := [.v (.bool true)]) (.inr rfl) (by simp (disch := (first | decide | omega)) only [resVs, resV, go_sem, hA]) kO hR hB ⟨rfl, rfl, rfl⟩
   have hd2 : decide ((m.length : Int) > 20) = false := decide_eq_false oM
   simp (disch := (first | decide | omega)) only [hA, List.length_map, hd, hd2, go_sem]
   refine ACalls.nxt (containsM_spec m _ [] (fun j => decide (40 < (m.getD j []).length)) oM _ _ (fun i hi => by simp only [getD_at hi]; exact dgO_spec _ _ _)) ?_
   cases hcl : (List.range m.length).any (fun j => decide (40 < (m.getD j []).length)) with
   | true =>
     simp (disch := (first | decide | omega)) only [hA, go_sem]
     exact leave_pure (xs := [.v (.bool true)]) (.inr rfl) (by simp (disch := (first | decide | omega)) only [resVs, resV, go_sem, hA]) kO hR hB ⟨rfl, rfl, rfl⟩
   | false =>
     have hmr := rows40 hcl
     have hbl : bn.er.length ≤ 4611686018427387904 := by omega
     have cI := fun b l => dInterval_spec t hS hN bn hbl x b l
     have cV := fun b l => rValid19_spec t hS hN bn hbl b l
     have cW := fun b l => dValid_spec t hS hN bn hbl b l
     have cC := fun b l => dCheck_spec t hS hN bn hbl m oM hmr b l
     simp only [eBn, idP] at cI cV cW cC
     have z1 : ((1 : Int) == 1) = true := rfl
     have z2 : ((0 : Int) == 0) = true := rfl
     have z3 : ((2 : Int) == 2) = true := rfl
     cases hv : bnB t bn with
     | false =>
       have e1 : intR t bn x = .tup [.v (.int .i64 0), .v (.int .i64 0), .v (.int .i64 1)] := by unfold intR; rw [if_pos hv]
       simp only [e1, hv, Bool.false_and] at cI cV cW cC
       simp (disch := (first | decide | omega)) only [hA, z1, z2, z3, go_sem]
       refine ACalls.nxt (cI _ _) ?_
       simp (disch := (first | decide | omega)) only [hA, z1, z2, z3, go_sem]
       refine ACalls.nxt (cV _ _) ?_
       simp (disch := (first | decide | omega)) only [hA, z1, z2, z3, go_sem]
       refine ACalls.nxt (cW _ _) ?_
       simp (disch := (first | decide | omega)) only [hA, z1, z2, z3, go_sem]
       refine ACalls.nxt (cC _ _) ?_
       simp (disch := (first | decide | omega)) only [hA, z1, z2, z3, go_sem]
       exact leave_pure (xs := [.v (.bool true)]) (.inr rfl) (by simp (disch := (first | decide | omega)) only [resVs, resV, go_sem, hA, z1, z2, z3]) kO hR hB ⟨rfl, rfl, rfl⟩
     | true =>
       obtain ⟨hval, hok⟩ := bn_ok hv
       have cR := fun b l => rCheck19_spec t hS hN bn hval hok m oM hmr b l
       have cX := fun b l => rEvent19_spec t hS x b l
       simp only [eBn, idP] at cR cX
       simp only [hv, Bool.true_and] at cV cW cC
       have zb : (asgB t bn m != asgB t bn m) = false := bne_self_eq_false _
       cases hx : existsB t x.1 x.2 with
       | false =>
         have e1 : intR t bn x = .tup [.v (.int .i64 0), .v (.int .i64 0), .v (.int .i64 2)] := by unfold intR; rw [if_neg (by rw [hv]; decide), if_pos hx]
         simp only [e1, hx] at cI cX
         simp (disch := (first | decide | omega)) only [hA, z1, z2, z3, go_sem]
         refine ACalls.nxt (cI _ _) ?_
         simp (disch := (first | decide | omega)) only [hA, z1, z2, z3, go_sem]
         refine ACalls.nxt (cV _ _) ?_
         simp (disch := (first | decide | omega)) only [hA, z1, z2, z3, go_sem]
         refine ACalls.nxt (cW _ _) ?_
         simp (disch := (first | decide | omega)) only [hA, z1, z2, z3, zb, go_sem]
         refine ACalls.nxt (cC _ _) ?_
         simp (disch := (first | decide | omega)) only [hA, z1, z2, z3, zb, go_sem]
         refine ACalls.nxt (cR _ _) ?_
         simp (disch := (first | decide | omega)) only [hA, z1, z2, z3, zb, go_sem]
         refine ACalls.nxt (cX _ _) ?_
         simp (disch := (first | decide | omega)) only [hA, z1, z2, z3, zb, go_sem]
         exact leave_pure (xs := [.v (.bool true)]) (.inr rfl) (by simp (disch := (first | decide | omega)) only [resVs, resV, go_sem, hA, z1, z2, z3]) kO hR hB ⟨rfl, rfl, rfl⟩
       | true =>
         have e1 : intR t bn x = .tup [.v (.int .i64 (loA t bn (x.1.toNat, x.2.toNat))), .v (.int .i64 (hiA t bn (x.1.toNat, x.2.toNat))), .v (.int .i64 0)] := by unfold intR; rw [if_neg (by rw [hv]; decide), if_neg (by rw [hx]; decide)]
         simp only [e1, hx] at cI cX
         obtain ⟨p, i, hpi, rfl⟩ := id_back hx
         have cO := fun b l => rOwn19_spec t hS bn hok p i hpi b l
         simp only [idA, eBn, idP] at cO
         have zl : (loA t bn (p, i + 1) == loA t bn (p, i + 1)) = true := beq_self_eq_true _
         have zh : (hiA t bn (p, i + 1) == hiA t bn (p, i + 1)) = true := beq_self_eq_true _
         simp only [Int.toNat_natCast] at cI
         simp (disch := (first | decide | omega)) only [hA, z1, z2, z3, zb, go_sem]
         refine ACalls.nxt (cI _ _) ?_
         simp (disch := (first | decide | omega)) only [hA, z1, z2, z3, zb, go_sem]
         refine ACalls.nxt (cV _ _) ?_
         simp (disch := (first | decide | omega)) only [hA, z1, z2, z3, zb, go_sem]
         refine ACalls.nxt (cW _ _) ?_
         simp (disch := (first | decide | omega)) only [hA, z1, z2, z3, zb, go_sem]
         refine ACalls.nxt (cC _ _) ?_
         simp (disch := (first | decide | omega)) only [hA, z1, z2, z3, zb, go_sem]
         refine ACalls.nxt (cR _ _) ?_
         simp (disch := (first | decide | omega)) only [hA, z1, z2, z3, zb, go_sem]
         refine ACalls.nxt (cX _ _) ?_
         simp (disch := (first | decide | omega)) only [hA, z1, z2, z3, zb, go_sem]
         refine ACalls.nxt (cO _ _) ?_
         simp (disch := (first | decide | omega)) only [hA, z1, z2, z3, zb, zl, zh, go_sem]
         exact leave_pure (xs := [.v (.bool true)]) (.inr rfl) (by simp (disch := (first | decide | omega)) only [resVs, resV, go_sem, hA, z1, z2, z3, zl, zh]) kO hR hB ⟨rfl, rfl, rfl⟩
end Go.Proofs.Ytanblnhnfkeffaa
