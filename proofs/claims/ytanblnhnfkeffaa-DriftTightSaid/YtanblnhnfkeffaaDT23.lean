/- Texts of one proof, laid together: YI. No condition. -/
import Derived.Test.YtanblnhnfkeffaaDT22
import Derived.Test.YtanblnhnfkeffaaDT16
namespace Go.Proofs.Ytanblnhnfkeffaa
set_option linter.unusedVariables false
set_option linter.unusedSimpArgs false
attribute [local go_sem ↓] run_skip run_region run_draw run_both run_seq run_block run_exit run_ret run_cond atN_app seqC_normal seqC_exit seqC_ret seqQ_normal seqQ_exit seqQ_ret blkQ_normal blkQ_exit blkQ_ret runOps_nil runOps_cons runD_nil runD_cons grdO_true grdO_false grdD_true grdD_false ifC_true ifC_false opS_val opS_call opS_two opK_app dS_val dS_call dS_two dK_app kUp_same kUp_ne
attribute [local go_sem] rechks_nil rechks_cons rechk gcase_true gcase_false ex_val ex_val0 gd_none gd_some ev_t ev_c evs_nil evs_cons evo_some evo_none hget_at hget_first hsetB_at hsetB_first hsetL_at hsetL_first ofOpt_some aop aload astore aslice aappend aiaddr aiaddrA afaddr alen alenS acopy amm acall alookup amupdate alenM atostr comma keyEq apick binV binVB binVS isSh intOp strOp boolOp shOp eqC eqF and2 cellsOf setFrom fillA fillS rd rdI elems mk bounds AV.cell List.all_cons List.all_nil Bool.and_true Bool.true_and Bool.and_self List.length_cons List.length_nil List.length_append Nat.reduceAdd Nat.reduceSub Nat.reduceMul Nat.zero_add Nat.add_zero List.cons_append List.nil_append List.append_assoc List.append_nil List.getElem?_cons_zero List.getElem?_cons_succ List.getElem?_nil List.set_cons_zero List.set_cons_succ List.drop_zero List.drop_succ_cons List.take_zero List.take_succ_cons List.take_nil List.drop_nil List.map_cons List.map_nil Option.map_some if_true if_false Bool.false_eq_true and_self true_and and_true Nat.reduceLeDiff Nat.reduceLT Nat.le_refl Nat.reduceEqDiff ite_true ite_false beq_self_eq_true beq_true beq_false Bool.not_true Bool.not_false Bool.true_beq Bool.false_beq map_vs vs_len vs_get vs_take vs_drop vs_snoc1 vs_snoc2 vs_snoc3 vs_snoc5 vs_set1 vs_set2 vs_rep wrap_id le_T lt_T le_F lt_F leI_T ltI_T leI_F ltI_F geI gtI get_T decide_true decide_false room List.getElem?_map List.length_map List.length_take Int.toNat_natCast Nat.min_def Nat.min_self nth_kOf put_kOf put_kNo kOv_cons kOv_nil KHas KArgs List.getElem_cons_zero List.getElem_cons_succ
def a_driftTight : AFunc := ⟨4,161,[.tmp 8],(.seq (.region [⟨some 4,.box (.t 0),none⟩,⟨some 5,.box (.t 1),none⟩,⟨some 6,.box (.t 2),none⟩,⟨some 7,.box (.t 3),none⟩,⟨some 8,.mv (.c (.v (.bool false))),none⟩]) (.seq (.seq (.region [⟨some 18,.call (.c (.fn 47 [])) [],none⟩,⟨some 19,.not (.t 18),none⟩]) (.cond (.t 19) (.seq (.region [⟨some 8,.mv (.c (.v (.bool false))),none⟩]) .ret) .skip)) (.seq (.seq (.region [⟨some 20,.load (some 1) (.t 4),none⟩,⟨some 21,.call (.c (.fn 48 [])) [(.t 20)],none⟩,⟨some 22,.not (.t 21),none⟩,⟨some 23,.mv (.t 22),none⟩,⟨some 24,.faddr 0 (.t 5),some (23,false)⟩,⟨some 25,.load none (.t 24),some (23,false)⟩,⟨some 26,.len (.t 25),some (23,false)⟩,⟨some 27,.bin .gtr (.t 26) (.c (.v (.int .i64 20))),some (23,false)⟩,⟨some 28,.pick (.t 23) (.c (.v (.bool true))) (.t 27),none⟩]) (.cond (.t 28) (.seq (.region [⟨some 8,.mv (.c (.v (.bool true))),none⟩]) .ret) .skip)) (.seq (.region [⟨some 30,.load (some 1) (.t 4),none⟩,⟨some 31,.load (some 3) (.t 5),none⟩,⟨some 32,.call (.c (.fn 58 [])) [(.t 30),(.t 31)],none⟩,⟨some 29,.mv (.t 32),none⟩,⟨some 33,.extract 0 (.t 29),none⟩,⟨some 34,.extract 1 (.t 29),none⟩,⟨some 9,.mv (.t 33),none⟩,⟨some 10,.mv (.t 34),none⟩]) (.seq (.region [⟨some 36,.load (some 1) (.t 4),none⟩,⟨some 37,.load (some 3) (.t 5),none⟩,⟨some 38,.call (.c (.fn 61 [])) [(.t 36),(.t 37)],none⟩,⟨some 35,.mv (.t 38),none⟩,⟨some 39,.extract 0 (.t 35),none⟩,⟨some 40,.extract 1 (.t 35),none⟩,⟨some 11,.mv (.t 39),none⟩,⟨some 12,.mv (.t 40),none⟩]) (.seq (.region [⟨some 42,.load (some 1) (.t 4),none⟩,⟨some 43,.load (some 3) (.t 5),none⟩,⟨some 44,.load (some 2) (.t 6),none⟩,⟨some 45,.load (some 2) (.t 7),none⟩,⟨some 46,.call (.c (.fn 59 [])) [(.t 42),(.t 43),(.t 44),(.t 45)],none⟩,⟨some 41,.mv (.t 46),none⟩,⟨some 47,.extract 0 (.t 41),none⟩,⟨some 48,.extract 1 (.t 41),none⟩,⟨some 13,.mv (.t 47),none⟩,⟨some 14,.mv (.t 48),none⟩]) (.seq (.seq (.region [⟨some 49,.load (some 1) (.t 4),none⟩,⟨some 50,.load (some 3) (.t 5),none⟩,⟨some 51,.call (.c (.fn 52 [])) [(.t 49),(.t 50)],none⟩,⟨some 52,.not (.t 51),none⟩]) (.cond (.t 52) (.seq (.region [⟨some 53,.mv (.t 10),none⟩,⟨some 54,.bin .eql (.t 53) (.c (.v (.int .i64 1))),none⟩,⟨some 55,.mv (.t 54),none⟩,⟨some 56,.mv (.t 9),some (55,true)⟩,⟨some 57,.len (.t 56),some (55,true)⟩,⟨some 58,.bin .eql (.t 57) (.c (.v (.int .i64 0))),some (55,true)⟩,⟨some 59,.pick (.t 55) (.t 58) (.c (.v (.bool false))),none⟩,⟨some 60,.mv (.t 59),none⟩,⟨some 61,.mv (.t 12),some (60,true)⟩,⟨some 62,.bin .eql (.t 61) (.c (.v (.int .i64 1))),some (60,true)⟩,⟨some 63,.pick (.t 60) (.t 62) (.c (.v (.bool false))),none⟩,⟨some 64,.mv (.t 63),none⟩,⟨some 65,.mv (.t 11),some (64,true)⟩,⟨some 66,.len (.t 65),some (64,true)⟩,⟨some 67,.bin .eql (.t 66) (.c (.v (.int .i64 0))),some (64,true)⟩,⟨some 68,.pick (.t 64) (.t 67) (.c (.v (.bool false))),none⟩,⟨some 69,.mv (.t 68),none⟩,⟨some 70,.mv (.t 14),some (69,true)⟩,⟨some 71,.bin .eql (.t 70) (.c (.v (.int .i64 1))),some (69,true)⟩,⟨some 72,.pick (.t 69) (.t 71) (.c (.v (.bool false))),none⟩,⟨some 73,.mv (.t 72),none⟩,⟨some 74,.mv (.t 13),some (73,true)⟩,⟨some 75,.not (.t 74),some (73,true)⟩,⟨some 76,.pick (.t 73) (.t 75) (.c (.v (.bool false))),none⟩,⟨some 8,.mv (.t 76),none⟩]) .ret) .skip)) (.seq (.region [⟨some 77,.load (some 1) (.t 4),none⟩,⟨some 78,.load (some 3) (.t 5),none⟩,⟨some 79,.call (.c (.fn 64 [])) [(.t 77),(.t 78)],none⟩,⟨some 15,.mv (.t 79),none⟩]) (.seq (.region [⟨some 16,.mv (.c (.v (.int .i64 0))),none⟩]) (.seq (.seq (.region [⟨some 80,.mv (.t 15),none⟩,⟨some 81,.call (.c (.fn 65 [])) [(.t 80)],none⟩,⟨some 82,.not (.t 81),none⟩]) (.cond (.t 82) (.seq (.region [⟨some 16,.mv (.c (.v (.int .i64 11))),none⟩]) (.seq (.region [⟨some 83,.mv (.t 10),none⟩,⟨some 84,.mv (.t 16),none⟩,⟨some 85,.bin .neq (.t 83) (.t 84),none⟩,⟨some 86,.mv (.t 85),none⟩,⟨some 87,.mv (.t 9),some (86,false)⟩,⟨some 88,.len (.t 87),some (86,false)⟩,⟨some 89,.bin .neq (.t 88) (.c (.v (.int .i64 0))),some (86,false)⟩,⟨some 90,.pick (.t 86) (.c (.v (.bool true))) (.t 89),none⟩,⟨some 91,.mv (.t 90),none⟩,⟨some 92,.mv (.t 12),some (91,false)⟩,⟨some 93,.mv (.t 16),some (91,false)⟩,⟨some 94,.bin .neq (.t 92) (.t 93),some (91,false)⟩,⟨some 95,.pick (.t 91) (.c (.v (.bool true))) (.t 94),none⟩,⟨some 96,.mv (.t 95),none⟩,⟨some 97,.mv (.t 11),some (96,false)⟩,⟨some 98,.len (.t 97),some (96,false)⟩,⟨some 99,.bin .neq (.t 98) (.c (.v (.int .i64 0))),some (96,false)⟩,⟨some 100,.pick (.t 96) (.c (.v (.bool true))) (.t 99),none⟩]) (.cond (.t 100) (.seq (.region [⟨some 8,.mv (.c (.v (.bool false))),none⟩]) .ret) .skip))) (.seq (.region [⟨some 101,.load (some 1) (.t 4),none⟩,⟨some 102,.mv (.t 15),none⟩,⟨some 103,.call (.c (.fn 66 [])) [(.t 101),(.t 102)],none⟩,⟨some 17,.mv (.t 103),none⟩]) (.seq (.region [⟨some 104,.mv (.t 10),none⟩,⟨some 105,.bin .neq (.t 104) (.c (.v (.int .i64 0))),none⟩,⟨some 106,.mv (.t 105),none⟩,⟨some 107,.mv (.t 9),some (106,false)⟩,⟨some 108,.mv (.t 17),some (106,false)⟩,⟨some 109,.call (.c (.fn 67 [])) [(.t 107),(.t 108)],some (106,false)⟩,⟨some 110,.not (.t 109),some (106,false)⟩,⟨some 111,.pick (.t 106) (.c (.v (.bool true))) (.t 110),none⟩,⟨some 112,.mv (.t 111),none⟩,⟨some 113,.mv (.t 12),some (112,false)⟩,⟨some 114,.bin .neq (.t 113) (.c (.v (.int .i64 0))),some (112,false)⟩,⟨some 115,.pick (.t 112) (.c (.v (.bool true))) (.t 114),none⟩,⟨some 116,.mv (.t 115),none⟩,⟨some 117,.mv (.t 11),some (116,false)⟩,⟨some 118,.mv (.t 17),some (116,false)⟩,⟨some 119,.call (.c (.fn 63 [])) [(.t 118),(.c (.v (.int .i64 0)))],some (116,false)⟩,⟨some 120,.call (.c (.fn 62 [])) [(.t 117),(.t 119)],some (116,false)⟩,⟨some 121,.not (.t 120),some (116,false)⟩,⟨some 122,.pick (.t 116) (.c (.v (.bool true))) (.t 121),none⟩]) (.cond (.t 122) (.seq (.region [⟨some 8,.mv (.c (.v (.bool false))),none⟩]) .ret) .skip))))) (.seq (.block 0 (.seq (.region [⟨some 124,.load (some 1) (.t 4),none⟩,⟨some 125,.load (some 2) (.t 6),none⟩,⟨some 126,.call (.c (.fn 56 [])) [(.t 124),(.t 125)],none⟩,⟨some 127,.not (.t 126),none⟩,⟨some 128,.mv (.t 127),none⟩,⟨some 129,.load (some 1) (.t 4),some (128,false)⟩,⟨some 130,.load (some 2) (.t 7),some (128,false)⟩,⟨some 131,.call (.c (.fn 56 [])) [(.t 129),(.t 130)],some (128,false)⟩,⟨some 132,.not (.t 131),some (128,false)⟩,⟨some 133,.pick (.t 128) (.c (.v (.bool true))) (.t 132),none⟩,⟨some 123,.mv (.t 133),none⟩]) (.cond (.t 123) (.seq (.region [⟨some 134,.mv (.t 14),none⟩,⟨some 135,.bin .eql (.t 134) (.c (.v (.int .i64 2))),none⟩,⟨some 136,.mv (.t 135),none⟩,⟨some 137,.mv (.t 13),some (136,true)⟩,⟨some 138,.not (.t 137),some (136,true)⟩,⟨some 139,.pick (.t 136) (.t 138) (.c (.v (.bool false))),none⟩,⟨some 8,.mv (.t 139),none⟩]) .ret) (.seq (.region [⟨some 141,.mv (.t 16),none⟩,⟨some 142,.bin .neq (.t 141) (.c (.v (.int .i64 0))),none⟩,⟨some 140,.mv (.t 142),none⟩]) (.cond (.t 140) (.seq (.region [⟨some 143,.mv (.t 14),none⟩,⟨some 144,.mv (.t 16),none⟩,⟨some 145,.bin .eql (.t 143) (.t 144),none⟩,⟨some 146,.mv (.t 145),none⟩,⟨some 147,.mv (.t 13),some (146,true)⟩,⟨some 148,.not (.t 147),some (146,true)⟩,⟨some 149,.pick (.t 146) (.t 148) (.c (.v (.bool false))),none⟩,⟨some 8,.mv (.t 149),none⟩]) .ret) .skip))))) (.seq (.region [⟨some 150,.mv (.t 14),none⟩,⟨some 151,.bin .eql (.t 150) (.c (.v (.int .i64 0))),none⟩,⟨some 152,.mv (.t 151),none⟩,⟨some 153,.mv (.t 13),some (152,true)⟩,⟨some 154,.load (some 1) (.t 4),some (152,true)⟩,⟨some 155,.mv (.t 15),some (152,true)⟩,⟨some 156,.load (some 2) (.t 6),some (152,true)⟩,⟨some 157,.load (some 2) (.t 7),some (152,true)⟩,⟨some 158,.call (.c (.fn 68 [])) [(.t 154),(.t 155),(.t 156),(.t 157)],some (152,true)⟩,⟨some 159,.binB .eql (.t 153) (.t 158),some (152,true)⟩,⟨some 160,.pick (.t 152) (.t 159) (.c (.v (.bool false))),none⟩,⟨some 8,.mv (.t 160),none⟩]) .ret))))))))))))⟩
theorem a_driftTight_ok : cFunc Try.prog 11 = some a_driftTight := by kernel_rfl

theorem cert_form (t : Tr) (bn : Bn) (x y : Int × Int) : ∃ cv ce, certR t bn x y = .tup [.v (.bool cv), .v (.int .i64 ce)] := by
 unfold certR
 split
 ·exact ⟨_, _, rfl⟩
 split
 ·exact ⟨_, _, rfl⟩
 split <;> exact ⟨_, _, rfl⟩
theorem len_few19 {t : Tr} (h : few19B t = true) : t.length ≤ 20 ∧ (∀ x ∈ t, x.evs.length ≤ 70) ∧ (ids t).length ≤ 190 := by
 obtain ⟨h1, _, h2, h3⟩ := few19_in h
 exact ⟨by omega, fun x hx => by have := h2 x hx; omega, by omega⟩
theorem id_back {t : Tr} {x : Int × Int} (h : existsB t x.1 x.2 = true) : ∃ p i, (p, i + 1) ∈ ids t ∧ x = ((p : Int), ((i + 1 : Nat) : Int)) := by
 obtain ⟨p, i, h1, h2, h3⟩ := existsB_in h
 exact ⟨p, i, h3, Prod.ext h1 h2⟩
theorem ea_fit {t : Tr} {bn : Bn} (hn : t.length ≤ 20) (he : ∀ x ∈ t, x.evs.length ≤ 70) : (eaAll t bn t.length).length = (eaAll t bn t.length).length → (eaAll t bn t.length).length ≤ 1000000 ∧ ∀ i (h : i < (eaAll t bn t.length).length) (h' : i < (eaAll t bn t.length).length), C1 (eaAll t bn t.length)[i] (eaAll t bn t.length)[i] := by
 intro _
 have hl : (eaAll t bn t.length).length = t.length := fl_len
 refine ⟨by omega, fun i h h' => ?_⟩
 have hg : (eaAll t bn t.length)[i]? = some (eaRow t bn i (evsOf t i).length) := fl_get oM
 rw [List.getElem?_eq_getElem h, Option.some.injEq] at hg
 rw [hg]
 intro _
 have := he _ (List.getElem_mem (show i < t.length by omega))
 exact ⟨by unfold eaRow; rw [fl_len, evsOf_lt oM]; omega, fun _ _ _ => trivial⟩
set_option maxHeartbeats 8000000 in
theorem driftTight_run (t : Tr) (hN : Nm t) (bn : Bn) (x y : Int × Int) (b l : List Row) :
  ACalls Try.prog 11 [.agg [.v (eT t)], .agg (eBn bn), idP x, idP y] b l (fun r b' l' => r = .v (.bool true) ∧ b' = b ∧ l' = l) := by
 refine calls_kept a_driftTight_ok rfl (by decide) ?_
 intro B g hB hR hE hA
 simp only [KArgs] at hA
 simp only [eBn, idP] at hA
 simp (disch := (first | decide | omega)) only [a_driftTight, hA, go_sem]
 refine ACalls.nxt (awake19_spec _ _) ?_
 simp (disch := (first | decide | omega)) only [hA, go_sem]
 refine ACalls.nxt (few19_spec t _ _) ?_
 cases hf : few19B t with
 | false =>
   simp (disch := (first | decide | omega)) only [hA, go_sem]
   exact leave_pure (xs := [.v (.bool true)]) (.inr rfl) (by simp (disch := (first | decide | omega)) only [resVs, resV, go_sem, hA]) kO hR hB ⟨rfl, rfl, rfl⟩
 | true =>
   have hS := (few19_in hf).2.1
   obtain ⟨hn, he70, hC⟩ := len_few19 hf
   by_cases h1 : 20 < bn.er.length
   ·have hd : decide ((bn.er.length : Int) > 20) = true := decide_eq_true oM
    simp (disch := (first | decide | omega)) only [hA, List.length_map, hd, go_sem]
    exact leave_pure (xs := [.v (.bool true)]) (.inr rfl) (by simp (disch := (first | decide | omega)) only [resVs, resV, go_sem, hA]) kO hR hB ⟨rfl, rfl, rfl⟩
   have hd : decide ((bn.er.length : Int) > 20) = false := decide_eq_false oM
   have hbl : bn.er.length ≤ 4611686018427387904 := by omega
   have cT := fun b l => dTight_spec t hS hN hn he70 hC bn hbl b l
   have cE := fun b l => dEarly_spec t hS hN hn he70 hC bn hbl b l
   have cC := fun b l => dCert_spec t hS hN hn he70 hC bn hbl x y b l
   have cV := fun b l => rValid19_spec t hS hN bn hbl b l
   obtain ⟨cv, ce, hce⟩ := cert_form t bn x y
   simp only [eBn, idP] at cT cE cC cV
   simp only [hce] at cC
   cases hv : bnB t bn with
   | false =>
     have e1 : tightR t bn = .tup [.v .zsl, .v (.int .i64 1)] := by unfold tightR; rw [if_pos hv]
     have e2 : earlyR t bn = .tup [.v .zsl, .v (.int .i64 1)] := by unfold earlyR; rw [if_pos hv]
     unfold certR at hce
     rw [if_pos hv] at hce
     cases hce
     simp only [e1, e2, hv] at cT cE cV
     simp (disch := (first | decide | omega)) only [hA, List.length_map, hd, go_sem]
     refine ACalls.nxt (cT _ _) ?_
     simp (disch := (first | decide | omega)) only [hA, go_sem]
     refine ACalls.nxt (cE _ _) ?_
     simp (disch := (first | decide | omega)) only [hA, go_sem]
     refine ACalls.nxt (cC _ _) ?_
     simp (disch := (first | decide | omega)) only [hA, go_sem]
     refine ACalls.nxt (cV _ _) ?_
     simp (disch := (first | decide | omega)) only [hA, go_sem]
     exact leave_pure (xs := [.v (.bool true)]) (.inr rfl) (by simp (disch := (first | decide | omega)) only [resVs, resV, go_sem, hA]) kO hR hB ⟨rfl, rfl, rfl⟩
   | true =>
     obtain ⟨hval, hok⟩ := bn_ok hv
     have z1 : ((11 : Int) != 11) = false := rfl
     have z2 : ((11 : Int) == 11) = true := rfl
     have z3 : (((0 : Nat) : Int) != 0) = false := rfl
     have z4 : ((0 : Int) != 0) = false := rfl
     have z5 : ((11 : Int) != 0) = true := rfl
     have z6 : ((11 : Int) == 0) = false := rfl
     have z7 : ((0 : Int) == 0) = true := rfl
     have z8 : ((2 : Int) == 2) = true := rfl
     have cD : ∀ b l, ACalls Try.prog 64 [.agg [.v (eT t)], .agg (eBn bn)] b l (fun r b' l' => r = dMV t bn ∧ b' = b ∧ l' = l) := fun b l => rDist_spec t hS hN hn he70 oM hval bn hok b l
     have cK := fun b l => rCons_spec t bn oM b l
     have cX := fun b l => rEvent19_spec t hS x b l
     have cY := fun b l => rEvent19_spec t hS y b l
     simp only [eBn, idP] at cD cX cY
     have hend : ∀ (xx : Bool), cv = cerB t bn (x.1.toNat, x.2.toNat) (y.1.toNat, y.2.toNat) → (cv == cerB t bn (x.1.toNat, x.2.toNat) (y.1.toNat, y.2.toNat)) = true := fun _ h => by rw [h]; exact beq_self_eq_true _
     unfold certR at hce
     rw [if_neg (by rw [hv]; decide)] at hce
     cases hk : okB t bn with
     | false =>
       have e1 : tightR t bn = .tup [.v .zsl, .v (.int .i64 11)] := by unfold tightR; rw [if_neg (by rw [hv]; decide), if_pos hk]
       have e2 : earlyR t bn = .tup [.v .zsl, .v (.int .i64 11)] := by unfold earlyR; rw [if_neg (by rw [hv]; decide), if_pos hk]
       simp only [e1, e2, hv, hk] at cT cE cV cK
       simp (disch := (first | decide | omega)) only [hA, List.length_map, hd, go_sem]
       refine ACalls.nxt (cT _ _) ?_
       simp (disch := (first | decide | omega)) only [hA, z1, z2, z3, z4, z5, z6, z7, z8, go_sem]
       refine ACalls.nxt (cE _ _) ?_
       simp (disch := (first | decide | omega)) only [hA, z1, z2, z3, z4, z5, z6, z7, z8, go_sem]
       refine ACalls.nxt (cC _ _) ?_
       simp (disch := (first | decide | omega)) only [hA, z1, z2, z3, z4, z5, z6, z7, z8, go_sem]
       refine ACalls.nxt (cV _ _) ?_
       simp (disch := (first | decide | omega)) only [hA, z1, z2, z3, z4, z5, z6, z7, z8, go_sem]
       refine ACalls.nxt (cD _ _) ?_
       simp (disch := (first | decide | omega)) only [hA, z1, z2, z3, z4, z5, z6, z7, z8, go_sem]
       refine ACalls.nxt (cK _ _) ?_
       simp (disch := (first | decide | omega)) only [hA, z1, z2, z3, z4, z5, z6, z7, z8, go_sem]
       refine ACalls.nxt (cX _ _) ?_
       cases hx : existsB t x.1 x.2 with
       | false =>
         rw [if_pos (.inl hx)] at hce
         cases hce
         simp (disch := (first | decide | omega)) only [hA, z1, z2, z3, z4, z5, z6, z7, z8, go_sem]
         exact leave_pure (xs := [.v (.bool true)]) (.inr rfl) (by simp (disch := (first | decide | omega)) only [resVs, resV, go_sem, hA, z1, z2, z3, z4, z5, z6, z7, z8]) kO hR hB ⟨rfl, rfl, rfl⟩
       | true =>
         simp (disch := (first | decide | omega)) only [hA, z1, z2, z3, z4, z5, z6, z7, z8, go_sem]
         refine ACalls.nxt (cY _ _) ?_
         cases hy : existsB t y.1 y.2 with
         | false =>
           rw [if_pos (.inr hy)] at hce
           cases hce
           simp (disch := (first | decide | omega)) only [hA, z1, z2, z3, z4, z5, z6, z7, z8, go_sem]
           exact leave_pure (xs := [.v (.bool true)]) (.inr rfl) (by simp (disch := (first | decide | omega)) only [resVs, resV, go_sem, hA, z1, z2, z3, z4, z5, z6, z7, z8]) kO hR hB ⟨rfl, rfl, rfl⟩
         | true =>
           rw [if_neg (by rw [hx, hy]; decide), if_pos hk] at hce
           cases hce
           simp (disch := (first | decide | omega)) only [hA, z1, z2, z3, z4, z5, z6, z7, z8, go_sem]
           exact leave_pure (xs := [.v (.bool true)]) (.inr rfl) (by simp (disch := (first | decide | omega)) only [resVs, resV, go_sem, hA, z1, z2, z3, z4, z5, z6, z7, z8]) kO hR hB ⟨rfl, rfl, rfl⟩
     | true =>
       have e1 : tightR t bn = .tup [.v (.isl 1 (tiAll t bn t.length)), .v (.int .i64 0)] := by unfold tightR; rw [if_neg (by rw [hv]; decide), if_neg (by rw [hk]; decide)]
       have e2 : earlyR t bn = .tup [.v (.isl 1 ((eaAll t bn t.length).map eRw)), .v (.int .i64 0)] := by unfold earlyR; rw [if_neg (by rw [hv]; decide), if_neg (by rw [hk]; decide)]
       have cR := fun b l => rTi19_spec t hS hn he70 oM bn hok hk b l
       have cS := fun b l => same19_refl t hS bn b l
       have cN := fun b l => rEnds19_spec t hS bn 0 (by decide) b l
       have cQ := fun b l => sRows_spec (eaAll t bn t.length) (eaAll t bn t.length) (ea_fit hn he70) b l
       simp only [e1, e2, hv, hk] at cT cE cV cK
       simp only [en_zero] at cN
       simp only [decide_eq_true rfl] at cQ
       simp (disch := (first | decide | omega)) only [hA, List.length_map, hd, go_sem]
       refine ACalls.nxt (cT _ _) ?_
       simp (disch := (first | decide | omega)) only [hA, z1, z2, z3, z4, z5, z6, z7, z8, go_sem]
       refine ACalls.nxt (cE _ _) ?_
       simp (disch := (first | decide | omega)) only [hA, z1, z2, z3, z4, z5, z6, z7, z8, go_sem]
       refine ACalls.nxt (cC _ _) ?_
       simp (disch := (first | decide | omega)) only [hA, z1, z2, z3, z4, z5, z6, z7, z8, go_sem]
       refine ACalls.nxt (cV _ _) ?_
       simp (disch := (first | decide | omega)) only [hA, z1, z2, z3, z4, z5, z6, z7, z8, go_sem]
       refine ACalls.nxt (cD _ _) ?_
       simp (disch := (first | decide | omega)) only [hA, z1, z2, z3, z4, z5, z6, z7, z8, go_sem]
       refine ACalls.nxt (cK _ _) ?_
       simp (disch := (first | decide | omega)) only [hA, z1, z2, z3, z4, z5, z6, z7, z8, go_sem]
       refine ACalls.nxt (cR _ _) ?_
       simp (disch := (first | decide | omega)) only [hA, z1, z2, z3, z4, z5, z6, z7, z8, go_sem]
       refine ACalls.nxt (cS _ _) ?_
       simp (disch := (first | decide | omega)) only [hA, z1, z2, z3, z4, z5, z6, z7, z8, go_sem]
       refine ACalls.nxt (cN _ _) ?_
       simp (disch := (first | decide | omega)) only [hA, z1, z2, z3, z4, z5, z6, z7, z8, go_sem]
       refine ACalls.nxt (cQ _ _) ?_
       simp (disch := (first | decide | omega)) only [hA, z1, z2, z3, z4, z5, z6, z7, z8, go_sem]
       refine ACalls.nxt (cX _ _) ?_
       cases hx : existsB t x.1 x.2 with
       | false =>
         rw [if_pos (.inl hx)] at hce
         cases hce
         simp (disch := (first | decide | omega)) only [hA, z1, z2, z3, z4, z5, z6, z7, z8, go_sem]
         exact leave_pure (xs := [.v (.bool true)]) (.inr rfl) (by simp (disch := (first | decide | omega)) only [resVs, resV, go_sem, hA, z1, z2, z3, z4, z5, z6, z7, z8]) kO hR hB ⟨rfl, rfl, rfl⟩
       | true =>
         simp (disch := (first | decide | omega)) only [hA, z1, z2, z3, z4, z5, z6, z7, z8, go_sem]
         refine ACalls.nxt (cY _ _) ?_
         cases hy : existsB t y.1 y.2 with
         | false =>
           rw [if_pos (.inr hy)] at hce
           cases hce
           simp (disch := (first | decide | omega)) only [hA, z1, z2, z3, z4, z5, z6, z7, z8, go_sem]
           exact leave_pure (xs := [.v (.bool true)]) (.inr rfl) (by simp (disch := (first | decide | omega)) only [resVs, resV, go_sem, hA, z1, z2, z3, z4, z5, z6, z7, z8]) kO hR hB ⟨rfl, rfl, rfl⟩
         | true =>
           rw [if_neg (by rw [hx, hy]; decide), if_neg (by rw [hk]; decide)] at hce
           obtain ⟨p, i, hpi, rfl⟩ := id_back hx
           obtain ⟨q, j, hqj, rfl⟩ := id_back hy
           have cZ := fun b l => rCe19_spec t hn he70 bn p i q j hpi hqj b l
           simp only [idA, idP] at cZ
           cases hce
           simp (disch := (first | decide | omega)) only [hA, z1, z2, z3, z4, z5, z6, z7, z8, go_sem]
           refine ACalls.nxt (cZ _ _) ?_
           simp (disch := (first | decide | omega)) only [hA, z1, z2, z3, z4, z5, z6, z7, z8, go_sem]
           exact leave_pure (xs := [.v (.bool true)]) (.inr rfl) (by simp (disch := (first | decide | omega)) only [resVs, resV, go_sem, hA, z1, z2, z3, z4, z5, z6, z7, z8]) kO hR hB ⟨rfl, rfl, rfl⟩
end Go.Proofs.Ytanblnhnfkeffaa
