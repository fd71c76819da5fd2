/- Texts of one proof, laid together: KB, KC, KD. No condition. -/
import Derived.Test.YtcemoeigegkmoaaUE12
import Derived.Test.YtcemoeigegkmoaaUE8
namespace Go.Proofs.Ytcemoeigegkmoaa
set_option linter.unusedVariables false
set_option linter.unusedSimpArgs false
attribute [local go_sem ↓] run_skip run_region run_draw run_seq run_block run_exit run_ret run_cond atN_app seqC_normal seqC_exit seqC_ret seqQ_normal seqQ_exit seqQ_ret blkQ_normal blkQ_exit blkQ_ret runOps_nil runOps_cons runD_nil runD_cons grdO_true grdO_false grdD_true grdD_false ifC_true ifC_false opS_val opS_call opS_two opK_app dS_val dS_call dS_two dK_app kUp_same kUp_ne
attribute [local go_sem] rechks_nil rechks_cons rechk gcase_true gcase_false ex_val ex_val0 gd_none gd_some ev_t ev_c evs_nil evs_cons evo_some evo_none hget_at hget_first hsetB_at hsetB_first hsetL_at hsetL_first ofOpt_some aop aload astore aslice aappend aiaddr aiaddrA afaddr alen alenS acopy amm acall alookup amupdate alenM comma keyEq apick binV binVB binVS isSh intOp strOp boolOp shOp eqC eqF and2 cellsOf setFrom fillA fillS rd rdI elems mk bounds AV.cell List.all_cons List.all_nil Bool.and_true Bool.true_and Bool.and_self List.length_cons List.length_nil List.length_append Nat.reduceAdd Nat.reduceSub Nat.reduceMul Nat.zero_add Nat.add_zero List.cons_append List.nil_append List.append_assoc List.append_nil List.getElem?_cons_zero List.getElem?_cons_succ List.getElem?_nil List.set_cons_zero List.set_cons_succ List.drop_zero List.drop_succ_cons List.take_zero List.take_succ_cons List.take_nil List.drop_nil List.map_cons List.map_nil Option.map_some if_true if_false Bool.false_eq_true and_self true_and and_true Nat.reduceLeDiff Nat.reduceLT Nat.le_refl Nat.reduceEqDiff ite_true ite_false beq_self_eq_true beq_true beq_false Bool.not_true Bool.not_false Bool.true_beq Bool.false_beq map_vs vs_len vs_get vs_take vs_drop vs_snoc1 vs_snoc2 vs_snoc3 vs_snoc5 vs_set1 vs_set2 vs_rep wrap_id le_T lt_T le_F lt_F leI_T ltI_T leI_F ltI_F geI gtI get_T decide_true decide_false room List.getElem?_map List.length_map List.length_take Int.toNat_natCast Nat.min_def Nat.min_self nth_kOf put_kOf put_kNo kOv_cons kOv_nil KHas KArgs List.getElem_cons_zero List.getElem_cons_succ
def a_ExactL : AFunc := ⟨2,165,[.tmp 4],(.seq (.region [⟨some 2,.box (.t 0),none⟩,⟨some 4,.mv (.c (.v (.bool false))),none⟩]) (.seq (.seq (.region [⟨some 18,.call (.c (.fn 15 [])) [],none⟩,⟨some 19,.not (.t 18),none⟩,⟨some 20,.mv (.t 19),none⟩,⟨some 21,.load (some 1) (.t 2),some (20,false)⟩,⟨some 22,.call (.c (.fn 16 [])) [(.t 21)],some (20,false)⟩,⟨some 23,.not (.t 22),some (20,false)⟩,⟨some 24,.pick (.t 20) (.c (.v (.bool true))) (.t 23),none⟩,⟨some 25,.mv (.t 24),none⟩,⟨some 26,.load (some 1) (.t 2),some (25,false)⟩,⟨some 27,.call (.c (.fn 18 [])) [(.t 26)],some (25,false)⟩,⟨some 28,.not (.t 27),some (25,false)⟩,⟨some 29,.pick (.t 25) (.c (.v (.bool true))) (.t 28),none⟩]) (.cond (.t 29) (.seq (.region [⟨some 30,.call (.c (.fn 15 [])) [],none⟩,⟨some 4,.mv (.t 30),none⟩]) .ret) .skip)) (.seq (.region [⟨some 31,.faddr 0 (.t 2),none⟩,⟨some 32,.load none (.t 31),none⟩,⟨some 33,.len (.t 32),none⟩,⟨some 5,.mv (.t 33),none⟩]) (.seq (.region [⟨some 34,.mv (.t 5),none⟩,⟨some 35,.mv (.t 1),none⟩,⟨some 36,.conv .i64 (.t 35),none⟩,⟨some 37,.mv (.t 5),none⟩,⟨some 38,.bin .sub (.c (.v (.int .i64 8))) (.t 37),none⟩,⟨some 39,.bin .add (.t 38) (.c (.v (.int .i64 1))),none⟩,⟨some 40,.bin .rem (.t 36) (.t 39),none⟩,⟨some 41,.bin .add (.t 34) (.t 40),none⟩,⟨some 6,.mv (.t 41),none⟩]) (.seq (.region [⟨some 43,.load (some 1) (.t 2),none⟩,⟨some 44,.mv (.t 6),none⟩,⟨some 45,.call (.c (.fn 17 [])) [(.t 43),(.t 44)],none⟩,⟨some 42,.mv (.t 45),none⟩,⟨some 46,.extract 0 (.t 42),none⟩,⟨some 47,.extract 1 (.t 42),none⟩,⟨some 7,.mv (.t 46),none⟩,⟨some 8,.mv (.t 47),none⟩]) (.seq (.region [⟨some 49,.load (some 1) (.t 2),none⟩,⟨some 50,.call (.c (.fn 27 [])) [(.t 49)],none⟩,⟨some 48,.mv (.t 50),none⟩,⟨some 51,.extract 0 (.t 48),none⟩,⟨some 52,.extract 1 (.t 48),none⟩,⟨some 9,.mv (.t 51),none⟩,⟨some 10,.mv (.t 52),none⟩]) (.seq (.region [⟨some 54,.load (some 1) (.t 2),none⟩,⟨some 55,.mv (.t 6),none⟩,⟨some 56,.call (.c (.fn 22 [])) [(.t 54),(.t 55)],none⟩,⟨some 53,.mv (.t 56),none⟩,⟨some 57,.extract 0 (.t 53),none⟩,⟨some 58,.extract 1 (.t 53),none⟩,⟨some 11,.mv (.t 57),none⟩,⟨some 12,.mv (.t 58),none⟩]) (.seq (.region [⟨some 60,.load (some 1) (.t 2),none⟩,⟨some 61,.mv (.t 6),none⟩,⟨some 62,.call (.c (.fn 24 [])) [(.t 60),(.t 61)],none⟩,⟨some 59,.mv (.t 62),none⟩,⟨some 63,.extract 0 (.t 59),none⟩,⟨some 64,.extract 1 (.t 59),none⟩,⟨some 65,.extract 2 (.t 59),none⟩,⟨some 13,.alloc [(.v (.int .i64 0)),(.v (.int .i64 0))],none⟩,⟨some 14,.alloc [(.v (.int .i64 0)),(.v (.int .i64 0))],none⟩,⟨none,.store 2 (.t 13) (.t 63),none⟩,⟨none,.store 2 (.t 14) (.t 64),none⟩,⟨some 15,.mv (.t 65),none⟩]) (.seq (.seq (.region [⟨some 66,.mv (.t 8),none⟩,⟨some 67,.bin .neq (.t 66) (.c (.v (.int .i64 0))),none⟩,⟨some 68,.mv (.t 67),none⟩,⟨some 69,.mv (.t 10),some (68,false)⟩,⟨some 70,.bin .neq (.t 69) (.c (.v (.int .i64 0))),some (68,false)⟩,⟨some 71,.pick (.t 68) (.c (.v (.bool true))) (.t 70),none⟩,⟨some 72,.mv (.t 71),none⟩,⟨some 73,.mv (.t 12),some (72,false)⟩,⟨some 74,.bin .neq (.t 73) (.c (.v (.int .i64 0))),some (72,false)⟩,⟨some 75,.pick (.t 72) (.c (.v (.bool true))) (.t 74),none⟩,⟨some 76,.mv (.t 75),none⟩,⟨some 77,.mv (.t 11),some (76,false)⟩,⟨some 78,.bin .neq (.t 77) (.c (.v (.int .i64 0))),some (76,false)⟩,⟨some 79,.pick (.t 76) (.c (.v (.bool true))) (.t 78),none⟩,⟨some 80,.mv (.t 79),none⟩,⟨some 81,.mv (.t 15),some (80,false)⟩,⟨some 82,.bin .neq (.t 81) (.c (.v (.int .i64 7))),some (80,false)⟩,⟨some 83,.pick (.t 80) (.c (.v (.bool true))) (.t 82),none⟩,⟨some 84,.mv (.t 83),none⟩,⟨some 85,.load (some 1) (.t 2),some (84,false)⟩,⟨some 86,.mv (.t 6),some (84,false)⟩,⟨some 87,.mv (.t 7),some (84,false)⟩,⟨some 88,.call (.c (.fn 28 [])) [(.t 85),(.t 86),(.t 87)],some (84,false)⟩,⟨some 89,.not (.t 88),some (84,false)⟩,⟨some 90,.pick (.t 84) (.c (.v (.bool true))) (.t 89),none⟩,⟨some 91,.mv (.t 90),none⟩,⟨some 92,.mv (.t 9),some (91,false)⟩,⟨some 93,.len (.t 92),some (91,false)⟩,⟨some 94,.mv (.t 5),some (91,false)⟩,⟨some 95,.bin .neq (.t 93) (.t 94),some (91,false)⟩,⟨some 96,.pick (.t 91) (.c (.v (.bool true))) (.t 95),none⟩]) (.cond (.t 96) (.seq (.region [⟨some 4,.mv (.c (.v (.bool false))),none⟩]) .ret) .skip)) (.seq (.seq (.region [⟨some 97,.mv (.t 7),none⟩,⟨some 98,.len (.t 97),none⟩,⟨some 99,.mv (.c (.v (.int .i64 0))),none⟩]) (.block 0 (.loop (.seq (.region [⟨some 100,.bin .lss (.t 99) (.t 98),none⟩]) (.seq (.cond (.t 100) .skip (.exit 0)) (.seq (.block 1 (.seq (.region [⟨some 101,.mv (.t 99),none⟩,⟨some 16,.mv (.t 101),none⟩]) (.seq (.seq (.draw [⟨0,⟨some 102,.mv (.t 9),none⟩,[]⟩,⟨1,⟨some 103,.mv (.t 16),none⟩,[]⟩,⟨2,⟨some 104,.iaddr 1 (.t 102) (.t 103),none⟩,[]⟩,⟨3,⟨some 105,.load none (.t 104),none⟩,[]⟩,⟨4,⟨some 106,.len (.t 105),none⟩,[]⟩,⟨5,⟨some 107,.mv (.t 7),none⟩,[]⟩,⟨6,⟨some 108,.mv (.t 16),none⟩,[]⟩,⟨7,⟨some 109,.iaddr 1 (.t 107) (.t 108),none⟩,[]⟩,⟨8,⟨some 110,.load none (.t 109),none⟩,[]⟩,⟨9,⟨some 111,.len (.t 110),none⟩,[]⟩,⟨10,⟨some 112,.bin .neq (.t 106) (.t 111),none⟩,[]⟩]) (.cond (.t 112) (.seq (.region [⟨some 4,.mv (.c (.v (.bool false))),none⟩]) .ret) .skip)) (.seq (.region [⟨some 113,.mv (.t 7),none⟩,⟨some 114,.mv (.t 16),none⟩,⟨some 115,.iaddr 1 (.t 113) (.t 114),none⟩,⟨some 116,.load none (.t 115),none⟩,⟨some 117,.len (.t 116),none⟩,⟨some 118,.mv (.c (.v (.int .i64 0))),none⟩]) (.block 2 (.loop (.seq (.region [⟨some 119,.bin .lss (.t 118) (.t 117),none⟩]) (.seq (.cond (.t 119) .skip (.exit 2)) (.seq (.block 3 (.seq (.region [⟨some 120,.mv (.t 118),none⟩,⟨some 17,.mv (.t 120),none⟩]) (.seq (.draw [⟨0,⟨some 121,.mv (.t 9),none⟩,[]⟩,⟨1,⟨some 122,.mv (.t 16),none⟩,[]⟩,⟨2,⟨some 123,.iaddr 1 (.t 121) (.t 122),none⟩,[]⟩,⟨3,⟨some 124,.load none (.t 123),none⟩,[]⟩,⟨4,⟨some 125,.mv (.t 17),none⟩,[]⟩,⟨5,⟨some 126,.iaddr 1 (.t 124) (.t 125),none⟩,[]⟩,⟨6,⟨some 127,.load none (.t 126),none⟩,[]⟩,⟨7,⟨some 128,.len (.t 127),none⟩,[]⟩,⟨8,⟨some 129,.mv (.t 5),none⟩,[]⟩,⟨9,⟨some 130,.bin .neq (.t 128) (.t 129),none⟩,[]⟩,⟨10,⟨some 131,.mv (.t 130),none⟩,[]⟩,⟨11,⟨some 132,.mv (.t 7),some (131,false)⟩,[]⟩,⟨12,⟨some 133,.mv (.t 16),some (131,false)⟩,[]⟩,⟨13,⟨some 134,.iaddr 1 (.t 132) (.t 133),some (131,false)⟩,[]⟩,⟨14,⟨some 135,.load none (.t 134),some (131,false)⟩,[]⟩,⟨15,⟨some 136,.mv (.t 17),some (131,false)⟩,[]⟩,⟨16,⟨some 137,.iaddr 1 (.t 135) (.t 136),some (131,false)⟩,[]⟩,⟨17,⟨some 138,.load none (.t 137),some (131,false)⟩,[]⟩,⟨18,⟨some 139,.mv (.t 5),some (131,false)⟩,[]⟩,⟨19,⟨some 140,.slice 1 (.t 138) none (some (.t 139)),some (131,false)⟩,[]⟩,⟨20,⟨some 141,.mv (.t 9),some (131,false)⟩,[]⟩,⟨21,⟨some 142,.mv (.t 16),some (131,false)⟩,[]⟩,⟨22,⟨some 143,.iaddr 1 (.t 141) (.t 142),some (131,false)⟩,[]⟩,⟨23,⟨some 144,.load none (.t 143),some (131,false)⟩,[]⟩,⟨24,⟨some 145,.mv (.t 17),some (131,false)⟩,[]⟩,⟨25,⟨some 146,.iaddr 1 (.t 144) (.t 145),some (131,false)⟩,[]⟩,⟨26,⟨some 147,.load none (.t 146),some (131,false)⟩,[]⟩,⟨27,⟨some 148,.call (.c (.fn 29 [])) [(.t 140),(.t 147)],some (131,false)⟩,[]⟩,⟨28,⟨some 149,.not (.t 148),some (131,false)⟩,[]⟩,⟨29,⟨some 150,.pick (.t 131) (.c (.v (.bool true))) (.t 149),none⟩,[]⟩,⟨30,⟨some 151,.mv (.t 150),none⟩,[]⟩,⟨31,⟨some 152,.mv (.t 7),some (151,false)⟩,[]⟩,⟨32,⟨some 153,.mv (.t 16),some (151,false)⟩,[]⟩,⟨33,⟨some 154,.iaddr 1 (.t 152) (.t 153),some (151,false)⟩,[]⟩,⟨34,⟨some 155,.load none (.t 154),some (151,false)⟩,[]⟩,⟨35,⟨some 156,.mv (.t 17),some (151,false)⟩,[]⟩,⟨36,⟨some 157,.iaddr 1 (.t 155) (.t 156),some (151,false)⟩,[]⟩,⟨37,⟨some 158,.load none (.t 157),some (151,false)⟩,[]⟩,⟨38,⟨some 159,.mv (.t 5),some (151,false)⟩,[]⟩,⟨39,⟨some 160,.slice 1 (.t 158) (some (.t 159)) none,some (151,false)⟩,[]⟩,⟨40,⟨some 161,.call (.c (.fn 30 [])) [(.t 160),(.c (.fn 31 []))],some (151,false)⟩,[]⟩,⟨41,⟨some 162,.pick (.t 151) (.c (.v (.bool true))) (.t 161),none⟩,[]⟩]) (.cond (.t 162) (.seq (.region [⟨some 4,.mv (.c (.v (.bool false))),none⟩]) .ret) .skip)))) (.region [⟨some 163,.bin .add (.t 118) (.c (.v (.int .i64 1))),none⟩,⟨some 118,.mv (.t 163),none⟩])))))))))) (.region [⟨some 164,.bin .add (.t 99) (.c (.v (.int .i64 1))),none⟩,⟨some 99,.mv (.t 164),none⟩]))))))) (.seq (.region [⟨some 4,.mv (.c (.v (.bool true))),none⟩]) .ret)))))))))))⟩
theorem a_ExactL_ok : cFunc Try.prog 5 = some a_ExactL := by kernel_rfl
def r_ExactL0 : List (Nat × Nat) := [(4, 4), (16, 17), (99, 164)]
def r_ExactL1 : List (Nat × Nat) := [(4, 4), (17, 17), (118, 163)]
def a_ExactL1 : AFunc := ⟨1,5,[.tmp 2],(.seq (.region [⟨some 2,.mv (.c (.v (.bool false))),none⟩]) (.seq (.region [⟨some 3,.mv (.t 0),none⟩,⟨some 4,.bin .neq (.t 3) (.c (.v (.int .i64 0))),none⟩,⟨some 2,.mv (.t 4),none⟩]) .ret))⟩
theorem a_ExactL1_ok : cFunc Try.prog 31 = some a_ExactL1 := by kernel_rfl

theorem exactL1_spec (n : Int) (b l : List Row) : ACalls Try.prog 31 [.v (.int .i64 n)] b l (fun r b' l' => r = .v (.bool (n != 0)) ∧ b' = b ∧ l' = l) := by
 refine calls_kept a_ExactL1_ok rfl (by decide) ?_
 intro B g hB hR hE hA
 simp only [KArgs] at hA
 simp (disch := (first | decide | omega)) only [a_ExactL1, hA, go_sem]
 exact leave_pure (xs := [.v (.bool (n != 0))]) (.inr rfl) (by simp (disch := (first | decide | omega)) only [resVs, resV, go_sem, hA]) kO hR hB ⟨rfl, rfl, rfl⟩
theorem fcs_vc {t : Tr} (hv : Vok t) {k : Nat} (hk : t.length ≤ k) {x : Nat × Nat} (hx : x ∈ ids t) : fcs t k x = vcs t x ++ List.replicate (k - t.length) 0 := by
 refine ext_getD (by rw [fcs_len, List.length_append, List.length_replicate]; unfold vcs; rw [fl_len]; omega) (fun c hc => ?_)
 rw [fcs_len] at hc
 have h1 : (fcs t k x).getD c 0 = (fc t k x c : Int) := by unfold fcs; rw [fl_getD hc]
 rw [h1, fc_exact hv hk _ x hx (Nat.le_refl _) c]
 have hl : (vcs t x).length = t.length := fl_len
 by_cases h : c < t.length
 ·rw [if_pos h, getD_at (by rw [List.length_append, hl]; omega), List.getElem_append_left (by rw [hl]; exact h)]
  have := fl_getE (f := fun q => (vc t x q : Int)) (n := t.length) (i := c) (by rw [fl_len]; exact h)
  exact this.symm
 ·rw [if_neg h, getD_at (by rw [List.length_append, hl, List.length_replicate]; omega), List.getElem_append_right (by rw [hl]; omega), List.getElem_replicate]
  rfl
theorem exact_two {t : Tr} (hv : Vok t) {k : Nat} (hk : t.length ≤ k) {x y : Nat × Nat} (hx : x ∈ ids t) (hy : y ∈ ids t) (hne : x ≠ y) (h : befB t x y = false) : leqV (fcs t k x) (fcs t k y) = false := by
 rw [Bool.eq_false_iff]
 intro hl
 rw [leqV_iff] at hl
 obtain ⟨p, i⟩ := x
 obtain ⟨i, rfl⟩ : ∃ j, i = j + 1 := ⟨i - 1, by have := mem_pos hx; simp only at this; omega⟩
 obtain ⟨hp, hi⟩ := mem_ids2.1 hx
 have h1 := hl p (by rw [fcs_len]; omega)
 have e : ∀ z ∈ ids t, (fcs t k z).getD p 0 = (vc t z p : Int) := fun z hz => by
  have h1 : (fcs t k z).getD p 0 = (fc t k z p : Int) := by unfold fcs; rw [fl_getD oM]
  rw [h1, fc_exact hv hk _ z hz (Nat.le_refl _) p, if_pos hp]
 rw [e _ hx, e _ hy, vc_own hv hx] at h1
 have h2 : Le t (p, i + 1) y := (vc_iff hi).2 oM
 have h3 := (befB_iff hv hx hy).2 (h2.resolve_left hne)
 rw [h] at h3
 cases h3
theorem idN_mem {t : Tr} {i : Nat} (h : i < (ids t).length) : idN t i ∈ ids t := by unfold idN; rw [getD_at h]; exact List.getElem_mem h
theorem idN_inj {t : Tr} {i j : Nat} (hj : j < (ids t).length) (h : i < j) : idN t i ≠ idN t j := by
 unfold idN
 rw [getD_at hj, getD_at oM]
 exact List.pairwise_iff_getElem.1 (nodup_ids t) i j oM hj h
theorem exact_none {t : Tr} (hv : Vok t) {k : Nat} (hk : t.length ≤ k) : cLat (erN t k) (ids t).length = 0 := by
 rw [cLat_zero]
 intro j i hji hi
 unfold erN
 rw [if_neg]
 intro h
 simp only [Bool.and_eq_true, Bool.not_eq_true', decide_eq_false_iff_not] at h
 obtain ⟨h1, h2⟩ := h
 rw [unB_hpB hi oM] at h1
 simp only [Bool.and_eq_true, Bool.not_eq_true'] at h1
 refine h2 ?_
 unfold cmN cmpV
 have hne := idN_inj (t := t) hi hji
 rw [exact_two hv hk (idN_mem oM) (idN_mem hi) hne h1.2, exact_two hv hk (idN_mem hi) (idN_mem oM) (Ne.symm hne) h1.1]
 rfl
theorem stRow_get {t : Tr} {p i : Nat} (hp : p < t.length) (hi : i < (evsOf t p).length) : (stRow t p (evsOf t p).length)[i]? = some [.isl 1 ((vcs t (p, i + 1)).map eI)] := fl_get hi
set_option maxRecDepth 20000 in
set_option maxHeartbeats 8000000 in
theorem plausibleExact_run (t : Tr) (m : Int) (hm : 0 ≤ m ∧ m < 256) (hT : t.length ≤ 9223372036854775807) (hM : ∀ x ∈ t, x.evs.length ≤ 9223372036854775807) (hN : Nm t) (b l : List Row) :
  ACalls Try.prog 5 [.agg [.v (eT t)], .v (.int .u8 m)] b l (fun r b' l' => r = .v (.bool true) ∧ b' = b ∧ l' = l) := by
 refine calls_kept a_ExactL_ok rfl (by decide) ?_
 intro B g hB hR hE hA
 simp only [KArgs] at hA
 simp (disch := (first | decide | omega)) only [a_ExactL, hA, go_sem]
 refine ACalls.nxt (awake18_spec _ _) ?_
 simp (disch := (first | decide | omega)) only [hA, go_sem]
 refine ACalls.nxt (few18W_spec t hT hM _ _) ?_
 cases hf : few18W t with
 | false =>
   simp (disch := (first | decide | omega)) only [hA, go_sem]
   refine ACalls.nxt (awake18_spec _ _) ?_
   simp (disch := (first | decide | omega)) only [hA, go_sem]
   exact leave_pure (xs := [.v (.bool true)]) (.inr rfl) (by simp (disch := (first | decide | omega)) only [resVs, resV, go_sem, hA]) kO hR hB ⟨rfl, rfl, rfl⟩
 | true =>
   have hS := few18W_sm hM hf
   have hva := fun b l => rvalid_specS t hS hN b l
   cases hval : validL t with
   | false =>
     rw [hval] at hva
     simp (disch := (first | decide | omega)) only [hA, go_sem]
     refine ACalls.nxt (hva _ _) ?_
     simp (disch := (first | decide | omega)) only [hA, go_sem]
     refine ACalls.nxt (awake18_spec _ _) ?_
     simp (disch := (first | decide | omega)) only [hA, go_sem]
     exact leave_pure (xs := [.v (.bool true)]) (.inr rfl) (by simp (disch := (first | decide | omega)) only [resVs, resV, go_sem, hA]) kO hR hB ⟨rfl, rfl, rfl⟩
   | true =>
     obtain ⟨h10, hSm, h40⟩ := few18W_in hM hf hval
     have hv := vok hval
     have hlo := hv.lo
     have hhi := hv.hi
     rw [hval] at hva
     obtain ⟨mm, rfl⟩ : ∃ n : Nat, m = n := ⟨m.toNat, by omega⟩
     obtain ⟨k, hk⟩ : ∃ k, t.length + mm % (8 - t.length + 1) = k := ⟨_, rfl⟩
     have hmod : mm % (8 - t.length + 1) < 8 - t.length + 1 := Nat.mod_lt _ oM
     have hkT : t.length ≤ k := by omega
     have hk8 : k ≤ 8 := by omega
     have w0 : IntKind.i64.wrap (mm : Int) = (mm : Int) := by rw [IntKind.wrap_i64]; omega
     have w1 : (8 : Int) - (t.length : Int) = ((8 - t.length : Nat) : Int) := by omega
     have w2 : ((8 - t.length : Nat) : Int) + 1 = ((8 - t.length + 1 : Nat) : Int) := by omega
     have w3 : Int.tmod (mm : Int) ((8 - t.length + 1 : Nat) : Int) = ((mm % (8 - t.length + 1) : Nat) : Int) := rfl
     have w4 : (t.length : Int) + ((mm % (8 - t.length + 1) : Nat) : Int) = (k : Int) := by omega
     have w5 : (((8 - t.length + 1 : Nat) : Int) = 0) = False := by simp; omega
     have hgv : (1 : Int) ≤ (k : Int) ∧ (k : Int) ≤ 8 := by omega
     have hst : ∀ b l, ACalls Try.prog 17 [.agg [.v (eT t)], .v (.int .i64 k)] b l (fun r b' l' => r = .tup [.v (.isl 1 (fsAll t k)), .v (.int .i64 0)] ∧ b' = b ∧ l' = l) := fun b l => by
      have h := pStamps_spec t hSm hN oM (k : Int) b l
      unfold pStR at h
      rw [if_pos (giv_in hval hgv), Int.toNat_natCast] at h
      exact h
     have hvs := fun b l => vStamps_spec t hSm hN b l
     rw [if_pos hval, ← stL_all] at hvs
     have hex := exact_none hv hkT
     have h0 := szN_nn (t := t) (k := k) oM oM
     have her : ∀ b l, ACalls Try.prog 22 [.agg [.v (eT t)], .v (.int .i64 k)] b l (fun r b' l' => r = .tup [.v (.int .i64 0), .v (.int .i64 0)] ∧ b' = b ∧ l' = l) := fun b l => by
      have h := pErrors_spec t hSm hN (fun _ => by omega) (k : Int) b l
      unfold pErR at h
      rw [if_pos (giv_in hval hgv), Int.toNat_natCast, nEr_nat oM, hex] at h
      exact h
     have hwo : ∀ b l, ACalls Try.prog 24 [.agg [.v (eT t)], .v (.int .i64 k)] b l (fun r b' l' => r = .tup [idQ0, idQ0, .v (.int .i64 7)] ∧ b' = b ∧ l' = l) := fun b l => by
      have h := pWorst_spec t hSm hN (fun _ => by omega) (k : Int) b l
      unfold pWoR at h
      rw [if_pos (giv_in hval hgv), Int.toNat_natCast, if_pos ((wE_none h0).2 hex)] at h
      exact h
     simp only [idQ0] at hwo
     have hfi := fun b l => rFits18_spec t hSm oM k oM hk8 b l
     have n00 : ((0 : Int) != 0) = false := rfl
     have n77 : ((7 : Int) != 7) = false := rfl
     have hTT : ((t.length : Int) != (t.length : Int)) = false := by simp
     have hFl : (fsAll t k).length = t.length := fl_len
     have hgF : ∀ q, q < t.length → (fsAll t k)[q]? = some [.isl 1 (fsRow t k q (evsOf t q).length)] := fun q hq => fl_get hq
     have hVl : (stAll t t.length).length = t.length := fl_len
     have hgV : ∀ q, q < t.length → (stAll t t.length)[q]? = some [.isl 1 (stRow t q (evsOf t q).length)] := fun q hq => fl_get hq
     obtain ⟨FA, hFA⟩ : ∃ FA, fsAll t k = FA := ⟨_, rfl⟩
     obtain ⟨VA, hVA⟩ : ∃ VA, stAll t t.length = VA := ⟨_, rfl⟩
     rw [hFA] at hst hfi hFl hgF
     rw [hVA] at hvs hVl hgV
     simp (disch := (first | decide | omega)) only [hA, go_sem]
     refine ACalls.nxt (hva _ _) ?_
     simp (disch := (first | decide | omega)) only [hA, eT, w0, w1, w2, w3, w4, w5, if_false, List.length_map, go_sem]
     simp only [eT] at hst hvs her hwo hfi
     refine ACalls.nxt (hst _ _) ?_
     simp (disch := (first | decide | omega)) only [hA, go_sem]
     refine ACalls.nxt (hvs _ _) ?_
     simp (disch := (first | decide | omega)) only [hA, go_sem]
     refine ACalls.nxt (her _ _) ?_
     simp (disch := (first | decide | omega)) only [hA, go_sem]
     refine ACalls.nxt (hwo _ _) ?_
     simp (disch := (first | decide | omega)) only [hA, n00, n77, setFrom, cellsOf, go_sem]
     refine ACalls.nxt (hfi _ _) ?_
     simp (disch := (first | decide | omega)) only [hA, hVl, hFl, hTT, go_sem]
     refine loop_kept (ι := Nat) r_ExactL0 (fun p => [(99, .v (.int .i64 p))]) 3 (fun _ => [.live 0 1 [[.v (.isl 3 (t.map ePr))]], .live 0 2 [[.v (.int .i64 0), .v (.int .i64 0)]], .live 0 2 [[.v (.int .i64 0), .v (.int .i64 0)]]])
      (fun p => p ≤ t.length) (fun p => t.length - p) 0 (Nat.zero_le _) (by (repeat (first | exact hE.mono oM | refine KLt.up ?_ kL))) (by ((try simp (disch := decide) only [hA, go_sem]) <;> exact kH)) (fun e => Weak.refl _ _ _) ?_
     intro g1 hE1 hEE1 hg1 p hp
     by_cases hpl : p < t.length
     ·have hne := hSm.ne _ (List.getElem_mem hpl)
      rw [← evsOf_lt hpl] at hne
      have gFp := hgF p hpl
      have gVp := hgV p hpl
      have lF : (fsRow t k p (evsOf t p).length).length = (evsOf t p).length := fl_len
      have lV : (stRow t p (evsOf t p).length).length = (evsOf t p).length := fl_len
      have hee : (((evsOf t p).length : Int) != ((evsOf t p).length : Int)) = false := by simp
      simp (disch := (first | decide | omega)) only [hA, hg1, hFl, hVl, gFp, gVp, lF, lV, hee, go_sem]
      refine loop_kept (ι := Nat) r_ExactL1 (fun i => [(118, .v (.int .i64 i))]) 3 (fun _ => [.live 0 1 [[.v (.isl 3 (t.map ePr))]], .live 0 2 [[.v (.int .i64 0), .v (.int .i64 0)]], .live 0 2 [[.v (.int .i64 0), .v (.int .i64 0)]]])
       (fun i => i ≤ (evsOf t p).length) (fun i => (evsOf t p).length - i) 0 (Nat.zero_le _) (by (repeat (first | exact hE1.mono oM | refine KLt.up ?_ kL))) (by ((try simp (disch := decide) only [hA, hg1, go_sem]) <;> exact kH)) (fun e => Weak.refl _ _ _) ?_
      intro g2 hE2 hEE2 hg2 i hi
      by_cases hil : i < (evsOf t p).length
      ·have hx : (p, i + 1) ∈ ids t := mem_ids2.2 ⟨hpl, hil⟩
       have gR : (fsRow t k p (evsOf t p).length)[i]? = some [.isl 1 ((fcs t k (p, i + 1)).map eI)] := fl_get hil
       have gW := stRow_get hpl hil
       have lvc : ((vcs t (p, i + 1)).map eI).length = t.length := by rw [List.length_map]; exact fl_len
       have lfc : ((fcs t k (p, i + 1)).map eI).length = k := by rw [List.length_map, fcs_len]
       have htk : ((fcs t k (p, i + 1)).map eI).take t.length = (vcs t (p, i + 1)).map eI := by
        rw [fcs_vc hv hkT hx, List.map_append, List.take_append_of_le_length oM, List.take_of_length_le oM]
       have hdr : ((fcs t k (p, i + 1)).map eI).drop t.length = (List.replicate (k - t.length) (0 : Int)).map eI := by
        rw [fcs_vc hv hkT hx, List.map_append, List.drop_append_of_le_length oM, List.drop_of_length_le oM]; rfl
       have heq := fun b l => eq1_spec (vcs t (p, i + 1)) (vcs t (p, i + 1)) (by have : (vcs t (p, i + 1)).length = t.length := fl_len; omega) b l
       rw [decide_eq_true rfl] at heq
       have hco := fun b l => contains1_spec (List.replicate (k - t.length) (0 : Int)) 31 [] (fun _ => false) (by rw [List.length_replicate]; omega) b l (fun j hj => by rw [List.getElem_replicate]; exact exactL1_spec 0 _ _)
       have hno : ((List.range (List.replicate (k - t.length) (0 : Int)).length).any fun _ => false) = false := by simp
       rw [hno] at hco
       obtain ⟨FV, hFV⟩ : ∃ FV, (fcs t k (p, i + 1)).map eI = FV := ⟨_, rfl⟩
       obtain ⟨WV, hWV⟩ : ∃ WV, (vcs t (p, i + 1)).map eI = WV := ⟨_, rfl⟩
       obtain ⟨RV, hRV⟩ : ∃ RV, (List.replicate (k - t.length) (0 : Int)).map eI = RV := ⟨_, rfl⟩
       rw [hFV] at gR lfc htk hdr
       rw [hWV] at gW lvc htk heq
       rw [hRV] at hdr hco
       have htk2 : List.take k FV = FV := List.take_of_length_le oM
       simp (disch := (first | decide | omega)) only [hA, hg1, hg2, hFl, hVl, gFp, gVp, lF, lV, gR, gW, lvc, lfc, hTT, htk, htk2, hdr, go_sem]
       refine ACalls.nxt (heq _ _) ?_
       simp (disch := (first | decide | omega)) only [hA, hg1, hg2, hFl, hVl, gFp, gVp, lF, lV, gR, gW, lvc, lfc, hTT, htk, htk2, hdr, go_sem]
       refine ACalls.nxt (hco _ _) ?_
       simp (disch := (first | decide | omega)) only [hA, hg1, hg2, go_sem]
       refine ⟨i + 1, hil, by simp only; omega, ?_⟩
       exact Weak.kround (p := r_ExactL1) (k := 3) (by ((repeat refine (kAny_up rfl).trans ?_); exact hEE2)) (by ((try simp (disch := decide) only [hA, go_sem]) <;> exact kH)) rfl hE2 (by simp) kV hR kL
      ·obtain rfl : i = (evsOf t p).length := by omega
       simp (disch := (first | decide | omega)) only [hA, hg1, hg2, go_sem]
       refine ⟨p + 1, hpl, by simp only; omega, ?_⟩
       exact Weak.kround (p := r_ExactL0) (k := 3) (by ((repeat refine (kAny_up rfl).trans ?_); refine (kAny_sub hg2 (kIn_sub rfl)).trans ?_; (repeat refine (kAny_up rfl).trans ?_); exact hEE1)) (by ((try simp (disch := decide) only [hA, hg1, go_sem]) <;> exact kH)) rfl hE1 (by simp) kV hR kL
     ·obtain rfl : p = t.length := by omega
      simp (disch := (first | decide | omega)) only [hA, hg1, go_sem]
      exact leave_pure (xs := [.v (.bool true)]) (.inr rfl) (by simp (disch := (first | decide | omega)) only [resVs, resV, go_sem, hA, hg1]) kO hR hB ⟨rfl, rfl, rfl⟩
theorem wf_u8 {n : Int} (h : (Lit.int .u8 n).wf = true) : 0 ≤ n ∧ n < 256 := by
 have h1 : (decide (IntKind.min .u8 ≤ n) && decide (n ≤ IntKind.max .u8)) = true := h
 rw [show IntKind.min .u8 = 0 from rfl, show IntKind.max .u8 = 255 from by decide] at h1
 simp at h1
 omega
def a_lStep : AFunc := ⟨2,20,[.tmp 4,.tmp 5],(.seq (.region [⟨some 4,.mv (.c (.v (.int .i64 0))),none⟩,⟨some 5,.mv (.c (.v (.int .i64 0))),none⟩]) (.seq (.seq (.region [⟨some 6,.mv (.t 0),none⟩,⟨some 7,.mv (.t 1),none⟩,⟨some 8,.mm false (.t 6) (.t 7),none⟩,⟨some 9,.bin .lss (.t 8) (.c (.v (.int .i64 0))),none⟩,⟨some 10,.mv (.t 9),none⟩,⟨some 11,.mv (.t 0),some (10,false)⟩,⟨some 12,.mv (.t 1),some (10,false)⟩,⟨some 13,.mm true (.t 11) (.t 12),some (10,false)⟩,⟨some 14,.bin .geq (.t 13) (.c (.v (.int .i64 1125899906842624))),some (10,false)⟩,⟨some 15,.pick (.t 10) (.c (.v (.bool true))) (.t 14),none⟩]) (.cond (.t 15) (.seq (.region [⟨some 4,.mv (.c (.v (.int .i64 0))),none⟩,⟨some 5,.mv (.c (.v (.int .i64 2))),none⟩]) .ret) .skip)) (.seq (.region [⟨some 16,.mv (.t 0),none⟩,⟨some 17,.mv (.t 1),none⟩,⟨some 18,.mm true (.t 16) (.t 17),none⟩,⟨some 19,.bin .add (.t 18) (.c (.v (.int .i64 1))),none⟩,⟨some 4,.mv (.t 19),none⟩,⟨some 5,.mv (.c (.v (.int .i64 0))),none⟩]) .ret)))⟩
theorem a_lStep_ok : cFunc Try.prog 146 = some a_lStep := by kernel_rfl
def a_lSent : AFunc := ⟨3,36,[.tmp 6,.tmp 7],(.seq (.region [⟨some 3,.box (.t 0),none⟩,⟨some 4,.box (.t 1),none⟩,⟨some 6,.mv (.c (.v (.int .i64 0))),none⟩,⟨some 7,.mv (.c (.v (.bool false))),none⟩]) (.seq (.region [⟨some 11,.load (some 1) (.t 3),none⟩,⟨some 12,.faddr 2 (.t 4),none⟩,⟨some 13,.load none (.t 12),none⟩,⟨some 14,.call (.c (.fn 71 [])) [(.t 11),(.t 13)],none⟩,⟨some 10,.mv (.t 14),none⟩,⟨some 15,.extract 0 (.t 10),none⟩,⟨some 16,.extract 1 (.t 10),none⟩,⟨some 8,.alloc [(.v (.int .i64 0)),(.v (.int .i64 0))],none⟩,⟨none,.store 2 (.t 8) (.t 15),none⟩,⟨some 9,.mv (.t 16),none⟩]) (.seq (.seq (.draw [⟨0,⟨some 17,.mv (.t 2),none⟩,[]⟩,⟨1,⟨some 18,.faddr 0 (.t 8),none⟩,[]⟩,⟨2,⟨some 19,.load none (.t 18),none⟩,[]⟩,⟨3,⟨some 20,.iaddr 1 (.t 17) (.t 19),none⟩,[]⟩,⟨4,⟨some 21,.load none (.t 20),none⟩,[]⟩,⟨5,⟨some 22,.len (.t 21),none⟩,[]⟩,⟨6,⟨some 23,.faddr 1 (.t 8),none⟩,[]⟩,⟨7,⟨some 24,.load none (.t 23),none⟩,[]⟩,⟨8,⟨some 25,.bin .lss (.t 22) (.t 24),none⟩,[]⟩]) (.cond (.t 25) (.seq (.region [⟨some 6,.mv (.c (.v (.int .i64 0))),none⟩,⟨some 7,.mv (.c (.v (.bool false))),none⟩]) .ret) .skip)) (.seq (.draw [⟨0,⟨some 26,.mv (.t 2),none⟩,[]⟩,⟨1,⟨some 27,.faddr 0 (.t 8),none⟩,[]⟩,⟨2,⟨some 28,.load none (.t 27),none⟩,[]⟩,⟨3,⟨some 29,.iaddr 1 (.t 26) (.t 28),none⟩,[]⟩,⟨4,⟨some 30,.load none (.t 29),none⟩,[]⟩,⟨5,⟨some 31,.faddr 1 (.t 8),none⟩,[]⟩,⟨6,⟨some 32,.load none (.t 31),none⟩,[]⟩,⟨7,⟨some 33,.bin .sub (.t 32) (.c (.v (.int .i64 1))),none⟩,[]⟩,⟨8,⟨some 34,.iaddr 1 (.t 30) (.t 33),none⟩,[]⟩,⟨9,⟨some 35,.load none (.t 34),none⟩,[]⟩,⟨10,⟨some 6,.mv (.t 35),none⟩,[]⟩,⟨11,⟨some 7,.mv (.c (.v (.bool true))),none⟩,[]⟩]) .ret))))⟩
theorem a_lSent_ok : cFunc Try.prog 145 = some a_lSent := by kernel_rfl
def a_lAdv : AFunc := ⟨3,75,[.tmp 6],(.seq (.region [⟨some 3,.box (.t 0),none⟩,⟨some 6,.mv (.c (.v (.bool false))),none⟩]) (.seq (.region [⟨some 14,.mv (.t 1),none⟩,⟨some 15,.mv (.t 2),none⟩,⟨some 16,.iaddr 1 (.t 14) (.t 15),none⟩,⟨some 17,.load none (.t 16),none⟩,⟨some 18,.len (.t 17),none⟩,⟨some 7,.mv (.t 18),none⟩]) (.seq (.seq (.region [⟨some 19,.mv (.t 7),none⟩,⟨some 20,.faddr 0 (.t 3),none⟩,⟨some 21,.load none (.t 20),none⟩,⟨some 22,.mv (.t 2),none⟩,⟨some 23,.iaddr 3 (.t 21) (.t 22),none⟩,⟨some 24,.faddr 2 (.t 23),none⟩,⟨some 25,.load none (.t 24),none⟩,⟨some 26,.len (.t 25),none⟩,⟨some 27,.bin .eql (.t 19) (.t 26),none⟩]) (.cond (.t 27) (.seq (.region [⟨some 6,.mv (.c (.v (.bool false))),none⟩]) .ret) .skip)) (.seq (.region [⟨some 8,.mv (.c (.v (.int .i64 0))),none⟩,⟨some 9,.mv (.c (.v (.int .i64 0))),none⟩]) (.seq (.seq (.region [⟨some 28,.mv (.t 7),none⟩,⟨some 29,.bin .gtr (.t 28) (.c (.v (.int .i64 0))),none⟩]) (.cond (.t 29) (.region [⟨some 30,.mv (.t 1),none⟩,⟨some 31,.mv (.t 2),none⟩,⟨some 32,.iaddr 1 (.t 30) (.t 31),none⟩,⟨some 33,.load none (.t 32),none⟩,⟨some 34,.mv (.t 7),none⟩,⟨some 35,.bin .sub (.t 34) (.c (.v (.int .i64 1))),none⟩,⟨some 36,.iaddr 1 (.t 33) (.t 35),none⟩,⟨some 37,.load none (.t 36),none⟩,⟨some 8,.mv (.t 37),none⟩]) .skip)) (.seq (.seq (.region [⟨some 38,.faddr 0 (.t 3),none⟩,⟨some 39,.load none (.t 38),none⟩,⟨some 40,.mv (.t 2),none⟩,⟨some 41,.iaddr 3 (.t 39) (.t 40),none⟩,⟨some 42,.faddr 2 (.t 41),none⟩,⟨some 43,.load none (.t 42),none⟩,⟨some 44,.mv (.t 7),none⟩,⟨some 45,.iaddr 5 (.t 43) (.t 44),none⟩,⟨some 46,.load (some 5) (.t 45),none⟩,⟨some 10,.alloc [(.v (.int .i64 0)),(.v (.int .i64 0)),(.v (.int .i64 0)),(.v (.int .i64 0)),(.v .zsl)],none⟩,⟨none,.store 5 (.t 10) (.t 46),none⟩]) (.seq (.region [⟨some 47,.faddr 0 (.t 10),none⟩,⟨some 48,.load none (.t 47),none⟩,⟨some 49,.bin .eql (.t 48) (.c (.v (.int .i64 3))),none⟩]) (.cond (.t 49) (.seq (.region [⟨some 11,.mv (.c (.v (.bool false))),none⟩]) (.seq (.region [⟨some 51,.load (some 1) (.t 3),none⟩,⟨some 52,.load (some 5) (.t 10),none⟩,⟨some 53,.mv (.t 1),none⟩,⟨some 54,.call (.c (.fn 145 [])) [(.t 51),(.t 52),(.t 53)],none⟩,⟨some 50,.mv (.t 54),none⟩,⟨some 55,.extract 0 (.t 50),none⟩,⟨some 56,.extract 1 (.t 50),none⟩,⟨some 9,.mv (.t 55),none⟩,⟨some 11,.mv (.t 56),none⟩]) (.seq (.region [⟨some 57,.mv (.t 11),none⟩,⟨some 58,.not (.t 57),none⟩]) (.cond (.t 58) (.seq (.region [⟨some 6,.mv (.c (.v (.bool false))),none⟩]) .ret) .skip)))) .skip))) (.seq (.region [⟨some 60,.mv (.t 8),none⟩,⟨some 61,.mv (.t 9),none⟩,⟨some 62,.call (.c (.fn 146 [])) [(.t 60),(.t 61)],none⟩,⟨some 59,.mv (.t 62),none⟩,⟨some 63,.extract 0 (.t 59),none⟩,⟨some 64,.extract 1 (.t 59),none⟩,⟨some 12,.mv (.t 63),none⟩,⟨some 13,.mv (.t 64),none⟩]) (.seq (.region [⟨some 65,.mv (.t 1),none⟩,⟨some 66,.mv (.t 2),none⟩,⟨some 67,.mv (.t 1),none⟩,⟨some 68,.mv (.t 2),none⟩,⟨some 69,.iaddr 1 (.t 67) (.t 68),none⟩,⟨some 70,.load none (.t 69),none⟩,⟨some 71,.mv (.t 12),none⟩,⟨some 72,.bslice 1 [(.v (.int .i64 0))] 1 [(0,(.t 71))],none⟩,⟨some 73,.append 1 8 (.t 70) (.t 72),none⟩,⟨some 74,.iaddr 1 (.t 65) (.t 66),none⟩,⟨none,.store 1 (.t 74) (.t 73),none⟩]) (.seq (.region [⟨some 6,.mv (.c (.v (.bool true))),none⟩]) .ret)))))))))⟩
theorem a_lAdv_ok : cFunc Try.prog 97 = some a_lAdv := by kernel_rfl

theorem lStep_spec (c o : Nat) (hc : c ≤ 1000000) (hg : o ≤ 1000000) (b l : List Row) : ACalls Try.prog 146 [.v (.int .i64 c), .v (.int .i64 o)] b l (fun r b' l' => r = .tup [.v (.int .i64 ((max c o + 1 : Nat) : Int)), .v (.int .i64 0)] ∧ b' = b ∧ l' = l) := by
 refine calls_kept a_lStep_ok rfl (by decide) ?_
 intro B g hB hR hE hA
 simp only [KArgs] at hA
 have h1 : (if (o : Int) < (c : Int) then (o : Int) else (c : Int)) = ((min c o : Nat) : Int) := by split <;> omega
 have h2 : (if (c : Int) < (o : Int) then (o : Int) else (c : Int)) = ((max c o : Nat) : Int) := by split <;> omega
 have h2' : (if (o : Int) > (c : Int) then (o : Int) else (c : Int)) = ((max c o : Nat) : Int) := h2
 have d1 : decide (((min c o : Nat) : Int) < 0) = false := decide_eq_false oM
 have d2 : decide (((max c o : Nat) : Int) ≥ 1125899906842624) = false := decide_eq_false oM
 have d2' : decide ((1125899906842624 : Int) ≤ ((max c o : Nat) : Int)) = false := d2
 have h3 : ((max c o : Nat) : Int) + 1 = ((max c o + 1 : Nat) : Int) := by omega
 simp (disch := (first | decide | omega)) only [a_lStep, hA, h1, h2, h2', d1, d2, d2', h3, go_sem]
 exact leave_pure (xs := [.v (.int .i64 ((max c o + 1 : Nat) : Int)), .v (.int .i64 0)]) (.inr rfl) (by simp (disch := (first | decide | omega)) only [resVs, resV, go_sem, hA]) kO hR hB ⟨rfl, rfl, rfl⟩
noncomputable def lmRow (t : Tr) (p m : Nat) : List (List IV) := fl m fun i => [.int .i64 (lam t (p, i + 1) : Nat)]
noncomputable def lmC (t : Tr) (D : Nat → Nat) (p : Nat) : Row := .live (D p) 1 (vs (lmRow t p (D p)))
noncomputable def lmR (t : Tr) (n : Nat) (D : Nat → Nat) : List Row := .live 0 1 [[.v (.isl 3 (t.map ePr))]] :: fsT t.length n D :: fl t.length (lmC t D)
theorem lmR_len {t : Tr} {n : Nat} {D : Nat → Nat} : (lmR t n D).length = t.length + 2 := by simp [lmR, fl_len]
theorem lmRow_next {t : Tr} {p m : Nat} : lmRow t p m ++ [[.int .i64 (lam t (p, m + 1) : Nat)]] = lmRow t p (m + 1) := fl_next rfl
theorem lmR_lt {t : Tr} {n m : Nat} {D : Nat → Nat} (h : n + (t.length + 2) ≤ m) : RowsLt m (lmR t n D) := by
 intro id ver sz els hr row hrow c hc
 match id, hr with
 | 0, hr => cases hr; simp at hrow; subst hrow; simp at hc; subst hc; exact .v _
 | 1, hr =>
   cases hr
   obtain ⟨a, ha, rfl⟩ := List.mem_map.1 hrow
   simp only [List.mem_singleton] at hc
   subst hc
   have := List.mem_range.1 ha
   exact .sl _ _ _ _ oM
 | id + 2, hr =>
   have hr : (fl t.length (lmC t D))[id]? = some (.live ver sz els) := hr
   by_cases hid : id < t.length
   ·rw [fl_get hid] at hr
    cases hr
    obtain ⟨r0, _, rfl⟩ := List.mem_map.1 hrow
    obtain ⟨x0, _, rfl⟩ := List.mem_map.1 hc
    exact .v _
   ·rw [fl_none oM] at hr; cases hr
theorem lSent_spec (t : Tr) (hv : Vok t) (hval : validL t = true) (hS : Small t) (hN : Nm t) (hC : (ids t).length ≤ 1000000) (D : Nat → Nat) (hD : ∀ p, p < t.length → D p ≤ (evsOf t p).length) (p : Nat) (hp : p < t.length) (hi : D p < t[p].evs.length) (hk : t[p].evs[D p].kind = 3)
  (n : Nat) (b l : List Row) (hl : ∃ pre T, b ++ l = pre ++ lmR t n D ++ T ∧ pre.length = n) (si : Bool) (hs : si = decide ((sndr t (p, D p + 1)).2 ≤ D (sndr t (p, D p + 1)).1)) :
  ACalls Try.prog 145 [.agg [.v (eT t)], .agg [.v (.int .i64 t[p].evs[D p].kind), .v (.int .i64 t[p].evs[D p].peer), .v (.int .i64 t[p].evs[D p].msg), .v (.int .i64 t[p].evs[D p].time), .v (.isl 2 (t[p].evs[D p].asg.map eAsg))], .sl (n + 1) 0 0 t.length] b l (fun r b' l' => r = .tup [.v (.int .i64 ((if si = true then lam t (sndr t (p, D p + 1)) else 0 : Nat) : Int)), .v (.bool si)] ∧ b' = b ∧ l' = l) := by
 refine calls_kept a_lSent_ok rfl (by decide) ?_
 intro B g hB hR hE hA
 simp only [KArgs] at hA
 obtain ⟨pre, T, hpt, hpn⟩ := hl
 have hBp : B = pre ++ (lmR t n D ++ T) := by rw [hB, hpt, List.append_assoc]
 have hT8 := hv.hi
 have hx : (p, D p + 1) ∈ ids t := mem_ids2.2 ⟨hp, by rw [evsOf_lt hp]; exact hi⟩
 have hev := evAt_eq hp hi
 have gB1 : B[n + 1]? = some (fsT t.length n D) := by rw [hBp, ← hpn, List.getElem?_append_right oM, Nat.add_sub_cancel_left]; rfl
 have gBr : ∀ q, q < t.length → B[n + (q + 1 + 1)]? = some (lmC t D q) := fun q hq => by
  rw [hBp, ← hpn, List.getElem?_append_right oM, Nat.add_sub_cancel_left]
  unfold lmR
  simp only [List.cons_append, List.getElem?_cons_succ]
  rw [List.getElem?_append_left (by rw [fl_len]; exact hq)]
  exact fl_get hq
 have g1 := hget_low gB1
 have gr := fun q hq => hget_low (gBr q hq)
 unfold fsT at g1
 unfold lmC at gr
 have gT : ∀ q, q < t.length → (fl t.length fun q => [AV.sl (n + (q + 1 + 1)) (D q) 0 (D q)])[q]? = some [.sl (n + (q + 1 + 1)) (D q) 0 (D q)] := fun q hq => fl_get hq
 have hse := fun b l => sender_spec t hS hN b l t[p].evs[D p].msg
 have hfR : findR t 2 t[p].evs[D p].msg = sndr t (p, D p + 1) := by
  unfold findR sndr
  rw [if_pos hval, hev]
 rw [hfR] at hse
 obtain ⟨sm, _⟩ := sndr_in hv hx (by rw [hev]; exact hk)
 obtain ⟨⟨sp, sj⟩, hsn⟩ : ∃ s, sndr t (p, D p + 1) = s := ⟨_, rfl⟩
 rw [hsn] at hse sm hs
 simp only [idA] at hse
 obtain ⟨sj, rfl⟩ : ∃ j, sj = j + 1 := ⟨sj - 1, by have := mem_pos sm; simp only at this; omega⟩
 have hsp := (mem_ids2.1 sm).1
 have hse2 := (mem_ids2.1 sm).2
 have hdsp := hD sp hsp
 have hnsp := hS.ne _ (List.getElem_mem hsp)
 rw [← evsOf_lt hsp] at hnsp
 have gTs := gT sp hsp
 have grs := gr sp hsp
 have hfl : ∀ q m, (lmRow t q m).length = m := fun q m => fl_len
 rw [hsn]
 subst hs
 by_cases hrd : sj + 1 ≤ D sp
 ·have hd5 : decide ((D sp : Int) < ((sj + 1 : Nat) : Int)) = false := decide_eq_false oM
  have hsi : ((sj + 1 : Nat) : Int) - 1 = (sj : Int) := by omega
  have hrg : (lmRow t sp (D sp))[sj]? = some [.int .i64 (lam t (sp, sj + 1) : Nat)] := fl_get oM
  rw [decide_eq_true hrd, if_pos rfl]
  simp (disch := (first | decide | omega)) only [a_lSent, hA, go_sem]
  refine ACalls.nxt (hse _ _) ?_
  simp (disch := (first | decide | omega)) only [hA, g1, gTs, grs, hd5, hsi, hrg, hfl, setFrom, cellsOf, go_sem]
  exact leave_pure (xs := [.v (.int .i64 (lam t (sp, sj + 1) : Nat)), .v (.bool true)]) (.inr rfl) (by simp (disch := (first | decide | omega)) only [resVs, resV, go_sem, hA]) kO hR hB ⟨rfl, rfl, rfl⟩
 ·have hd5 : decide ((D sp : Int) < ((sj + 1 : Nat) : Int)) = true := decide_eq_true oM
  rw [decide_eq_false hrd, if_neg (by simp)]
  simp (disch := (first | decide | omega)) only [a_lSent, hA, go_sem]
  refine ACalls.nxt (hse _ _) ?_
  simp (disch := (first | decide | omega)) only [hA, g1, gTs, grs, hd5, hfl, setFrom, cellsOf, go_sem]
  exact leave_pure (xs := [.v (.int .i64 0), .v (.bool false)]) (.inr rfl) (by simp (disch := (first | decide | omega)) only [resVs, resV, go_sem, hA]) kO hR hB ⟨rfl, rfl, rfl⟩
set_option maxRecDepth 20000 in
set_option maxHeartbeats 4000000 in
theorem lAdv_spec (t : Tr) (hv : Vok t) (hval : validL t = true) (hS : Small t) (hN : Nm t) (hC : (ids t).length ≤ 1000000) (D : Nat → Nat) (hD : ∀ p, p < t.length → D p ≤ (evsOf t p).length) (p : Nat) (hp : p < t.length) (b l : List Row) (hl : l = lmR t b.length D) (rd : Bool) (lx : List Row) (hcase : (rd = true ∧ Rdy t D p ∧ lx = lmR t b.length (fUp D p (D p + 1))) ∨ (rd = false ∧ ¬ Rdy t D p ∧ lx = l)) :
  ACalls Try.prog 97 [.agg [.v (eT t)], .sl (b.length + 1) 0 0 t.length, .v (.int .i64 p)] b l (fun r b' l' => r = .v (.bool rd) ∧ b' = b ∧ l' = lx) := by
 refine calls_kept a_lAdv_ok rfl (by decide) ?_
 intro B g hB hR hE hA
 simp only [KArgs] at hA
 have hBl : B.length = b.length + (t.length + 2) := by rw [hB, List.length_append, hl, lmR_len]
 have hT8 := hv.hi
 have heo := evsOf_lt hp
 have hdp := hD p hp
 rw [heo] at hdp
 have hne := hS.ne _ (List.getElem_mem hp)
 have gB1 : B[b.length + 1]? = some (fsT t.length b.length D) := by rw [hB, List.getElem?_append_right oM, Nat.add_sub_cancel_left, hl]; rfl
 have gBr : ∀ q, q < t.length → B[b.length + (q + 1 + 1)]? = some (lmC t D q) := fun q hq => by
  rw [hB, List.getElem?_append_right oM, Nat.add_sub_cancel_left, hl]
  unfold lmR
  simp only [List.getElem?_cons_succ]
  exact fl_get hq
 have g1 := hget_low gB1
 have gr := fun q hq => hget_low (gBr q hq)
 unfold fsT at g1
 unfold lmC at gr
 have gTp : (fl t.length fun q => [AV.sl (b.length + (q + 1 + 1)) (D q) 0 (D q)])[p]? = some [.sl (b.length + (p + 1 + 1)) (D p) 0 (D p)] := fl_get hp
 have grp := gr p hp
 by_cases hnl : D p < t[p].evs.length
 case neg =>
  have hd : ((D p : Int) == (t[p].evs.length : Int)) = true := by simp; omega
  have hn : ¬ Rdy t D p := fun h => hnl (by have := h.1; rwa [heo] at this)
  obtain ⟨rfl, _, rfl⟩ := hcase.resolve_left (fun h => hn h.2.1)
  simp (disch := (first | decide | omega)) only [a_lAdv, hA, eT, g1, gTp, ePr, hd, List.length_map, go_sem]
  exact leave_pure (xs := [.v (.bool false)]) (.inr rfl) (by simp (disch := (first | decide | omega)) only [resVs, resV, go_sem, hA]) kO hR hB ⟨rfl, rfl, rfl⟩
 have hx : (p, D p + 1) ∈ ids t := mem_ids2.2 ⟨hp, by rw [heo]; exact hnl⟩
 have hev := evAt_eq hp hnl
 have hd : ((D p : Int) == (t[p].evs.length : Int)) = false := by simp; omega
 have hls := lam_step hv hx
 have hll := lam_le hv hx
 have hfl : ∀ q m, (lmRow t q m).length = m := fun q m => fl_len
 obtain ⟨cl, hcl⟩ : ∃ n, latP (lamM t) (p, D p + 1) = n := ⟨_, rfl⟩
 obtain ⟨gt, hgt⟩ : ∃ n, latR t (lamM t) (p, D p + 1) = n := ⟨_, rfl⟩
 have hnx : lam t (p, D p + 1) = max cl gt + 1 := by rw [hls, ← hcl, ← hgt]; rfl
 have e1 : b.length + (p + 1 + 1) < B.length := by omega
 have e2 : b.length + 1 < B.length := by omega
 have sB1 : ∀ r, hsetB B (b.length + (p + 1 + 1)) r = B.set (b.length + (p + 1 + 1)) r := fun r => by unfold hsetB; rw [if_pos e1]
 have sL1 : ∀ r l', hsetL B l' (b.length + (p + 1 + 1)) r = l' := fun r l' => by unfold hsetL; rw [if_pos e1]
 have gB2 : ∀ r l', hget (B.set (b.length + (p + 1 + 1)) r) l' (b.length + 1) = some (.live 0 1 (fl t.length fun q => [.sl (b.length + (q + 1 + 1)) (D q) 0 (D q)])) := fun r l' => by
  refine hget_low ?_ l'
  rw [List.getElem?_set_ne oM, gB1]; rfl
 have sB2 : ∀ r r', hsetB (B.set (b.length + (p + 1 + 1)) r) (b.length + 1) r' = (B.set (b.length + (p + 1 + 1)) r).set (b.length + 1) r' := fun r r' => by unfold hsetB; rw [if_pos (by rw [List.length_set]; exact e2)]
 have sL2 : ∀ r r' l', hsetL (B.set (b.length + (p + 1 + 1)) r) l' (b.length + 1) r' = l' := fun r r' l' => by unfold hsetL; rw [if_pos (by rw [List.length_set]; exact e2)]
 have hts := fsT_set (T := t.length) (n := b.length) (p := p) (D := D)
 have tkr : List.take (D p) (lmRow t p (D p)) = lmRow t p (D p) := List.take_of_length_le (by rw [hfl]; omega)
 have hsn := lmRow_next (t := t) (p := p) (m := D p)
 obtain ⟨NB, hNB⟩ : ∃ NB, NB = (B.set (b.length + (p + 1 + 1)) (.live (D p + 1) 1 (vs (lmRow t p (D p + 1))))).set (b.length + 1) (.live 0 1 (fl t.length fun q => [.sl (b.length + (q + 1 + 1)) (fUp D p (D p + 1) q) 0 (fUp D p (D p + 1) q)])) := ⟨_, rfl⟩
 have hNl : NB.length = B.length := by rw [hNB, List.length_set, List.length_set]
 have hNb : NB = b ++ lmR t b.length (fUp D p (D p + 1)) := by
  rw [hNB, hB, List.set_append_right _ _ oM, Nat.add_sub_cancel_left, List.set_append_right _ _ oM, Nat.add_sub_cancel_left, hl]
  unfold lmR fsT
  simp only [List.set_cons_succ, List.set_cons_zero, fl_set]
  congr 3
  refine fl_congr (fun q hq => ?_)
  by_cases hqp : q = p
  ·subst hqp; unfold lmC; rw [fUp_same, fUp_same]
  ·unfold lmC; rw [fUp_ne hqp, fUp_ne hqp]
 have hNR : RowsLt NB.length NB := by
  rw [hNB]
  rw [List.length_set, List.length_set]
  refine RowsLt.setR (RowsLt.setR hR ?_) ?_
  ·rw [RowsLt_live]
   refine ⟨fun row hrow c hc => ?_, RowsLt_nil⟩
   obtain ⟨r0, _, rfl⟩ := List.mem_map.1 hrow
   obtain ⟨x0, _, rfl⟩ := List.mem_map.1 hc
   exact .v _
  ·rw [RowsLt_live]
   refine ⟨fun row hrow c hc => ?_, RowsLt_nil⟩
   obtain ⟨j, hj, rfl⟩ := List.mem_map.1 hrow
   simp only [List.mem_singleton] at hc; subst hc
   have := List.mem_range.1 hj
   exact .sl _ _ _ _ oM
 have hfin : rd = true ∧ Rdy t D p ∧ lx = lmR t b.length (fUp D p (D p + 1)) → ∀ rs e junk, resVs e NB junk rs = some [.v (.bool true)] → Leaves rs (fun r b' l' => r = .v (.bool rd) ∧ b' = b ∧ l' = lx) b.length .ret e NB junk := by
  rintro ⟨rfl, _, rfl⟩ rs e junk hx
  exact leave_pure (xs := [.v (.bool true)]) (.inr rfl) hx (by simp only [one]; exact .v _) hNR hNb ⟨rfl, rfl, rfl⟩
 have hlp : D p = 0 → cl = 0 := fun h => by rw [← hcl]; unfold latP; rw [if_neg (by simp only; omega)]
 have hlq : 0 < D p → (lmRow t p (D p))[D p - 1]? = some [.int .i64 (cl : Nat)] := fun h => by
  have h2 : (lmRow t p (D p))[D p - 1]? = some [.int .i64 (lam t (p, D p - 1 + 1) : Nat)] := fl_get oM
  rw [h2, ← hcl]
  unfold latP lamM
  rw [if_pos (by simp only; omega), show D p - 1 + 1 = D p by omega]
  rfl
 have hcb : cl ≤ 1000000 := by omega
 have hgb : gt ≤ 1000000 := by omega
 have hst := fun b l => lStep_spec cl gt hcb hgb b l
 rw [← hnx] at hst
 have key : ∀ c0 : Nat, c0 = cl → True := fun _ _ => trivial
 by_cases hk3 : t[p].evs[D p].kind = 3
 ·have hkb : (t[p].evs[D p].kind == 3) = true := by rw [hk3]; rfl
  have hgl : gt = lam t (sndr t (p, D p + 1)) := by
   rw [← hgt]; unfold latR; rw [if_pos (by rw [hev]; exact hk3)]; rfl
  have hsd : ∀ si : Bool, si = decide ((sndr t (p, D p + 1)).2 ≤ D (sndr t (p, D p + 1)).1) → ∀ T, ACalls Try.prog 145 [.agg [.v (.isl 3 (t.map ePr))], .agg [.v (.int .i64 t[p].evs[D p].kind), .v (.int .i64 t[p].evs[D p].peer), .v (.int .i64 t[p].evs[D p].msg), .v (.int .i64 t[p].evs[D p].time), .v (.isl 2 (t[p].evs[D p].asg.map eAsg))], .sl (b.length + 1) 0 0 t.length] B T (fun r b' l' => r = .tup [.v (.int .i64 ((if si = true then gt else 0 : Nat) : Int)), .v (.bool si)] ∧ b' = B ∧ l' = T) := fun si hsi T => by
   rw [hgl]
   exact lSent_spec t hv hval hS hN hC D hD p hp hnl hk3 b.length B T ⟨b, T, by rw [hB, hl], rfl⟩ si hsi
  by_cases hrd : (sndr t (p, D p + 1)).2 ≤ D (sndr t (p, D p + 1)).1
  ·have hs1 := hsd true (decide_eq_true hrd).symm
   rw [if_pos rfl] at hs1
   have hRy : Rdy t D p := ⟨by rw [heo]; exact hnl, fun _ => hrd⟩
   have hyes := hcase.resolve_right (fun h => h.2.1 hRy)
   by_cases h0 : 0 < D p
   ·have hd0 : decide ((D p : Int) > 0) = true := decide_eq_true oM
    have hd0' : decide ((0 : Int) < (D p : Int)) = true := hd0
    have hkt : (D p : Int) - 1 = ((D p - 1 : Nat) : Int) := by omega
    have hg := hlq h0
    simp (disch := (first | decide | omega)) only [a_lAdv, hA, eT, g1, gTp, grp, ePr, eEv, hd, hd0, hd0', hkt, hg, hfl, hkb, List.length_map, setFrom, cellsOf, go_sem]
    refine ACalls.nxt (hs1 _) ?_
    simp (disch := (first | decide | omega)) only [hA, go_sem]
    refine ACalls.nxt (hst _ _) ?_
    simp (disch := (first | decide | omega)) only [hA, g1, gTp, grp, hfl, tkr, hsn, sB1, sL1, gB2, sB2, sL2, hts, setFrom, cellsOf, List.length_set, fl_len, vs_nil, List.replicate_succ, List.replicate_zero, reduceCtorEq, go_sem]
    rw [← hNB]
    refine hfin hyes _ _ _ ?_
    simp (disch := (first | decide | omega)) only [resVs, resV, hA, go_sem]
   ·have hd0 : decide ((D p : Int) > 0) = false := decide_eq_false oM
    have hd0' : decide ((0 : Int) < (D p : Int)) = false := hd0
    have hc0 := hlp oM
    have z0 : (0 : Int) = ((0 : Nat) : Int) := rfl
    subst hc0
    simp (disch := (first | decide | omega)) only [a_lAdv, hA, eT, g1, gTp, grp, ePr, eEv, hd, hd0, hd0', hfl, hkb, List.length_map, setFrom, cellsOf, go_sem]
    refine ACalls.nxt (hs1 _) ?_
    simp (disch := (first | decide | omega)) only [hA, go_sem]
    refine ACalls.nxt (hst _ _) ?_
    simp (disch := (first | decide | omega)) only [hA, g1, gTp, grp, hfl, tkr, hsn, sB1, sL1, gB2, sB2, sL2, hts, setFrom, cellsOf, List.length_set, fl_len, vs_nil, List.replicate_succ, List.replicate_zero, reduceCtorEq, go_sem]
    rw [← hNB]
    refine hfin hyes _ _ _ ?_
    simp (disch := (first | decide | omega)) only [resVs, resV, hA, go_sem]
  ·have hs1 := hsd false (decide_eq_false hrd).symm
   rw [if_neg (by simp)] at hs1
   have hnR : ¬ Rdy t D p := fun h => hrd (h.2 (by rw [hev]; exact hk3))
   obtain ⟨rfl, _, rfl⟩ := hcase.resolve_left (fun h => hnR h.2.1)
   by_cases h0 : 0 < D p
   ·have hd0 : decide ((D p : Int) > 0) = true := decide_eq_true oM
    have hd0' : decide ((0 : Int) < (D p : Int)) = true := hd0
    have hkt : (D p : Int) - 1 = ((D p - 1 : Nat) : Int) := by omega
    have hg := hlq h0
    simp (disch := (first | decide | omega)) only [a_lAdv, hA, eT, g1, gTp, grp, ePr, eEv, hd, hd0, hd0', hkt, hg, hfl, hkb, List.length_map, setFrom, cellsOf, go_sem]
    refine ACalls.nxt (hs1 _) ?_
    simp (disch := (first | decide | omega)) only [hA, go_sem]
    exact leave_pure (xs := [.v (.bool false)]) (.inr rfl) (by simp (disch := (first | decide | omega)) only [resVs, resV, go_sem, hA]) kO hR hB ⟨rfl, rfl, rfl⟩
   ·have hd0 : decide ((D p : Int) > 0) = false := decide_eq_false oM
    have hd0' : decide ((0 : Int) < (D p : Int)) = false := hd0
    simp (disch := (first | decide | omega)) only [a_lAdv, hA, eT, g1, gTp, grp, ePr, eEv, hd, hd0, hd0', hfl, hkb, List.length_map, setFrom, cellsOf, go_sem]
    refine ACalls.nxt (hs1 _) ?_
    simp (disch := (first | decide | omega)) only [hA, go_sem]
    exact leave_pure (xs := [.v (.bool false)]) (.inr rfl) (by simp (disch := (first | decide | omega)) only [resVs, resV, go_sem, hA]) kO hR hB ⟨rfl, rfl, rfl⟩
 ·have hkb : (t[p].evs[D p].kind == 3) = false := beq_eq_false_iff_ne.2 hk3
  have hg0 : gt = 0 := by rw [← hgt]; unfold latR; rw [if_neg (by rw [hev]; exact hk3)]
  have hRy : Rdy t D p := ⟨by rw [heo]; exact hnl, fun h => absurd (by rw [hev] at h; exact h) hk3⟩
  have hyes := hcase.resolve_right (fun h => h.2.1 hRy)
  subst hg0
  by_cases h0 : 0 < D p
  ·have hd0 : decide ((D p : Int) > 0) = true := decide_eq_true oM
   have hd0' : decide ((0 : Int) < (D p : Int)) = true := hd0
   have hkt : (D p : Int) - 1 = ((D p - 1 : Nat) : Int) := by omega
   have hg := hlq h0
   simp (disch := (first | decide | omega)) only [a_lAdv, hA, eT, g1, gTp, grp, ePr, eEv, hd, hd0, hd0', hkt, hg, hfl, hkb, List.length_map, setFrom, cellsOf, go_sem]
   refine ACalls.nxt (hst _ _) ?_
   simp (disch := (first | decide | omega)) only [hA, g1, gTp, grp, hfl, tkr, hsn, sB1, sL1, gB2, sB2, sL2, hts, setFrom, cellsOf, List.length_set, fl_len, vs_nil, List.replicate_succ, List.replicate_zero, reduceCtorEq, go_sem]
   rw [← hNB]
   refine hfin hyes _ _ _ ?_
   simp (disch := (first | decide | omega)) only [resVs, resV, hA, go_sem]
  ·have hd0 : decide ((D p : Int) > 0) = false := decide_eq_false oM
   have hd0' : decide ((0 : Int) < (D p : Int)) = false := hd0
   have hc0 := hlp oM
   subst hc0
   simp (disch := (first | decide | omega)) only [a_lAdv, hA, eT, g1, gTp, grp, ePr, eEv, hd, hd0, hd0', hfl, hkb, List.length_map, setFrom, cellsOf, go_sem]
   refine ACalls.nxt (hst _ _) ?_
   simp (disch := (first | decide | omega)) only [hA, g1, gTp, grp, hfl, tkr, hsn, sB1, sL1, gB2, sB2, sL2, hts, setFrom, cellsOf, List.length_set, fl_len, vs_nil, List.replicate_succ, List.replicate_zero, reduceCtorEq, go_sem]
   rw [← hNB]
   refine hfin hyes _ _ _ ?_
   simp (disch := (first | decide | omega)) only [resVs, resV, hA, go_sem]
def a_lStamps : AFunc := ⟨1,27,[.tmp 2,.tmp 3],(.seq (.region [⟨some 1,.box (.t 0),none⟩,⟨some 2,.mv (.c (.v .zsl)),none⟩,⟨some 3,.mv (.c (.v (.int .i64 0))),none⟩]) (.seq (.seq (.region [⟨some 7,.load (some 1) (.t 1),none⟩,⟨some 8,.call (.c (.fn 63 [])) [(.t 7)],none⟩,⟨some 9,.not (.t 8),none⟩]) (.cond (.t 9) (.seq (.region [⟨some 2,.mv (.c (.v .zsl)),none⟩,⟨some 3,.mv (.c (.v (.int .i64 1))),none⟩]) .ret) .skip)) (.seq (.region [⟨some 10,.faddr 0 (.t 1),none⟩,⟨some 11,.load none (.t 10),none⟩,⟨some 12,.len (.t 11),none⟩,⟨some 13,.mkslice 1 [(.v .zsl)] 24 (.t 12) (.t 12),none⟩,⟨some 4,.mv (.t 13),none⟩]) (.seq (.seq (.region [⟨some 5,.mv (.c (.v (.bool true))),none⟩]) (.block 0 (.loop (.seq (.seq (.region [⟨some 14,.mv (.t 5),none⟩]) (.cond (.t 14) .skip (.exit 0))) (.block 1 (.seq (.region [⟨some 5,.mv (.c (.v (.bool false))),none⟩]) (.seq (.region [⟨some 15,.faddr 0 (.t 1),none⟩,⟨some 16,.load none (.t 15),none⟩,⟨some 17,.len (.t 16),none⟩,⟨some 18,.mv (.c (.v (.int .i64 0))),none⟩]) (.block 2 (.loop (.seq (.region [⟨some 19,.bin .lss (.t 18) (.t 17),none⟩]) (.seq (.cond (.t 19) .skip (.exit 2)) (.seq (.block 3 (.seq (.region [⟨some 20,.mv (.t 18),none⟩,⟨some 6,.mv (.t 20),none⟩]) (.block 4 (.loop (.seq (.seq (.region [⟨some 21,.load (some 1) (.t 1),none⟩,⟨some 22,.mv (.t 4),none⟩,⟨some 23,.mv (.t 6),none⟩,⟨some 24,.call (.c (.fn 97 [])) [(.t 21),(.t 22),(.t 23)],none⟩]) (.cond (.t 24) .skip (.exit 4))) (.block 5 (.region [⟨some 5,.mv (.c (.v (.bool true))),none⟩]))))))) (.region [⟨some 25,.bin .add (.t 18) (.c (.v (.int .i64 1))),none⟩,⟨some 18,.mv (.t 25),none⟩]))))))))))))) (.seq (.region [⟨some 26,.mv (.t 4),none⟩,⟨some 2,.mv (.t 26),none⟩,⟨some 3,.mv (.c (.v (.int .i64 0))),none⟩]) .ret)))))⟩
theorem a_lStamps_ok : cFunc Try.prog 32 = some a_lStamps := by kernel_rfl
def r_lStamps0 : List (Nat × Nat) := [(5, 6), (14, 25)]
def r_lStamps1 : List (Nat × Nat) := [(5, 6), (18, 25)]
def r_lStamps2 : List (Nat × Nat) := [(5, 5), (21, 24)]
def a_LamportL : AFunc := ⟨1,123,[.tmp 2],(.seq (.region [⟨some 1,.box (.t 0),none⟩,⟨some 2,.mv (.c (.v (.bool false))),none⟩]) (.seq (.seq (.region [⟨some 14,.call (.c (.fn 15 [])) [],none⟩,⟨some 15,.not (.t 14),none⟩,⟨some 16,.mv (.t 15),none⟩,⟨some 17,.load (some 1) (.t 1),some (16,false)⟩,⟨some 18,.call (.c (.fn 16 [])) [(.t 17)],some (16,false)⟩,⟨some 19,.not (.t 18),some (16,false)⟩,⟨some 20,.pick (.t 16) (.c (.v (.bool true))) (.t 19),none⟩,⟨some 21,.mv (.t 20),none⟩,⟨some 22,.load (some 1) (.t 1),some (21,false)⟩,⟨some 23,.call (.c (.fn 18 [])) [(.t 22)],some (21,false)⟩,⟨some 24,.not (.t 23),some (21,false)⟩,⟨some 25,.pick (.t 21) (.c (.v (.bool true))) (.t 24),none⟩]) (.cond (.t 25) (.seq (.region [⟨some 26,.call (.c (.fn 15 [])) [],none⟩,⟨some 2,.mv (.t 26),none⟩]) .ret) .skip)) (.seq (.region [⟨some 28,.load (some 1) (.t 1),none⟩,⟨some 29,.call (.c (.fn 17 [])) [(.t 28),(.c (.v (.int .i64 1)))],none⟩,⟨some 27,.mv (.t 29),none⟩,⟨some 30,.extract 0 (.t 27),none⟩,⟨some 31,.extract 1 (.t 27),none⟩,⟨some 3,.mv (.t 30),none⟩,⟨some 4,.mv (.t 31),none⟩]) (.seq (.region [⟨some 33,.load (some 1) (.t 1),none⟩,⟨some 34,.call (.c (.fn 32 [])) [(.t 33)],none⟩,⟨some 32,.mv (.t 34),none⟩,⟨some 35,.extract 0 (.t 32),none⟩,⟨some 36,.extract 1 (.t 32),none⟩,⟨some 5,.mv (.t 35),none⟩,⟨some 6,.mv (.t 36),none⟩]) (.seq (.region [⟨some 38,.load (some 1) (.t 1),none⟩,⟨some 39,.call (.c (.fn 22 [])) [(.t 38),(.c (.v (.int .i64 1)))],none⟩,⟨some 37,.mv (.t 39),none⟩,⟨some 40,.extract 0 (.t 37),none⟩,⟨some 41,.extract 1 (.t 37),none⟩,⟨some 7,.mv (.t 40),none⟩,⟨some 8,.mv (.t 41),none⟩]) (.seq (.region [⟨some 43,.load (some 1) (.t 1),none⟩,⟨some 44,.call (.c (.fn 23 [])) [(.t 43)],none⟩,⟨some 42,.mv (.t 44),none⟩,⟨some 45,.extract 0 (.t 42),none⟩,⟨some 46,.extract 1 (.t 42),none⟩,⟨some 47,.extract 2 (.t 42),none⟩,⟨some 9,.mv (.t 45),none⟩,⟨some 10,.mv (.t 46),none⟩,⟨some 11,.mv (.t 47),none⟩]) (.seq (.seq (.region [⟨some 48,.mv (.t 4),none⟩,⟨some 49,.bin .neq (.t 48) (.c (.v (.int .i64 0))),none⟩,⟨some 50,.mv (.t 49),none⟩,⟨some 51,.mv (.t 6),some (50,false)⟩,⟨some 52,.bin .neq (.t 51) (.c (.v (.int .i64 0))),some (50,false)⟩,⟨some 53,.pick (.t 50) (.c (.v (.bool true))) (.t 52),none⟩,⟨some 54,.mv (.t 53),none⟩,⟨some 55,.mv (.t 8),some (54,false)⟩,⟨some 56,.bin .neq (.t 55) (.c (.v (.int .i64 0))),some (54,false)⟩,⟨some 57,.pick (.t 54) (.c (.v (.bool true))) (.t 56),none⟩,⟨some 58,.mv (.t 57),none⟩,⟨some 59,.mv (.t 11),some (58,false)⟩,⟨some 60,.bin .neq (.t 59) (.c (.v (.int .i64 0))),some (58,false)⟩,⟨some 61,.pick (.t 58) (.c (.v (.bool true))) (.t 60),none⟩,⟨some 62,.mv (.t 61),none⟩,⟨some 63,.mv (.t 7),some (62,false)⟩,⟨some 64,.mv (.t 10),some (62,false)⟩,⟨some 65,.bin .neq (.t 63) (.t 64),some (62,false)⟩,⟨some 66,.pick (.t 62) (.c (.v (.bool true))) (.t 65),none⟩,⟨some 67,.mv (.t 66),none⟩,⟨some 68,.load (some 1) (.t 1),some (67,false)⟩,⟨some 69,.mv (.t 3),some (67,false)⟩,⟨some 70,.call (.c (.fn 28 [])) [(.t 68),(.c (.v (.int .i64 1))),(.t 69)],some (67,false)⟩,⟨some 71,.not (.t 70),some (67,false)⟩,⟨some 72,.pick (.t 67) (.c (.v (.bool true))) (.t 71),none⟩,⟨some 73,.mv (.t 72),none⟩,⟨some 74,.mv (.t 5),some (73,false)⟩,⟨some 75,.len (.t 74),some (73,false)⟩,⟨some 76,.mv (.t 3),some (73,false)⟩,⟨some 77,.len (.t 76),some (73,false)⟩,⟨some 78,.bin .neq (.t 75) (.t 77),some (73,false)⟩,⟨some 79,.pick (.t 73) (.c (.v (.bool true))) (.t 78),none⟩]) (.cond (.t 79) (.seq (.region [⟨some 2,.mv (.c (.v (.bool false))),none⟩]) .ret) .skip)) (.seq (.seq (.region [⟨some 80,.mv (.t 3),none⟩,⟨some 81,.len (.t 80),none⟩,⟨some 82,.mv (.c (.v (.int .i64 0))),none⟩]) (.block 0 (.loop (.seq (.region [⟨some 83,.bin .lss (.t 82) (.t 81),none⟩]) (.seq (.cond (.t 83) .skip (.exit 0)) (.seq (.block 1 (.seq (.region [⟨some 84,.mv (.t 82),none⟩,⟨some 12,.mv (.t 84),none⟩]) (.seq (.seq (.draw [⟨0,⟨some 85,.mv (.t 5),none⟩,[]⟩,⟨1,⟨some 86,.mv (.t 12),none⟩,[]⟩,⟨2,⟨some 87,.iaddr 1 (.t 85) (.t 86),none⟩,[]⟩,⟨3,⟨some 88,.load none (.t 87),none⟩,[]⟩,⟨4,⟨some 89,.len (.t 88),none⟩,[]⟩,⟨5,⟨some 90,.mv (.t 3),none⟩,[]⟩,⟨6,⟨some 91,.mv (.t 12),none⟩,[]⟩,⟨7,⟨some 92,.iaddr 1 (.t 90) (.t 91),none⟩,[]⟩,⟨8,⟨some 93,.load none (.t 92),none⟩,[]⟩,⟨9,⟨some 94,.len (.t 93),none⟩,[]⟩,⟨10,⟨some 95,.bin .neq (.t 89) (.t 94),none⟩,[]⟩]) (.cond (.t 95) (.seq (.region [⟨some 2,.mv (.c (.v (.bool false))),none⟩]) .ret) .skip)) (.seq (.region [⟨some 96,.mv (.t 3),none⟩,⟨some 97,.mv (.t 12),none⟩,⟨some 98,.iaddr 1 (.t 96) (.t 97),none⟩,⟨some 99,.load none (.t 98),none⟩,⟨some 100,.len (.t 99),none⟩,⟨some 101,.mv (.c (.v (.int .i64 0))),none⟩]) (.block 2 (.loop (.seq (.region [⟨some 102,.bin .lss (.t 101) (.t 100),none⟩]) (.seq (.cond (.t 102) .skip (.exit 2)) (.seq (.block 3 (.seq (.region [⟨some 103,.mv (.t 101),none⟩,⟨some 13,.mv (.t 103),none⟩]) (.seq (.draw [⟨0,⟨some 104,.mv (.t 3),none⟩,[]⟩,⟨1,⟨some 105,.mv (.t 12),none⟩,[]⟩,⟨2,⟨some 106,.iaddr 1 (.t 104) (.t 105),none⟩,[]⟩,⟨3,⟨some 107,.load none (.t 106),none⟩,[]⟩,⟨4,⟨some 108,.mv (.t 13),none⟩,[]⟩,⟨5,⟨some 109,.iaddr 1 (.t 107) (.t 108),none⟩,[]⟩,⟨6,⟨some 110,.load none (.t 109),none⟩,[]⟩,⟨7,⟨some 111,.iaddr 1 (.t 110) (.c (.v (.int .i64 0))),none⟩,[]⟩,⟨8,⟨some 112,.load none (.t 111),none⟩,[]⟩,⟨9,⟨some 113,.mv (.t 5),none⟩,[]⟩,⟨10,⟨some 114,.mv (.t 12),none⟩,[]⟩,⟨11,⟨some 115,.iaddr 1 (.t 113) (.t 114),none⟩,[]⟩,⟨12,⟨some 116,.load none (.t 115),none⟩,[]⟩,⟨13,⟨some 117,.mv (.t 13),none⟩,[]⟩,⟨14,⟨some 118,.iaddr 1 (.t 116) (.t 117),none⟩,[]⟩,⟨15,⟨some 119,.load none (.t 118),none⟩,[]⟩,⟨16,⟨some 120,.bin .neq (.t 112) (.t 119),none⟩,[]⟩]) (.cond (.t 120) (.seq (.region [⟨some 2,.mv (.c (.v (.bool false))),none⟩]) .ret) .skip)))) (.region [⟨some 121,.bin .add (.t 101) (.c (.v (.int .i64 1))),none⟩,⟨some 101,.mv (.t 121),none⟩])))))))))) (.region [⟨some 122,.bin .add (.t 82) (.c (.v (.int .i64 1))),none⟩,⟨some 82,.mv (.t 122),none⟩]))))))) (.seq (.region [⟨some 2,.mv (.c (.v (.bool true))),none⟩]) .ret)))))))))⟩
theorem a_LamportL_ok : cFunc Try.prog 6 = some a_LamportL := by kernel_rfl
def r_LamportL0 : List (Nat × Nat) := [(2, 2), (12, 13), (82, 122)]
def r_LamportL1 : List (Nat × Nat) := [(2, 2), (13, 13), (101, 121)]

theorem leave_matP2 {rs : List ARes} {Q : AV → List Row → List Row → Prop} {B e l : List _} {ex : AExit} (hex : ex = .normal ∨ ex = .ret) {n m v0 sz : Nat} {ver : Nat → Nat} {R : Nat → List (List IV)} {z : IV} {pre junk : List Row} (hx : resVs e B l rs = some [.sl (B.length + m) v0 0 n, .v z]) (hm : pre.length = m) (hl : l = pre ++ mR n v0 (B.length + m) sz 0 ver R ++ junk)
  (hp : RowsLt (B.length + m) pre) (hR : RowsLt B.length B) {b0 l0 : List Row} (hB : B = b0 ++ l0) (hq : Q (.tup [.v (.isl 1 (mV n sz R)), .v z]) b0 l0) : Leaves rs Q b0.length ex e B l := by
 subst hm
 have hlm : (mR n v0 (B.length + pre.length) sz 0 ver R).length = n + 1 := by simp [mR, fl_len]
 have hbl : (B ++ pre).length = B.length + pre.length := List.length_append
 refine leave hex hx (y := .tup [.v (.isl 1 (mV n sz R)), .v z]) (l' := []) ?_ hB (by simpa using hq)
 refine (Weak.trim (l1 := pre ++ mR n v0 (B.length + pre.length) sz 0 ver R) hl ?_ (hR.mono oM) ?_).trans ?_
 ·intro x hx
  simp only [one, List.mem_singleton] at hx
  subst hx
  refine .tup _ (fun c hc => ?_)
  simp only [List.mem_cons, List.not_mem_nil, or_false] at hc
  rcases hc with rfl | rfl
  ·exact .sl _ _ _ _ (by rw [List.length_append]; omega)
  ·exact .v _
 ·intro id ver' sz' els hr row hrow c hc
  by_cases hid : id < pre.length
  ·rw [List.getElem?_append_left hid] at hr
   exact (hp id ver' sz' els hr row hrow c hc).mono (by rw [List.length_append]; omega)
  ·rw [List.getElem?_append_right oM] at hr
   exact mR_lt' (m := B.length + (pre ++ mR n v0 (B.length + pre.length) sz 0 ver R).length) (by rw [List.length_append]; omega) _ ver' sz' els hr row hrow c hc
 have h0 : Weak [one [AV.sl (B.length + pre.length) v0 0 n, .v z]] (B ++ pre) (mR n v0 (B ++ pre).length sz 0 ver R) [one [AV.sl (B.length + pre.length) v0 0 n, .v z]] (B ++ pre) (mR n v0 (B ++ pre).length sz n ver R) :=
  Weak.mfrz (fun i hi => by
   simp only [one, List.map_cons, List.map_nil, frz, frz0]
   rw [if_neg (by rw [hbl]; omega)]) n (Nat.le_refl _)
 have h1 := Weak.freezeR (e := [one [AV.sl (B.length + pre.length) v0 0 n, .v z]]) (b := B ++ pre) (i := 0) (rows := mV n sz R) (mR_all (n := n) (v0 := v0) (base := (B ++ pre).length) (sz := sz) (ver := ver) (R := R))
 have h2 : List.map (frz ((B ++ pre).length + 0) v0 1 (mV n sz R)) [one [AV.sl (B.length + pre.length) v0 0 n, .v z]] = [.tup [.v (.isl 1 (mV n sz R)), .v z]] := by
  simp [one, frz, frz0, mV, fl_len, hbl]
  unfold fl
  rw [List.take_of_length_le (by simp)]
 rw [h2] at h1
 have h3 := (h0.trans h1).shift
 rw [hbl] at h3
 refine h3.trans ?_
 exact Weak.trim (l1 := []) rfl (by
  intro x hx
  simp only [List.mem_singleton] at hx
  subst hx
  refine .tup _ (fun c hc => ?_)
  simp only [List.mem_cons, List.not_mem_nil, or_false] at hc
  rcases hc with rfl | rfl <;> exact .v _) (by simpa using hR) RowsLt_nil
theorem lmR_zero {t : Tr} {n : Nat} : ([.live 0 1 [[.v (.isl 3 (t.map ePr))]]] ++ Row.live 0 1 (fl t.length fun p => [AV.sl (n + (1 + 1 + p)) 0 0 0]) :: fl t.length (fun _ => Row.live 0 1 [])) = lmR t n (fun _ => 0) := by
 unfold lmR fsT lmC
 simp only [List.cons_append, List.nil_append]
 congr 3
 exact fl_congr (fun p _ => by rw [show n + (1 + 1 + p) = n + (p + 1 + 1) by omega])
noncomputable def lmAll (t : Tr) : List (List IV) := fl t.length fun q => [.isl 1 (lmRow t q (evsOf t q).length)]
set_option maxRecDepth 20000 in
set_option maxHeartbeats 4000000 in
theorem lStamps_spec (t : Tr) (hv : Vok t) (hval : validL t = true) (hS : Small t) (hN : Nm t) (hC : (ids t).length ≤ 1000000) (b l : List Row) :
  ACalls Try.prog 32 [.agg [.v (eT t)]] b l (fun r b' l' => r = .tup [.v (.isl 1 (lmAll t)), .v (.int .i64 0)] ∧ b' = b ∧ l' = l) := by
 refine calls_kept a_lStamps_ok rfl (by decide) ?_
 intro B g hB hR hE hA
 simp only [KArgs] at hA
 have hlo := hv.hi
 have hva := fun b l => valid_spec t hS hN b l
 rw [hval] at hva
 simp only [eT] at hva
 simp (disch := (first | decide | omega)) only [a_lStamps, eT, hA, List.length_map, go_sem]
 refine ACalls.nxt (hva _ _) ?_
 simp (disch := (first | decide | omega)) only [hA, List.length_map, go_sem]
 refine loop_kept (ι := (Nat → Nat) × Bool) r_lStamps0 (fun i => [(5, .v (.bool i.2))]) (t.length + 2) (fun i => lmR t B.length i.1)
  (fun i => Dn t i.1 ∧ (i.2 = false → ∀ p, p < t.length → i.1 p = (evsOf t p).length)) (fun i => 2 * remT t i.1 + cond i.2 1 0) (fun _ => 0, true) ⟨fun p hp => Nat.zero_le _, fun h => by cases h⟩ (by (repeat (first | exact hE.mono oM | refine KLt.up ?_ kL))) (by ((try simp (disch := decide) only [hA, go_sem]) <;> exact kH)) (fun e => by
   have h := Weak.nilsAll (e := e) (b := B) (pre := [.live 0 1 [[.v (.isl 3 (t.map ePr))]]]) (N := t.length) (v0 := 0) 1 rfl
   rw [lmR_zero] at h
   have hz : vs (List.replicate t.length [IV.zsl]) = List.replicate t.length [AV.v .zsl] := by simp [vs]
   rw [hz]
   exact h) ?_
 rintro g1 hE1 hEE1 hg1 ⟨D0, ag0⟩ ⟨hD0, hag0⟩
 simp only at hD0 hag0
 cases ag0 with
 | false =>
   have hall := hag0 rfl
   simp (disch := (first | decide | omega)) only [hA, hg1, go_sem]
   have he : lmAll t = mV t.length 1 (fun q => lmRow t q (D0 q)) := by
    unfold lmAll mV
    exact fl_congr (fun q hq => by simp only; rw [hall q hq])
   rw [he]
   refine leave_matP2 (n := t.length) (m := 1) (v0 := 0) (sz := 1) (ver := D0) (R := fun q => lmRow t q (D0 q)) (pre := [.live 0 1 [[.v (.isl 3 (t.map ePr))]]]) (junk := []) (.inr rfl) (by simp (disch := (first | decide | omega)) only [resVs, resV, hA, hg1, go_sem]) rfl ?_ kN hR hB ⟨rfl, rfl, rfl⟩
   unfold mR lmR fsT
   simp only [List.append_nil, List.cons_append, List.nil_append]
   congr 3
   refine fl_congr (fun j hj => ?_)
   unfold mC
   rw [if_neg oM, show B.length + 1 + (j + 1) = B.length + (j + 1 + 1) by omega]
   have : (lmRow t j (D0 j)).length = D0 j := fl_len
   rw [this]
 | true =>
   simp (disch := (first | decide | omega)) only [hA, hg1, List.length_map, lmR, go_sem]
   refine loop_kept (ι := Nat × (Nat → Nat) × Bool) r_lStamps1 (fun i => [(5, .v (.bool i.2.2)), (18, .v (.int .i64 i.1))]) (t.length + 2) (fun i => lmR t B.length i.2.1)
    (fun i => i.1 ≤ t.length ∧ Prg t D0 i.2.1 i.2.2 i.1) (fun i => t.length - i.1) (0, D0, false) ⟨Nat.zero_le _, hD0, fun _ => ⟨rfl, fun q hq => by omega⟩, fun h => by cases h⟩ (by (repeat (first | exact hE1.mono oM | refine KLt.up ?_ kL))) (by ((try simp (disch := decide) only [hA, hg1, go_sem]) <;> exact kH)) (fun e => Weak.refl _ _ _) ?_
   rintro g2 hE2 hEE2 hg2 ⟨p, D1, ag1⟩ ⟨hp, hP1⟩
   simp only at hp hP1
   by_cases hlt : p < t.length
   ·simp (disch := (first | decide | omega)) only [hA, hg1, hg2, List.length_map, lmR, go_sem]
    refine loop_kept (ι := (Nat → Nat) × Bool) r_lStamps2 (fun i => [(5, .v (.bool i.2))]) (t.length + 2) (fun i => lmR t B.length i.1)
     (fun i => Prg t D0 i.1 i.2 p) (fun i => remT t i.1) (D1, ag1) hP1 (by (repeat (first | exact hE2.mono oM | refine KLt.up ?_ kL))) (by ((try simp (disch := decide) only [hA, hg1, hg2, go_sem]) <;> exact kH)) (fun e => Weak.refl _ _ _) ?_
    rintro g3 hE3 hEE3 hg3 ⟨D, ag⟩ hP
    simp only at hP
    obtain ⟨FR, hFR⟩ : ∃ FR, FR = (fsT t.length B.length D :: fl t.length (lmC t D)) := ⟨_, rfl⟩
    have hFR2 : lmR t B.length D = .live 0 1 [[.v (.isl 3 (t.map ePr))]] :: FR := by rw [hFR]; rfl
    have hstep := fun rd lx hc => lAdv_spec t hv hval hS hN hC D hP.1 p hlt B (lmR t B.length D) rfl rd lx hc
    simp only [eT] at hstep
    by_cases hrd : Rdy t D p
    ·have hyes := hstep true _ (.inl ⟨rfl, hrd, rfl⟩)
     rw [hFR2] at hyes
     simp (disch := (first | decide | omega)) only [hA, hg1, hg2, hg3, hFR2, go_sem]
     refine ACalls.nxt hyes ?_
     have hprg : Prg t D0 (fUp D p (D p + 1)) true p := by
      have hst := remT_step hlt hrd.1
      refine ⟨fun q hq => ?_, (fun h => by cases h), fun _ => ?_⟩
      ·by_cases hqp : q = p
       ·subst hqp; rw [fUp_same]; have := hrd.1; omega
       ·rw [fUp_ne hqp]; exact hP.1 q hq
      ·cases ag with
       | true => have := hP.2.2 rfl; omega
       | false => rw [← (hP.2.1 rfl).1]; omega
     simp (disch := (first | decide | omega)) only [hA, hg1, hg2, hg3, go_sem]
     refine ⟨(fUp D p (D p + 1), true), hprg, by have := remT_step hlt hrd.1; simp only; omega, ?_⟩
     exact Weak.kround (l1 := lmR t B.length (fUp D p (D p + 1))) (junk := []) (p := r_lStamps2) (k := t.length + 2) (by ((repeat refine (kAny_up rfl).trans ?_); exact hEE3)) (by ((try simp (disch := decide) only [hA, go_sem]) <;> exact kH)) (List.append_nil _).symm hE3 (by rw [lmR_len]; omega) (by rw [lmR_len]; simp (disch := omega) only [KOvLt, lts.down, Nat.reduceLT, Nat.reduceAdd]) hR (lmR_lt (Nat.le_of_eq (by rw [lmR_len])))
    ·have hno := hstep false _ (.inr ⟨rfl, hrd, rfl⟩)
     rw [hFR2] at hno
     simp (disch := (first | decide | omega)) only [hA, hg1, hg2, hg3, hFR2, go_sem]
     refine ACalls.nxt hno ?_
     simp (disch := (first | decide | omega)) only [hA, hg1, hg2, hg3, go_sem]
     rw [← hFR2]
     refine ⟨(p + 1, D, ag), ⟨hlt, hP.1, fun h => ⟨(hP.2.1 h).1, fun q hq hr => ?_⟩, hP.2.2⟩, by simp only; omega, ?_⟩
     ·by_cases hqp : q = p
      ·subst hqp; rw [← (hP.2.1 h).1] at hr; exact hrd hr
      ·exact (hP.2.1 h).2 q oM hr
     ·exact Weak.kround (l1 := lmR t B.length D) (junk := []) (p := r_lStamps1) (k := t.length + 2) (by ((repeat refine (kAny_up rfl).trans ?_); refine (kAny_sub hg3 (kIn_sub rfl)).trans ?_; (repeat refine (kAny_up rfl).trans ?_); exact hEE2)) (by ((try simp (disch := decide) only [hA, hg1, hg2, go_sem]) <;> exact kH)) (List.append_nil _).symm hE2 (by rw [lmR_len]; omega) (by rw [lmR_len]; simp (disch := omega) only [KOvLt, lts.down, Nat.reduceLT, Nat.reduceAdd]) hR (lmR_lt (Nat.le_of_eq (by rw [lmR_len])))
   ·obtain rfl : p = t.length := by omega
    obtain ⟨FR, hFR⟩ : ∃ FR, FR = (fsT t.length B.length D1 :: fl t.length (lmC t D1)) := ⟨_, rfl⟩
    have hFR2 : lmR t B.length D1 = .live 0 1 [[.v (.isl 3 (t.map ePr))]] :: FR := by rw [hFR]; rfl
    simp (disch := (first | decide | omega)) only [hA, hg1, hg2, hFR2, List.length_map, go_sem]
    rw [← hFR2]
    refine ⟨(D1, ag1), ⟨hP1.1, fun h => ?_⟩, ?_, ?_⟩
    ·obtain ⟨e1, e2⟩ := hP1.2.1 h
     simp only
     rw [e1]
     exact none_left hv hD0 e2
    ·cases ag1 with
     | true => have := hP1.2.2 rfl; simp only [cond]; omega
     | false => rw [(hP1.2.1 rfl).1]; simp only [cond]; omega
    ·exact Weak.kround (l1 := lmR t B.length D1) (junk := []) (p := r_lStamps0) (k := t.length + 2) (by ((repeat refine (kAny_up rfl).trans ?_); refine (kAny_sub hg2 (kIn_sub rfl)).trans ?_; (repeat refine (kAny_up rfl).trans ?_); exact hEE1)) (by ((try simp (disch := decide) only [hA, go_sem]) <;> exact kH)) (List.append_nil _).symm hE1 (by rw [lmR_len]; omega) (by rw [lmR_len]; simp (disch := omega) only [KOvLt, lts.down, Nat.reduceLT, Nat.reduceAdd]) hR (lmR_lt (Nat.le_of_eq (by rw [lmR_len])))
theorem fcs_one {t : Tr} {x : Nat × Nat} : fcs t 1 x = [(lam t x : Int)] := rfl
theorem one_cmp {t : Tr} {x y : Nat × Nat} : cmpV (fcs t 1 x) (fcs t 1 y) ≠ 2 := by
 rw [fcs_one, fcs_one]
 have hl : ∀ a c : Nat, leqV [(a : Int)] [(c : Int)] = decide (a ≤ c) := fun a c => by
  rw [Bool.eq_iff_iff, leqV_iff, decide_eq_true_iff]
  constructor
  ·intro h; have := h 0 (by simp); simp at this; omega
  ·intro h i hi
   obtain rfl : i = 0 := by simp at hi; omega
   simp; omega
 unfold cmpV
 rw [hl, hl]
 by_cases h1 : lam t x ≤ lam t y
 ·rw [decide_eq_true h1, if_pos rfl]; split <;> decide
 ·rw [decide_eq_false h1, decide_eq_true (show lam t y ≤ lam t x by omega)]; decide
theorem one_all {t : Tr} : cLat (erN t 1) (ids t).length = cLat (coN t) (ids t).length := cLat_congr (fun j i hji hi => by
 unfold erN coN cmN
 rw [decide_eq_false one_cmp]
 simp)
set_option maxRecDepth 20000 in
set_option maxHeartbeats 8000000 in
theorem plausibleLamport_run (t : Tr) (hT : t.length ≤ 9223372036854775807) (hM : ∀ x ∈ t, x.evs.length ≤ 9223372036854775807) (hN : Nm t) (b l : List Row) :
  ACalls Try.prog 6 [.agg [.v (eT t)]] b l (fun r b' l' => r = .v (.bool true) ∧ b' = b ∧ l' = l) := by
 refine calls_kept a_LamportL_ok rfl (by decide) ?_
 intro B g hB hR hE hA
 simp only [KArgs] at hA
 simp (disch := (first | decide | omega)) only [a_LamportL, hA, go_sem]
 refine ACalls.nxt (awake18_spec _ _) ?_
 simp (disch := (first | decide | omega)) only [hA, go_sem]
 refine ACalls.nxt (few18W_spec t hT hM _ _) ?_
 cases hf : few18W t with
 | false =>
   simp (disch := (first | decide | omega)) only [hA, go_sem]
   refine ACalls.nxt (awake18_spec _ _) ?_
   simp (disch := (first | decide | omega)) only [hA, go_sem]
   exact leave_pure (xs := [.v (.bool true)]) (.inr rfl) (by simp (disch := (first | decide | omega)) only [resVs, resV, go_sem, hA]) kO hR hB ⟨rfl, rfl, rfl⟩
 | true =>
   have hS := few18W_sm hM hf
   have hva := fun b l => rvalid_specS t hS hN b l
   cases hval : validL t with
   | false =>
     rw [hval] at hva
     simp (disch := (first | decide | omega)) only [hA, go_sem]
     refine ACalls.nxt (hva _ _) ?_
     simp (disch := (first | decide | omega)) only [hA, go_sem]
     refine ACalls.nxt (awake18_spec _ _) ?_
     simp (disch := (first | decide | omega)) only [hA, go_sem]
     exact leave_pure (xs := [.v (.bool true)]) (.inr rfl) (by simp (disch := (first | decide | omega)) only [resVs, resV, go_sem, hA]) kO hR hB ⟨rfl, rfl, rfl⟩
   | true =>
     obtain ⟨h10, hSm, h40⟩ := few18W_in hM hf hval
     have hv := vok hval
     have hlo := hv.lo
     have hhi := hv.hi
     rw [hval] at hva
     have hgv : (1 : Int) ≤ 1 ∧ (1 : Int) ≤ 8 := by decide
     have hst : ∀ b l, ACalls Try.prog 17 [.agg [.v (eT t)], .v (.int .i64 1)] b l (fun r b' l' => r = .tup [.v (.isl 1 (fsAll t 1)), .v (.int .i64 0)] ∧ b' = b ∧ l' = l) := fun b l => by
      have h := pStamps_spec t hSm hN oM (1 : Int) b l
      unfold pStR at h
      rw [if_pos (giv_in hval hgv)] at h
      exact h
     have hls := fun b l => lStamps_spec t hv hval hSm hN oM b l
     have her : ∀ b l, ACalls Try.prog 22 [.agg [.v (eT t)], .v (.int .i64 1)] b l (fun r b' l' => r = .tup [.v (.int .i64 (cLat (coN t) (ids t).length : Nat)), .v (.int .i64 0)] ∧ b' = b ∧ l' = l) := fun b l => by
      have h := pErrors_spec t hSm hN (fun _ => by omega) (1 : Int) b l
      unfold pErR at h
      rw [if_pos (giv_in hval hgv), show (1 : Int).toNat = 1 from rfl, nEr_nat oM, one_all] at h
      exact h
     have hpr : ∀ b l, ACalls Try.prog 23 [.agg [.v (eT t)]] b l (fun r b' l' => r = .tup [.v (.int .i64 (cLat (orN t) (ids t).length : Nat)), .v (.int .i64 (cLat (coN t) (ids t).length : Nat)), .v (.int .i64 0)] ∧ b' = b ∧ l' = l) := fun b l => by
      have h := ppairs_spec t hSm hN (fun _ => by omega) b l
      unfold pPr at h
      rw [if_pos hval, ord_eq hval oM, nCo_nat oM] at h
      exact h
     obtain ⟨oN, hoN⟩ : ∃ n : Int, ((cLat (orN t) (ids t).length : Nat) : Int) = n := ⟨_, rfl⟩
     obtain ⟨cN, hcN⟩ : ∃ n : Int, ((cLat (coN t) (ids t).length : Nat) : Int) = n := ⟨_, rfl⟩
     simp only [hoN, hcN] at hpr her
     have no2 : (cN != cN) = false := by simp
     have hfi : ∀ b l, ACalls Try.prog 28 [.agg [.v (eT t)], .v (.int .i64 1), .v (.isl 1 (fsAll t 1))] b l (fun r b' l' => r = .v (.bool true) ∧ b' = b ∧ l' = l) := fun b l => rFits18_spec t hSm oM 1 oM oM b l
     have n00 : ((0 : Int) != 0) = false := rfl
     have hTT : ((t.length : Int) != (t.length : Int)) = false := by simp
     have hFl : (fsAll t 1).length = t.length := fl_len
     have hgF : ∀ q, q < t.length → (fsAll t 1)[q]? = some [.isl 1 (fsRow t 1 q (evsOf t q).length)] := fun q hq => fl_get hq
     have hVl : (lmAll t).length = t.length := fl_len
     have hgV : ∀ q, q < t.length → (lmAll t)[q]? = some [.isl 1 (lmRow t q (evsOf t q).length)] := fun q hq => fl_get hq
     obtain ⟨FA, hFA⟩ : ∃ FA, fsAll t 1 = FA := ⟨_, rfl⟩
     obtain ⟨VA, hVA⟩ : ∃ VA, lmAll t = VA := ⟨_, rfl⟩
     rw [hFA] at hst hfi hFl hgF
     rw [hVA] at hls hVl hgV
     simp (disch := (first | decide | omega)) only [hA, go_sem]
     refine ACalls.nxt (hva _ _) ?_
     simp (disch := (first | decide | omega)) only [hA, go_sem]
     refine ACalls.nxt (hst _ _) ?_
     simp (disch := (first | decide | omega)) only [hA, go_sem]
     refine ACalls.nxt (hls _ _) ?_
     simp (disch := (first | decide | omega)) only [hA, go_sem]
     refine ACalls.nxt (her _ _) ?_
     simp (disch := (first | decide | omega)) only [hA, go_sem]
     refine ACalls.nxt (hpr _ _) ?_
     simp (disch := (first | decide | omega)) only [hA, n00, no2, go_sem]
     refine ACalls.nxt (hfi _ _) ?_
     simp (disch := (first | decide | omega)) only [hA, hVl, hFl, hTT, go_sem]
     refine loop_kept (ι := Nat) r_LamportL0 (fun p => [(82, .v (.int .i64 p))]) 1 (fun _ => [.live 0 1 [[.v (eT t)]]])
      (fun p => p ≤ t.length) (fun p => t.length - p) 0 (Nat.zero_le _) (by (repeat (first | exact hE.mono oM | refine KLt.up ?_ kL))) (by ((try simp (disch := decide) only [hA, go_sem]) <;> exact kH)) (fun e => Weak.refl _ _ _) ?_
     intro g1 hE1 hEE1 hg1 p hp
     by_cases hpl : p < t.length
     ·have hne := hSm.ne _ (List.getElem_mem hpl)
      rw [← evsOf_lt hpl] at hne
      have gFp := hgF p hpl
      have gVp := hgV p hpl
      have lF : (fsRow t 1 p (evsOf t p).length).length = (evsOf t p).length := fl_len
      have lV : (lmRow t p (evsOf t p).length).length = (evsOf t p).length := fl_len
      have hee : (((evsOf t p).length : Int) != ((evsOf t p).length : Int)) = false := by simp
      simp (disch := (first | decide | omega)) only [hA, hg1, hFl, hVl, gFp, gVp, lF, lV, hee, go_sem]
      refine loop_kept (ι := Nat) r_LamportL1 (fun i => [(101, .v (.int .i64 i))]) 1 (fun _ => [.live 0 1 [[.v (eT t)]]])
       (fun i => i ≤ (evsOf t p).length) (fun i => (evsOf t p).length - i) 0 (Nat.zero_le _) (by (repeat (first | exact hE1.mono oM | refine KLt.up ?_ kL))) (by ((try simp (disch := decide) only [hA, hg1, go_sem]) <;> exact kH)) (fun e => Weak.refl _ _ _) ?_
      intro g2 hE2 hEE2 hg2 i hi
      by_cases hil : i < (evsOf t p).length
      ·have gR : (fsRow t 1 p (evsOf t p).length)[i]? = some [.isl 1 [[.int .i64 (lam t (p, i + 1) : Nat)]]] := fl_get hil
       have gW : (lmRow t p (evsOf t p).length)[i]? = some [.int .i64 (lam t (p, i + 1) : Nat)] := fl_get hil
       have hll : ((lam t (p, i + 1) : Int) != (lam t (p, i + 1) : Int)) = false := by simp
       obtain ⟨OV, hOV⟩ : ∃ OV, [[IV.int .i64 (lam t (p, i + 1) : Nat)]] = OV := ⟨_, rfl⟩
       have lO : OV.length = 1 := by rw [← hOV]; rfl
       have gO : OV[0]? = some [.int .i64 (lam t (p, i + 1) : Nat)] := by rw [← hOV]; rfl
       have t0 : Int.toNat 0 = 0 := rfl
       rw [hOV] at gR
       simp (disch := (first | decide | omega)) only [hA, hg1, hg2, hFl, hVl, gFp, gVp, lF, lV, gR, gW, hll, lO, gO, t0, go_sem]
       refine ⟨i + 1, hil, by simp only; omega, ?_⟩
       exact Weak.kround (p := r_LamportL1) (k := 1) (by ((repeat refine (kAny_up rfl).trans ?_); exact hEE2)) (by ((try simp (disch := decide) only [hA, go_sem]) <;> exact kH)) rfl hE2 (by simp) kV hR kL
      ·obtain rfl : i = (evsOf t p).length := by omega
       simp (disch := (first | decide | omega)) only [hA, hg1, hg2, go_sem]
       refine ⟨p + 1, hpl, by simp only; omega, ?_⟩
       exact Weak.kround (p := r_LamportL0) (k := 1) (by ((repeat refine (kAny_up rfl).trans ?_); refine (kAny_sub hg2 (kIn_sub rfl)).trans ?_; (repeat refine (kAny_up rfl).trans ?_); exact hEE1)) (by ((try simp (disch := decide) only [hA, hg1, go_sem]) <;> exact kH)) rfl hE1 (by simp) kV hR kL
     ·obtain rfl : p = t.length := by omega
      simp (disch := (first | decide | omega)) only [hA, hg1, go_sem]
      exact leave_pure (xs := [.v (.bool true)]) (.inr rfl) (by simp (disch := (first | decide | omega)) only [resVs, resV, go_sem, hA, hg1]) kO hR hB ⟨rfl, rfl, rfl⟩
end Go.Proofs.Ytcemoeigegkmoaa
