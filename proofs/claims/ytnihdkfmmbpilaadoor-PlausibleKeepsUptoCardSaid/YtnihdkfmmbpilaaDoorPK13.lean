/- Texts of one proof, laid together: I5, I6. No condition. -/
import Derived.Test.YtnihdkfmmbpilaaDoorPK12
import Derived.Test.YtnihdkfmmbpilaaDoorPK11
namespace Go.Proofs.YtnihdkfmmbpilaaDoor
set_option linter.unusedVariables false
set_option linter.unusedSimpArgs false
attribute [local go_sem ↓] run_skip run_region run_draw run_both run_seq run_block run_exit run_ret run_cond atN_app seqC_normal seqC_exit seqC_ret seqQ_normal seqQ_exit seqQ_ret blkQ_normal blkQ_exit blkQ_ret runOps_nil runOps_cons runD_nil runD_cons grdO_true grdO_false grdD_true grdD_false ifC_true ifC_false opS_val opS_call opS_two opK_app dS_val dS_call dS_two dK_app kUp_same kUp_ne
attribute [local go_sem] rechks_nil rechks_cons rechk gcase_true gcase_false ex_val ex_val0 gd_none gd_some ev_t ev_c evs_nil evs_cons evo_some evo_none hget_at hget_first hsetB_at hsetB_first hsetL_at hsetL_first ofOpt_some aop aload astore aslice aappend aiaddr aiaddrA afaddr alen alenS acopy amm acall alookup amupdate alenM atostr aappz comma keyEq apick binV binVB binVS isSh intOp strOp boolOp shOp eqC eqF and2 cellsOf setFrom fillA fillS rd rdI elems mk bounds AV.cell List.all_cons List.all_nil Bool.and_true Bool.true_and Bool.and_self List.length_cons List.length_nil List.length_append Nat.reduceAdd Nat.reduceSub Nat.reduceMul Nat.zero_add Nat.add_zero List.cons_append List.nil_append List.append_assoc List.append_nil List.getElem?_cons_zero List.getElem?_cons_succ List.getElem?_nil List.set_cons_zero List.set_cons_succ List.drop_zero List.drop_succ_cons List.take_zero List.take_succ_cons List.take_nil List.drop_nil List.map_cons List.map_nil Option.map_some if_true if_false Bool.false_eq_true and_self true_and and_true Nat.reduceLeDiff Nat.reduceLT Nat.le_refl Nat.reduceEqDiff ite_true ite_false beq_self_eq_true beq_true beq_false Bool.not_true Bool.not_false Bool.true_beq Bool.false_beq map_vs vs_len vs_get vs_take vs_drop vs_snoc1 vs_snoc2 vs_snoc3 vs_snoc5 vs_set1 vs_set2 vs_rep wrap_id le_T lt_T le_F lt_F leI_T ltI_T leI_F ltI_F geI gtI get_T decide_true decide_false room List.getElem?_map List.length_map List.length_take Int.toNat_natCast Nat.min_def Nat.min_self nth_kOf put_kOf put_kNo kOv_cons kOv_nil KHas KArgs List.getElem_cons_zero List.getElem_cons_succ
def a_OrderC : AFunc := ⟨1,98,[.cell 2 (some 1),.tmp 3],(.seq (.region [⟨some 1,.box (.t 0),none⟩,⟨some 2,.alloc [(.v .zsl)],none⟩,⟨some 3,.mv (.c (.v (.int .i64 0))),none⟩]) (.seq (.seq (.region [⟨some 18,.load (some 1) (.t 1),none⟩,⟨some 19,.call (.c (.fn 72 [])) [(.t 18),(.c (.v .zsl))],none⟩,⟨some 4,.mv (.t 19),none⟩]) (.seq (.region [⟨some 20,.mv (.t 4),none⟩,⟨some 21,.bin .neq (.t 20) (.c (.v (.int .i64 0))),none⟩]) (.cond (.t 21) (.seq (.region [⟨some 22,.build [(.v .zsl)] [],none⟩,⟨some 23,.mv (.t 4),none⟩,⟨none,.store 1 (.t 2) (.t 22),none⟩,⟨some 3,.mv (.t 23),none⟩]) .ret) .skip))) (.seq (.draw [⟨0,⟨some 24,.load (some 1) (.t 1),none⟩,[]⟩,⟨2,⟨some 26,.load (some 1) (.t 1),none⟩,[]⟩,⟨1,⟨some 25,.call (.c (.fn 74 [])) [(.t 24)],none⟩,[⟨some 26,.load (some 1) (.t 1),none⟩]⟩,⟨3,⟨some 27,.call (.c (.fn 83 [])) [(.t 26)],none⟩,[]⟩,⟨4,⟨some 5,.alloc [(.v .zsl),(.v .nilm),(.v .nilm)],none⟩,[⟨some 24,.load (some 1) (.t 1),none⟩,⟨some 26,.load (some 1) (.t 1),none⟩]⟩,⟨5,⟨none,.store 3 (.t 5) (.t 25),none⟩,[]⟩,⟨6,⟨some 6,.mv (.t 27),none⟩,[]⟩]) (.seq (.region [⟨some 28,.mv (.t 6),none⟩,⟨some 29,.len (.t 28),none⟩,⟨some 30,.mkslice 1 [(.v .zsl)] 24 (.t 29) (.t 29),none⟩,⟨some 7,.mv (.t 30),none⟩]) (.seq (.seq (.region [⟨some 31,.mv (.t 6),none⟩,⟨some 32,.len (.t 31),none⟩,⟨some 33,.mv (.c (.v (.int .i64 0))),none⟩]) (.block 0 (.loop (.seq (.region [⟨some 34,.bin .lss (.t 33) (.t 32),none⟩]) (.seq (.cond (.t 34) .skip (.exit 0)) (.seq (.block 1 (.seq (.region [⟨some 35,.mv (.t 33),none⟩,⟨some 36,.iaddr 2 (.t 31) (.t 33),none⟩,⟨some 37,.load (some 2) (.t 36),none⟩,⟨some 9,.alloc [(.v (.int .i64 0)),(.v (.int .i64 0))],none⟩,⟨some 8,.mv (.t 35),none⟩,⟨none,.store 2 (.t 9) (.t 37),none⟩]) (.seq (.region [⟨some 38,.load (some 3) (.t 5),none⟩,⟨some 39,.load (some 2) (.t 9),none⟩,⟨some 40,.call (.c (.fn 84 [])) [(.t 38),(.t 39)],none⟩,⟨some 10,.mv (.t 40),none⟩]) (.seq (.region [⟨some 41,.mv (.t 6),none⟩,⟨some 42,.len (.t 41),none⟩,⟨some 43,.mv (.c (.v (.int .i64 0))),none⟩]) (.block 2 (.loop (.seq (.region [⟨some 44,.bin .lss (.t 43) (.t 42),none⟩]) (.seq (.cond (.t 44) .skip (.exit 2)) (.seq (.block 3 (.seq (.region [⟨some 45,.mv (.t 43),none⟩,⟨some 46,.iaddr 2 (.t 41) (.t 43),none⟩,⟨some 47,.load (some 2) (.t 46),none⟩,⟨some 12,.alloc [(.v (.int .i64 0)),(.v (.int .i64 0))],none⟩,⟨some 11,.mv (.t 45),none⟩,⟨none,.store 2 (.t 12) (.t 47),none⟩]) (.seq (.draw [⟨0,⟨some 48,.load (some 2) (.t 12),none⟩,[]⟩,⟨1,⟨some 49,.load (some 2) (.t 9),none⟩,[]⟩,⟨2,⟨some 50,.eqs true [.i,.i] (.t 48) (.t 49),none⟩,[]⟩,⟨3,⟨some 51,.mv (.t 50),none⟩,[]⟩,⟨4,⟨some 52,.mv (.t 10),some (51,true)⟩,[]⟩,⟨5,⟨some 53,.faddr 0 (.t 12),some (51,true)⟩,[]⟩,⟨6,⟨some 54,.load none (.t 53),some (51,true)⟩,[]⟩,⟨7,⟨some 55,.iaddr 1 (.t 52) (.t 54),some (51,true)⟩,[]⟩,⟨8,⟨some 56,.load none (.t 55),some (51,true)⟩,[]⟩,⟨9,⟨some 57,.faddr 1 (.t 12),some (51,true)⟩,[]⟩,⟨10,⟨some 58,.load none (.t 57),some (51,true)⟩,[]⟩,⟨11,⟨some 59,.bin .geq (.t 56) (.t 58),some (51,true)⟩,[]⟩,⟨12,⟨some 60,.pick (.t 51) (.t 59) (.c (.v (.bool false))),none⟩,[]⟩]) (.cond (.t 60) (.region [⟨some 61,.mv (.t 7),none⟩,⟨some 62,.mv (.t 11),none⟩,⟨some 63,.mv (.t 7),none⟩,⟨some 64,.mv (.t 11),none⟩,⟨some 65,.iaddr 1 (.t 63) (.t 64),none⟩,⟨some 66,.load none (.t 65),none⟩,⟨some 67,.mv (.t 8),none⟩,⟨some 68,.bslice 1 [(.v (.int .i64 0))] 1 [(0,(.t 67))],none⟩,⟨some 69,.append 1 8 (.t 66) (.t 68),none⟩,⟨some 70,.iaddr 1 (.t 61) (.t 62),none⟩,⟨none,.store 1 (.t 70) (.t 69),none⟩]) .skip)))) (.region [⟨some 71,.bin .add (.t 43) (.c (.v (.int .i64 1))),none⟩,⟨some 43,.mv (.t 71),none⟩])))))))))) (.region [⟨some 72,.bin .add (.t 33) (.c (.v (.int .i64 1))),none⟩,⟨some 33,.mv (.t 72),none⟩]))))))) (.seq (.region [⟨some 13,.alloc [(.v .zsl)],none⟩]) (.seq (.seq (.region [⟨some 73,.mv (.t 7),none⟩,⟨some 74,.len (.t 73),none⟩,⟨some 75,.mv (.c (.v (.int .i64 0))),none⟩]) (.block 4 (.loop (.seq (.region [⟨some 76,.bin .lss (.t 75) (.t 74),none⟩]) (.seq (.cond (.t 76) .skip (.exit 4)) (.seq (.block 5 (.seq (.region [⟨some 77,.iaddr 1 (.t 73) (.t 75),none⟩,⟨some 78,.load none (.t 77),none⟩,⟨some 15,.mv (.t 78),none⟩]) (.seq (.region [⟨some 80,.mv (.t 6),none⟩,⟨some 81,.len (.t 80),none⟩,⟨some 82,.mv (.t 15),none⟩,⟨some 83,.call (.c (.fn 85 [])) [(.t 81),(.t 82)],none⟩,⟨some 79,.mv (.t 83),none⟩,⟨some 84,.extract 0 (.t 79),none⟩,⟨some 85,.extract 1 (.t 79),none⟩,⟨some 16,.alloc [(.v (.int .i64 0)),(.v .zsl)],none⟩,⟨none,.store 2 (.t 16) (.t 84),none⟩,⟨some 17,.mv (.t 85),none⟩]) (.seq (.seq (.region [⟨some 86,.mv (.t 17),none⟩,⟨some 87,.bin .neq (.t 86) (.c (.v (.int .i64 0))),none⟩]) (.cond (.t 87) (.seq (.region [⟨some 88,.build [(.v .zsl)] [],none⟩,⟨some 89,.mv (.t 17),none⟩,⟨none,.store 1 (.t 2) (.t 88),none⟩,⟨some 3,.mv (.t 89),none⟩]) .ret) .skip)) (.region [⟨some 90,.faddr 0 (.t 13),none⟩,⟨some 91,.load none (.t 90),none⟩,⟨some 92,.load (some 2) (.t 16),none⟩,⟨some 93,.bslice 2 [(.v (.int .i64 0)),(.v .zsl)] 1 [(0,(.t 92))],none⟩,⟨some 94,.append 2 32 (.t 91) (.t 93),none⟩,⟨some 95,.faddr 0 (.t 13),none⟩,⟨none,.store 1 (.t 95) (.t 94),none⟩]))))) (.region [⟨some 96,.bin .add (.t 75) (.c (.v (.int .i64 1))),none⟩,⟨some 75,.mv (.t 96),none⟩]))))))) (.seq (.region [⟨some 97,.load (some 1) (.t 13),none⟩,⟨none,.store 1 (.t 2) (.t 97),none⟩,⟨some 3,.mv (.c (.v (.int .i64 0))),none⟩]) .ret))))))))⟩
theorem a_OrderC_ok : cFunc Tryd.prog 40 = some a_OrderC := by kernel_rfl
def r_OrderC0 : List (Nat × Nat) := [(8, 12), (33, 72)]
def r_OrderC1 : List (Nat × Nat) := [(11, 12), (43, 71)]
def r_OrderC2 : List (Nat × Nat) := [(3, 3), (15, 17), (75, 96)]

noncomputable def ltL (t : Tr) (i j : Nat) : List Nat := (List.range j).filter fun k => befB t ((ids t).getD i (0, 0)) ((ids t).getD k (0, 0))
theorem ltL_yes {t : Tr} {i j : Nat} (h : befB t ((ids t).getD i (0, 0)) ((ids t).getD j (0, 0)) = true) : ltL t i (j + 1) = ltL t i j ++ [j] := by
 unfold ltL
 rw [List.range_succ, List.filter_append]
 congr 1
 simp only [List.filter_cons, h, if_true, List.filter_nil]
theorem ltL_no {t : Tr} {i j : Nat} (h : befB t ((ids t).getD i (0, 0)) ((ids t).getD j (0, 0)) = false) : ltL t i (j + 1) = ltL t i j := by
 unfold ltL
 rw [List.range_succ, List.filter_append]
 simp only [List.filter_cons, h, List.filter_nil, Bool.false_eq_true, if_false, List.append_nil]
theorem ltL_lt {t : Tr} {i j : Nat} : ∀ k ∈ ltL t i j, k < j := fun k hk => List.mem_range.1 (List.mem_filter.1 hk).1
theorem ltL_len {t : Tr} {i j : Nat} : (ltL t i j).length ≤ j := by
 have := List.length_filter_le (fun k => befB t ((ids t).getD i (0, 0)) ((ids t).getD k (0, 0))) (List.range j)
 rwa [List.length_range] at this
noncomputable def ltT (t : Tr) (j m i : Nat) : List Nat := if i < m then ltL t i (j + 1) else ltL t i j
noncomputable def ltN (t : Tr) (j m i : Nat) : Nat := (ltT t j m i).length
theorem ltT_start {t : Tr} {j i : Nat} : ltT t j 0 i = ltL t i j := by unfold ltT; rw [if_neg oM]
theorem ltT_end {t : Tr} {j n i : Nat} (h : i < n) : ltT t j n i = ltT t (j + 1) 0 i := by unfold ltT; rw [if_pos h, if_neg oM]
def orP (t : Tr) (n : Nat) : List Row := [.live 0 1 [[.v (.isl 3 (t.map ePr))]], .live 0 1 [[.v .zsl]], .live 0 1 [[.v (.isl 3 (t.map ePr))]], .live 0 3 [[.v (.isl 3 (t.map ePr)), .mp (n + 2 + 2) 0, .mp (n + 2 + 3) 0]], .live 0 0 (mpL t 2 (ids t)), .live 0 0 (mpL t 3 (ids t)), .live 0 3 [[.v (.isl 3 (t.map ePr)), .mp (n + 2 + 2) 0, .mp (n + 2 + 3) 0]], .live 0 3 [[.v (.isl 3 (t.map ePr)), .mp (n + 2 + 2) 0, .mp (n + 2 + 3) 0]]]
noncomputable def orR (t : Tr) (n j m : Nat) (T : List Row) : List Row := orP t n ++ .live 0 1 (fl (ids t).length fun i => [.sl (n + (i + 1 + 1 + 1 + 1 + 1 + 1 + 1 + 1 + 1)) (ltN t j m i) 0 (ltN t j m i)]) :: (fl (ids t).length (fun i => Row.live (ltN t j m i) 1 (vs ((ltT t j m i).map eN))) ++ T)
theorem orR_lt {t : Tr} {n j m k : Nat} {T : List Row} (h : n + ((ids t).length + 9) ≤ k) (hT : RowsLt k T) : RowsLt k (orR t n j m T) := by
 have hp : ∀ (rows : List (List IV)) row, row ∈ vs rows → ∀ c ∈ row, AVlt k c := by
  intro rows row h c hc
  obtain ⟨r0, _, rfl⟩ := List.mem_map.1 h
  obtain ⟨x0, _, rfl⟩ := List.mem_map.1 hc
  exact .v _
 intro id ver sz els hr row hrow c hc
 match id, hr with
 | 0, hr => cases hr; simp at hrow; subst hrow; simp at hc; subst hc; exact .v _
 | 1, hr => cases hr; simp at hrow; subst hrow; simp at hc; subst hc; exact .v _
 | 2, hr => cases hr; simp at hrow; subst hrow; simp at hc; subst hc; exact .v _
 | 3, hr => cases hr; simp at hrow; subst hrow; simp at hc; rcases hc with rfl | rfl | rfl <;> first | exact .v _ | exact .mp _ _ oM
 | 4, hr => cases hr; exact mpL_lt row hrow c hc
 | 5, hr => cases hr; exact mpL_lt row hrow c hc
 | 6, hr => cases hr; simp at hrow; subst hrow; simp at hc; rcases hc with rfl | rfl | rfl <;> first | exact .v _ | exact .mp _ _ oM
 | 7, hr => cases hr; simp at hrow; subst hrow; simp at hc; rcases hc with rfl | rfl | rfl <;> first | exact .v _ | exact .mp _ _ oM
 | 8, hr =>
   cases hr
   obtain ⟨a, ha, rfl⟩ := List.mem_map.1 hrow
   simp only [List.mem_singleton] at hc
   subst hc
   have := List.mem_range.1 ha
   exact .sl _ _ _ _ oM
 | id + 9, hr =>
   have hr : (fl (ids t).length (fun i => Row.live (ltN t j m i) 1 (vs ((ltT t j m i).map eN))) ++ T)[id]? = some (.live ver sz els) := hr
   by_cases hid : id < (ids t).length
   ·rw [fa_at hid] at hr
    cases hr
    exact hp _ row hrow c hc
   ·rw [List.getElem?_append_right (by rw [fl_len]; omega)] at hr
    exact hT _ _ _ _ hr row hrow c hc
theorem oC_yes {t : Tr} {N n j m : Nat} (h : befB t ((ids t).getD m (0, 0)) ((ids t).getD j (0, 0)) = true) : (fl N fun i => [AV.sl (n + (i + 1 + 1 + 1 + 1 + 1 + 1 + 1 + 1 + 1)) (ltN t j m i) 0 (ltN t j m i)]).set m [.sl (n + (m + 1 + 1 + 1 + 1 + 1 + 1 + 1 + 1 + 1)) (ltN t j m m + 1) 0 (ltN t j m m + 1)] = fl N fun i => [AV.sl (n + (i + 1 + 1 + 1 + 1 + 1 + 1 + 1 + 1 + 1)) (ltN t j (m + 1) i) 0 (ltN t j (m + 1) i)] := by
 rw [fl_set]
 refine fl_congr (fun i _ => ?_)
 by_cases hi : i = m
 ·subst hi
  rw [fUp_same]
  have : ltN t j (i + 1) i = ltN t j i i + 1 := by
   unfold ltN ltT
   rw [if_pos oM, if_neg oM, ltL_yes h, List.length_append]; rfl
  rw [this]
 ·rw [fUp_ne hi]
  have : ltN t j (m + 1) i = ltN t j m i := by
   unfold ltN ltT
   by_cases h2 : i < m
   ·rw [if_pos h2, if_pos oM]
   ·rw [if_neg h2, if_neg oM]
  rw [this]
theorem oR_yes {t : Tr} {N j m : Nat} (h : befB t ((ids t).getD m (0, 0)) ((ids t).getD j (0, 0)) = true) : fl N (fUp (fun i => Row.live (ltN t j m i) 1 (vs ((ltT t j m i).map eN))) m (.live (ltN t j m m + 1) 1 (vs ((ltT t j m m ++ [j]).map eN)))) = fl N fun i => Row.live (ltN t j (m + 1) i) 1 (vs ((ltT t j (m + 1) i).map eN)) := by
 refine fl_congr (fun i _ => ?_)
 by_cases hi : i = m
 ·subst hi
  rw [fUp_same]
  have e : ltT t j (i + 1) i = ltT t j i i ++ [j] := by
   unfold ltT
   rw [if_pos oM, if_neg oM, ltL_yes h]
  unfold ltN
  rw [e, List.length_append]; rfl
 ·rw [fUp_ne hi]
  have : ltT t j (m + 1) i = ltT t j m i := by
   unfold ltT
   by_cases h2 : i < m
   ·rw [if_pos h2, if_pos oM]
   ·rw [if_neg h2, if_neg oM]
  unfold ltN
  rw [this]
theorem orR_no {t : Tr} {n j m : Nat} {T : List Row} (h : befB t ((ids t).getD m (0, 0)) ((ids t).getD j (0, 0)) = false) : orR t n j (m + 1) T = orR t n j m T := by
 have e : ∀ i, ltT t j (m + 1) i = ltT t j m i := fun i => by
  unfold ltT
  by_cases h2 : i < m
  ·rw [if_pos h2, if_pos oM]
  ·by_cases h3 : i = m
   ·subst h3; rw [if_pos oM, if_neg oM, ltL_no h]
   ·rw [if_neg h2, if_neg oM]
 unfold orR ltN
 simp only [e]
theorem orR_next {t : Tr} {n j : Nat} {T : List Row} : orR t n j (ids t).length T = orR t n (j + 1) 0 T := by
 unfold orR ltN
 congr 2
 ·congr 1
  exact fl_congr (fun i hi => by rw [ltT_end hi])
 ·congr 1
  exact fl_congr (fun i hi => by rw [ltT_end hi])
theorem orR_zero {t : Tr} {n : Nat} : orP t n ++ Row.live 0 1 (fl (ids t).length fun p => [AV.sl (n + (8 + 1 + p)) 0 0 0]) :: fl (ids t).length (fun _ => Row.live 0 1 []) = orR t n 0 0 [] := by
 unfold orR
 rw [List.append_nil]
 have e : ∀ i, ltT t 0 0 i = [] := fun i => by rw [ltT_start]; rfl
 unfold ltN
 simp only [e, List.length_nil, List.map_nil]
 congr 3
 exact fl_congr (fun i _ => by rw [show n + (8 + 1 + i) = n + (i + 1 + 1 + 1 + 1 + 1 + 1 + 1 + 1 + 1) by omega])
theorem chk_nil (t : Tr) (hS : Small t) (hN : Nm t) (b l : List Row) : ACalls Tryd.prog 72 [.agg [.v (eT t)], .v .zsl] b l (fun r b' l' => r = .v (.int .i64 (chkE t [])) ∧ b' = b ∧ l' = l) := by
 refine ACalls.le (check_spec t hS hN [] (by simp) b l) rfl ?_
 intro i a c h1 h2
 match i with
 | 0 => simp at h1 h2; subst h1; subst h2; exact .refl _
 | 1 => simp at h1 h2; subst h1; subst h2; exact .v _ _ (.zsl 2)
 | i + 2 => simp at h1
noncomputable def orQ (t : Tr) (n i : Nat) : List Row := orP t n ++ .live 0 1 (fl (ids t).length fun a => [.sl (n + (a + 1 + 1 + 1 + 1 + 1 + 1 + 1 + 1 + 1)) (ltN t (ids t).length 0 a) 0 (ltN t (ids t).length 0 a)]) :: (fl (ids t).length (fun a => if a < i then Row.dead (ltN t (ids t).length 0 a) else Row.live (ltN t (ids t).length 0 a) 1 (vs ((ltT t (ids t).length 0 a).map eN))) ++ [.live 0 1 [[.sl (n + ((ids t).length + 1 + 1 + 1 + 1 + 1 + 1 + 1 + 1 + 1 + 1)) i 0 i]], .live i 2 (vs (fl i fun a => setV (ids t).length (ltT t (ids t).length 0 a).reverse))])
theorem oQ_next {t : Tr} {N i : Nat} (h : i < N) : fl N (fUp (fun a => if a < i then Row.dead (ltN t N 0 a) else Row.live (ltN t N 0 a) 1 (vs ((ltT t N 0 a).map eN))) i (.dead (ltN t N 0 i))) = fl N fun a => if a < i + 1 then Row.dead (ltN t N 0 a) else Row.live (ltN t N 0 a) 1 (vs ((ltT t N 0 a).map eN)) := by
 refine fl_congr (fun a _ => ?_)
 by_cases ha : a = i
 ·subst ha
  rw [fUp_same, if_pos oM]
 ·rw [fUp_ne ha]
  by_cases h2 : a < i
  ·rw [if_pos h2, if_pos oM]
  ·rw [if_neg h2, if_neg oM]
theorem orQ_lt {t : Tr} {n i k : Nat} (h : n + ((ids t).length + 11) ≤ k) : RowsLt k (orQ t n i) := by
 have hp : ∀ (rows : List (List IV)) row, row ∈ vs rows → ∀ c ∈ row, AVlt k c := by
  intro rows row h c hc
  obtain ⟨r0, _, rfl⟩ := List.mem_map.1 h
  obtain ⟨x0, _, rfl⟩ := List.mem_map.1 hc
  exact .v _
 intro id ver sz els hr row hrow c hc
 match id, hr with
 | 0, hr => cases hr; simp at hrow; subst hrow; simp at hc; subst hc; exact .v _
 | 1, hr => cases hr; simp at hrow; subst hrow; simp at hc; subst hc; exact .v _
 | 2, hr => cases hr; simp at hrow; subst hrow; simp at hc; subst hc; exact .v _
 | 3, hr => cases hr; simp at hrow; subst hrow; simp at hc; rcases hc with rfl | rfl | rfl <;> first | exact .v _ | exact .mp _ _ oM
 | 4, hr => cases hr; exact mpL_lt row hrow c hc
 | 5, hr => cases hr; exact mpL_lt row hrow c hc
 | 6, hr => cases hr; simp at hrow; subst hrow; simp at hc; rcases hc with rfl | rfl | rfl <;> first | exact .v _ | exact .mp _ _ oM
 | 7, hr => cases hr; simp at hrow; subst hrow; simp at hc; rcases hc with rfl | rfl | rfl <;> first | exact .v _ | exact .mp _ _ oM
 | 8, hr =>
   cases hr
   obtain ⟨a, ha, rfl⟩ := List.mem_map.1 hrow
   simp only [List.mem_singleton] at hc
   subst hc
   have := List.mem_range.1 ha
   exact .sl _ _ _ _ oM
 | id + 9, hr =>
   have hr : (fl (ids t).length (fun a => if a < i then Row.dead (ltN t (ids t).length 0 a) else Row.live (ltN t (ids t).length 0 a) 1 (vs ((ltT t (ids t).length 0 a).map eN))) ++ [.live 0 1 [[.sl (n + ((ids t).length + 1 + 1 + 1 + 1 + 1 + 1 + 1 + 1 + 1 + 1)) i 0 i]], .live i 2 (vs (fl i fun a => setV (ids t).length (ltT t (ids t).length 0 a).reverse))])[id]? = some (.live ver sz els) := hr
   by_cases hid : id < (ids t).length
   ·rw [fa_at hid] at hr
    by_cases h2 : id < i
    ·rw [if_pos h2] at hr
     cases hr
    ·rw [if_neg h2] at hr
     cases hr
     exact hp _ row hrow c hc
   ·rw [List.getElem?_append_right (by rw [fl_len]; omega), fl_len] at hr
    match hd : id - (ids t).length, hr with
    | 0, hr => cases hr; simp at hrow; subst hrow; simp at hc; subst hc; exact .sl _ _ _ _ oM
    | 1, hr => cases hr; exact hp _ row hrow c hc
    | d + 2, hr => simp at hr
theorem OrderC_run (t : Tr) (hv : Vok t) (hval : validL t = true) (hS : Small t) (hN : Nm t) (hC : (ids t).length ≤ 512) (b l : List Row) :
  ACalls Tryd.prog 40 [.agg [.v (eT t)]] b l (fun r b' l' => r = .tup [.agg [.v (eRel (ids t).length fun i => (ltL t i (ids t).length).reverse)], .v (.int .i64 0)] ∧ b' = b ∧ l' = l) := by
 refine calls_kept a_OrderC_ok rfl (by decide) ?_
 intro B g hB hR hE hA
 simp only [KArgs] at hA
 have hck : chkE t [] = 0 := chkE_zero.2 ⟨hval, by simp⟩
 have hn0 : ((0 : Int) != 0) = false := rfl
 simp (disch := (first | decide | omega)) only [a_OrderC, hA, go_sem]
 refine ACalls.nxt (chk_nil t hS hN _ _) ?_
 rw [hck]
 simp (disch := (first | decide | omega)) only [hA, hn0, go_sem]
 refine ACalls.nxt (knows_spec t hv hS _ _) ?_
 simp (disch := (first | decide | omega)) only [hA, kA, knoR, go_sem]
 refine ACalls.nxt (eventsC_run t hS oM _ _) ?_
 simp (disch := (first | decide | omega)) only [hA, eT, List.length_map, go_sem]
 refine loop_kept (ι := Nat) r_OrderC0 (fun j => [(33, .v (.int .i64 j))]) ((ids t).length + 9) (fun j => orR t B.length j 0 [])
  (fun j => j ≤ (ids t).length) (fun j => (ids t).length - j) 0 (Nat.zero_le _) (by (repeat (first | exact hE.mono oM | refine KLt.up ?_ kL))) (by ((try simp (disch := decide) only [hA, go_sem]) <;> exact kH)) (fun e => by
   have h := Weak.nilsAll (e := e) (b := B) (pre := orP t B.length) (N := (ids t).length) (v0 := 0) 8 rfl
   rw [orR_zero] at h
   have hz : vs (List.replicate (ids t).length [IV.zsl]) = List.replicate (ids t).length [AV.v .zsl] := by simp [vs]
   rw [hz]
   exact h) ?_
 intro g1 hE1 hEE1 hg1 j hj
 by_cases hjl : j < (ids t).length
 ·obtain ⟨⟨yp, yi⟩, hyj⟩ : ∃ y, (ids t)[j] = y := ⟨_, rfl⟩
  have hy : (yp, yi) ∈ ids t := by rw [← hyj]; exact List.getElem_mem hjl
  have hgy : (ids t).getD j (0, 0) = (yp, yi) := by rw [getD_at hjl, hyj]
  have hpa := fun L h1 h2 => past_run t hv hS oM (B.length + 2 + 2) (B.length + 2 + 3) (yp, yi) hy B L h1 h2
  simp only [idA, kA, eT] at hpa
  simp (disch := (first | decide | omega)) only [hA, hg1, orR, orP, eId, hyj, fl_len, fa_at, fa_tail, fa_tail0, fa_set, fa_settail, fa_settail0, fl_get, List.cons_append, List.nil_append, go_sem]
  refine ACalls.nxt (hpa _ (by rw [List.getElem?_append_right oM, show B.length + 2 + 2 - B.length = 4 by omega]; rfl) (by rw [List.getElem?_append_right oM, show B.length + 2 + 3 - B.length = 5 by omega]; rfl)) ?_
  simp (disch := (first | decide | omega)) only [hA, hg1, List.length_map, go_sem]
  refine loop_kept (ι := Nat) r_OrderC1 (fun m => [(43, .v (.int .i64 m))]) ((ids t).length + 10) (fun m => orR t B.length j m [.live 0 2 [[.v (.int .i64 yp), .v (.int .i64 yi)]]])
   (fun m => m ≤ (ids t).length) (fun m => (ids t).length - m) 0 (Nat.zero_le _) (by (repeat (first | exact hE1.mono oM | refine KLt.up ?_ kL))) (by ((try simp (disch := decide) only [hA, hg1, go_sem]) <;> exact kH)) (fun e => Weak.refl _ _ _) ?_
  intro g2 hE2 hEE2 hg2 m hm
  by_cases hml : m < (ids t).length
  ·obtain ⟨⟨xp, xi⟩, hxm⟩ : ∃ x, (ids t)[m] = x := ⟨_, rfl⟩
   have hx : (xp, xi) ∈ ids t := by rw [← hxm]; exact List.getElem_mem hml
   have hgx : (ids t).getD m (0, 0) = (xp, xi) := by rw [getD_at hml, hxm]
   obtain ⟨hxp, _⟩ := mem_ids.1 hx
   simp only at hxp
   have heq : (((xp : Int) == (yp : Int)) && ((xi : Int) == (yi : Int))) = decide ((xp, xi) = (yp, yi)) := by
    rw [Bool.eq_iff_iff]; simp; omega
   have hgt : ((vcs t (yp, yi)).map eI)[xp]? = some [.int .i64 (vc t (yp, yi) xp)] := by
    unfold vcs; rw [List.getElem?_map, fl_get hxp]; rfl
   have hwl : (ltT t j m m).length = ltN t j m m := rfl
   have tk : List.take (ltN t j m m) ((ltT t j m m).map eN) = (ltT t j m m).map eN := List.take_of_length_le (by rw [List.length_map]; exact Nat.le_refl _)
   have hbd : ltN t j m m ≤ j := by unfold ltN ltT; rw [if_neg oM]; exact ltL_len
   have hsn : (ltT t j m m).map eN ++ [[.int .i64 (j : Nat)]] = (ltT t j m m ++ [j]).map eN := by rw [List.map_append]; rfl
   cases hbb : befB t (xp, xi) (yp, yi) with
   | true =>
     have hb2 := hbb
     unfold befB at hb2
     simp only [Bool.and_eq_true, Bool.not_eq_true', decide_eq_false_iff_not, decide_eq_true_eq] at hb2
     have he := heq.trans (decide_eq_false hb2.1)
     have hd : decide ((vc t (yp, yi) xp : Int) ≥ (xi : Int)) = true := decide_eq_true (by have := hb2.2; omega)
     have hd' : decide ((xi : Int) ≤ (vc t (yp, yi) xp : Int)) = true := hd
     have hbm : befB t ((ids t).getD m (0, 0)) ((ids t).getD j (0, 0)) = true := by rw [hgx, hgy]; exact hbb
     have hcy := oC_yes (N := (ids t).length) (n := B.length) hbm
     have hry := oR_yes (N := (ids t).length) hbm
     simp (disch := (first | decide | omega)) only [hA, hg1, hg2, orR, orP, eId, hxm, he, hgt, hd, hd', fl_len, fa_at, fa_tail, fa_tail0, fa_set, fa_settail, fa_settail0, fl_get, List.cons_append, List.nil_append, tk, hsn, hwl, List.length_map, List.replicate_succ, List.replicate_zero, reduceCtorEq, setFrom, cellsOf, go_sem]
     rw [hcy, hry]
     refine ⟨m + 1, hml, by simp only; omega, ?_⟩
     exact Weak.kround (junk := [.live 0 2 [[.v (.int .i64 xp), .v (.int .i64 xi)]], .live 0 1 [[.v (.int .i64 (j : Nat))]]]) (p := r_OrderC1) (k := (ids t).length + 10) (by ((repeat refine (kAny_up rfl).trans ?_); exact hEE2)) (by ((try simp (disch := decide) only [hA, go_sem]) <;> exact kH)) (by simp) hE2 (by simp [fl_len]) kV hR (orR_lt (T := [_]) (by simp [fl_len]) kN)
   | false =>
     have hbm : befB t ((ids t).getD m (0, 0)) ((ids t).getD j (0, 0)) = false := by rw [hgx, hgy]; exact hbb
     have hno := orR_no (n := B.length) (T := [.live 0 2 [[.v (.int .i64 yp), .v (.int .i64 yi)]]]) hbm
     by_cases hxy : (xp, xi) = (yp, yi)
     ·have he := heq.trans (decide_eq_true hxy)
      simp (disch := (first | decide | omega)) only [hA, hg1, hg2, orR, orP, eId, hxm, he, fl_len, fa_at, fa_tail, fa_tail0, fa_set, fa_settail, fa_settail0, fl_get, List.cons_append, List.nil_append, go_sem]
      refine ⟨m + 1, hml, by simp only; omega, ?_⟩
      show Weak _ B _ _ B (orR t B.length j (m + 1) [.live 0 2 [[.v (.int .i64 yp), .v (.int .i64 yi)]]])
      rw [hno]
      exact Weak.kround (junk := [.live 0 2 [[.v (.int .i64 xp), .v (.int .i64 xi)]]]) (p := r_OrderC1) (k := (ids t).length + 10) (by ((repeat refine (kAny_up rfl).trans ?_); exact hEE2)) (by ((try simp (disch := decide) only [hA, go_sem]) <;> exact kH)) (by simp [orR, orP]) hE2 (by simp [orR, orP, fl_len]) kV hR (orR_lt (by simp [orR, orP, fl_len]) kN)
     ·have he := heq.trans (decide_eq_false hxy)
      have hnl : ¬ (xi ≤ vc t (yp, yi) xp) := fun h => by
       unfold befB at hbb
       rw [decide_eq_false hxy, decide_eq_true h] at hbb
       cases hbb
      have hd : decide ((vc t (yp, yi) xp : Int) ≥ (xi : Int)) = false := decide_eq_false oM
      have hd' : decide ((xi : Int) ≤ (vc t (yp, yi) xp : Int)) = false := hd
      simp (disch := (first | decide | omega)) only [hA, hg1, hg2, orR, orP, eId, hxm, he, hgt, hd, hd', fl_len, fa_at, fa_tail, fa_tail0, fa_set, fa_settail, fa_settail0, fl_get, List.cons_append, List.nil_append, go_sem]
      refine ⟨m + 1, hml, by simp only; omega, ?_⟩
      show Weak _ B _ _ B (orR t B.length j (m + 1) [.live 0 2 [[.v (.int .i64 yp), .v (.int .i64 yi)]]])
      rw [hno]
      exact Weak.kround (junk := [.live 0 2 [[.v (.int .i64 xp), .v (.int .i64 xi)]]]) (p := r_OrderC1) (k := (ids t).length + 10) (by ((repeat refine (kAny_up rfl).trans ?_); exact hEE2)) (by ((try simp (disch := decide) only [hA, go_sem]) <;> exact kH)) (by simp [orR, orP]) hE2 (by simp [orR, orP, fl_len]) kV hR (orR_lt (by simp [orR, orP, fl_len]) kN)
  ·simp (disch := (first | decide | omega)) only [hA, hg1, hg2, orR, orP, go_sem]
   obtain rfl : m = (ids t).length := by omega
   refine ⟨j + 1, hjl, by simp only; omega, ?_⟩
   have hnx := orR_next (t := t) (n := B.length) (j := j) (T := [])
   simp only [orR, orP, List.append_nil, List.cons_append, List.nil_append] at hnx
   simp only
   rw [← hnx]
   exact Weak.kround (junk := [.live 0 2 [[.v (.int .i64 yp), .v (.int .i64 yi)]]]) (p := r_OrderC0) (k := (ids t).length + 9) (by ((repeat refine (kAny_up rfl).trans ?_); refine (kAny_sub hg2 (kIn_sub rfl)).trans ?_; (repeat refine (kAny_up rfl).trans ?_); exact hEE1)) (by ((try simp (disch := decide) only [hA, hg1, go_sem]) <;> exact kH)) (by simp) hE1 (by simp [fl_len]) kV hR (by
    have h := orR_lt (t := t) (n := B.length) (j := j) (m := (ids t).length) (T := []) (k := B.length + ((ids t).length + 9)) (Nat.le_refl _) RowsLt_nil
    simp only [orR, orP, List.append_nil, List.cons_append, List.nil_append] at h
    exact h.mono (by simp [fl_len]))
 ·simp (disch := (first | decide | omega)) only [hA, hg1, orR, orP, fl_len, go_sem]
  obtain rfl : j = (ids t).length := by omega
  refine loop_kept (ι := Nat) r_OrderC2 (fun i => [(75, .v (.int .i64 i))]) ((ids t).length + 11) (fun i => orQ t B.length i)
   (fun i => i ≤ (ids t).length) (fun i => (ids t).length - i) 0 (Nat.zero_le _) (by (repeat (first | exact hE1.mono oM | refine KLt.up ?_ kL))) (by ((try simp (disch := decide) only [hA, hg1, go_sem]) <;> exact kH)) (fun e => by
    have hl : (orR t B.length (ids t).length 0 [.live 0 1 [[.v .zsl]]]).length = (ids t).length + 1 + 1 + 1 + 1 + 1 + 1 + 1 + 1 + 1 + 1 := by simp [orR, orP, fl_len]
    have h := Weak.nilcell (e := e) (b := B) (sz := 2) (i := (ids t).length + 1 + 1 + 1 + 1 + 1 + 1 + 1 + 1 + 1) (k := 0) (j := 0) (ver := 0) (z := 1) (els := [[.v .zsl]]) (row := [.v .zsl]) (l := orR t B.length (ids t).length 0 [.live 0 1 [[.v .zsl]]]) (by simp only [orR, orP, List.cons_append, List.nil_append, List.getElem?_cons_succ]; rw [fa_tail0]; rfl) rfl rfl
    rw [hl] at h
    have e1 : (fl (ids t).length fun a => if a < 0 then Row.dead (ltN t (ids t).length 0 a) else Row.live (ltN t (ids t).length 0 a) 1 (vs ((ltT t (ids t).length 0 a).map eN))) = fl (ids t).length fun a => Row.live (ltN t (ids t).length 0 a) 1 (vs ((ltT t (ids t).length 0 a).map eN)) := fl_congr (fun a _ => if_neg oM)
    unfold orQ
    rw [e1]
    simp only [orR, orP, List.cons_append, List.nil_append, List.set_cons_succ, fa_settail0, List.set_cons_zero, List.append_assoc] at h
    exact h) ?_
  intro g2 hE2 hEE2 hg2 i hi
  by_cases hil : i < (ids t).length
  ·have hL : ∀ k ∈ ltT t (ids t).length 0 i, k < (ids t).length := by rw [ltT_start]; exact ltL_lt
   have hLl : (ltT t (ids t).length 0 i).length ≤ (ids t).length := by rw [ltT_start]; exact ltL_len
   have hfx : (fl i fun a => setV (ids t).length (ltT t (ids t).length 0 a).reverse) ++ [[IV.int .i64 (ids t).length, .isl 1 (fl (nW (ids t).length) fun k => [.int .u64 (bw (ltT t (ids t).length 0 i).reverse k)])]] = fl (i + 1) fun a => setV (ids t).length (ltT t (ids t).length 0 a).reverse := fl_next rfl
   have hry := oQ_next (t := t) (N := (ids t).length) (i := i) hil
   have hst : (setV (ids t).length (ltT t (ids t).length 0 i).reverse).map AV.v = [.v (.int .i64 (ids t).length), .v (.isl 1 (fl (nW (ids t).length) fun k => [.int .u64 (bw (ltT t (ids t).length 0 i).reverse k)]))] := rfl
   have tk : List.take i (fl i fun a => setV (ids t).length (ltT t (ids t).length 0 a).reverse) = fl i fun a => setV (ids t).length (ltT t (ids t).length 0 a).reverse := List.take_of_length_le (by rw [fl_len]; exact Nat.le_refl _)
   simp (disch := (first | decide | omega)) only [hA, hg1, hg2, orQ, orP, fl_len, fl_get, fa_at, fa_tail, fa_tail0, fa_set, fa_settail, fa_settail0, List.cons_append, List.nil_append, go_sem]
   refine ACalls.frzB (i := i + 1 + 1 + 1 + 1 + 1 + 1 + 1 + 1 + 1) (ver := ltN t (ids t).length 0 i) (sz := 1) (rows := (ltT t (ids t).length 0 i).map eN) (args' := [.v (.int .i64 (ids t).length), .v (.isl 1 ((ltT t (ids t).length 0 i).map eN))]) (by simp only [List.getElem?_cons_succ]; rw [fa_at hil, if_neg oM]) (by simp only [List.map_cons, List.map_nil, frz_v]; rw [frz_own (by simp [ltN])]) ?_
   refine ACalls.nxt (Of_spec (ids t).length hC (ltT t (ids t).length 0 i) hL oM _ _) ?_
   rw [hst]
   simp (disch := (first | decide | omega)) only [hA, hg1, hg2, hn0, fl_len, fl_get, fa_at, fa_tail, fa_tail0, fa_set, fa_settail, fa_settail0, List.cons_append, List.nil_append, tk, List.replicate_succ, List.replicate_zero, reduceCtorEq, setFrom, cellsOf, go_sem]
   rw [hfx, hry]
   refine ⟨i + 1, hil, by simp only; omega, ?_⟩
   exact Weak.kround (junk := [.live 0 2 [[.v (.int .i64 (ids t).length), .v (.isl 1 (fl (nW (ids t).length) fun k => [.int .u64 (bw (ltT t (ids t).length 0 i).reverse k)]))]], .live 0 2 [[.v (.int .i64 (ids t).length), .v (.isl 1 (fl (nW (ids t).length) fun k => [.int .u64 (bw (ltT t (ids t).length 0 i).reverse k)]))]]]) (p := r_OrderC2) (k := (ids t).length + 11) (by ((repeat refine (kAny_up rfl).trans ?_); exact hEE2)) (by ((try simp (disch := decide) only [hA, hg1, go_sem]) <;> exact kH)) (by simp) hE2 (by simp [fl_len]) kV hR (orQ_lt (by simp [fl_len]))
  ·obtain rfl : i = (ids t).length := by omega
   simp (disch := (first | decide | omega)) only [hA, hg1, hg2, orQ, orP, fl_len, fl_get, fa_at, fa_tail, fa_tail0, fa_set, fa_settail, fa_settail0, List.cons_append, List.nil_append, go_sem]
   have tk : List.take (ids t).length (fl (ids t).length fun a => setV (ids t).length (ltT t (ids t).length 0 a).reverse) = fl (ids t).length fun a => setV (ids t).length (ltT t (ids t).length 0 a).reverse := List.take_of_length_le (by rw [fl_len]; exact Nat.le_refl _)
   refine leave_deepI (Or.inr rfl) (i := (ids t).length + 1 + 1 + 1 + 1 + 1 + 1 + 1 + 1 + 1 + 1) (ver := (ids t).length) (sz := 2) (rows := fl (ids t).length fun a => setV (ids t).length (ltT t (ids t).length 0 a).reverse) (xs := [.agg [.sl (B.length + ((ids t).length + 1 + 1 + 1 + 1 + 1 + 1 + 1 + 1 + 1 + 1)) (ids t).length 0 (ids t).length], .v (.int .i64 0)]) 6 (by simp (disch := (first | decide | omega)) only [resVs, resV, go_sem, hg2, hg1, hA, if_true]) (by simp only [List.getElem?_cons_succ]; rw [fa_tail (j := 1)]; rfl) (y := .tup [.agg [.v (.isl 2 (fl (ids t).length fun a => setV (ids t).length (ltT t (ids t).length 0 a).reverse))], .v (.int .i64 0)]) (by simp [deep, frz0, fl_len, tk, one]) ?_ hR hB ?_
   ·simp only [lts.down, Nat.reduceLT, Nat.reduceAdd]
   ·refine ⟨?_, rfl, rfl⟩
    have e : (fl (ids t).length fun a => setV (ids t).length (ltT t (ids t).length 0 a).reverse) = fl (ids t).length fun a => setV (ids t).length (ltL t a (ids t).length).reverse := fl_congr (fun a _ => by rw [ltT_start])
    rw [e]
    rfl
noncomputable def relT (t : Tr) (i : Nat) : List Nat := (ltL t i (ids t).length).reverse
theorem mem_rel {t : Tr} {i j : Nat} : j ∈ relT t i ↔ j < (ids t).length ∧ befB t ((ids t).getD i (0, 0)) ((ids t).getD j (0, 0)) = true := by
 unfold relT ltL
 rw [List.mem_reverse, List.mem_filter, List.mem_range]
theorem rel_lt {t : Tr} (i : Nat) : ∀ j ∈ relT t i, j < (ids t).length := fun j hj => (mem_rel.1 hj).1
end Go.Proofs.YtnihdkfmmbpilaaDoor
