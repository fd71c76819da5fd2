/- Texts of one proof, laid together: VH, VJ, VK. No condition. -/
import Derived.Test.YtiiflkcebikecaaQF1
/- Chapter 15: the guards of the laws, as runs (printed by tools/cfgen.py). No condition but on lengths. -/
namespace Go.Proofs.Ytiiflkcebikecaa
set_option linter.unusedVariables false
set_option linter.unusedSimpArgs false
attribute [local go_sem ↓] run_skip run_region run_draw run_seq run_block run_exit run_ret run_cond atN_app seqC_normal seqC_exit seqC_ret seqQ_normal seqQ_exit seqQ_ret blkQ_normal blkQ_exit blkQ_ret runOps_nil runOps_cons runD_nil runD_cons grdO_true grdO_false grdD_true grdD_false ifC_true ifC_false opS_val opS_call opS_two opK_app dS_val dS_call dS_two dK_app kUp_same kUp_ne
attribute [local go_sem] rechks_nil rechks_cons rechk gcase_true gcase_false ex_val ex_val0 gd_none gd_some ev_t ev_c evs_nil evs_cons evo_some evo_none hget_at hget_first hsetB_at hsetB_first hsetL_at hsetL_first ofOpt_some aop aload astore aslice aappend aiaddr aiaddrA afaddr alen alenS acopy amm acall alookup amupdate alenM comma keyEq apick binV binVB binVS isSh intOp strOp boolOp shOp eqC eqF and2 cellsOf setFrom fillA fillS rd rdI elems mk bounds AV.cell List.all_cons List.all_nil Bool.and_true Bool.true_and Bool.and_self List.length_cons List.length_nil List.length_append Nat.reduceAdd Nat.reduceSub Nat.reduceMul Nat.zero_add Nat.add_zero List.cons_append List.nil_append List.append_assoc List.append_nil List.getElem?_cons_zero List.getElem?_cons_succ List.getElem?_nil List.set_cons_zero List.set_cons_succ List.drop_zero List.drop_succ_cons List.take_zero List.take_succ_cons List.take_nil List.drop_nil List.map_cons List.map_nil Option.map_some if_true if_false Bool.false_eq_true and_self true_and and_true Nat.reduceLeDiff Nat.reduceLT Nat.le_refl Nat.reduceEqDiff ite_true ite_false beq_self_eq_true beq_true beq_false Bool.not_true Bool.not_false Bool.true_beq Bool.false_beq map_vs vs_len vs_get vs_take vs_drop vs_snoc1 vs_snoc2 vs_snoc3 vs_snoc5 vs_set1 vs_set2 vs_rep wrap_id le_T lt_T le_F lt_F leI_T ltI_T leI_F ltI_F geI gtI get_T decide_true decide_false room List.getElem?_map List.length_map List.length_take Int.toNat_natCast Nat.min_def Nat.min_self nth_kOf put_kOf put_kNo kOv_cons kOv_nil KHas KArgs List.getElem_cons_zero List.getElem_cons_succ
def a_IndL : AFunc := ⟨2, 19, [.tmp 4],
  (.seq (.region [⟨(some 4), .mv (.c (.v (.int .i64 0))), none⟩])
  (.seq (.seq (.region [⟨(some 6), .mv (.t 0), none⟩, ⟨(some 7), .len (.t 6), none⟩, ⟨(some 8), .mv (.c (.v (.int .i64 0))), none⟩])
  (.block 0 (.loop (.seq (.region [⟨(some 9), .bin .lss (.t 8) (.t 7), none⟩])
  (.seq (.cond (.t 9) .skip
  (.exit 0))
  (.seq (.block 1 (.seq (.region [⟨(some 10), .mv (.t 8), none⟩, ⟨(some 5), .mv (.t 10), none⟩])
  (.seq (.region [⟨(some 11), .mv (.t 1), none⟩, ⟨(some 12), .mv (.t 0), none⟩, ⟨(some 13), .mv (.t 5), none⟩, ⟨(some 14), .iaddr 1 (.t 12) (.t 13), none⟩, ⟨(some 15), .load none (.t 14), none⟩, ⟨(some 16), .call (.t 11) [(.t 15)], none⟩])
  (.cond (.t 16) (.seq (.region [⟨(some 17), .mv (.t 5), none⟩, ⟨(some 4), .mv (.t 17), none⟩])
  .ret)
  .skip))))
  (.region [⟨(some 18), .bin .add (.t 8) (.c (.v (.int .i64 1))), none⟩, ⟨(some 8), .mv (.t 18), none⟩])))))))
  (.seq (.region [⟨(some 4), .mv (.c (.v (.int .i64 (-1)))), none⟩])
  .ret)))⟩
theorem a_IndL_ok : cFunc Try.prog 71 = some a_IndL := by kernel_rfl
def r_IndL0 : List (Nat × Nat) := [(4, 5), (8, 18)]
def a_ConL : AFunc := ⟨2, 9, [.tmp 4],
  (.seq (.region [⟨(some 4), .mv (.c (.v (.bool false))), none⟩])
  (.seq (.region [⟨(some 5), .mv (.t 0), none⟩, ⟨(some 6), .mv (.t 1), none⟩, ⟨(some 7), .call (.c (.fn 71 [])) [(.t 5), (.t 6)], none⟩, ⟨(some 8), .bin .geq (.t 7) (.c (.v (.int .i64 0))), none⟩, ⟨(some 4), .mv (.t 8), none⟩])
  .ret))⟩
theorem a_ConL_ok : cFunc Try.prog 17 = some a_ConL := by kernel_rfl
def a_IndP : AFunc := ⟨2, 19, [.tmp 4],
  (.seq (.region [⟨(some 4), .mv (.c (.v (.int .i64 0))), none⟩])
  (.seq (.seq (.region [⟨(some 6), .mv (.t 0), none⟩, ⟨(some 7), .len (.t 6), none⟩, ⟨(some 8), .mv (.c (.v (.int .i64 0))), none⟩])
  (.block 0 (.loop (.seq (.region [⟨(some 9), .bin .lss (.t 8) (.t 7), none⟩])
  (.seq (.cond (.t 9) .skip
  (.exit 0))
  (.seq (.block 1 (.seq (.region [⟨(some 10), .mv (.t 8), none⟩, ⟨(some 5), .mv (.t 10), none⟩])
  (.seq (.region [⟨(some 11), .mv (.t 1), none⟩, ⟨(some 12), .mv (.t 0), none⟩, ⟨(some 13), .mv (.t 5), none⟩, ⟨(some 14), .iaddr 3 (.t 12) (.t 13), none⟩, ⟨(some 15), .load (some 3) (.t 14), none⟩, ⟨(some 16), .call (.t 11) [(.t 15)], none⟩])
  (.cond (.t 16) (.seq (.region [⟨(some 17), .mv (.t 5), none⟩, ⟨(some 4), .mv (.t 17), none⟩])
  .ret)
  .skip))))
  (.region [⟨(some 18), .bin .add (.t 8) (.c (.v (.int .i64 1))), none⟩, ⟨(some 8), .mv (.t 18), none⟩])))))))
  (.seq (.region [⟨(some 4), .mv (.c (.v (.int .i64 (-1)))), none⟩])
  .ret)))⟩
theorem a_IndP_ok : cFunc Try.prog 106 = some a_IndP := by kernel_rfl
def r_IndP0 : List (Nat × Nat) := [(4, 5), (8, 18)]
def a_ConP : AFunc := ⟨2, 9, [.tmp 4],
  (.seq (.region [⟨(some 4), .mv (.c (.v (.bool false))), none⟩])
  (.seq (.region [⟨(some 5), .mv (.t 0), none⟩, ⟨(some 6), .mv (.t 1), none⟩, ⟨(some 7), .call (.c (.fn 106 [])) [(.t 5), (.t 6)], none⟩, ⟨(some 8), .bin .geq (.t 7) (.c (.v (.int .i64 0))), none⟩, ⟨(some 4), .mv (.t 8), none⟩])
  .ret))⟩
theorem a_ConP_ok : cFunc Try.prog 67 = some a_ConP := by kernel_rfl
def a_IndE : AFunc := ⟨2, 19, [.tmp 4],
  (.seq (.region [⟨(some 4), .mv (.c (.v (.int .i64 0))), none⟩])
  (.seq (.seq (.region [⟨(some 6), .mv (.t 0), none⟩, ⟨(some 7), .len (.t 6), none⟩, ⟨(some 8), .mv (.c (.v (.int .i64 0))), none⟩])
  (.block 0 (.loop (.seq (.region [⟨(some 9), .bin .lss (.t 8) (.t 7), none⟩])
  (.seq (.cond (.t 9) .skip
  (.exit 0))
  (.seq (.block 1 (.seq (.region [⟨(some 10), .mv (.t 8), none⟩, ⟨(some 5), .mv (.t 10), none⟩])
  (.seq (.region [⟨(some 11), .mv (.t 1), none⟩, ⟨(some 12), .mv (.t 0), none⟩, ⟨(some 13), .mv (.t 5), none⟩, ⟨(some 14), .iaddr 5 (.t 12) (.t 13), none⟩, ⟨(some 15), .load (some 5) (.t 14), none⟩, ⟨(some 16), .call (.t 11) [(.t 15)], none⟩])
  (.cond (.t 16) (.seq (.region [⟨(some 17), .mv (.t 5), none⟩, ⟨(some 4), .mv (.t 17), none⟩])
  .ret)
  .skip))))
  (.region [⟨(some 18), .bin .add (.t 8) (.c (.v (.int .i64 1))), none⟩, ⟨(some 8), .mv (.t 18), none⟩])))))))
  (.seq (.region [⟨(some 4), .mv (.c (.v (.int .i64 (-1)))), none⟩])
  .ret)))⟩
theorem a_IndE_ok : cFunc Try.prog 107 = some a_IndE := by kernel_rfl
def r_IndE0 : List (Nat × Nat) := [(4, 5), (8, 18)]
def a_ConE : AFunc := ⟨2, 9, [.tmp 4],
  (.seq (.region [⟨(some 4), .mv (.c (.v (.bool false))), none⟩])
  (.seq (.region [⟨(some 5), .mv (.t 0), none⟩, ⟨(some 6), .mv (.t 1), none⟩, ⟨(some 7), .call (.c (.fn 107 [])) [(.t 5), (.t 6)], none⟩, ⟨(some 8), .bin .geq (.t 7) (.c (.v (.int .i64 0))), none⟩, ⟨(some 4), .mv (.t 8), none⟩])
  .ret))⟩
theorem a_ConE_ok : cFunc Try.prog 69 = some a_ConE := by kernel_rfl
def a_few15 : AFunc := ⟨1, 13, [.tmp 2],
  (.seq (.region [⟨(some 1), .box (.t 0), none⟩, ⟨(some 2), .mv (.c (.v (.bool false))), none⟩])
  (.seq (.region [⟨(some 3), .faddr 0 (.t 1), none⟩, ⟨(some 4), .load none (.t 3), none⟩, ⟨(some 5), .len (.t 4), none⟩, ⟨(some 6), .bin .leq (.t 5) (.c (.v (.int .i64 10))), none⟩, ⟨(some 7), .mv (.t 6), none⟩, ⟨(some 8), .faddr 0 (.t 1), some (7, true)⟩, ⟨(some 9), .load none (.t 8), some (7, true)⟩, ⟨(some 10), .call (.c (.fn 67 [])) [(.t 9), (.c (.fn 68 []))], some (7, true)⟩, ⟨(some 11), .not (.t 10), some (7, true)⟩, ⟨(some 12), .pick (.t 7) (.t 11) (.c (.v (.bool false))), none⟩, ⟨(some 2), .mv (.t 12), none⟩])
  .ret))⟩
theorem a_few15_ok : cFunc Try.prog 16 = some a_few15 := by kernel_rfl
def a_few15P : AFunc := ⟨1, 18, [.tmp 2],
  (.seq (.region [⟨(some 1), .box (.t 0), none⟩, ⟨(some 2), .mv (.c (.v (.bool false))), none⟩])
  (.seq (.region [⟨(some 3), .faddr 2 (.t 1), none⟩, ⟨(some 4), .load none (.t 3), none⟩, ⟨(some 5), .len (.t 4), none⟩, ⟨(some 6), .bin .gtr (.t 5) (.c (.v (.int .i64 20))), none⟩, ⟨(some 7), .mv (.t 6), none⟩, ⟨(some 8), .faddr 1 (.t 1), some (7, false)⟩, ⟨(some 9), .load none (.t 8), some (7, false)⟩, ⟨(some 10), .len (.t 9), some (7, false)⟩, ⟨(some 11), .bin .gtr (.t 10) (.c (.v (.int .i64 20))), some (7, false)⟩, ⟨(some 12), .pick (.t 7) (.c (.v (.bool true))) (.t 11), none⟩, ⟨(some 13), .mv (.t 12), none⟩, ⟨(some 14), .faddr 2 (.t 1), some (13, false)⟩, ⟨(some 15), .load none (.t 14), some (13, false)⟩, ⟨(some 16), .call (.c (.fn 69 [])) [(.t 15), (.c (.fn 70 []))], some (13, false)⟩, ⟨(some 17), .pick (.t 13) (.c (.v (.bool true))) (.t 16), none⟩, ⟨(some 2), .mv (.t 17), none⟩])
  .ret))⟩
theorem a_few15P_ok : cFunc Try.prog 68 = some a_few15P := by kernel_rfl
def a_few15E : AFunc := ⟨1, 7, [.tmp 2],
  (.seq (.region [⟨(some 1), .box (.t 0), none⟩, ⟨(some 2), .mv (.c (.v (.bool false))), none⟩])
  (.seq (.region [⟨(some 3), .faddr 4 (.t 1), none⟩, ⟨(some 4), .load none (.t 3), none⟩, ⟨(some 5), .len (.t 4), none⟩, ⟨(some 6), .bin .gtr (.t 5) (.c (.v (.int .i64 20))), none⟩, ⟨(some 2), .mv (.t 6), none⟩])
  .ret))⟩
theorem a_few15E_ok : cFunc Try.prog 70 = some a_few15E := by kernel_rfl
def a_vsL : AFunc := ⟨1, 6, [.tmp 2],
  (.seq (.region [⟨(some 2), .mv (.c (.v (.bool false))), none⟩])
  (.seq (.region [⟨(some 3), .mv (.t 0), none⟩, ⟨(some 4), .len (.t 3), none⟩, ⟨(some 5), .bin .gtr (.t 4) (.c (.v (.int .i64 40))), none⟩, ⟨(some 2), .mv (.t 5), none⟩])
  .ret))⟩
theorem a_vsL_ok : cFunc Try.prog 18 = some a_vsL := by kernel_rfl

theorem indexL_spec (v : List (List (List Int))) (k : Nat) (caps : List AV) (p : Nat → Bool) (hn : v.length ≤ 1000000) (b l : List Row)
    (hp : ∀ (i : Nat) (h : i < v.length), ACalls Try.prog k (.v (.isl 1 (v[i].map eRw)) :: caps) (b ++ l) [] (fun r b' l' => r = .v (.bool (p i)) ∧ b' = b ++ l ∧ l' = [])) :
    ACalls Try.prog 71 [.v (.isl 1 (v.map eMx)), .fn k caps] b l (fun r b' l' => r = .v (.int .i64 (firstP p v.length)) ∧ b' = b ∧ l' = l) := by
  refine calls_kept a_IndL_ok rfl (by decide) ?_
  intro B g hB hR hE hA
  simp only [KArgs] at hA
  simp (disch := decide) only [a_IndL, hA, List.length_map, go_sem]
  refine loop_kept (ι := Nat) r_IndL0 (fun i => [(8, .v (.int .i64 i))]) 0 (fun _ => [])
    (fun i => i ≤ v.length ∧ ∀ j, j < i → p j = false) (fun i => v.length - i) 0 ⟨Nat.zero_le _, fun j hj => by omega⟩ (by (repeat (first | exact hE.mono (by omega) | refine KLt.up ?_ (by simp (disch := omega) only [AVlt_v, AVlt_any, AVlt_sl, AVlt_ptr, AVlt_mp, AVlt_agg, AVlt_tup, AVlt_fn, RowsLt_nil, RowsLt_live, RowsLt_dead, List.mem_cons, List.not_mem_nil, List.forall_mem_cons, List.forall_mem_nil, or_false, false_or, forall_eq_or_imp, forall_eq, vs_lt, Nat.add_lt_add_iff_left, Nat.reduceLT, true_and, and_true, and_self, List.length_cons, List.length_nil, Nat.reduceAdd, Nat.zero_add, implies_true, false_imp_iff, lt_T, List.mem_map])))) (by ((try simp (disch := decide) only [hA, go_sem]) <;> (repeat' (first | exact trivial | refine And.intro ?_ ?_)) <;> (first | rfl | (congr 2; omega)))) (fun e => Weak.refl _ _ _) ?_
  rintro g1 hE1 hEE1 hg1 i ⟨hi, h0⟩
  by_cases hlt : i < v.length
  · have hpi0 := hp i hlt
    try simp only [ List.map_cons, List.map_nil] at hpi0
    simp (disch := (first | decide | omega)) only [hA, hg1, eMx, List.length_map, go_sem]
    refine ACalls_mono _ _ _ _ _ _ (hB ▸ hpi0) ?_
    rintro r b' l' ⟨rfl, rfl, rfl⟩
    cases hpi : p i
    · simp (disch := (first | decide | omega)) only [hA, hg1, hpi, go_sem]
      refine ⟨i + 1, ⟨hlt, fun j hj => ?_⟩, by simp only; omega, ?_⟩
      · rcases Nat.lt_or_ge j i with hji | hji
        · exact h0 j hji
        · have : j = i := by omega
          rw [this]; exact hpi
      exact Weak.kround (p := r_IndL0) (k := 0) (by ((repeat refine (kAny_up rfl).trans ?_); exact hEE1)) (by ((try simp (disch := decide) only [hA, go_sem]) <;> (repeat' (first | exact trivial | refine And.intro ?_ ?_)) <;> (first | rfl | (congr 2; omega)))) rfl hE1 (by simp) (by simp (disch := omega) only [KOvLt, AVlt_v, AVlt_any, AVlt_sl, AVlt_ptr, AVlt_mp, AVlt_agg, AVlt_tup, AVlt_fn, RowsLt_nil, RowsLt_live, RowsLt_dead, List.mem_cons, List.not_mem_nil, List.forall_mem_cons, List.forall_mem_nil, or_false, false_or, forall_eq_or_imp, forall_eq, vs_lt, Nat.add_lt_add_iff_left, Nat.reduceLT, true_and, and_true, and_self, List.length_cons, List.length_nil, Nat.reduceAdd, Nat.zero_add, implies_true, false_imp_iff, lt_T, List.mem_map]) hR (by simp (disch := omega) only [AVlt_v, AVlt_any, AVlt_sl, AVlt_ptr, AVlt_mp, AVlt_agg, AVlt_tup, AVlt_fn, RowsLt_nil, RowsLt_live, RowsLt_dead, List.mem_cons, List.not_mem_nil, List.forall_mem_cons, List.forall_mem_nil, or_false, false_or, forall_eq_or_imp, forall_eq, vs_lt, Nat.add_lt_add_iff_left, Nat.reduceLT, true_and, and_true, and_self, List.length_cons, List.length_nil, Nat.reduceAdd, Nat.zero_add, implies_true, false_imp_iff, lt_T, List.mem_map])
    · simp (disch := (first | decide | omega)) only [hA, hg1, hpi, go_sem]
      exact leave_pure (xs := [.v (.int .i64 i)]) (.inr rfl) (by simp (disch := (first | decide | omega)) only [resVs, resV, go_sem, hA, hg1]) (by simp only [one, AVlt_v, AVlt_any, AVlt_sl, AVlt_ptr, AVlt_mp, AVlt_agg, AVlt_tup, AVlt_fn, RowsLt_nil, RowsLt_live, RowsLt_dead, List.mem_cons, List.not_mem_nil, List.forall_mem_cons, List.forall_mem_nil, or_false, false_or, forall_eq_or_imp, forall_eq, vs_lt, Nat.add_lt_add_iff_left, Nat.reduceLT, true_and, and_true, and_self, List.length_cons, List.length_nil, Nat.reduceAdd, Nat.zero_add, implies_true, false_imp_iff, lt_T, List.mem_map]) hR hB ⟨by rw [firstP_at hlt h0 hpi]; rfl, rfl, rfl⟩
  · simp (disch := (first | decide | omega)) only [hA, hg1, List.length_map, go_sem]
    obtain rfl : i = v.length := by omega
    exact leave_pure (xs := [.v (.int .i64 (-1))]) (.inr rfl) (by simp (disch := (first | decide | omega)) only [resVs, resV, go_sem, hA, hg1]) (by simp only [one, AVlt_v, AVlt_any, AVlt_sl, AVlt_ptr, AVlt_mp, AVlt_agg, AVlt_tup, AVlt_fn, RowsLt_nil, RowsLt_live, RowsLt_dead, List.mem_cons, List.not_mem_nil, List.forall_mem_cons, List.forall_mem_nil, or_false, false_or, forall_eq_or_imp, forall_eq, vs_lt, Nat.add_lt_add_iff_left, Nat.reduceLT, true_and, and_true, and_self, List.length_cons, List.length_nil, Nat.reduceAdd, Nat.zero_add, implies_true, false_imp_iff, lt_T, List.mem_map]) hR hB ⟨by rw [firstP_none h0]; rfl, rfl, rfl⟩
theorem containsL_spec (v : List (List (List Int))) (k : Nat) (caps : List AV) (p : Nat → Bool) (hn : v.length ≤ 1000000) (b l : List Row)
    (hp : ∀ (i : Nat) (h : i < v.length), ACalls Try.prog k (.v (.isl 1 (v[i].map eRw)) :: caps) (b ++ l) [] (fun r b' l' => r = .v (.bool (p i)) ∧ b' = b ++ l ∧ l' = [])) :
    ACalls Try.prog 17 [.v (.isl 1 (v.map eMx)), .fn k caps] b l (fun r b' l' => r = .v (.bool ((List.range v.length).any p)) ∧ b' = b ∧ l' = l) := by
  refine calls_kept a_ConL_ok rfl (by decide) ?_
  intro B g hB hR hE hA
  simp only [KArgs] at hA
  simp (disch := decide) only [a_ConL, hA, go_sem]
  refine ACalls.nxt (indexL_spec v k caps p hn B [] (by rw [List.append_nil, hB]; exact hp)) ?_
  simp (disch := decide) only [hA, go_sem]
  exact leave_pure (xs := [.v (.bool (decide (0 ≤ firstP p v.length)))]) (.inr rfl) (by simp (disch := (first | decide | omega)) only [resVs, resV, go_sem, hA]) (by simp only [one, AVlt_v, AVlt_any, AVlt_sl, AVlt_ptr, AVlt_mp, AVlt_agg, AVlt_tup, AVlt_fn, RowsLt_nil, RowsLt_live, RowsLt_dead, List.mem_cons, List.not_mem_nil, List.forall_mem_cons, List.forall_mem_nil, or_false, false_or, forall_eq_or_imp, forall_eq, vs_lt, Nat.add_lt_add_iff_left, Nat.reduceLT, true_and, and_true, and_self, List.length_cons, List.length_nil, Nat.reduceAdd, Nat.zero_add, implies_true, false_imp_iff, lt_T, List.mem_map]) hR hB ⟨by rw [firstP_ge]; rfl, rfl, rfl⟩

theorem indexP_spec (v : List (Pr)) (k : Nat) (caps : List AV) (p : Nat → Bool) (hn : v.length ≤ 1000000) (b l : List Row)
    (hp : ∀ (i : Nat) (h : i < v.length), ACalls Try.prog k (.agg ((ePr v[i]).map .v) :: caps) (b ++ l) [] (fun r b' l' => r = .v (.bool (p i)) ∧ b' = b ++ l ∧ l' = [])) :
    ACalls Try.prog 106 [.v (.isl 3 (v.map ePr)), .fn k caps] b l (fun r b' l' => r = .v (.int .i64 (firstP p v.length)) ∧ b' = b ∧ l' = l) := by
  refine calls_kept a_IndP_ok rfl (by decide) ?_
  intro B g hB hR hE hA
  simp only [KArgs] at hA
  simp (disch := decide) only [a_IndP, hA, List.length_map, go_sem]
  refine loop_kept (ι := Nat) r_IndP0 (fun i => [(8, .v (.int .i64 i))]) 0 (fun _ => [])
    (fun i => i ≤ v.length ∧ ∀ j, j < i → p j = false) (fun i => v.length - i) 0 ⟨Nat.zero_le _, fun j hj => by omega⟩ (by (repeat (first | exact hE.mono (by omega) | refine KLt.up ?_ (by simp (disch := omega) only [AVlt_v, AVlt_any, AVlt_sl, AVlt_ptr, AVlt_mp, AVlt_agg, AVlt_tup, AVlt_fn, RowsLt_nil, RowsLt_live, RowsLt_dead, List.mem_cons, List.not_mem_nil, List.forall_mem_cons, List.forall_mem_nil, or_false, false_or, forall_eq_or_imp, forall_eq, vs_lt, Nat.add_lt_add_iff_left, Nat.reduceLT, true_and, and_true, and_self, List.length_cons, List.length_nil, Nat.reduceAdd, Nat.zero_add, implies_true, false_imp_iff, lt_T, List.mem_map])))) (by ((try simp (disch := decide) only [hA, go_sem]) <;> (repeat' (first | exact trivial | refine And.intro ?_ ?_)) <;> (first | rfl | (congr 2; omega)))) (fun e => Weak.refl _ _ _) ?_
  rintro g1 hE1 hEE1 hg1 i ⟨hi, h0⟩
  by_cases hlt : i < v.length
  · have hpi0 := hp i hlt
    try simp only [ePr, List.map_cons, List.map_nil] at hpi0
    simp (disch := (first | decide | omega)) only [hA, hg1, ePr, List.length_map, go_sem]
    refine ACalls_mono _ _ _ _ _ _ (hB ▸ hpi0) ?_
    rintro r b' l' ⟨rfl, rfl, rfl⟩
    cases hpi : p i
    · simp (disch := (first | decide | omega)) only [hA, hg1, hpi, go_sem]
      refine ⟨i + 1, ⟨hlt, fun j hj => ?_⟩, by simp only; omega, ?_⟩
      · rcases Nat.lt_or_ge j i with hji | hji
        · exact h0 j hji
        · have : j = i := by omega
          rw [this]; exact hpi
      exact Weak.kround (p := r_IndP0) (k := 0) (by ((repeat refine (kAny_up rfl).trans ?_); exact hEE1)) (by ((try simp (disch := decide) only [hA, go_sem]) <;> (repeat' (first | exact trivial | refine And.intro ?_ ?_)) <;> (first | rfl | (congr 2; omega)))) rfl hE1 (by simp) (by simp (disch := omega) only [KOvLt, AVlt_v, AVlt_any, AVlt_sl, AVlt_ptr, AVlt_mp, AVlt_agg, AVlt_tup, AVlt_fn, RowsLt_nil, RowsLt_live, RowsLt_dead, List.mem_cons, List.not_mem_nil, List.forall_mem_cons, List.forall_mem_nil, or_false, false_or, forall_eq_or_imp, forall_eq, vs_lt, Nat.add_lt_add_iff_left, Nat.reduceLT, true_and, and_true, and_self, List.length_cons, List.length_nil, Nat.reduceAdd, Nat.zero_add, implies_true, false_imp_iff, lt_T, List.mem_map]) hR (by simp (disch := omega) only [AVlt_v, AVlt_any, AVlt_sl, AVlt_ptr, AVlt_mp, AVlt_agg, AVlt_tup, AVlt_fn, RowsLt_nil, RowsLt_live, RowsLt_dead, List.mem_cons, List.not_mem_nil, List.forall_mem_cons, List.forall_mem_nil, or_false, false_or, forall_eq_or_imp, forall_eq, vs_lt, Nat.add_lt_add_iff_left, Nat.reduceLT, true_and, and_true, and_self, List.length_cons, List.length_nil, Nat.reduceAdd, Nat.zero_add, implies_true, false_imp_iff, lt_T, List.mem_map])
    · simp (disch := (first | decide | omega)) only [hA, hg1, hpi, go_sem]
      exact leave_pure (xs := [.v (.int .i64 i)]) (.inr rfl) (by simp (disch := (first | decide | omega)) only [resVs, resV, go_sem, hA, hg1]) (by simp only [one, AVlt_v, AVlt_any, AVlt_sl, AVlt_ptr, AVlt_mp, AVlt_agg, AVlt_tup, AVlt_fn, RowsLt_nil, RowsLt_live, RowsLt_dead, List.mem_cons, List.not_mem_nil, List.forall_mem_cons, List.forall_mem_nil, or_false, false_or, forall_eq_or_imp, forall_eq, vs_lt, Nat.add_lt_add_iff_left, Nat.reduceLT, true_and, and_true, and_self, List.length_cons, List.length_nil, Nat.reduceAdd, Nat.zero_add, implies_true, false_imp_iff, lt_T, List.mem_map]) hR hB ⟨by rw [firstP_at hlt h0 hpi]; rfl, rfl, rfl⟩
  · simp (disch := (first | decide | omega)) only [hA, hg1, List.length_map, go_sem]
    obtain rfl : i = v.length := by omega
    exact leave_pure (xs := [.v (.int .i64 (-1))]) (.inr rfl) (by simp (disch := (first | decide | omega)) only [resVs, resV, go_sem, hA, hg1]) (by simp only [one, AVlt_v, AVlt_any, AVlt_sl, AVlt_ptr, AVlt_mp, AVlt_agg, AVlt_tup, AVlt_fn, RowsLt_nil, RowsLt_live, RowsLt_dead, List.mem_cons, List.not_mem_nil, List.forall_mem_cons, List.forall_mem_nil, or_false, false_or, forall_eq_or_imp, forall_eq, vs_lt, Nat.add_lt_add_iff_left, Nat.reduceLT, true_and, and_true, and_self, List.length_cons, List.length_nil, Nat.reduceAdd, Nat.zero_add, implies_true, false_imp_iff, lt_T, List.mem_map]) hR hB ⟨by rw [firstP_none h0]; rfl, rfl, rfl⟩
theorem containsP_spec (v : List (Pr)) (k : Nat) (caps : List AV) (p : Nat → Bool) (hn : v.length ≤ 1000000) (b l : List Row)
    (hp : ∀ (i : Nat) (h : i < v.length), ACalls Try.prog k (.agg ((ePr v[i]).map .v) :: caps) (b ++ l) [] (fun r b' l' => r = .v (.bool (p i)) ∧ b' = b ++ l ∧ l' = [])) :
    ACalls Try.prog 67 [.v (.isl 3 (v.map ePr)), .fn k caps] b l (fun r b' l' => r = .v (.bool ((List.range v.length).any p)) ∧ b' = b ∧ l' = l) := by
  refine calls_kept a_ConP_ok rfl (by decide) ?_
  intro B g hB hR hE hA
  simp only [KArgs] at hA
  simp (disch := decide) only [a_ConP, hA, go_sem]
  refine ACalls.nxt (indexP_spec v k caps p hn B [] (by rw [List.append_nil, hB]; exact hp)) ?_
  simp (disch := decide) only [hA, go_sem]
  exact leave_pure (xs := [.v (.bool (decide (0 ≤ firstP p v.length)))]) (.inr rfl) (by simp (disch := (first | decide | omega)) only [resVs, resV, go_sem, hA]) (by simp only [one, AVlt_v, AVlt_any, AVlt_sl, AVlt_ptr, AVlt_mp, AVlt_agg, AVlt_tup, AVlt_fn, RowsLt_nil, RowsLt_live, RowsLt_dead, List.mem_cons, List.not_mem_nil, List.forall_mem_cons, List.forall_mem_nil, or_false, false_or, forall_eq_or_imp, forall_eq, vs_lt, Nat.add_lt_add_iff_left, Nat.reduceLT, true_and, and_true, and_self, List.length_cons, List.length_nil, Nat.reduceAdd, Nat.zero_add, implies_true, false_imp_iff, lt_T, List.mem_map]) hR hB ⟨by rw [firstP_ge]; rfl, rfl, rfl⟩

theorem indexE_spec (v : List (Ev)) (k : Nat) (caps : List AV) (p : Nat → Bool) (hn : v.length ≤ 1000000) (b l : List Row)
    (hp : ∀ (i : Nat) (h : i < v.length), ACalls Try.prog k (.agg ((eEv v[i]).map .v) :: caps) (b ++ l) [] (fun r b' l' => r = .v (.bool (p i)) ∧ b' = b ++ l ∧ l' = [])) :
    ACalls Try.prog 107 [.v (.isl 5 (v.map eEv)), .fn k caps] b l (fun r b' l' => r = .v (.int .i64 (firstP p v.length)) ∧ b' = b ∧ l' = l) := by
  refine calls_kept a_IndE_ok rfl (by decide) ?_
  intro B g hB hR hE hA
  simp only [KArgs] at hA
  simp (disch := decide) only [a_IndE, hA, List.length_map, go_sem]
  refine loop_kept (ι := Nat) r_IndE0 (fun i => [(8, .v (.int .i64 i))]) 0 (fun _ => [])
    (fun i => i ≤ v.length ∧ ∀ j, j < i → p j = false) (fun i => v.length - i) 0 ⟨Nat.zero_le _, fun j hj => by omega⟩ (by (repeat (first | exact hE.mono (by omega) | refine KLt.up ?_ (by simp (disch := omega) only [AVlt_v, AVlt_any, AVlt_sl, AVlt_ptr, AVlt_mp, AVlt_agg, AVlt_tup, AVlt_fn, RowsLt_nil, RowsLt_live, RowsLt_dead, List.mem_cons, List.not_mem_nil, List.forall_mem_cons, List.forall_mem_nil, or_false, false_or, forall_eq_or_imp, forall_eq, vs_lt, Nat.add_lt_add_iff_left, Nat.reduceLT, true_and, and_true, and_self, List.length_cons, List.length_nil, Nat.reduceAdd, Nat.zero_add, implies_true, false_imp_iff, lt_T, List.mem_map])))) (by ((try simp (disch := decide) only [hA, go_sem]) <;> (repeat' (first | exact trivial | refine And.intro ?_ ?_)) <;> (first | rfl | (congr 2; omega)))) (fun e => Weak.refl _ _ _) ?_
  rintro g1 hE1 hEE1 hg1 i ⟨hi, h0⟩
  by_cases hlt : i < v.length
  · have hpi0 := hp i hlt
    try simp only [eEv, List.map_cons, List.map_nil] at hpi0
    simp (disch := (first | decide | omega)) only [hA, hg1, eEv, List.length_map, go_sem]
    refine ACalls_mono _ _ _ _ _ _ (hB ▸ hpi0) ?_
    rintro r b' l' ⟨rfl, rfl, rfl⟩
    cases hpi : p i
    · simp (disch := (first | decide | omega)) only [hA, hg1, hpi, go_sem]
      refine ⟨i + 1, ⟨hlt, fun j hj => ?_⟩, by simp only; omega, ?_⟩
      · rcases Nat.lt_or_ge j i with hji | hji
        · exact h0 j hji
        · have : j = i := by omega
          rw [this]; exact hpi
      exact Weak.kround (p := r_IndE0) (k := 0) (by ((repeat refine (kAny_up rfl).trans ?_); exact hEE1)) (by ((try simp (disch := decide) only [hA, go_sem]) <;> (repeat' (first | exact trivial | refine And.intro ?_ ?_)) <;> (first | rfl | (congr 2; omega)))) rfl hE1 (by simp) (by simp (disch := omega) only [KOvLt, AVlt_v, AVlt_any, AVlt_sl, AVlt_ptr, AVlt_mp, AVlt_agg, AVlt_tup, AVlt_fn, RowsLt_nil, RowsLt_live, RowsLt_dead, List.mem_cons, List.not_mem_nil, List.forall_mem_cons, List.forall_mem_nil, or_false, false_or, forall_eq_or_imp, forall_eq, vs_lt, Nat.add_lt_add_iff_left, Nat.reduceLT, true_and, and_true, and_self, List.length_cons, List.length_nil, Nat.reduceAdd, Nat.zero_add, implies_true, false_imp_iff, lt_T, List.mem_map]) hR (by simp (disch := omega) only [AVlt_v, AVlt_any, AVlt_sl, AVlt_ptr, AVlt_mp, AVlt_agg, AVlt_tup, AVlt_fn, RowsLt_nil, RowsLt_live, RowsLt_dead, List.mem_cons, List.not_mem_nil, List.forall_mem_cons, List.forall_mem_nil, or_false, false_or, forall_eq_or_imp, forall_eq, vs_lt, Nat.add_lt_add_iff_left, Nat.reduceLT, true_and, and_true, and_self, List.length_cons, List.length_nil, Nat.reduceAdd, Nat.zero_add, implies_true, false_imp_iff, lt_T, List.mem_map])
    · simp (disch := (first | decide | omega)) only [hA, hg1, hpi, go_sem]
      exact leave_pure (xs := [.v (.int .i64 i)]) (.inr rfl) (by simp (disch := (first | decide | omega)) only [resVs, resV, go_sem, hA, hg1]) (by simp only [one, AVlt_v, AVlt_any, AVlt_sl, AVlt_ptr, AVlt_mp, AVlt_agg, AVlt_tup, AVlt_fn, RowsLt_nil, RowsLt_live, RowsLt_dead, List.mem_cons, List.not_mem_nil, List.forall_mem_cons, List.forall_mem_nil, or_false, false_or, forall_eq_or_imp, forall_eq, vs_lt, Nat.add_lt_add_iff_left, Nat.reduceLT, true_and, and_true, and_self, List.length_cons, List.length_nil, Nat.reduceAdd, Nat.zero_add, implies_true, false_imp_iff, lt_T, List.mem_map]) hR hB ⟨by rw [firstP_at hlt h0 hpi]; rfl, rfl, rfl⟩
  · simp (disch := (first | decide | omega)) only [hA, hg1, List.length_map, go_sem]
    obtain rfl : i = v.length := by omega
    exact leave_pure (xs := [.v (.int .i64 (-1))]) (.inr rfl) (by simp (disch := (first | decide | omega)) only [resVs, resV, go_sem, hA, hg1]) (by simp only [one, AVlt_v, AVlt_any, AVlt_sl, AVlt_ptr, AVlt_mp, AVlt_agg, AVlt_tup, AVlt_fn, RowsLt_nil, RowsLt_live, RowsLt_dead, List.mem_cons, List.not_mem_nil, List.forall_mem_cons, List.forall_mem_nil, or_false, false_or, forall_eq_or_imp, forall_eq, vs_lt, Nat.add_lt_add_iff_left, Nat.reduceLT, true_and, and_true, and_self, List.length_cons, List.length_nil, Nat.reduceAdd, Nat.zero_add, implies_true, false_imp_iff, lt_T, List.mem_map]) hR hB ⟨by rw [firstP_none h0]; rfl, rfl, rfl⟩
theorem containsE_spec (v : List (Ev)) (k : Nat) (caps : List AV) (p : Nat → Bool) (hn : v.length ≤ 1000000) (b l : List Row)
    (hp : ∀ (i : Nat) (h : i < v.length), ACalls Try.prog k (.agg ((eEv v[i]).map .v) :: caps) (b ++ l) [] (fun r b' l' => r = .v (.bool (p i)) ∧ b' = b ++ l ∧ l' = [])) :
    ACalls Try.prog 69 [.v (.isl 5 (v.map eEv)), .fn k caps] b l (fun r b' l' => r = .v (.bool ((List.range v.length).any p)) ∧ b' = b ∧ l' = l) := by
  refine calls_kept a_ConE_ok rfl (by decide) ?_
  intro B g hB hR hE hA
  simp only [KArgs] at hA
  simp (disch := decide) only [a_ConE, hA, go_sem]
  refine ACalls.nxt (indexE_spec v k caps p hn B [] (by rw [List.append_nil, hB]; exact hp)) ?_
  simp (disch := decide) only [hA, go_sem]
  exact leave_pure (xs := [.v (.bool (decide (0 ≤ firstP p v.length)))]) (.inr rfl) (by simp (disch := (first | decide | omega)) only [resVs, resV, go_sem, hA]) (by simp only [one, AVlt_v, AVlt_any, AVlt_sl, AVlt_ptr, AVlt_mp, AVlt_agg, AVlt_tup, AVlt_fn, RowsLt_nil, RowsLt_live, RowsLt_dead, List.mem_cons, List.not_mem_nil, List.forall_mem_cons, List.forall_mem_nil, or_false, false_or, forall_eq_or_imp, forall_eq, vs_lt, Nat.add_lt_add_iff_left, Nat.reduceLT, true_and, and_true, and_self, List.length_cons, List.length_nil, Nat.reduceAdd, Nat.zero_add, implies_true, false_imp_iff, lt_T, List.mem_map]) hR hB ⟨by rw [firstP_ge]; rfl, rfl, rfl⟩

def lgE (e : Ev) : Bool := decide (20 < e.asg.length)
def lgP (x : Pr) : Bool := decide (20 < x.evs.length) || (decide (20 < x.vars.length) || (List.range x.evs.length).any fun j => lgE (x.evs.getD j dfEv))
def few15B (t : Tr) : Bool := decide (t.length ≤ 10) && !(List.range t.length).any fun j => lgP (t.getD j dfPr)
theorem few15E_spec (e : Ev) (b l : List Row) : ACalls Try.prog 70 [.agg ((eEv e).map .v)] b l (fun r b' l' => r = .v (.bool (lgE e)) ∧ b' = b ∧ l' = l) := by
  refine calls_kept a_few15E_ok rfl (by decide) ?_
  intro B g hB hR hE hA
  simp only [KArgs] at hA
  simp only [eEv, List.map_cons, List.map_nil] at hA
  simp (disch := (first | decide | omega)) only [a_few15E, hA, List.length_map, go_sem]
  have : decide (20 < (e.asg.length : Int)) = lgE e := by unfold lgE; simp only [decide_eq_decide]; omega
  exact leave_pure (xs := [.v (.bool (decide (20 < (e.asg.length : Int))))]) (.inr rfl) (by simp (disch := (first | decide | omega)) only [resVs, resV, go_sem, hA]) (by simp only [one, AVlt_v, AVlt_any, AVlt_sl, AVlt_ptr, AVlt_mp, AVlt_agg, AVlt_tup, AVlt_fn, RowsLt_nil, RowsLt_live, RowsLt_dead, List.mem_cons, List.not_mem_nil, List.forall_mem_cons, List.forall_mem_nil, or_false, false_or, forall_eq_or_imp, forall_eq, vs_lt, Nat.add_lt_add_iff_left, Nat.reduceLT, true_and, and_true, and_self, List.length_cons, List.length_nil, Nat.reduceAdd, Nat.zero_add, implies_true, false_imp_iff, lt_T, List.mem_map]) hR hB ⟨by rw [this]; rfl, rfl, rfl⟩
theorem vsL_spec (m : List (List Int)) (b l : List Row) : ACalls Try.prog 18 [.v (.isl 1 (m.map eRw))] b l (fun r b' l' => r = .v (.bool (decide (40 < m.length))) ∧ b' = b ∧ l' = l) := by
  refine calls_kept a_vsL_ok rfl (by decide) ?_
  intro B g hB hR hE hA
  simp only [KArgs] at hA
  simp (disch := (first | decide | omega)) only [a_vsL, hA, List.length_map, go_sem]
  have : decide (40 < (m.length : Int)) = decide (40 < m.length) := by simp only [decide_eq_decide]; omega
  exact leave_pure (xs := [.v (.bool (decide (40 < (m.length : Int))))]) (.inr rfl) (by simp (disch := (first | decide | omega)) only [resVs, resV, go_sem, hA]) (by simp only [one, AVlt_v, AVlt_any, AVlt_sl, AVlt_ptr, AVlt_mp, AVlt_agg, AVlt_tup, AVlt_fn, RowsLt_nil, RowsLt_live, RowsLt_dead, List.mem_cons, List.not_mem_nil, List.forall_mem_cons, List.forall_mem_nil, or_false, false_or, forall_eq_or_imp, forall_eq, vs_lt, Nat.add_lt_add_iff_left, Nat.reduceLT, true_and, and_true, and_self, List.length_cons, List.length_nil, Nat.reduceAdd, Nat.zero_add, implies_true, false_imp_iff, lt_T, List.mem_map]) hR hB ⟨by rw [this]; rfl, rfl, rfl⟩
theorem few15P_spec (x : Pr) (b l : List Row) : ACalls Try.prog 68 [.agg ((ePr x).map .v)] b l (fun r b' l' => r = .v (.bool (lgP x)) ∧ b' = b ∧ l' = l) := by
  refine calls_kept a_few15P_ok rfl (by decide) ?_
  intro B g hB hR hE hA
  simp only [KArgs] at hA
  simp only [ePr, List.map_cons, List.map_nil] at hA
  by_cases h1 : 20 < x.evs.length
  · have hd : decide (20 < (x.evs.length : Int)) = true := decide_eq_true (by omega)
    have hq : lgP x = true := by unfold lgP; rw [decide_eq_true h1]; rfl
    simp (disch := (first | decide | omega)) only [a_few15P, hA, List.length_map, hd, go_sem]
    exact leave_pure (xs := [.v (.bool true)]) (.inr rfl) (by simp (disch := (first | decide | omega)) only [resVs, resV, go_sem, hA]) (by simp only [one, AVlt_v, AVlt_any, AVlt_sl, AVlt_ptr, AVlt_mp, AVlt_agg, AVlt_tup, AVlt_fn, RowsLt_nil, RowsLt_live, RowsLt_dead, List.mem_cons, List.not_mem_nil, List.forall_mem_cons, List.forall_mem_nil, or_false, false_or, forall_eq_or_imp, forall_eq, vs_lt, Nat.add_lt_add_iff_left, Nat.reduceLT, true_and, and_true, and_self, List.length_cons, List.length_nil, Nat.reduceAdd, Nat.zero_add, implies_true, false_imp_iff, lt_T, List.mem_map]) hR hB ⟨by rw [hq]; rfl, rfl, rfl⟩
  have hd : decide (20 < (x.evs.length : Int)) = false := decide_eq_false (by omega)
  by_cases h2 : 20 < x.vars.length
  · have hd2 : decide (20 < (x.vars.length : Int)) = true := decide_eq_true (by omega)
    have hq : lgP x = true := by unfold lgP; rw [decide_eq_true h2]; simp
    simp (disch := (first | decide | omega)) only [a_few15P, hA, List.length_map, hd, hd2, go_sem]
    exact leave_pure (xs := [.v (.bool true)]) (.inr rfl) (by simp (disch := (first | decide | omega)) only [resVs, resV, go_sem, hA]) (by simp only [one, AVlt_v, AVlt_any, AVlt_sl, AVlt_ptr, AVlt_mp, AVlt_agg, AVlt_tup, AVlt_fn, RowsLt_nil, RowsLt_live, RowsLt_dead, List.mem_cons, List.not_mem_nil, List.forall_mem_cons, List.forall_mem_nil, or_false, false_or, forall_eq_or_imp, forall_eq, vs_lt, Nat.add_lt_add_iff_left, Nat.reduceLT, true_and, and_true, and_self, List.length_cons, List.length_nil, Nat.reduceAdd, Nat.zero_add, implies_true, false_imp_iff, lt_T, List.mem_map]) hR hB ⟨by rw [hq]; rfl, rfl, rfl⟩
  have hd2 : decide (20 < (x.vars.length : Int)) = false := decide_eq_false (by omega)
  have hq : lgP x = (List.range x.evs.length).any fun j => lgE (x.evs.getD j dfEv) := by
    unfold lgP; rw [decide_eq_false h1, decide_eq_false h2]; rfl
  simp (disch := (first | decide | omega)) only [a_few15P, hA, List.length_map, hd, hd2, go_sem]
  refine ACalls.nxt (containsE_spec x.evs _ [] (fun j => lgE (x.evs.getD j dfEv)) (by omega) _ _ (fun i hi => by simp only [getD_at hi]; exact few15E_spec _ _ _)) ?_
  rw [← hq]
  simp (disch := (first | decide | omega)) only [hA, go_sem]
  exact leave_pure (xs := [.v (.bool (lgP x))]) (.inr rfl) (by simp (disch := (first | decide | omega)) only [resVs, resV, go_sem, hA]) (by simp only [one, AVlt_v, AVlt_any, AVlt_sl, AVlt_ptr, AVlt_mp, AVlt_agg, AVlt_tup, AVlt_fn, RowsLt_nil, RowsLt_live, RowsLt_dead, List.mem_cons, List.not_mem_nil, List.forall_mem_cons, List.forall_mem_nil, or_false, false_or, forall_eq_or_imp, forall_eq, vs_lt, Nat.add_lt_add_iff_left, Nat.reduceLT, true_and, and_true, and_self, List.length_cons, List.length_nil, Nat.reduceAdd, Nat.zero_add, implies_true, false_imp_iff, lt_T, List.mem_map]) hR hB ⟨rfl, rfl, rfl⟩
theorem few15_spec (t : Tr) (b l : List Row) : ACalls Try.prog 16 [.agg [.v (eT t)]] b l (fun r b' l' => r = .v (.bool (few15B t)) ∧ b' = b ∧ l' = l) := by
  refine calls_kept a_few15_ok rfl (by decide) ?_
  intro B g hB hR hE hA
  simp only [KArgs] at hA
  by_cases h1 : t.length ≤ 10
  case neg =>
    have hd : decide ((t.length : Int) ≤ 10) = false := decide_eq_false (by omega)
    have hq : few15B t = false := by unfold few15B; rw [decide_eq_false h1]; rfl
    simp (disch := (first | decide | omega)) only [a_few15, hA, eT, List.length_map, hd, go_sem]
    exact leave_pure (xs := [.v (.bool false)]) (.inr rfl) (by simp (disch := (first | decide | omega)) only [resVs, resV, go_sem, hA]) (by simp only [one, AVlt_v, AVlt_any, AVlt_sl, AVlt_ptr, AVlt_mp, AVlt_agg, AVlt_tup, AVlt_fn, RowsLt_nil, RowsLt_live, RowsLt_dead, List.mem_cons, List.not_mem_nil, List.forall_mem_cons, List.forall_mem_nil, or_false, false_or, forall_eq_or_imp, forall_eq, vs_lt, Nat.add_lt_add_iff_left, Nat.reduceLT, true_and, and_true, and_self, List.length_cons, List.length_nil, Nat.reduceAdd, Nat.zero_add, implies_true, false_imp_iff, lt_T, List.mem_map]) hR hB ⟨by rw [hq]; rfl, rfl, rfl⟩
  have hd : decide ((t.length : Int) ≤ 10) = true := decide_eq_true (by omega)
  have hq : few15B t = !(List.range t.length).any fun j => lgP (t.getD j dfPr) := by unfold few15B; rw [decide_eq_true h1]; rfl
  simp (disch := (first | decide | omega)) only [a_few15, hA, eT, List.length_map, hd, go_sem]
  refine ACalls.nxt (containsP_spec t _ [] (fun j => lgP (t.getD j dfPr)) (by omega) _ _ (fun i hi => by simp only [getD_at hi]; exact few15P_spec _ _ _)) ?_
  simp (disch := (first | decide | omega)) only [hA, go_sem]
  exact leave_pure (xs := [.v (.bool (!(List.range t.length).any fun j => lgP (t.getD j dfPr)))]) (.inr rfl) (by simp (disch := (first | decide | omega)) only [resVs, resV, go_sem, hA]) (by simp only [one, AVlt_v, AVlt_any, AVlt_sl, AVlt_ptr, AVlt_mp, AVlt_agg, AVlt_tup, AVlt_fn, RowsLt_nil, RowsLt_live, RowsLt_dead, List.mem_cons, List.not_mem_nil, List.forall_mem_cons, List.forall_mem_nil, or_false, false_or, forall_eq_or_imp, forall_eq, vs_lt, Nat.add_lt_add_iff_left, Nat.reduceLT, true_and, and_true, and_self, List.length_cons, List.length_nil, Nat.reduceAdd, Nat.zero_add, implies_true, false_imp_iff, lt_T, List.mem_map]) hR hB ⟨by rw [hq]; rfl, rfl, rfl⟩
end Go.Proofs.Ytiiflkcebikecaa

/- Chapter 15: the law VectorStamps, as a run. -/
namespace Go.Proofs.Ytiiflkcebikecaa
set_option linter.unusedVariables false
set_option linter.unusedSimpArgs false
attribute [local go_sem ↓] run_skip run_region run_draw run_seq run_block run_exit run_ret run_cond atN_app seqC_normal seqC_exit seqC_ret seqQ_normal seqQ_exit seqQ_ret blkQ_normal blkQ_exit blkQ_ret runOps_nil runOps_cons runD_nil runD_cons grdO_true grdO_false grdD_true grdD_false ifC_true ifC_false opS_val opS_call opS_two opK_app dS_val dS_call dS_two dK_app kUp_same kUp_ne
attribute [local go_sem] rechks_nil rechks_cons rechk gcase_true gcase_false ex_val ex_val0 gd_none gd_some ev_t ev_c evs_nil evs_cons evo_some evo_none hget_at hget_first hsetB_at hsetB_first hsetL_at hsetL_first ofOpt_some aop aload astore aslice aappend aiaddr aiaddrA afaddr alen alenS acopy amm acall alookup amupdate alenM comma keyEq apick binV binVB binVS isSh intOp strOp boolOp shOp eqC eqF and2 cellsOf setFrom fillA fillS rd rdI elems mk bounds AV.cell List.all_cons List.all_nil Bool.and_true Bool.true_and Bool.and_self List.length_cons List.length_nil List.length_append Nat.reduceAdd Nat.reduceSub Nat.reduceMul Nat.zero_add Nat.add_zero List.cons_append List.nil_append List.append_assoc List.append_nil List.getElem?_cons_zero List.getElem?_cons_succ List.getElem?_nil List.set_cons_zero List.set_cons_succ List.drop_zero List.drop_succ_cons List.take_zero List.take_succ_cons List.take_nil List.drop_nil List.map_cons List.map_nil Option.map_some if_true if_false Bool.false_eq_true and_self true_and and_true Nat.reduceLeDiff Nat.reduceLT Nat.le_refl Nat.reduceEqDiff ite_true ite_false beq_self_eq_true beq_true beq_false Bool.not_true Bool.not_false Bool.true_beq Bool.false_beq map_vs vs_len vs_get vs_take vs_drop vs_snoc1 vs_snoc2 vs_snoc3 vs_snoc5 vs_set1 vs_set2 vs_rep wrap_id le_T lt_T le_F lt_F leI_T ltI_T leI_F ltI_F geI gtI get_T decide_true decide_false room List.getElem?_map List.length_map List.length_take Int.toNat_natCast Nat.min_def Nat.min_self nth_kOf put_kOf put_kNo kOv_cons kOv_nil KHas KArgs List.getElem_cons_zero List.getElem_cons_succ
def a_VectorStamps : AFunc := ⟨2, 66, [.tmp 4],
  (.seq (.region [⟨(some 2), .box (.t 0), none⟩, ⟨(some 4), .mv (.c (.v (.bool false))), none⟩])
  (.seq (.seq (.region [⟨(some 8), .call (.c (.fn 15 [])) [], none⟩, ⟨(some 9), .not (.t 8), none⟩])
  (.cond (.t 9) (.seq (.region [⟨(some 4), .mv (.c (.v (.bool false))), none⟩])
  .ret)
  .skip))
  (.seq (.seq (.region [⟨(some 10), .load (some 1) (.t 2), none⟩, ⟨(some 11), .call (.c (.fn 16 [])) [(.t 10)], none⟩, ⟨(some 12), .not (.t 11), none⟩, ⟨(some 13), .mv (.t 12), none⟩, ⟨(some 14), .mv (.t 1), some (13, false)⟩, ⟨(some 15), .len (.t 14), some (13, false)⟩, ⟨(some 16), .bin .gtr (.t 15) (.c (.v (.int .i64 10))), some (13, false)⟩, ⟨(some 17), .pick (.t 13) (.c (.v (.bool true))) (.t 16), none⟩, ⟨(some 18), .mv (.t 17), none⟩, ⟨(some 19), .mv (.t 1), some (18, false)⟩, ⟨(some 20), .call (.c (.fn 17 [])) [(.t 19), (.c (.fn 18 []))], some (18, false)⟩, ⟨(some 21), .pick (.t 18) (.c (.v (.bool true))) (.t 20), none⟩])
  (.cond (.t 21) (.seq (.region [⟨(some 4), .mv (.c (.v (.bool true))), none⟩])
  .ret)
  .skip))
  (.seq (.region [⟨(some 23), .load (some 1) (.t 2), none⟩, ⟨(some 24), .call (.c (.fn 19 [])) [(.t 23)], none⟩, ⟨(some 22), .mv (.t 24), none⟩, ⟨(some 25), .extract 0 (.t 22), none⟩, ⟨(some 26), .extract 1 (.t 22), none⟩, ⟨(some 5), .mv (.t 25), none⟩, ⟨(some 6), .mv (.t 26), none⟩])
  (.seq (.seq (.region [⟨(some 27), .load (some 1) (.t 2), none⟩, ⟨(some 28), .call (.c (.fn 20 [])) [(.t 27)], none⟩, ⟨(some 29), .not (.t 28), none⟩])
  (.cond (.t 29) (.seq (.region [⟨(some 30), .mv (.t 6), none⟩, ⟨(some 31), .bin .eql (.t 30) (.c (.v (.int .i64 1))), none⟩, ⟨(some 32), .mv (.t 31), none⟩, ⟨(some 33), .mv (.t 5), some (32, true)⟩, ⟨(some 34), .len (.t 33), some (32, true)⟩, ⟨(some 35), .bin .eql (.t 34) (.c (.v (.int .i64 0))), some (32, true)⟩, ⟨(some 36), .pick (.t 32) (.t 35) (.c (.v (.bool false))), none⟩, ⟨(some 37), .mv (.t 36), none⟩, ⟨(some 38), .load (some 1) (.t 2), some (37, true)⟩, ⟨(some 39), .mv (.t 1), some (37, true)⟩, ⟨(some 40), .call (.c (.fn 21 [])) [(.t 38), (.t 39)], some (37, true)⟩, ⟨(some 41), .not (.t 40), some (37, true)⟩, ⟨(some 42), .pick (.t 37) (.t 41) (.c (.v (.bool false))), none⟩, ⟨(some 4), .mv (.t 42), none⟩])
  .ret)
  .skip))
  (.seq (.region [⟨(some 43), .load (some 1) (.t 2), none⟩, ⟨(some 44), .call (.c (.fn 22 [])) [(.t 43)], none⟩, ⟨(some 7), .mv (.t 44), none⟩])
  (.seq (.region [⟨(some 45), .mv (.t 6), none⟩, ⟨(some 46), .bin .eql (.t 45) (.c (.v (.int .i64 0))), none⟩, ⟨(some 47), .mv (.t 46), none⟩, ⟨(some 48), .mv (.t 5), some (47, true)⟩, ⟨(some 49), .mv (.t 7), some (47, true)⟩, ⟨(some 50), .call (.c (.fn 23 [])) [(.t 48), (.t 49)], some (47, true)⟩, ⟨(some 51), .pick (.t 47) (.t 50) (.c (.v (.bool false))), none⟩, ⟨(some 52), .mv (.t 51), none⟩, ⟨(some 53), .load (some 1) (.t 2), some (52, true)⟩, ⟨(some 54), .mv (.t 1), some (52, true)⟩, ⟨(some 55), .call (.c (.fn 21 [])) [(.t 53), (.t 54)], some (52, true)⟩, ⟨(some 56), .mv (.t 1), some (52, true)⟩, ⟨(some 57), .mv (.t 7), some (52, true)⟩, ⟨(some 58), .call (.c (.fn 23 [])) [(.t 56), (.t 57)], some (52, true)⟩, ⟨(some 59), .binB .eql (.t 55) (.t 58), some (52, true)⟩, ⟨(some 60), .pick (.t 52) (.t 59) (.c (.v (.bool false))), none⟩, ⟨(some 61), .mv (.t 60), none⟩, ⟨(some 62), .load (some 1) (.t 2), some (61, true)⟩, ⟨(some 63), .mv (.t 7), some (61, true)⟩, ⟨(some 64), .call (.c (.fn 21 [])) [(.t 62), (.t 63)], some (61, true)⟩, ⟨(some 65), .pick (.t 61) (.t 64) (.c (.v (.bool false))), none⟩, ⟨(some 4), .mv (.t 65), none⟩])
  .ret)))))))⟩
theorem a_VectorStamps_ok : cFunc Try.prog 3 = some a_VectorStamps := by kernel_rfl

theorem few15_in {t : Tr} (h : few15B t = true) : t.length ≤ 10 ∧ ∀ x ∈ t, lgP x = false := by
  simp only [few15B, Bool.and_eq_true, decide_eq_true_eq, Bool.not_eq_true', List.any_eq_false, List.mem_range] at h
  refine ⟨h.1, fun x hx => ?_⟩
  obtain ⟨i, hi, rfl⟩ := List.getElem_of_mem hx
  have := h.2 i hi
  rw [getD_at hi] at this
  simpa using this
theorem lgP_in {x : Pr} (h : lgP x = false) : x.evs.length ≤ 20 ∧ x.vars.length ≤ 20 ∧ ∀ e ∈ x.evs, e.asg.length ≤ 20 := by
  simp only [lgP, Bool.or_eq_false_iff, decide_eq_false_iff_not, List.any_eq_false, List.mem_range] at h
  refine ⟨by omega, by omega, fun e he => ?_⟩
  obtain ⟨i, hi, rfl⟩ := List.getElem_of_mem he
  have := h.2.2 i hi
  rw [getD_at hi] at this
  simp only [lgE, decide_eq_true_eq] at this
  omega
theorem ids_few15 {t : Tr} (h : ∀ x ∈ t, x.evs.length ≤ 20) : (ids t).length ≤ 20 * t.length := by
  have : ∀ n, n ≤ t.length → ((List.range n).flatMap (idsOf t)).length ≤ 20 * n := by
    intro n
    induction n with
    | zero => intro _; simp
    | succ n ih =>
      intro hn
      rw [List.range_succ, List.flatMap_append, List.length_append]
      have h1 := ih (by omega)
      have h2 : (List.flatMap (idsOf t) [n]).length ≤ 20 := by
        simp only [List.flatMap_cons, List.flatMap_nil, List.append_nil, idsOf, List.length_map, List.length_range]
        rw [evsOf_lt (by omega)]
        exact h _ (List.getElem_mem _)
      omega
  exact this _ (Nat.le_refl _)
theorem stL_fit2 {t : Tr} (hv : Vok t) (hS : Small t) (w : List (List (List Int))) : w.length = (stL t).length → w.length ≤ 1000000 ∧ ∀ i (h : i < w.length) (h' : i < (stL t).length), C2 w[i] (stL t)[i] := by
  intro hl
  have h8 := hv.hi
  rw [stL_len] at hl
  refine ⟨by omega, fun i h h' => ?_⟩
  have hi : i < t.length := by omega
  have e : (stL t)[i] = fl (evsOf t i).length fun k => vcs t (i, k + 1) := fl_getE h'
  rw [e]
  intro h2
  rw [fl_len] at h2
  have hne := hS.ne _ (List.getElem_mem hi)
  rw [evsOf_lt hi] at h2
  refine ⟨by omega, fun k k1 k2 => ?_⟩
  rw [fl_getE k2]
  intro h3
  unfold vcs at h3
  rw [fl_len] at h3
  exact ⟨by omega, fun _ _ _ => trivial⟩
set_option maxRecDepth 20000 in
set_option maxHeartbeats 1000000 in
theorem vectorStamps_run (t : Tr) (w : List (List (List Int))) (hN : Nm t) (b l : List Row)
    (hw : ∀ b l, ACalls Try.prog 15 [] b l (fun r b' l' => r = .v (.bool true) ∧ b' = b ∧ l' = l)) :
    ACalls Try.prog 3 [.agg [.v (eT t)], .v (.isl 1 (w.map eMx))] b l (fun r b' l' => r = .v (.bool true) ∧ b' = b ∧ l' = l) := by
  refine calls_kept a_VectorStamps_ok rfl (by decide) ?_
  intro B g hB hR hE hA
  simp only [KArgs] at hA
  simp (disch := decide) only [a_VectorStamps, hA, go_sem]
  refine ACalls.nxt (hw _ _) ?_
  simp (disch := decide) only [hA, go_sem]
  refine ACalls.nxt (few15_spec t _ _) ?_
  cases hf : few15B t with
  | false =>
    simp (disch := decide) only [hA, go_sem]
    exact leave_pure (xs := [.v (.bool true)]) (.inr rfl) (by simp (disch := (first | decide | omega)) only [resVs, resV, go_sem, hA]) (by simp only [one, AVlt_v, AVlt_any, AVlt_sl, AVlt_ptr, AVlt_mp, AVlt_agg, AVlt_tup, AVlt_fn, RowsLt_nil, RowsLt_live, RowsLt_dead, List.mem_cons, List.not_mem_nil, List.forall_mem_cons, List.forall_mem_nil, or_false, false_or, forall_eq_or_imp, forall_eq, vs_lt, Nat.add_lt_add_iff_left, Nat.reduceLT, true_and, and_true, and_self, List.length_cons, List.length_nil, Nat.reduceAdd, Nat.zero_add, implies_true, false_imp_iff, lt_T, List.mem_map]) hR hB ⟨rfl, rfl, rfl⟩
  | true =>
    obtain ⟨f1, f2⟩ := few15_in hf
    have f3 := fun x hx => lgP_in (f2 x hx)
    have hS : Small t := ⟨by omega, fun x hx => by have := (f3 x hx).2.1; omega, fun x hx => by have := (f3 x hx).1; omega, fun x hx e he => by have := (f3 x hx).2.2 e he; omega⟩
    have hC : (ids t).length ≤ 1000000 := by have := ids_few15 (fun x hx => (f3 x hx).1); omega
    by_cases h1 : 10 < w.length
    · have hd : decide ((w.length : Int) > 10) = true := decide_eq_true (by omega)
      simp (disch := decide) only [hA, List.length_map, hd, go_sem]
      exact leave_pure (xs := [.v (.bool true)]) (.inr rfl) (by simp (disch := (first | decide | omega)) only [resVs, resV, go_sem, hA]) (by simp only [one, AVlt_v, AVlt_any, AVlt_sl, AVlt_ptr, AVlt_mp, AVlt_agg, AVlt_tup, AVlt_fn, RowsLt_nil, RowsLt_live, RowsLt_dead, List.mem_cons, List.not_mem_nil, List.forall_mem_cons, List.forall_mem_nil, or_false, false_or, forall_eq_or_imp, forall_eq, vs_lt, Nat.add_lt_add_iff_left, Nat.reduceLT, true_and, and_true, and_self, List.length_cons, List.length_nil, Nat.reduceAdd, Nat.zero_add, implies_true, false_imp_iff, lt_T, List.mem_map]) hR hB ⟨rfl, rfl, rfl⟩
    have hd : decide ((w.length : Int) > 10) = false := decide_eq_false (by omega)
    simp (disch := decide) only [hA, List.length_map, hd, go_sem]
    refine ACalls.nxt (containsL_spec w _ [] (fun j => decide (40 < (w.getD j []).length)) (by omega) _ _ (fun i hi => by simp only [getD_at hi]; exact vsL_spec _ _ _)) ?_
    cases hcl : (List.range w.length).any (fun j => decide (40 < (w.getD j []).length)) with
    | true =>
      simp (disch := decide) only [hA, go_sem]
      exact leave_pure (xs := [.v (.bool true)]) (.inr rfl) (by simp (disch := (first | decide | omega)) only [resVs, resV, go_sem, hA]) (by simp only [one, AVlt_v, AVlt_any, AVlt_sl, AVlt_ptr, AVlt_mp, AVlt_agg, AVlt_tup, AVlt_fn, RowsLt_nil, RowsLt_live, RowsLt_dead, List.mem_cons, List.not_mem_nil, List.forall_mem_cons, List.forall_mem_nil, or_false, false_or, forall_eq_or_imp, forall_eq, vs_lt, Nat.add_lt_add_iff_left, Nat.reduceLT, true_and, and_true, and_self, List.length_cons, List.length_nil, Nat.reduceAdd, Nat.zero_add, implies_true, false_imp_iff, lt_T, List.mem_map]) hR hB ⟨rfl, rfl, rfl⟩
    | false =>
      simp (disch := decide) only [hA, go_sem]
      refine ACalls.nxt (vStamps_spec t hS hN _ _) ?_
      cases hval : validL t with
      | false =>
        simp (disch := decide) only [hA, go_sem]
        refine ACalls.nxt (rvalid_spec t hS hN _ _) ?_
        rw [hval]
        simp (disch := decide) only [hA, go_sem]
        refine ACalls.nxt (vCheck_spec t w hS hN _ _) ?_
        rw [hval, Bool.false_and]
        simp (disch := decide) only [hA, go_sem]
        exact leave_pure (xs := [.v (.bool true)]) (.inr rfl) (by simp (disch := (first | decide | omega)) only [resVs, resV, go_sem, hA]) (by simp only [one, AVlt_v, AVlt_any, AVlt_sl, AVlt_ptr, AVlt_mp, AVlt_agg, AVlt_tup, AVlt_fn, RowsLt_nil, RowsLt_live, RowsLt_dead, List.mem_cons, List.not_mem_nil, List.forall_mem_cons, List.forall_mem_nil, or_false, false_or, forall_eq_or_imp, forall_eq, vs_lt, Nat.add_lt_add_iff_left, Nat.reduceLT, true_and, and_true, and_self, List.length_cons, List.length_nil, Nat.reduceAdd, Nat.zero_add, implies_true, false_imp_iff, lt_T, List.mem_map]) hR hB ⟨rfl, rfl, rfl⟩
      | true =>
        have hv := vok hval
        have hst := rStamps_spec t hv hS hN hC
        simp only [stL_all] at hst
        simp (disch := decide) only [hA, go_sem]
        refine ACalls.nxt (rvalid_spec t hS hN _ _) ?_
        rw [hval]
        simp (disch := decide) only [hA, go_sem]
        refine ACalls.nxt (hst _ _) ?_
        simp (disch := decide) only [hA, go_sem]
        refine ACalls.nxt (sAll_spec (stL t) (stL t) (stL_fit2 hv hS _) _ _) ?_
        rw [decide_eq_true rfl]
        simp (disch := decide) only [hA, go_sem]
        refine ACalls.nxt (vCheck_spec t w hS hN _ _) ?_
        rw [hval, Bool.true_and]
        simp (disch := decide) only [hA, go_sem]
        refine ACalls.nxt (sAll_spec w (stL t) (stL_fit2 hv hS _) _ _) ?_
        have hsym : decide (w = stL t) = decide (stL t = w) := by simp only [decide_eq_decide]; exact eq_comm
        rw [hsym]
        simp (disch := decide) only [hA, go_sem]
        refine ACalls.nxt (vCheck_spec t (stL t) hS hN _ _) ?_
        rw [hval, Bool.true_and, decide_eq_true rfl]
        simp (disch := decide) only [hA, go_sem]
        exact leave_pure (xs := [.v (.bool true)]) (.inr rfl) (by simp (disch := (first | decide | omega)) only [resVs, resV, go_sem, hA]) (by simp only [one, AVlt_v, AVlt_any, AVlt_sl, AVlt_ptr, AVlt_mp, AVlt_agg, AVlt_tup, AVlt_fn, RowsLt_nil, RowsLt_live, RowsLt_dead, List.mem_cons, List.not_mem_nil, List.forall_mem_cons, List.forall_mem_nil, or_false, false_or, forall_eq_or_imp, forall_eq, vs_lt, Nat.add_lt_add_iff_left, Nat.reduceLT, true_and, and_true, and_self, List.length_cons, List.length_nil, Nat.reduceAdd, Nat.zero_add, implies_true, false_imp_iff, lt_T, List.mem_map]) hR hB ⟨rfl, rfl, rfl⟩
end Go.Proofs.Ytiiflkcebikecaa

/- Lists of lists of lists of numbers, read as they come in. No condition. -/
namespace Go.Proofs.Ytiiflkcebikecaa
set_option linter.unusedVariables false
theorem tr_cube : TR Try.prog 25 1 (fun m : List (List (List Int)) => [.isl 1 (m.map eMx)]) (fun m => m.length ≤ maxLen ∧ ∀ x ∈ m, (x.length ≤ maxLen ∧ ∀ r ∈ x, r.length ≤ maxLen ∧ ∀ n ∈ r, (Lit.int .i64 n).wf = true)) := tr_slice tr_mat Try.underlying25 (by kernel_rfl) (by decide)
end Go.Proofs.Ytiiflkcebikecaa
