/- Texts of one proof, laid together: MCR. No condition. -/
import Derived.Test.YtoaopldaleaijaaSB9
namespace Go.Proofs.Ytoaopldaleaijaa
set_option linter.unusedVariables false
set_option linter.unusedSimpArgs false
attribute [local go_sem ↓] run_skip run_region run_draw run_seq run_block run_exit run_ret run_cond atN_app seqC_normal seqC_exit seqC_ret seqQ_normal seqQ_exit seqQ_ret blkQ_normal blkQ_exit blkQ_ret runOps_nil runOps_cons runD_nil runD_cons grdO_true grdO_false grdD_true grdD_false ifC_true ifC_false opS_val opS_call opS_two opK_app dS_val dS_call dS_two dK_app kUp_same kUp_ne
attribute [local go_sem] rechks_nil rechks_cons rechk gcase_true gcase_false ex_val ex_val0 gd_none gd_some ev_t ev_c evs_nil evs_cons evo_some evo_none hget_at hget_first hsetB_at hsetB_first hsetL_at hsetL_first ofOpt_some aop aload astore aslice aappend aiaddr aiaddrA afaddr alen alenS acopy amm acall alookup amupdate alenM comma keyEq apick binV binVB binVS isSh intOp strOp boolOp shOp eqC eqF and2 cellsOf setFrom fillA fillS rd rdI elems mk bounds AV.cell List.all_cons List.all_nil Bool.and_true Bool.true_and Bool.and_self List.length_cons List.length_nil List.length_append Nat.reduceAdd Nat.reduceSub Nat.reduceMul Nat.zero_add Nat.add_zero List.cons_append List.nil_append List.append_assoc List.append_nil List.getElem?_cons_zero List.getElem?_cons_succ List.getElem?_nil List.set_cons_zero List.set_cons_succ List.drop_zero List.drop_succ_cons List.take_zero List.take_succ_cons List.take_nil List.drop_nil List.map_cons List.map_nil Option.map_some if_true if_false Bool.false_eq_true and_self true_and and_true Nat.reduceLeDiff Nat.reduceLT Nat.le_refl Nat.reduceEqDiff ite_true ite_false beq_self_eq_true beq_true beq_false Bool.not_true Bool.not_false Bool.true_beq Bool.false_beq map_vs vs_len vs_get vs_take vs_drop vs_snoc1 vs_snoc2 vs_snoc3 vs_snoc5 vs_set1 vs_set2 vs_rep wrap_id le_T lt_T le_F lt_F leI_T ltI_T leI_F ltI_F geI gtI get_T decide_true decide_false room List.getElem?_map List.length_map List.length_take Int.toNat_natCast Nat.min_def Nat.min_self nth_kOf put_kOf put_kNo kOv_cons kOv_nil KHas KArgs List.getElem_cons_zero List.getElem_cons_succ
def a_MatrixRows : AFunc := ⟨2, 132, [.tmp 4],
  (.seq (.region [⟨(some 2), .box (.t 0), none⟩, ⟨(some 3), .box (.t 1), none⟩, ⟨(some 4), .mv (.c (.v (.bool false))), none⟩])
  (.seq (.seq (.region [⟨(some 13), .call (.c (.fn 53 [])) [], none⟩, ⟨(some 14), .not (.t 13), none⟩])
  (.cond (.t 14) (.seq (.region [⟨(some 4), .mv (.c (.v (.bool false))), none⟩])
  .ret)
  .skip))
  (.seq (.seq (.region [⟨(some 15), .load (some 1) (.t 2), none⟩, ⟨(some 16), .call (.c (.fn 54 [])) [(.t 15)], none⟩, ⟨(some 17), .not (.t 16), none⟩, ⟨(some 18), .mv (.t 17), none⟩, ⟨(some 19), .load (some 1) (.t 2), some (18, false)⟩, ⟨(some 20), .call (.c (.fn 17 [])) [(.t 19)], some (18, false)⟩, ⟨(some 21), .not (.t 20), some (18, false)⟩, ⟨(some 22), .pick (.t 18) (.c (.v (.bool true))) (.t 21), none⟩])
  (.cond (.t 22) (.seq (.region [⟨(some 4), .mv (.c (.v (.bool true))), none⟩])
  .ret)
  .skip))
  (.seq (.region [⟨(some 24), .load (some 1) (.t 2), none⟩, ⟨(some 25), .load (some 2) (.t 3), none⟩, ⟨(some 26), .call (.c (.fn 55 [])) [(.t 24), (.t 25)], none⟩, ⟨(some 23), .mv (.t 26), none⟩, ⟨(some 27), .extract 0 (.t 23), none⟩, ⟨(some 28), .extract 1 (.t 23), none⟩, ⟨(some 5), .mv (.t 27), none⟩, ⟨(some 6), .mv (.t 28), none⟩])
  (.seq (.seq (.region [⟨(some 29), .mv (.t 6), none⟩, ⟨(some 30), .bin .neq (.t 29) (.c (.v (.int .i64 0))), none⟩])
  (.cond (.t 30) (.seq (.region [⟨(some 31), .mv (.t 5), none⟩, ⟨(some 32), .len (.t 31), none⟩, ⟨(some 33), .bin .eql (.t 32) (.c (.v (.int .i64 0))), none⟩, ⟨(some 4), .mv (.t 33), none⟩])
  .ret)
  .skip))
  (.seq (.region [⟨(some 35), .load (some 1) (.t 2), none⟩, ⟨(some 36), .call (.c (.fn 50 [])) [(.t 35)], none⟩, ⟨(some 34), .mv (.t 36), none⟩, ⟨(some 37), .extract 0 (.t 34), none⟩, ⟨(some 38), .extract 1 (.t 34), none⟩, ⟨(some 7), .mv (.t 37), none⟩, ⟨(some 8), .mv (.t 38), none⟩])
  (.seq (.region [⟨(some 39), .faddr 0 (.t 2), none⟩, ⟨(some 40), .load none (.t 39), none⟩, ⟨(some 41), .len (.t 40), none⟩, ⟨(some 9), .alloc [(.v (.int .i64 0))], none⟩, ⟨none, .store 1 (.t 9) (.t 41), none⟩])
  (.seq (.seq (.region [⟨(some 42), .mv (.t 8), none⟩, ⟨(some 43), .bin .neq (.t 42) (.c (.v (.int .i64 0))), none⟩, ⟨(some 44), .mv (.t 43), none⟩, ⟨(some 45), .mv (.t 5), some (44, false)⟩, ⟨(some 46), .len (.t 45), some (44, false)⟩, ⟨(some 47), .load none (.t 9), some (44, false)⟩, ⟨(some 48), .bin .neq (.t 46) (.t 47), some (44, false)⟩, ⟨(some 49), .pick (.t 44) (.c (.v (.bool true))) (.t 48), none⟩, ⟨(some 50), .mv (.t 49), none⟩, ⟨(some 51), .mv (.t 7), some (50, false)⟩, ⟨(some 52), .len (.t 51), some (50, false)⟩, ⟨(some 53), .load none (.t 9), some (50, false)⟩, ⟨(some 54), .bin .neq (.t 52) (.t 53), some (50, false)⟩, ⟨(some 55), .pick (.t 50) (.c (.v (.bool true))) (.t 54), none⟩, ⟨(some 56), .mv (.t 55), none⟩, ⟨(some 57), .mv (.t 5), some (56, false)⟩, ⟨(some 58), .mkfn 60 [(.t 9)], some (56, false)⟩, ⟨(some 59), .call (.c (.fn 59 [])) [(.t 57), (.t 58)], some (56, false)⟩, ⟨(some 60), .pick (.t 56) (.c (.v (.bool true))) (.t 59), none⟩])
  (.cond (.t 60) (.seq (.region [⟨(some 4), .mv (.c (.v (.bool false))), none⟩])
  .ret)
  .skip))
  (.seq (.seq (.region [⟨(some 61), .mv (.t 5), none⟩, ⟨(some 62), .len (.t 61), none⟩, ⟨(some 63), .mv (.c (.v (.int .i64 0))), none⟩])
  (.block 0 (.loop (.seq (.region [⟨(some 64), .bin .lss (.t 63) (.t 62), none⟩])
  (.seq (.cond (.t 64) .skip
  (.exit 0))
  (.seq (.block 1 (.seq (.region [⟨(some 65), .mv (.t 63), none⟩, ⟨(some 66), .iaddr 1 (.t 61) (.t 63), none⟩, ⟨(some 67), .load none (.t 66), none⟩, ⟨(some 10), .mv (.t 65), none⟩, ⟨(some 11), .mv (.t 67), none⟩])
  (.seq (.region [⟨(some 68), .mv (.t 5), none⟩, ⟨(some 69), .faddr 0 (.t 3), none⟩, ⟨(some 70), .load none (.t 69), none⟩, ⟨(some 71), .iaddr 1 (.t 68) (.t 70), none⟩, ⟨(some 72), .load none (.t 71), none⟩, ⟨(some 73), .mv (.t 10), none⟩, ⟨(some 74), .iaddr 1 (.t 72) (.t 73), none⟩, ⟨(some 75), .load none (.t 74), none⟩, ⟨(some 12), .mv (.t 75), none⟩])
  (.seq (.seq (.draw [⟨0, ⟨(some 76), .mv (.t 12), none⟩, []⟩, ⟨1, ⟨(some 77), .bin .lss (.t 76) (.c (.v (.int .i64 0))), none⟩, []⟩, ⟨2, ⟨(some 78), .mv (.t 77), none⟩, []⟩, ⟨3, ⟨(some 79), .mv (.t 12), some (78, false)⟩, []⟩, ⟨4, ⟨(some 80), .faddr 0 (.t 2), some (78, false)⟩, []⟩, ⟨5, ⟨(some 81), .load none (.t 80), some (78, false)⟩, []⟩, ⟨6, ⟨(some 82), .mv (.t 10), some (78, false)⟩, []⟩, ⟨7, ⟨(some 83), .iaddr 3 (.t 81) (.t 82), some (78, false)⟩, []⟩, ⟨8, ⟨(some 84), .faddr 2 (.t 83), some (78, false)⟩, []⟩, ⟨9, ⟨(some 85), .load none (.t 84), some (78, false)⟩, []⟩, ⟨10, ⟨(some 86), .len (.t 85), some (78, false)⟩, []⟩, ⟨11, ⟨(some 87), .bin .gtr (.t 79) (.t 86), some (78, false)⟩, []⟩, ⟨12, ⟨(some 88), .pick (.t 78) (.c (.v (.bool true))) (.t 87), none⟩, []⟩, ⟨13, ⟨(some 89), .mv (.t 88), none⟩, []⟩, ⟨14, ⟨(some 90), .mv (.t 7), some (89, false)⟩, []⟩, ⟨15, ⟨(some 91), .mv (.t 10), some (89, false)⟩, []⟩, ⟨16, ⟨(some 92), .iaddr 1 (.t 90) (.t 91), some (89, false)⟩, []⟩, ⟨17, ⟨(some 93), .load none (.t 92), some (89, false)⟩, []⟩, ⟨18, ⟨(some 94), .len (.t 93), some (89, false)⟩, []⟩, ⟨19, ⟨(some 95), .faddr 0 (.t 2), some (89, false)⟩, []⟩, ⟨20, ⟨(some 96), .load none (.t 95), some (89, false)⟩, []⟩, ⟨21, ⟨(some 97), .mv (.t 10), some (89, false)⟩, []⟩, ⟨22, ⟨(some 98), .iaddr 3 (.t 96) (.t 97), some (89, false)⟩, []⟩, ⟨23, ⟨(some 99), .faddr 2 (.t 98), some (89, false)⟩, []⟩, ⟨24, ⟨(some 100), .load none (.t 99), some (89, false)⟩, []⟩, ⟨25, ⟨(some 101), .len (.t 100), some (89, false)⟩, []⟩, ⟨26, ⟨(some 102), .bin .neq (.t 94) (.t 101), some (89, false)⟩, []⟩, ⟨27, ⟨(some 103), .pick (.t 89) (.c (.v (.bool true))) (.t 102), none⟩, []⟩])
  (.cond (.t 103) (.seq (.region [⟨(some 4), .mv (.c (.v (.bool false))), none⟩])
  .ret)
  .skip))
  (.seq (.region [⟨(some 104), .mv (.t 12), none⟩, ⟨(some 105), .bin .eql (.t 104) (.c (.v (.int .i64 0))), none⟩])
  (.cond (.t 105) (.seq (.region [⟨(some 106), .mv (.t 11), none⟩, ⟨(some 107), .call (.c (.fn 30 [])) [(.t 106), (.c (.fn 61 []))], none⟩])
  (.cond (.t 107) (.seq (.region [⟨(some 4), .mv (.c (.v (.bool false))), none⟩])
  .ret)
  .skip))
  (.seq (.region [⟨(some 108), .mv (.t 11), none⟩, ⟨(some 109), .mv (.t 7), none⟩, ⟨(some 110), .mv (.t 10), none⟩, ⟨(some 111), .iaddr 1 (.t 109) (.t 110), none⟩, ⟨(some 112), .load none (.t 111), none⟩, ⟨(some 113), .mv (.t 12), none⟩, ⟨(some 114), .bin .sub (.t 113) (.c (.v (.int .i64 1))), none⟩, ⟨(some 115), .iaddr 1 (.t 112) (.t 114), none⟩, ⟨(some 116), .load none (.t 115), none⟩, ⟨(some 117), .call (.c (.fn 39 [])) [(.t 108), (.t 116)], none⟩, ⟨(some 118), .not (.t 117), none⟩])
  (.cond (.t 118) (.seq (.region [⟨(some 4), .mv (.c (.v (.bool false))), none⟩])
  .ret)
  .skip))))))))
  (.region [⟨(some 119), .bin .add (.t 63) (.c (.v (.int .i64 1))), none⟩, ⟨(some 63), .mv (.t 119), none⟩])))))))
  (.seq (.draw [⟨0, ⟨(some 120), .mv (.t 5), none⟩, []⟩, ⟨1, ⟨(some 121), .faddr 0 (.t 3), none⟩, []⟩, ⟨2, ⟨(some 122), .load none (.t 121), none⟩, []⟩, ⟨3, ⟨(some 123), .iaddr 1 (.t 120) (.t 122), none⟩, []⟩, ⟨4, ⟨(some 124), .load none (.t 123), none⟩, []⟩, ⟨5, ⟨(some 125), .faddr 0 (.t 3), none⟩, []⟩, ⟨6, ⟨(some 126), .load none (.t 125), none⟩, []⟩, ⟨7, ⟨(some 127), .iaddr 1 (.t 124) (.t 126), none⟩, []⟩, ⟨8, ⟨(some 128), .load none (.t 127), none⟩, []⟩, ⟨9, ⟨(some 129), .faddr 1 (.t 3), none⟩, []⟩, ⟨10, ⟨(some 130), .load none (.t 129), none⟩, []⟩, ⟨11, ⟨(some 131), .bin .eql (.t 128) (.t 130), none⟩, []⟩, ⟨12, ⟨(some 4), .mv (.t 131), none⟩, []⟩])
  .ret))))))))))⟩
theorem a_MatrixRows_ok : cFunc Try.prog 11 = some a_MatrixRows := by kernel_rfl
def r_MatrixRows0 : List (Nat × Nat) := [(4, 4), (10, 12), (63, 119)]
def a_MatrixRows1 : AFunc := ⟨2, 8, [.tmp 3],
  (.seq (.region [⟨(some 3), .mv (.c (.v (.bool false))), none⟩])
  (.seq (.region [⟨(some 4), .mv (.t 0), none⟩, ⟨(some 5), .len (.t 4), none⟩, ⟨(some 6), .load none (.t 1), none⟩, ⟨(some 7), .bin .neq (.t 5) (.t 6), none⟩, ⟨(some 3), .mv (.t 7), none⟩])
  .ret))⟩
theorem a_MatrixRows1_ok : cFunc Try.prog 60 = some a_MatrixRows1 := by kernel_rfl
def a_MatrixRows2 : AFunc := ⟨1, 5, [.tmp 2],
  (.seq (.region [⟨(some 2), .mv (.c (.v (.bool false))), none⟩])
  (.seq (.region [⟨(some 3), .mv (.t 0), none⟩, ⟨(some 4), .bin .neq (.t 3) (.c (.v (.int .i64 0))), none⟩, ⟨(some 2), .mv (.t 4), none⟩])
  .ret))⟩
theorem a_MatrixRows2_ok : cFunc Try.prog 61 = some a_MatrixRows2 := by kernel_rfl

theorem MatrixRows1_spec (x : List Int) (n : Int) (id : Nat) (b : List Row) (hid : b[id]? = some (.live 0 1 [[.v (.int .i64 n)]])) : ACalls Try.prog 60 [.v (.isl 1 (x.map eI)), .ptr id 0 0 0] b [] (fun r b' l' => r = .v (.bool ((x.length : Int) != n)) ∧ b' = b ∧ l' = []) := by
  refine calls_kept a_MatrixRows1_ok rfl (by decide) ?_
  intro B g hB hR hE hA
  simp only [KArgs] at hA
  have hBb : B = b := by rw [hB, List.append_nil]
  have hbase := hget_low (B := B) (hBb.symm ▸ hid)
  simp (disch := (first | decide | omega)) only [a_MatrixRows1, hA, hbase, List.length_map, go_sem]
  exact leave_pure (xs := [.v (.bool ((x.length : Int) != n))]) (.inr rfl) (by simp (disch := (first | decide | omega)) only [resVs, resV, go_sem, hA]) (by simp only [one, AVlt_v, AVlt_any, AVlt_sl, AVlt_ptr, AVlt_mp, AVlt_agg, AVlt_tup, AVlt_fn, RowsLt_nil, RowsLt_live, RowsLt_dead, List.mem_cons, List.not_mem_nil, List.forall_mem_cons, List.forall_mem_nil, or_false, false_or, forall_eq_or_imp, forall_eq, vs_lt, Nat.add_lt_add_iff_left, Nat.reduceLT, true_and, and_true, and_self, List.length_cons, List.length_nil, Nat.reduceAdd, Nat.zero_add, implies_true, false_imp_iff, lt_T, List.mem_map]) hR hB ⟨rfl, rfl, rfl⟩
theorem MatrixRows2_spec (n : Int) (b l : List Row) : ACalls Try.prog 61 [.v (.int .i64 n)] b l (fun r b' l' => r = .v (.bool (n != 0)) ∧ b' = b ∧ l' = l) := by
  refine calls_kept a_MatrixRows2_ok rfl (by decide) ?_
  intro B g hB hR hE hA
  simp only [KArgs] at hA
  simp (disch := (first | decide | omega)) only [a_MatrixRows2, hA, go_sem]
  exact leave_pure (xs := [.v (.bool (n != 0))]) (.inr rfl) (by simp (disch := (first | decide | omega)) only [resVs, resV, go_sem, hA]) (by simp only [one, AVlt_v, AVlt_any, AVlt_sl, AVlt_ptr, AVlt_mp, AVlt_agg, AVlt_tup, AVlt_fn, RowsLt_nil, RowsLt_live, RowsLt_dead, List.mem_cons, List.not_mem_nil, List.forall_mem_cons, List.forall_mem_nil, or_false, false_or, forall_eq_or_imp, forall_eq, vs_lt, Nat.add_lt_add_iff_left, Nat.reduceLT, true_and, and_true, and_self, List.length_cons, List.length_nil, Nat.reduceAdd, Nat.zero_add, implies_true, false_imp_iff, lt_T, List.mem_map]) hR hB ⟨rfl, rfl, rfl⟩
set_option maxRecDepth 20000 in
set_option maxHeartbeats 2000000 in
theorem matrixRows_run (t : Tr) (x : Int × Int) (hg : OkTr t) (b l : List Row) :
    ACalls Try.prog 11 [.agg [.v (eT t)], idP x] b l (fun r b' l' => r = .v (.bool true) ∧ b' = b ∧ l' = l) := by
  refine calls_kept a_MatrixRows_ok rfl (by decide) ?_
  intro B g hB hR hE hA
  simp only [KArgs] at hA
  have hN := hg.nm
  simp (disch := decide) only [a_MatrixRows, hA, idP, go_sem]
  refine ACalls.nxt (awake16_spec _ _) ?_
  simp (disch := decide) only [hA, go_sem]
  refine ACalls.nxt (small16_spec t (okTr_len hg) _ _) ?_
  cases hf : sm16B t with
  | false =>
    simp (disch := decide) only [hA, go_sem]
    exact leave_pure (xs := [.v (.bool true)]) (.inr rfl) (by simp (disch := (first | decide | omega)) only [resVs, resV, go_sem, hA]) (by simp only [one, AVlt_v, AVlt_any, AVlt_sl, AVlt_ptr, AVlt_mp, AVlt_agg, AVlt_tup, AVlt_fn, RowsLt_nil, RowsLt_live, RowsLt_dead, List.mem_cons, List.not_mem_nil, List.forall_mem_cons, List.forall_mem_nil, or_false, false_or, forall_eq_or_imp, forall_eq, vs_lt, Nat.add_lt_add_iff_left, Nat.reduceLT, true_and, and_true, and_self, List.length_cons, List.length_nil, Nat.reduceAdd, Nat.zero_add, implies_true, false_imp_iff, lt_T, List.mem_map]) hR hB ⟨rfl, rfl, rfl⟩
  | true =>
    have hM := sm16_sm (okTr_len hg) hf
    simp (disch := decide) only [hA, go_sem]
    refine ACalls.nxt (rvalid_specS t hM hN _ _) ?_
    cases hval : validL t with
    | false =>
      simp (disch := decide) only [hA, go_sem]
      exact leave_pure (xs := [.v (.bool true)]) (.inr rfl) (by simp (disch := (first | decide | omega)) only [resVs, resV, go_sem, hA]) (by simp only [one, AVlt_v, AVlt_any, AVlt_sl, AVlt_ptr, AVlt_mp, AVlt_agg, AVlt_tup, AVlt_fn, RowsLt_nil, RowsLt_live, RowsLt_dead, List.mem_cons, List.not_mem_nil, List.forall_mem_cons, List.forall_mem_nil, or_false, false_or, forall_eq_or_imp, forall_eq, vs_lt, Nat.add_lt_add_iff_left, Nat.reduceLT, true_and, and_true, and_self, List.length_cons, List.length_nil, Nat.reduceAdd, Nat.zero_add, implies_true, false_imp_iff, lt_T, List.mem_map]) hR hB ⟨rfl, rfl, rfl⟩
    | true =>
      have hv := vok hval
      have hS := hM.small hv.head
      have h8 := hv.hi
      have hn0 : ((0 : Int) != 0) = false := rfl
      have hn2 : ((2 : Int) != 0) = true := rfl
      simp (disch := decide) only [hA, go_sem]
      refine ACalls.nxt (At_spec t hM hN x _ _) ?_
      unfold AtR
      rw [if_pos hval]
      by_cases hin : inT t x
      case neg =>
        rw [if_neg hin]
        simp (disch := (first | decide | omega)) only [hA, hn2, go_sem]
        exact leave_pure (xs := [.v (.bool true)]) (.inr rfl) (by simp (disch := (first | decide | omega)) only [resVs, resV, go_sem, hA]) (by simp only [one, AVlt_v, AVlt_any, AVlt_sl, AVlt_ptr, AVlt_mp, AVlt_agg, AVlt_tup, AVlt_fn, RowsLt_nil, RowsLt_live, RowsLt_dead, List.mem_cons, List.not_mem_nil, List.forall_mem_cons, List.forall_mem_nil, or_false, false_or, forall_eq_or_imp, forall_eq, vs_lt, Nat.add_lt_add_iff_left, Nat.reduceLT, true_and, and_true, and_self, List.length_cons, List.length_nil, Nat.reduceAdd, Nat.zero_add, implies_true, false_imp_iff, lt_T, List.mem_map]) hR hB ⟨rfl, rfl, rfl⟩
      rw [if_pos hin]
      obtain ⟨i1, i2, i3, i4⟩ := hin
      obtain ⟨x1, x2⟩ := x
      simp only at i1 i2 i3 i4
      obtain ⟨p, rfl⟩ : ∃ p : Nat, x1 = p := ⟨x1.toNat, by omega⟩
      obtain ⟨i0, rfl⟩ : ∃ i : Nat, x2 = i := ⟨x2.toNat, by omega⟩
      simp only [Int.toNat_natCast] at i4 ⊢
      have hp : p < t.length := by omega
      have hi0 : i0 ≤ (evsOf t p).length := by omega
      have hnn : ∀ n : Int, (n != n) = false := fun n => by simp
      have hvl : ∀ z, (vcs t z).length = t.length := fun z => fl_len
      have hml : (mtx t (p, i0)).length = t.length := mtx_len
      simp (disch := (first | decide | omega)) only [hA, hn0, go_sem]
      refine ACalls.nxt (vStamps_spec t hS hN _ _) ?_
      rw [if_pos hval]
      simp (disch := (first | decide | omega)) only [hA, hn0, eT, eMt, List.length_map, hml, stL_len, hnn, go_sem]
      refine ACalls.nxt (containsM_spec (mtx t (p, i0)) _ [.ptr (B.length + 2) 0 0 0] (fun k => ((t.length : Int) != (t.length : Int))) (by rw [hml]; omega) _ _ (fun k hk => by
        have := MatrixRows1_spec ((mtx t (p, i0))[k]) (t.length : Int) (B.length + 2) (B ++ [.live 0 1 [[.v (.isl 3 (t.map ePr))]], .live 0 2 [[.v (.int .i64 p), .v (.int .i64 i0)]], .live 0 1 [[.v (.int .i64 (t.length : Int))]]]) (by rw [List.getElem?_append_right (by omega), Nat.add_sub_cancel_left]; rfl)
        have e : ((mtx t (p, i0))[k]).length = t.length := by
          have : (mtx t (p, i0))[k] = vcs t (k, vc t (p, i0) k) := fl_getE hk
          rw [this, hvl]
        rw [e] at this
        exact this)) ?_
      rw [any_no (fun k _ => hnn _)]
      simp (disch := (first | decide | omega)) only [hA, List.length_map, hml, go_sem]
      refine loop_kept (ι := Nat) r_MatrixRows0 (fun q => [(63, .v (.int .i64 q))]) 3 (fun q => [.live 0 1 [[.v (.isl 3 (t.map ePr))]], .live 0 2 [[.v (.int .i64 p), .v (.int .i64 i0)]], .live 0 1 [[.v (.int .i64 (t.length : Int))]]])
        (fun q => q ≤ t.length) (fun q => t.length - q) 0 (Nat.zero_le _) (by (repeat (first | exact hE.mono (by omega) | refine KLt.up ?_ (by simp (disch := omega) only [AVlt_v, AVlt_any, AVlt_sl, AVlt_ptr, AVlt_mp, AVlt_agg, AVlt_tup, AVlt_fn, RowsLt_nil, RowsLt_live, RowsLt_dead, List.mem_cons, List.not_mem_nil, List.forall_mem_cons, List.forall_mem_nil, or_false, false_or, forall_eq_or_imp, forall_eq, vs_lt, Nat.add_lt_add_iff_left, Nat.reduceLT, true_and, and_true, and_self, List.length_cons, List.length_nil, Nat.reduceAdd, Nat.zero_add, implies_true, false_imp_iff, lt_T, List.mem_map])))) (by ((try simp (disch := decide) only [hA, go_sem]) <;> (repeat' (first | exact trivial | refine And.intro ?_ ?_)) <;> (first | rfl | (congr 2; omega)))) (fun e => Weak.refl _ _ _) ?_
      intro g1 hE1 hEE1 hg1 q hq
      have hpm : p < (mtx t (p, i0)).length := by rw [hml]; exact hp
      have hpr : ∀ h, (mtx t (p, i0))[p]'h = vcs t (p, i0) := fun h => by rw [mtx_at, vc_self hv hp hi0]
      by_cases hql : q < t.length
      · have hqm : q < (mtx t (p, i0)).length := by rw [hml]; exact hql
        have hqv : q < (vcs t (p, i0)).length := by rw [hvl]; exact hql
        have hqs : q < (stL t).length := by rw [stL_len]; exact hql
        have hqr : ∀ h, (mtx t (p, i0))[q]'h = vcs t (q, vc t (p, i0) q) := mtx_at
        have hqk : ∀ h, (vcs t (p, i0))[q]'h = (vc t (p, i0) q : Int) := fun h => fl_getE h
        have hsq : ∀ h, (stL t)[q]'h = fl (evsOf t q).length fun k => vcs t (q, k + 1) := fun h => fl_getE h
        have hqe := evsOf_lt hql
        have hvq := vc_le (t := t) (x := (p, i0)) (q := q)
        have hne := hS.ne _ (List.getElem_mem hql)
        rw [hqe] at hvq
        have d1 : decide ((vc t (p, i0) q : Int) < 0) = false := decide_eq_false (by omega)
        have d2 : decide ((vc t (p, i0) q : Int) > (t[q].evs.length : Int)) = false := decide_eq_false (by omega)
        have d2' : decide ((t[q].evs.length : Int) < (vc t (p, i0) q : Int)) = false := d2
        by_cases h0 : vc t (p, i0) q = 0
        · have hz : ((vc t (p, i0) q : Int) == 0) = true := by rw [h0]; rfl
          have hz0 : ((((0 : Nat) : Int)) == 0) = true := rfl
          simp (disch := (first | decide | omega)) only [hA, hg1, hpr, hqr, hqk, hsq, eRw, eI, eMx, ePr, d1, d2, d2', hqe, fl_len, List.length_map, hnn, hz, go_sem]
          refine ACalls.nxt (contains1_spec (vcs t (q, vc t (p, i0) q)) _ [] (fun k => ((vcs t (q, vc t (p, i0) q)).getD k 0 != 0)) (by rw [hvl]; omega) _ _ (fun k hk => by rw [getD_at hk]; exact MatrixRows2_spec _ _ _)) ?_
          rw [any_no (fun k hk => by
            rw [hvl] at hk
            rw [show (vcs t (q, vc t (p, i0) q)).getD k 0 = (vc t (q, vc t (p, i0) q) k : Int) from fl_getD hk, h0, vc_zero]; rfl)]
          simp (disch := (first | decide | omega)) only [hA, hg1, go_sem]
          refine ⟨q + 1, hql, by simp only; omega, ?_⟩
          exact Weak.kround (p := r_MatrixRows0) (k := 3) (by ((repeat refine (kAny_up rfl).trans ?_); exact hEE1)) (by ((try simp (disch := decide) only [hA, go_sem]) <;> (repeat' (first | exact trivial | refine And.intro ?_ ?_)) <;> (first | rfl | (congr 2; omega)))) rfl hE1 (by simp) (by simp (disch := omega) only [KOvLt, AVlt_v, AVlt_any, AVlt_sl, AVlt_ptr, AVlt_mp, AVlt_agg, AVlt_tup, AVlt_fn, RowsLt_nil, RowsLt_live, RowsLt_dead, List.mem_cons, List.not_mem_nil, List.forall_mem_cons, List.forall_mem_nil, or_false, false_or, forall_eq_or_imp, forall_eq, vs_lt, Nat.add_lt_add_iff_left, Nat.reduceLT, true_and, and_true, and_self, List.length_cons, List.length_nil, Nat.reduceAdd, Nat.zero_add, implies_true, false_imp_iff, lt_T, List.mem_map]) hR (by simp (disch := omega) only [AVlt_v, AVlt_any, AVlt_sl, AVlt_ptr, AVlt_mp, AVlt_agg, AVlt_tup, AVlt_fn, RowsLt_nil, RowsLt_live, RowsLt_dead, List.mem_cons, List.not_mem_nil, List.forall_mem_cons, List.forall_mem_nil, or_false, false_or, forall_eq_or_imp, forall_eq, vs_lt, Nat.add_lt_add_iff_left, Nat.reduceLT, true_and, and_true, and_self, List.length_cons, List.length_nil, Nat.reduceAdd, Nat.zero_add, implies_true, false_imp_iff, lt_T, List.mem_map])
        · obtain ⟨d, hd⟩ : ∃ d, vc t (p, i0) q = d + 1 := ⟨vc t (p, i0) q - 1, by omega⟩
          have hz : ((vc t (p, i0) q : Int) == 0) = false := beq_eq_false_iff_ne.2 (by omega)
          have hc1 : (vc t (p, i0) q : Int) - 1 = (d : Int) := by omega
          have hdl : d < (fl (evsOf t q).length fun k => vcs t (q, k + 1)).length := by rw [fl_len, hqe]; omega
          have hdr : ∀ h, (fl (evsOf t q).length fun k => vcs t (q, k + 1))[d]'h = vcs t (q, vc t (p, i0) q) := fun h => by rw [fl_getE, hd]
          have hne3 : (((evsOf t q).length : Int) != (t[q].evs.length : Int)) = false := by rw [hqe]; simp
          simp (disch := (first | decide | omega)) only [hA, hg1, hpr, hqr, hqk, hsq, eRw, eI, eMx, ePr, d1, d2, d2', fl_len, List.length_map, hnn, hne3, hz, hc1, hdr, go_sem]
          refine ACalls.nxt (eq1_spec (vcs t (q, vc t (p, i0) q)) (vcs t (q, vc t (p, i0) q)) (by rw [hvl]; omega) _ _) ?_
          rw [decide_eq_true rfl]
          simp (disch := (first | decide | omega)) only [hA, hg1, go_sem]
          refine ⟨q + 1, hql, by simp only; omega, ?_⟩
          exact Weak.kround (p := r_MatrixRows0) (k := 3) (by ((repeat refine (kAny_up rfl).trans ?_); exact hEE1)) (by ((try simp (disch := decide) only [hA, go_sem]) <;> (repeat' (first | exact trivial | refine And.intro ?_ ?_)) <;> (first | rfl | (congr 2; omega)))) rfl hE1 (by simp) (by simp (disch := omega) only [KOvLt, AVlt_v, AVlt_any, AVlt_sl, AVlt_ptr, AVlt_mp, AVlt_agg, AVlt_tup, AVlt_fn, RowsLt_nil, RowsLt_live, RowsLt_dead, List.mem_cons, List.not_mem_nil, List.forall_mem_cons, List.forall_mem_nil, or_false, false_or, forall_eq_or_imp, forall_eq, vs_lt, Nat.add_lt_add_iff_left, Nat.reduceLT, true_and, and_true, and_self, List.length_cons, List.length_nil, Nat.reduceAdd, Nat.zero_add, implies_true, false_imp_iff, lt_T, List.mem_map]) hR (by simp (disch := omega) only [AVlt_v, AVlt_any, AVlt_sl, AVlt_ptr, AVlt_mp, AVlt_agg, AVlt_tup, AVlt_fn, RowsLt_nil, RowsLt_live, RowsLt_dead, List.mem_cons, List.not_mem_nil, List.forall_mem_cons, List.forall_mem_nil, or_false, false_or, forall_eq_or_imp, forall_eq, vs_lt, Nat.add_lt_add_iff_left, Nat.reduceLT, true_and, and_true, and_self, List.length_cons, List.length_nil, Nat.reduceAdd, Nat.zero_add, implies_true, false_imp_iff, lt_T, List.mem_map])
      · simp (disch := (first | decide | omega)) only [hA, hg1, go_sem]
        have hpv : p < (vcs t (p, i0)).length := by rw [hvl]; exact hp
        have hpk : ∀ h, (vcs t (p, i0))[p]'h = (i0 : Int) := fun h => by
          have : (vcs t (p, i0))[p]'h = (vc t (p, i0) p : Int) := fl_getE h
          rw [this, vc_self hv hp hi0]
        have hee : ∀ n : Int, (n == n) = true := fun n => by simp
        simp (disch := (first | decide | omega)) only [hA, hg1, hpr, eRw, eI, hpk, hee, go_sem]
        exact leave_pure (xs := [.v (.bool true)]) (.inr rfl) (by simp (disch := (first | decide | omega)) only [resVs, resV, go_sem, hA, hg1]) (by simp only [one, AVlt_v, AVlt_any, AVlt_sl, AVlt_ptr, AVlt_mp, AVlt_agg, AVlt_tup, AVlt_fn, RowsLt_nil, RowsLt_live, RowsLt_dead, List.mem_cons, List.not_mem_nil, List.forall_mem_cons, List.forall_mem_nil, or_false, false_or, forall_eq_or_imp, forall_eq, vs_lt, Nat.add_lt_add_iff_left, Nat.reduceLT, true_and, and_true, and_self, List.length_cons, List.length_nil, Nat.reduceAdd, Nat.zero_add, implies_true, false_imp_iff, lt_T, List.mem_map]) hR hB ⟨rfl, rfl, rfl⟩
end Go.Proofs.Ytoaopldaleaijaa
