/- Texts of one proof, laid together: MD. No condition. -/
import Derived.Test.YtoaopldaleaijaaSB9
namespace Go.Proofs.Ytoaopldaleaijaa
set_option linter.unusedVariables false
set_option linter.unusedSimpArgs false
attribute [local go_sem ↓] run_skip run_region run_draw run_seq run_block run_exit run_ret run_cond atN_app seqC_normal seqC_exit seqC_ret seqQ_normal seqQ_exit seqQ_ret blkQ_normal blkQ_exit blkQ_ret runOps_nil runOps_cons runD_nil runD_cons grdO_true grdO_false grdD_true grdD_false ifC_true ifC_false opS_val opS_call opS_two opK_app dS_val dS_call dS_two dK_app kUp_same kUp_ne
attribute [local go_sem] rechks_nil rechks_cons rechk gcase_true gcase_false ex_val ex_val0 gd_none gd_some ev_t ev_c evs_nil evs_cons evo_some evo_none hget_at hget_first hsetB_at hsetB_first hsetL_at hsetL_first ofOpt_some aop aload astore aslice aappend aiaddr aiaddrA afaddr alen alenS acopy amm acall alookup amupdate alenM comma keyEq apick binV binVB binVS isSh intOp strOp boolOp shOp eqC eqF and2 cellsOf setFrom fillA fillS rd rdI elems mk bounds AV.cell List.all_cons List.all_nil Bool.and_true Bool.true_and Bool.and_self List.length_cons List.length_nil List.length_append Nat.reduceAdd Nat.reduceSub Nat.reduceMul Nat.zero_add Nat.add_zero List.cons_append List.nil_append List.append_assoc List.append_nil List.getElem?_cons_zero List.getElem?_cons_succ List.getElem?_nil List.set_cons_zero List.set_cons_succ List.drop_zero List.drop_succ_cons List.take_zero List.take_succ_cons List.take_nil List.drop_nil List.map_cons List.map_nil Option.map_some if_true if_false Bool.false_eq_true and_self true_and and_true Nat.reduceLeDiff Nat.reduceLT Nat.le_refl Nat.reduceEqDiff ite_true ite_false beq_self_eq_true beq_true beq_false Bool.not_true Bool.not_false Bool.true_beq Bool.false_beq map_vs vs_len vs_get vs_take vs_drop vs_snoc1 vs_snoc2 vs_snoc3 vs_snoc5 vs_set1 vs_set2 vs_rep wrap_id le_T lt_T le_F lt_F leI_T ltI_T leI_F ltI_F geI gtI get_T decide_true decide_false room List.getElem?_map List.length_map List.length_take Int.toNat_natCast Nat.min_def Nat.min_self nth_kOf put_kOf put_kNo kOv_cons kOv_nil KHas KArgs List.getElem_cons_zero List.getElem_cons_succ
def a_MatrixGrows : AFunc := ⟨3, 141, [.tmp 6],
  (.seq (.region [⟨(some 3), .box (.t 0), none⟩, ⟨(some 4), .box (.t 1), none⟩, ⟨(some 5), .box (.t 2), none⟩, ⟨(some 6), .mv (.c (.v (.bool false))), none⟩])
  (.seq (.seq (.region [⟨(some 14), .call (.c (.fn 53 [])) [], none⟩, ⟨(some 15), .not (.t 14), none⟩])
  (.cond (.t 15) (.seq (.region [⟨(some 6), .mv (.c (.v (.bool false))), none⟩])
  .ret)
  .skip))
  (.seq (.seq (.region [⟨(some 16), .load (some 1) (.t 3), none⟩, ⟨(some 17), .call (.c (.fn 54 [])) [(.t 16)], none⟩, ⟨(some 18), .not (.t 17), none⟩, ⟨(some 19), .mv (.t 18), none⟩, ⟨(some 20), .load (some 1) (.t 3), some (19, false)⟩, ⟨(some 21), .call (.c (.fn 17 [])) [(.t 20)], some (19, false)⟩, ⟨(some 22), .not (.t 21), some (19, false)⟩, ⟨(some 23), .pick (.t 19) (.c (.v (.bool true))) (.t 22), none⟩])
  (.cond (.t 23) (.seq (.region [⟨(some 6), .mv (.c (.v (.bool true))), none⟩])
  .ret)
  .skip))
  (.seq (.region [⟨(some 25), .load (some 1) (.t 3), none⟩, ⟨(some 26), .load (some 2) (.t 4), none⟩, ⟨(some 27), .load (some 2) (.t 5), none⟩, ⟨(some 28), .call (.c (.fn 23 [])) [(.t 25), (.t 26), (.t 27)], none⟩, ⟨(some 24), .mv (.t 28), none⟩, ⟨(some 29), .extract 0 (.t 24), none⟩, ⟨(some 30), .extract 1 (.t 24), none⟩, ⟨(some 7), .mv (.t 29), none⟩, ⟨(some 8), .mv (.t 30), none⟩])
  (.seq (.seq (.region [⟨(some 31), .mv (.t 8), none⟩, ⟨(some 32), .bin .neq (.t 31) (.c (.v (.int .i64 0))), none⟩, ⟨(some 33), .mv (.t 32), none⟩, ⟨(some 34), .mv (.t 7), some (33, false)⟩, ⟨(some 35), .not (.t 34), some (33, false)⟩, ⟨(some 36), .pick (.t 33) (.c (.v (.bool true))) (.t 35), none⟩])
  (.cond (.t 36) (.seq (.region [⟨(some 6), .mv (.c (.v (.bool true))), none⟩])
  .ret)
  .skip))
  (.seq (.region [⟨(some 38), .load (some 1) (.t 3), none⟩, ⟨(some 39), .load (some 2) (.t 4), none⟩, ⟨(some 40), .call (.c (.fn 55 [])) [(.t 38), (.t 39)], none⟩, ⟨(some 37), .mv (.t 40), none⟩, ⟨(some 41), .extract 0 (.t 37), none⟩, ⟨(some 42), .extract 1 (.t 37), none⟩, ⟨(some 9), .mv (.t 41), none⟩, ⟨(some 8), .mv (.t 42), none⟩])
  (.seq (.region [⟨(some 44), .load (some 1) (.t 3), none⟩, ⟨(some 45), .load (some 2) (.t 5), none⟩, ⟨(some 46), .call (.c (.fn 55 [])) [(.t 44), (.t 45)], none⟩, ⟨(some 43), .mv (.t 46), none⟩, ⟨(some 47), .extract 0 (.t 43), none⟩, ⟨(some 48), .extract 1 (.t 43), none⟩, ⟨(some 10), .mv (.t 47), none⟩, ⟨(some 11), .mv (.t 48), none⟩])
  (.seq (.seq (.region [⟨(some 49), .mv (.t 8), none⟩, ⟨(some 50), .bin .neq (.t 49) (.c (.v (.int .i64 0))), none⟩, ⟨(some 51), .mv (.t 50), none⟩, ⟨(some 52), .mv (.t 11), some (51, false)⟩, ⟨(some 53), .bin .neq (.t 52) (.c (.v (.int .i64 0))), some (51, false)⟩, ⟨(some 54), .pick (.t 51) (.c (.v (.bool true))) (.t 53), none⟩, ⟨(some 55), .mv (.t 54), none⟩, ⟨(some 56), .mv (.t 9), some (55, false)⟩, ⟨(some 57), .len (.t 56), some (55, false)⟩, ⟨(some 58), .faddr 0 (.t 3), some (55, false)⟩, ⟨(some 59), .load none (.t 58), some (55, false)⟩, ⟨(some 60), .len (.t 59), some (55, false)⟩, ⟨(some 61), .bin .neq (.t 57) (.t 60), some (55, false)⟩, ⟨(some 62), .pick (.t 55) (.c (.v (.bool true))) (.t 61), none⟩, ⟨(some 63), .mv (.t 62), none⟩, ⟨(some 64), .mv (.t 10), some (63, false)⟩, ⟨(some 65), .len (.t 64), some (63, false)⟩, ⟨(some 66), .mv (.t 9), some (63, false)⟩, ⟨(some 67), .len (.t 66), some (63, false)⟩, ⟨(some 68), .bin .neq (.t 65) (.t 67), some (63, false)⟩, ⟨(some 69), .pick (.t 63) (.c (.v (.bool true))) (.t 68), none⟩])
  (.cond (.t 69) (.seq (.region [⟨(some 6), .mv (.c (.v (.bool false))), none⟩])
  .ret)
  .skip))
  (.seq (.seq (.region [⟨(some 70), .mv (.t 9), none⟩, ⟨(some 71), .len (.t 70), none⟩, ⟨(some 72), .mv (.c (.v (.int .i64 0))), none⟩])
  (.block 0 (.loop (.seq (.region [⟨(some 73), .bin .lss (.t 72) (.t 71), none⟩])
  (.seq (.cond (.t 73) .skip
  (.exit 0))
  (.seq (.block 1 (.seq (.region [⟨(some 74), .mv (.t 72), none⟩, ⟨(some 12), .mv (.t 74), none⟩])
  (.seq (.seq (.region [⟨(some 75), .mv (.t 9), none⟩, ⟨(some 76), .mv (.t 12), none⟩, ⟨(some 77), .iaddr 1 (.t 75) (.t 76), none⟩, ⟨(some 78), .load none (.t 77), none⟩, ⟨(some 79), .len (.t 78), none⟩, ⟨(some 80), .mv (.t 9), none⟩, ⟨(some 81), .len (.t 80), none⟩, ⟨(some 82), .bin .neq (.t 79) (.t 81), none⟩, ⟨(some 83), .mv (.t 82), none⟩, ⟨(some 84), .mv (.t 10), some (83, false)⟩, ⟨(some 85), .mv (.t 12), some (83, false)⟩, ⟨(some 86), .iaddr 1 (.t 84) (.t 85), some (83, false)⟩, ⟨(some 87), .load none (.t 86), some (83, false)⟩, ⟨(some 88), .len (.t 87), some (83, false)⟩, ⟨(some 89), .mv (.t 9), some (83, false)⟩, ⟨(some 90), .len (.t 89), some (83, false)⟩, ⟨(some 91), .bin .neq (.t 88) (.t 90), some (83, false)⟩, ⟨(some 92), .pick (.t 83) (.c (.v (.bool true))) (.t 91), none⟩])
  (.cond (.t 92) (.seq (.region [⟨(some 6), .mv (.c (.v (.bool false))), none⟩])
  .ret)
  .skip))
  (.seq (.region [⟨(some 93), .mv (.t 9), none⟩, ⟨(some 94), .len (.t 93), none⟩, ⟨(some 95), .mv (.c (.v (.int .i64 0))), none⟩])
  (.block 2 (.loop (.seq (.region [⟨(some 96), .bin .lss (.t 95) (.t 94), none⟩])
  (.seq (.cond (.t 96) .skip
  (.exit 2))
  (.seq (.block 3 (.seq (.region [⟨(some 97), .mv (.t 95), none⟩, ⟨(some 13), .mv (.t 97), none⟩])
  (.seq (.draw [⟨0, ⟨(some 98), .mv (.t 9), none⟩, []⟩, ⟨1, ⟨(some 99), .mv (.t 12), none⟩, []⟩, ⟨2, ⟨(some 100), .iaddr 1 (.t 98) (.t 99), none⟩, []⟩, ⟨3, ⟨(some 101), .load none (.t 100), none⟩, []⟩, ⟨4, ⟨(some 102), .mv (.t 13), none⟩, []⟩, ⟨5, ⟨(some 103), .iaddr 1 (.t 101) (.t 102), none⟩, []⟩, ⟨6, ⟨(some 104), .load none (.t 103), none⟩, []⟩, ⟨7, ⟨(some 105), .mv (.t 10), none⟩, []⟩, ⟨8, ⟨(some 106), .mv (.t 12), none⟩, []⟩, ⟨9, ⟨(some 107), .iaddr 1 (.t 105) (.t 106), none⟩, []⟩, ⟨10, ⟨(some 108), .load none (.t 107), none⟩, []⟩, ⟨11, ⟨(some 109), .mv (.t 13), none⟩, []⟩, ⟨12, ⟨(some 110), .iaddr 1 (.t 108) (.t 109), none⟩, []⟩, ⟨13, ⟨(some 111), .load none (.t 110), none⟩, []⟩, ⟨14, ⟨(some 112), .bin .gtr (.t 104) (.t 111), none⟩, []⟩])
  (.cond (.t 112) (.seq (.region [⟨(some 6), .mv (.c (.v (.bool false))), none⟩])
  .ret)
  .skip))))
  (.region [⟨(some 113), .bin .add (.t 95) (.c (.v (.int .i64 1))), none⟩, ⟨(some 95), .mv (.t 113), none⟩]))))))))))
  (.region [⟨(some 114), .bin .add (.t 72) (.c (.v (.int .i64 1))), none⟩, ⟨(some 72), .mv (.t 114), none⟩])))))))
  (.seq (.draw [⟨0, ⟨(some 115), .faddr 0 (.t 4), none⟩, []⟩, ⟨1, ⟨(some 116), .load none (.t 115), none⟩, []⟩, ⟨2, ⟨(some 117), .faddr 0 (.t 5), none⟩, []⟩, ⟨3, ⟨(some 118), .load none (.t 117), none⟩, []⟩, ⟨4, ⟨(some 119), .bin .neq (.t 116) (.t 118), none⟩, []⟩, ⟨5, ⟨(some 120), .mv (.t 119), none⟩, []⟩, ⟨6, ⟨(some 121), .mv (.t 9), some (120, false)⟩, []⟩, ⟨7, ⟨(some 122), .faddr 0 (.t 4), some (120, false)⟩, []⟩, ⟨8, ⟨(some 123), .load none (.t 122), some (120, false)⟩, []⟩, ⟨9, ⟨(some 124), .iaddr 1 (.t 121) (.t 123), some (120, false)⟩, []⟩, ⟨10, ⟨(some 125), .load none (.t 124), some (120, false)⟩, []⟩, ⟨11, ⟨(some 126), .faddr 0 (.t 4), some (120, false)⟩, []⟩, ⟨12, ⟨(some 127), .load none (.t 126), some (120, false)⟩, []⟩, ⟨13, ⟨(some 128), .iaddr 1 (.t 125) (.t 127), some (120, false)⟩, []⟩, ⟨14, ⟨(some 129), .load none (.t 128), some (120, false)⟩, []⟩, ⟨15, ⟨(some 130), .mv (.t 10), some (120, false)⟩, []⟩, ⟨16, ⟨(some 131), .faddr 0 (.t 4), some (120, false)⟩, []⟩, ⟨17, ⟨(some 132), .load none (.t 131), some (120, false)⟩, []⟩, ⟨18, ⟨(some 133), .iaddr 1 (.t 130) (.t 132), some (120, false)⟩, []⟩, ⟨19, ⟨(some 134), .load none (.t 133), some (120, false)⟩, []⟩, ⟨20, ⟨(some 135), .faddr 0 (.t 4), some (120, false)⟩, []⟩, ⟨21, ⟨(some 136), .load none (.t 135), some (120, false)⟩, []⟩, ⟨22, ⟨(some 137), .iaddr 1 (.t 134) (.t 136), some (120, false)⟩, []⟩, ⟨23, ⟨(some 138), .load none (.t 137), some (120, false)⟩, []⟩, ⟨24, ⟨(some 139), .bin .lss (.t 129) (.t 138), some (120, false)⟩, []⟩, ⟨25, ⟨(some 140), .pick (.t 120) (.c (.v (.bool true))) (.t 139), none⟩, []⟩, ⟨26, ⟨(some 6), .mv (.t 140), none⟩, []⟩])
  .ret))))))))))⟩
theorem a_MatrixGrows_ok : cFunc Try.prog 12 = some a_MatrixGrows := by kernel_rfl
def r_MatrixGrows0 : List (Nat × Nat) := [(6, 6), (12, 13), (72, 114)]
def r_MatrixGrows1 : List (Nat × Nat) := [(6, 6), (13, 13), (95, 113)]

set_option maxRecDepth 20000 in
set_option maxHeartbeats 2000000 in
theorem matrixGrows_run (t : Tr) (x y : Int × Int) (hg : OkTr t) (b l : List Row) :
    ACalls Try.prog 12 [.agg [.v (eT t)], idP x, idP y] b l (fun r b' l' => r = .v (.bool true) ∧ b' = b ∧ l' = l) := by
  refine calls_kept a_MatrixGrows_ok rfl (by decide) ?_
  intro B g hB hR hE hA
  simp only [KArgs] at hA
  have hN := hg.nm
  simp (disch := decide) only [a_MatrixGrows, hA, idP, go_sem]
  refine ACalls.nxt (awake16_spec _ _) ?_
  simp (disch := decide) only [hA, go_sem]
  refine ACalls.nxt (small16_spec t (okTr_len hg) _ _) ?_
  cases hf : sm16B t with
  | false =>
    simp (disch := decide) only [hA, go_sem]
    exact leave_pure (xs := [.v (.bool true)]) (.inr rfl) (by simp (disch := (first | decide | omega)) only [resVs, resV, go_sem, hA]) (by simp only [one, AVlt_v, AVlt_any, AVlt_sl, AVlt_ptr, AVlt_mp, AVlt_agg, AVlt_tup, AVlt_fn, RowsLt_nil, RowsLt_live, RowsLt_dead, List.mem_cons, List.not_mem_nil, List.forall_mem_cons, List.forall_mem_nil, or_false, false_or, forall_eq_or_imp, forall_eq, vs_lt, Nat.add_lt_add_iff_left, Nat.reduceLT, true_and, and_true, and_self, List.length_cons, List.length_nil, Nat.reduceAdd, Nat.zero_add, implies_true, false_imp_iff, lt_T, List.mem_map]) hR hB ⟨rfl, rfl, rfl⟩
  | true =>
    have hM := sm16_sm (okTr_len hg) hf
    simp (disch := decide) only [hA, go_sem]
    refine ACalls.nxt (rvalid_specS t hM hN _ _) ?_
    cases hval : validL t with
    | false =>
      simp (disch := decide) only [hA, go_sem]
      exact leave_pure (xs := [.v (.bool true)]) (.inr rfl) (by simp (disch := (first | decide | omega)) only [resVs, resV, go_sem, hA]) (by simp only [one, AVlt_v, AVlt_any, AVlt_sl, AVlt_ptr, AVlt_mp, AVlt_agg, AVlt_tup, AVlt_fn, RowsLt_nil, RowsLt_live, RowsLt_dead, List.mem_cons, List.not_mem_nil, List.forall_mem_cons, List.forall_mem_nil, or_false, false_or, forall_eq_or_imp, forall_eq, vs_lt, Nat.add_lt_add_iff_left, Nat.reduceLT, true_and, and_true, and_self, List.length_cons, List.length_nil, Nat.reduceAdd, Nat.zero_add, implies_true, false_imp_iff, lt_T, List.mem_map]) hR hB ⟨rfl, rfl, rfl⟩
    | true =>
      have hv := vok hval
      have hS := hM.small hv.head
      have h8 := hv.hi
      have hC : (ids t).length ≤ 1000000 := ids_valid hv
      have hn0 : ((0 : Int) != 0) = false := rfl
      simp (disch := decide) only [hA, go_sem]
      refine ACalls.nxt (Before_spec t hS hN (fun _ => hC) x y _ _) ?_
      by_cases h0 : chkE t [x, y] = 0
      case neg =>
        have hn1 : (chkE t [x, y] != 0) = true := by simpa using h0
        unfold befR
        rw [decide_eq_false h0, Bool.false_and]
        simp (disch := (first | decide | omega)) only [hA, hn1, go_sem]
        exact leave_pure (xs := [.v (.bool true)]) (.inr rfl) (by simp (disch := (first | decide | omega)) only [resVs, resV, go_sem, hA]) (by simp only [one, AVlt_v, AVlt_any, AVlt_sl, AVlt_ptr, AVlt_mp, AVlt_agg, AVlt_tup, AVlt_fn, RowsLt_nil, RowsLt_live, RowsLt_dead, List.mem_cons, List.not_mem_nil, List.forall_mem_cons, List.forall_mem_nil, or_false, false_or, forall_eq_or_imp, forall_eq, vs_lt, Nat.add_lt_add_iff_left, Nat.reduceLT, true_and, and_true, and_self, List.length_cons, List.length_nil, Nat.reduceAdd, Nat.zero_add, implies_true, false_imp_iff, lt_T, List.mem_map]) hR hB ⟨rfl, rfl, rfl⟩
      obtain ⟨_, hall⟩ := chkE_zero.1 h0
      obtain ⟨p, i, e1, e2, hx⟩ := existsB_in (hall x (by simp))
      obtain ⟨q, j, e3, e4, hy⟩ := existsB_in (hall y (by simp))
      obtain ⟨x1, x2⟩ := x
      obtain ⟨y1, y2⟩ := y
      simp only at e1 e2 e3 e4
      subst e1; subst e2; subst e3; subst e4
      rw [show befR t ((p : Int), ((i + 1 : Nat) : Int)) ((q : Int), ((j + 1 : Nat) : Int)) = _ from befR_ids hval hx hy]
      cases hb : befB t (p, i + 1) (q, j + 1) with
      | false =>
        simp (disch := (first | decide | omega)) only [hA, hn0, go_sem]
        exact leave_pure (xs := [.v (.bool true)]) (.inr rfl) (by simp (disch := (first | decide | omega)) only [resVs, resV, go_sem, hA]) (by simp only [one, AVlt_v, AVlt_any, AVlt_sl, AVlt_ptr, AVlt_mp, AVlt_agg, AVlt_tup, AVlt_fn, RowsLt_nil, RowsLt_live, RowsLt_dead, List.mem_cons, List.not_mem_nil, List.forall_mem_cons, List.forall_mem_nil, or_false, false_or, forall_eq_or_imp, forall_eq, vs_lt, Nat.add_lt_add_iff_left, Nat.reduceLT, true_and, and_true, and_self, List.length_cons, List.length_nil, Nat.reduceAdd, Nat.zero_add, implies_true, false_imp_iff, lt_T, List.mem_map]) hR hB ⟨rfl, rfl, rfl⟩
      | true =>
        have hbf := (befB_iff hv hx hy).1 hb
        obtain ⟨hp, hpi⟩ := mem_ids2.1 hx
        obtain ⟨hq, hqj⟩ := mem_ids2.1 hy
        have hnn : ∀ n : Int, (n != n) = false := fun n => by simp
        have hvl : ∀ z, (vcs t z).length = t.length := fun z => fl_len
        have hml : ∀ z, (mtx t z).length = t.length := fun z => mtx_len
        simp (disch := (first | decide | omega)) only [hA, hn0, go_sem]
        refine ACalls.nxt (At_spec t hM hN ((p : Int), ((i + 1 : Nat) : Int)) _ _) ?_
        rw [AtR_in hval hp hpi]
        simp (disch := (first | decide | omega)) only [hA, go_sem]
        refine ACalls.nxt (At_spec t hM hN ((q : Int), ((j + 1 : Nat) : Int)) _ _) ?_
        rw [AtR_in hval hq hqj]
        simp (disch := (first | decide | omega)) only [hA, hn0, eT, eMt, List.length_map, hml, hnn, go_sem]
        refine loop_kept (ι := Nat) r_MatrixGrows0 (fun a => [(72, .v (.int .i64 a))]) 3 (fun a => [.live 0 1 [[.v (.isl 3 (t.map ePr))]], .live 0 2 [[.v (.int .i64 p), .v (.int .i64 ((i + 1 : Nat) : Int))]], .live 0 2 [[.v (.int .i64 q), .v (.int .i64 ((j + 1 : Nat) : Int))]]])
          (fun a => a ≤ t.length) (fun a => t.length - a) 0 (Nat.zero_le _) (by (repeat (first | exact hE.mono (by omega) | refine KLt.up ?_ (by simp (disch := omega) only [AVlt_v, AVlt_any, AVlt_sl, AVlt_ptr, AVlt_mp, AVlt_agg, AVlt_tup, AVlt_fn, RowsLt_nil, RowsLt_live, RowsLt_dead, List.mem_cons, List.not_mem_nil, List.forall_mem_cons, List.forall_mem_nil, or_false, false_or, forall_eq_or_imp, forall_eq, vs_lt, Nat.add_lt_add_iff_left, Nat.reduceLT, true_and, and_true, and_self, List.length_cons, List.length_nil, Nat.reduceAdd, Nat.zero_add, implies_true, false_imp_iff, lt_T, List.mem_map])))) (by ((try simp (disch := decide) only [hA, go_sem]) <;> (repeat' (first | exact trivial | refine And.intro ?_ ?_)) <;> (first | rfl | (congr 2; omega)))) (fun e => Weak.refl _ _ _) ?_
        intro g1 hE1 hEE1 hg1 a ha
        by_cases hal : a < t.length
        · have m1 : a < (mtx t (p, i + 1)).length := by rw [hml]; exact hal
          have m2 : a < (mtx t (q, j + 1)).length := by rw [hml]; exact hal
          have r1 : ∀ h, (mtx t (p, i + 1))[a]'h = vcs t (a, vc t (p, i + 1) a) := mtx_at
          have r2 : ∀ h, (mtx t (q, j + 1))[a]'h = vcs t (a, vc t (q, j + 1) a) := mtx_at
          simp (disch := (first | decide | omega)) only [hA, hg1, r1, r2, eRw, List.length_map, hml, hvl, hnn, go_sem]
          refine loop_kept (ι := Nat) r_MatrixGrows1 (fun c => [(95, .v (.int .i64 c))]) 3 (fun c => [.live 0 1 [[.v (.isl 3 (t.map ePr))]], .live 0 2 [[.v (.int .i64 p), .v (.int .i64 ((i + 1 : Nat) : Int))]], .live 0 2 [[.v (.int .i64 q), .v (.int .i64 ((j + 1 : Nat) : Int))]]])
            (fun c => c ≤ t.length) (fun c => t.length - c) 0 (Nat.zero_le _) (by (repeat (first | exact hE1.mono (by omega) | refine KLt.up ?_ (by simp (disch := omega) only [AVlt_v, AVlt_any, AVlt_sl, AVlt_ptr, AVlt_mp, AVlt_agg, AVlt_tup, AVlt_fn, RowsLt_nil, RowsLt_live, RowsLt_dead, List.mem_cons, List.not_mem_nil, List.forall_mem_cons, List.forall_mem_nil, or_false, false_or, forall_eq_or_imp, forall_eq, vs_lt, Nat.add_lt_add_iff_left, Nat.reduceLT, true_and, and_true, and_self, List.length_cons, List.length_nil, Nat.reduceAdd, Nat.zero_add, implies_true, false_imp_iff, lt_T, List.mem_map])))) (by ((try simp (disch := decide) only [hA, hg1, go_sem]) <;> (repeat' (first | exact trivial | refine And.intro ?_ ?_)) <;> (first | rfl | (congr 2; omega)))) (fun e => Weak.refl _ _ _) ?_
          intro g2 hE2 hEE2 hg2 c hc
          by_cases hcl : c < t.length
          · have n1 : c < (vcs t (a, vc t (p, i + 1) a)).length := by rw [hvl]; exact hcl
            have n2 : c < (vcs t (a, vc t (q, j + 1) a)).length := by rw [hvl]; exact hcl
            have s1 : ∀ h, (vcs t (a, vc t (p, i + 1) a))[c]'h = _ := vcs_at
            have s2 : ∀ h, (vcs t (a, vc t (q, j + 1) a))[c]'h = _ := vcs_at
            have hle : vc t (a, vc t (p, i + 1) a) c ≤ vc t (a, vc t (q, j + 1) a) c := vc_row (vc_mono (.inr hbf) a) vc_le
            have d1 : decide ((vc t (a, vc t (p, i + 1) a) c : Int) > (vc t (a, vc t (q, j + 1) a) c : Int)) = false := decide_eq_false (by omega)
            have d1' : decide ((vc t (a, vc t (q, j + 1) a) c : Int) < (vc t (a, vc t (p, i + 1) a) c : Int)) = false := d1
            simp (disch := (first | decide | omega)) only [hA, hg1, hg2, r1, r2, eRw, eI, s1, s2, d1, d1', go_sem]
            refine ⟨c + 1, hcl, by simp only; omega, ?_⟩
            exact Weak.kround (p := r_MatrixGrows1) (k := 3) (by ((repeat refine (kAny_up rfl).trans ?_); exact hEE2)) (by ((try simp (disch := decide) only [hA, go_sem]) <;> (repeat' (first | exact trivial | refine And.intro ?_ ?_)) <;> (first | rfl | (congr 2; omega)))) rfl hE2 (by simp) (by simp (disch := omega) only [KOvLt, AVlt_v, AVlt_any, AVlt_sl, AVlt_ptr, AVlt_mp, AVlt_agg, AVlt_tup, AVlt_fn, RowsLt_nil, RowsLt_live, RowsLt_dead, List.mem_cons, List.not_mem_nil, List.forall_mem_cons, List.forall_mem_nil, or_false, false_or, forall_eq_or_imp, forall_eq, vs_lt, Nat.add_lt_add_iff_left, Nat.reduceLT, true_and, and_true, and_self, List.length_cons, List.length_nil, Nat.reduceAdd, Nat.zero_add, implies_true, false_imp_iff, lt_T, List.mem_map]) hR (by simp (disch := omega) only [AVlt_v, AVlt_any, AVlt_sl, AVlt_ptr, AVlt_mp, AVlt_agg, AVlt_tup, AVlt_fn, RowsLt_nil, RowsLt_live, RowsLt_dead, List.mem_cons, List.not_mem_nil, List.forall_mem_cons, List.forall_mem_nil, or_false, false_or, forall_eq_or_imp, forall_eq, vs_lt, Nat.add_lt_add_iff_left, Nat.reduceLT, true_and, and_true, and_self, List.length_cons, List.length_nil, Nat.reduceAdd, Nat.zero_add, implies_true, false_imp_iff, lt_T, List.mem_map])
          · simp (disch := (first | decide | omega)) only [hA, hg1, hg2, go_sem]
            refine ⟨a + 1, hal, by simp only; omega, ?_⟩
            exact Weak.kround (p := r_MatrixGrows0) (k := 3) (by ((repeat refine (kAny_up rfl).trans ?_); refine (kAny_sub hg2 (kIn_sub rfl)).trans ?_; (repeat refine (kAny_up rfl).trans ?_); exact hEE1)) (by ((try simp (disch := decide) only [hA, hg1, go_sem]) <;> (repeat' (first | exact trivial | refine And.intro ?_ ?_)) <;> (first | rfl | (congr 2; omega)))) rfl hE1 (by simp) (by simp (disch := omega) only [KOvLt, AVlt_v, AVlt_any, AVlt_sl, AVlt_ptr, AVlt_mp, AVlt_agg, AVlt_tup, AVlt_fn, RowsLt_nil, RowsLt_live, RowsLt_dead, List.mem_cons, List.not_mem_nil, List.forall_mem_cons, List.forall_mem_nil, or_false, false_or, forall_eq_or_imp, forall_eq, vs_lt, Nat.add_lt_add_iff_left, Nat.reduceLT, true_and, and_true, and_self, List.length_cons, List.length_nil, Nat.reduceAdd, Nat.zero_add, implies_true, false_imp_iff, lt_T, List.mem_map]) hR (by simp (disch := omega) only [AVlt_v, AVlt_any, AVlt_sl, AVlt_ptr, AVlt_mp, AVlt_agg, AVlt_tup, AVlt_fn, RowsLt_nil, RowsLt_live, RowsLt_dead, List.mem_cons, List.not_mem_nil, List.forall_mem_cons, List.forall_mem_nil, or_false, false_or, forall_eq_or_imp, forall_eq, vs_lt, Nat.add_lt_add_iff_left, Nat.reduceLT, true_and, and_true, and_self, List.length_cons, List.length_nil, Nat.reduceAdd, Nat.zero_add, implies_true, false_imp_iff, lt_T, List.mem_map])
        · simp (disch := (first | decide | omega)) only [hA, hg1, go_sem]
          by_cases hpq : p = q
          · subst hpq
            have hij := hb_lt hv hx hy hbf
            have m1 : p < (mtx t (p, i + 1)).length := by rw [hml]; exact hp
            have m2 : p < (mtx t (p, j + 1)).length := by rw [hml]; exact hp
            have r1 : ∀ h, (mtx t (p, i + 1))[p]'h = vcs t (p, i + 1) := fun h => by rw [mtx_at, vc_own hv hx]
            have r2 : ∀ h, (mtx t (p, j + 1))[p]'h = vcs t (p, j + 1) := fun h => by rw [mtx_at, vc_own hv hy]
            have n1 : p < (vcs t (p, i + 1)).length := by rw [hvl]; exact hp
            have n2 : p < (vcs t (p, j + 1)).length := by rw [hvl]; exact hp
            have s1 : ∀ h, (vcs t (p, i + 1))[p]'h = ((i + 1 : Nat) : Int) := fun h => by rw [vcs_at, vc_own hv hx]
            have s2 : ∀ h, (vcs t (p, j + 1))[p]'h = ((j + 1 : Nat) : Int) := fun h => by rw [vcs_at, vc_own hv hy]
            have d1 : decide (((i + 1 : Nat) : Int) < ((j + 1 : Nat) : Int)) = true := decide_eq_true (by omega)
            simp (disch := (first | decide | omega)) only [hA, hg1, r1, r2, eRw, eI, s1, s2, d1, hnn, go_sem]
            exact leave_pure (xs := [.v (.bool true)]) (.inr rfl) (by simp (disch := (first | decide | omega)) only [resVs, resV, go_sem, hA, hg1]) (by simp only [one, AVlt_v, AVlt_any, AVlt_sl, AVlt_ptr, AVlt_mp, AVlt_agg, AVlt_tup, AVlt_fn, RowsLt_nil, RowsLt_live, RowsLt_dead, List.mem_cons, List.not_mem_nil, List.forall_mem_cons, List.forall_mem_nil, or_false, false_or, forall_eq_or_imp, forall_eq, vs_lt, Nat.add_lt_add_iff_left, Nat.reduceLT, true_and, and_true, and_self, List.length_cons, List.length_nil, Nat.reduceAdd, Nat.zero_add, implies_true, false_imp_iff, lt_T, List.mem_map]) hR hB ⟨rfl, rfl, rfl⟩
          · have hpn : ((p : Int) != (q : Int)) = true := by simp; omega
            simp (disch := (first | decide | omega)) only [hA, hg1, hpn, go_sem]
            exact leave_pure (xs := [.v (.bool true)]) (.inr rfl) (by simp (disch := (first | decide | omega)) only [resVs, resV, go_sem, hA, hg1]) (by simp only [one, AVlt_v, AVlt_any, AVlt_sl, AVlt_ptr, AVlt_mp, AVlt_agg, AVlt_tup, AVlt_fn, RowsLt_nil, RowsLt_live, RowsLt_dead, List.mem_cons, List.not_mem_nil, List.forall_mem_cons, List.forall_mem_nil, or_false, false_or, forall_eq_or_imp, forall_eq, vs_lt, Nat.add_lt_add_iff_left, Nat.reduceLT, true_and, and_true, and_self, List.length_cons, List.length_nil, Nat.reduceAdd, Nat.zero_add, implies_true, false_imp_iff, lt_T, List.mem_map]) hR hB ⟨rfl, rfl, rfl⟩
end Go.Proofs.Ytoaopldaleaijaa
