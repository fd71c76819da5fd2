/- Texts of one proof, laid together: ME. No condition. -/
import Derived.Test.YtoaopldaleaijaaSB9
namespace Go.Proofs.Ytoaopldaleaijaa
set_option linter.unusedVariables false
set_option linter.unusedSimpArgs false
attribute [local go_sem ↓] run_skip run_region run_draw run_seq run_block run_exit run_ret run_cond atN_app seqC_normal seqC_exit seqC_ret seqQ_normal seqQ_exit seqQ_ret blkQ_normal blkQ_exit blkQ_ret runOps_nil runOps_cons runD_nil runD_cons grdO_true grdO_false grdD_true grdD_false ifC_true ifC_false opS_val opS_call opS_two opK_app dS_val dS_call dS_two dK_app kUp_same kUp_ne
attribute [local go_sem] rechks_nil rechks_cons rechk gcase_true gcase_false ex_val ex_val0 gd_none gd_some ev_t ev_c evs_nil evs_cons evo_some evo_none hget_at hget_first hsetB_at hsetB_first hsetL_at hsetL_first ofOpt_some aop aload astore aslice aappend aiaddr aiaddrA afaddr alen alenS acopy amm acall alookup amupdate alenM comma keyEq apick binV binVB binVS isSh intOp strOp boolOp shOp eqC eqF and2 cellsOf setFrom fillA fillS rd rdI elems mk bounds AV.cell List.all_cons List.all_nil Bool.and_true Bool.true_and Bool.and_self List.length_cons List.length_nil List.length_append Nat.reduceAdd Nat.reduceSub Nat.reduceMul Nat.zero_add Nat.add_zero List.cons_append List.nil_append List.append_assoc List.append_nil List.getElem?_cons_zero List.getElem?_cons_succ List.getElem?_nil List.set_cons_zero List.set_cons_succ List.drop_zero List.drop_succ_cons List.take_zero List.take_succ_cons List.take_nil List.drop_nil List.map_cons List.map_nil Option.map_some if_true if_false Bool.false_eq_true and_self true_and and_true Nat.reduceLeDiff Nat.reduceLT Nat.le_refl Nat.reduceEqDiff ite_true ite_false beq_self_eq_true beq_true beq_false Bool.not_true Bool.not_false Bool.true_beq Bool.false_beq map_vs vs_len vs_get vs_take vs_drop vs_snoc1 vs_snoc2 vs_snoc3 vs_snoc5 vs_set1 vs_set2 vs_rep wrap_id le_T lt_T le_F lt_F leI_T ltI_T leI_F ltI_F geI gtI get_T decide_true decide_false room List.getElem?_map List.length_map List.length_take Int.toNat_natCast Nat.min_def Nat.min_self nth_kOf put_kOf put_kNo kOv_cons kOv_nil KHas KArgs List.getElem_cons_zero List.getElem_cons_succ
def a_MatrixKnown : AFunc := ⟨2, 150, [.tmp 4],
  (.seq (.region [⟨(some 2), .box (.t 0), none⟩, ⟨(some 3), .box (.t 1), none⟩, ⟨(some 4), .mv (.c (.v (.bool false))), none⟩])
  (.seq (.seq (.region [⟨(some 16), .call (.c (.fn 53 [])) [], none⟩, ⟨(some 17), .not (.t 16), none⟩])
  (.cond (.t 17) (.seq (.region [⟨(some 4), .mv (.c (.v (.bool false))), none⟩])
  .ret)
  .skip))
  (.seq (.seq (.region [⟨(some 18), .load (some 1) (.t 2), none⟩, ⟨(some 19), .call (.c (.fn 54 [])) [(.t 18)], none⟩, ⟨(some 20), .not (.t 19), none⟩, ⟨(some 21), .mv (.t 20), none⟩, ⟨(some 22), .load (some 1) (.t 2), some (21, false)⟩, ⟨(some 23), .call (.c (.fn 17 [])) [(.t 22)], some (21, false)⟩, ⟨(some 24), .not (.t 23), some (21, false)⟩, ⟨(some 25), .pick (.t 21) (.c (.v (.bool true))) (.t 24), none⟩])
  (.cond (.t 25) (.seq (.region [⟨(some 4), .mv (.c (.v (.bool true))), none⟩])
  .ret)
  .skip))
  (.seq (.region [⟨(some 27), .load (some 1) (.t 2), none⟩, ⟨(some 28), .load (some 2) (.t 3), none⟩, ⟨(some 29), .call (.c (.fn 55 [])) [(.t 27), (.t 28)], none⟩, ⟨(some 26), .mv (.t 29), none⟩, ⟨(some 30), .extract 0 (.t 26), none⟩, ⟨(some 31), .extract 1 (.t 26), none⟩, ⟨(some 5), .mv (.t 30), none⟩, ⟨(some 6), .mv (.t 31), none⟩])
  (.seq (.seq (.region [⟨(some 32), .mv (.t 6), none⟩, ⟨(some 33), .bin .neq (.t 32) (.c (.v (.int .i64 0))), none⟩])
  (.cond (.t 33) (.seq (.region [⟨(some 4), .mv (.c (.v (.bool true))), none⟩])
  .ret)
  .skip))
  (.seq (.region [⟨(some 35), .mv (.t 5), none⟩, ⟨(some 36), .call (.c (.fn 62 [])) [(.t 35)], none⟩, ⟨(some 34), .mv (.t 36), none⟩, ⟨(some 37), .extract 0 (.t 34), none⟩, ⟨(some 38), .extract 1 (.t 34), none⟩, ⟨(some 7), .mv (.t 37), none⟩, ⟨(some 8), .mv (.t 38), none⟩])
  (.seq (.region [⟨(some 39), .faddr 0 (.t 2), none⟩, ⟨(some 40), .load none (.t 39), none⟩, ⟨(some 41), .len (.t 40), none⟩, ⟨(some 9), .alloc [(.v (.int .i64 0))], none⟩, ⟨none, .store 1 (.t 9) (.t 41), none⟩])
  (.seq (.seq (.region [⟨(some 42), .mv (.t 8), none⟩, ⟨(some 43), .bin .neq (.t 42) (.c (.v (.int .i64 0))), none⟩, ⟨(some 44), .mv (.t 43), none⟩, ⟨(some 45), .mv (.t 7), some (44, false)⟩, ⟨(some 46), .len (.t 45), some (44, false)⟩, ⟨(some 47), .load none (.t 9), some (44, false)⟩, ⟨(some 48), .bin .neq (.t 46) (.t 47), some (44, false)⟩, ⟨(some 49), .pick (.t 44) (.c (.v (.bool true))) (.t 48), none⟩, ⟨(some 50), .mv (.t 49), none⟩, ⟨(some 51), .mv (.t 5), some (50, false)⟩, ⟨(some 52), .len (.t 51), some (50, false)⟩, ⟨(some 53), .load none (.t 9), some (50, false)⟩, ⟨(some 54), .bin .neq (.t 52) (.t 53), some (50, false)⟩, ⟨(some 55), .pick (.t 50) (.c (.v (.bool true))) (.t 54), none⟩, ⟨(some 56), .mv (.t 55), none⟩, ⟨(some 57), .mv (.t 5), some (56, false)⟩, ⟨(some 58), .mkfn 63 [(.t 9)], some (56, false)⟩, ⟨(some 59), .call (.c (.fn 59 [])) [(.t 57), (.t 58)], some (56, false)⟩, ⟨(some 60), .pick (.t 56) (.c (.v (.bool true))) (.t 59), none⟩])
  (.cond (.t 60) (.seq (.region [⟨(some 4), .mv (.c (.v (.bool false))), none⟩])
  .ret)
  .skip))
  (.seq (.seq (.region [⟨(some 61), .load none (.t 9), none⟩, ⟨(some 62), .mv (.c (.v (.int .i64 0))), none⟩])
  (.block 0 (.loop (.seq (.region [⟨(some 63), .bin .lss (.t 62) (.t 61), none⟩])
  (.seq (.cond (.t 63) .skip
  (.exit 0))
  (.seq (.block 1 (.seq (.region [⟨(some 64), .mv (.t 62), none⟩, ⟨(some 10), .alloc [(.v (.int .i64 0))], none⟩, ⟨none, .store 1 (.t 10) (.t 64), none⟩])
  (.seq (.region [⟨(some 65), .mv (.t 7), none⟩, ⟨(some 66), .load none (.t 10), none⟩, ⟨(some 67), .iaddr 1 (.t 65) (.t 66), none⟩, ⟨(some 68), .load none (.t 67), none⟩, ⟨(some 11), .mv (.t 68), none⟩])
  (.seq (.seq (.region [⟨(some 69), .mv (.t 11), none⟩, ⟨(some 70), .bin .lss (.t 69) (.c (.v (.int .i64 0))), none⟩, ⟨(some 71), .mv (.t 70), none⟩, ⟨(some 72), .mv (.t 11), some (71, false)⟩, ⟨(some 73), .faddr 0 (.t 2), some (71, false)⟩, ⟨(some 74), .load none (.t 73), some (71, false)⟩, ⟨(some 75), .load none (.t 10), some (71, false)⟩, ⟨(some 76), .iaddr 3 (.t 74) (.t 75), some (71, false)⟩, ⟨(some 77), .faddr 2 (.t 76), some (71, false)⟩, ⟨(some 78), .load none (.t 77), some (71, false)⟩, ⟨(some 79), .len (.t 78), some (71, false)⟩, ⟨(some 80), .bin .gtr (.t 72) (.t 79), some (71, false)⟩, ⟨(some 81), .pick (.t 71) (.c (.v (.bool true))) (.t 80), none⟩])
  (.cond (.t 81) (.seq (.region [⟨(some 4), .mv (.c (.v (.bool false))), none⟩])
  .ret)
  .skip))
  (.seq (.region [⟨(some 12), .mv (.c (.v (.bool false))), none⟩])
  (.seq (.seq (.region [⟨(some 82), .load none (.t 9), none⟩, ⟨(some 83), .mv (.c (.v (.int .i64 0))), none⟩])
  (.block 2 (.loop (.seq (.region [⟨(some 84), .bin .lss (.t 83) (.t 82), none⟩])
  (.seq (.cond (.t 84) .skip
  (.exit 2))
  (.seq (.block 3 (.seq (.region [⟨(some 85), .mv (.t 83), none⟩, ⟨(some 13), .mv (.t 85), none⟩])
  (.seq (.region [⟨(some 86), .mv (.t 13), none⟩, ⟨(some 87), .mv (.t 5), none⟩, ⟨(some 88), .faddr 0 (.t 3), none⟩, ⟨(some 89), .load none (.t 88), none⟩, ⟨(some 90), .iaddr 1 (.t 87) (.t 89), none⟩, ⟨(some 91), .load none (.t 90), none⟩, ⟨(some 92), .mv (.t 13), none⟩, ⟨(some 93), .iaddr 1 (.t 91) (.t 92), none⟩, ⟨(some 94), .load none (.t 93), none⟩, ⟨(some 95), .build [(.v (.int .i64 0)), (.v (.int .i64 0))] [(0, 1, (.t 86)), (1, 1, (.t 94))], none⟩, ⟨(some 14), .alloc [(.v (.int .i64 0)), (.v (.int .i64 0))], none⟩, ⟨none, .store 2 (.t 14) (.t 95), none⟩])
  (.seq (.seq (.draw [⟨0, ⟨(some 96), .faddr 1 (.t 14), none⟩, []⟩, ⟨1, ⟨(some 97), .load none (.t 96), none⟩, []⟩, ⟨2, ⟨(some 98), .bin .lss (.t 97) (.c (.v (.int .i64 0))), none⟩, []⟩, ⟨3, ⟨(some 99), .mv (.t 98), none⟩, []⟩, ⟨4, ⟨(some 100), .faddr 1 (.t 14), some (99, false)⟩, []⟩, ⟨5, ⟨(some 101), .load none (.t 100), some (99, false)⟩, []⟩, ⟨6, ⟨(some 102), .faddr 0 (.t 2), some (99, false)⟩, []⟩, ⟨7, ⟨(some 103), .load none (.t 102), some (99, false)⟩, []⟩, ⟨8, ⟨(some 104), .mv (.t 13), some (99, false)⟩, []⟩, ⟨9, ⟨(some 105), .iaddr 3 (.t 103) (.t 104), some (99, false)⟩, []⟩, ⟨10, ⟨(some 106), .faddr 2 (.t 105), some (99, false)⟩, []⟩, ⟨11, ⟨(some 107), .load none (.t 106), some (99, false)⟩, []⟩, ⟨12, ⟨(some 108), .len (.t 107), some (99, false)⟩, []⟩, ⟨13, ⟨(some 109), .bin .gtr (.t 101) (.t 108), some (99, false)⟩, []⟩, ⟨14, ⟨(some 110), .pick (.t 99) (.c (.v (.bool true))) (.t 109), none⟩, []⟩])
  (.cond (.t 110) (.seq (.region [⟨(some 4), .mv (.c (.v (.bool false))), none⟩])
  .ret)
  .skip))
  (.seq (.region [⟨(some 111), .mkfn 64 [(.t 10), (.t 14), (.t 2)], none⟩, ⟨(some 15), .mv (.t 111), none⟩])
  (.seq (.seq (.region [⟨(some 112), .mv (.t 15), none⟩, ⟨(some 113), .mv (.t 11), none⟩, ⟨(some 114), .call (.t 112) [(.t 113)], none⟩, ⟨(some 115), .not (.t 114), none⟩])
  (.cond (.t 115) (.seq (.region [⟨(some 4), .mv (.c (.v (.bool false))), none⟩])
  .ret)
  .skip))
  (.region [⟨(some 116), .mv (.t 12), none⟩, ⟨(some 117), .mv (.t 116), none⟩, ⟨(some 118), .mv (.t 11), some (117, false)⟩, ⟨(some 119), .faddr 0 (.t 2), some (117, false)⟩, ⟨(some 120), .load none (.t 119), some (117, false)⟩, ⟨(some 121), .load none (.t 10), some (117, false)⟩, ⟨(some 122), .iaddr 3 (.t 120) (.t 121), some (117, false)⟩, ⟨(some 123), .faddr 2 (.t 122), some (117, false)⟩, ⟨(some 124), .load none (.t 123), some (117, false)⟩, ⟨(some 125), .len (.t 124), some (117, false)⟩, ⟨(some 126), .bin .lss (.t 118) (.t 125), some (117, false)⟩, ⟨(some 127), .mv (.t 126), some (117, false)⟩, ⟨(some 128), .mv (.t 15), some (127, true)⟩, ⟨(some 129), .mv (.t 11), some (127, true)⟩, ⟨(some 130), .bin .add (.t 129) (.c (.v (.int .i64 1))), some (127, true)⟩, ⟨(some 131), .call (.t 128) [(.t 130)], some (127, true)⟩, ⟨(some 132), .not (.t 131), some (127, true)⟩, ⟨(some 133), .pick (.t 127) (.t 132) (.c (.v (.bool false))), some (117, false)⟩, ⟨(some 134), .pick (.t 117) (.c (.v (.bool true))) (.t 133), none⟩, ⟨(some 12), .mv (.t 134), none⟩])))))))
  (.region [⟨(some 135), .bin .add (.t 83) (.c (.v (.int .i64 1))), none⟩, ⟨(some 83), .mv (.t 135), none⟩])))))))
  (.seq (.region [⟨(some 136), .mv (.t 11), none⟩, ⟨(some 137), .faddr 0 (.t 2), none⟩, ⟨(some 138), .load none (.t 137), none⟩, ⟨(some 139), .load none (.t 10), none⟩, ⟨(some 140), .iaddr 3 (.t 138) (.t 139), none⟩, ⟨(some 141), .faddr 2 (.t 140), none⟩, ⟨(some 142), .load none (.t 141), none⟩, ⟨(some 143), .len (.t 142), none⟩, ⟨(some 144), .bin .lss (.t 136) (.t 143), none⟩, ⟨(some 145), .mv (.t 144), none⟩, ⟨(some 146), .mv (.t 12), some (145, true)⟩, ⟨(some 147), .not (.t 146), some (145, true)⟩, ⟨(some 148), .pick (.t 145) (.t 147) (.c (.v (.bool false))), none⟩])
  (.cond (.t 148) (.seq (.region [⟨(some 4), .mv (.c (.v (.bool false))), none⟩])
  .ret)
  .skip))))))))
  (.region [⟨(some 149), .bin .add (.t 62) (.c (.v (.int .i64 1))), none⟩, ⟨(some 62), .mv (.t 149), none⟩])))))))
  (.seq (.region [⟨(some 4), .mv (.c (.v (.bool true))), none⟩])
  .ret))))))))))⟩
theorem a_MatrixKnown_ok : cFunc Try.prog 13 = some a_MatrixKnown := by kernel_rfl
def r_MatrixKnown0 : List (Nat × Nat) := [(4, 4), (10, 15), (62, 149)]
def r_MatrixKnown1 : List (Nat × Nat) := [(4, 4), (12, 15), (83, 135)]
def a_MatrixKnown1 : AFunc := ⟨2, 8, [.tmp 3],
  (.seq (.region [⟨(some 3), .mv (.c (.v (.bool false))), none⟩])
  (.seq (.region [⟨(some 4), .mv (.t 0), none⟩, ⟨(some 5), .len (.t 4), none⟩, ⟨(some 6), .load none (.t 1), none⟩, ⟨(some 7), .bin .neq (.t 5) (.t 6), none⟩, ⟨(some 3), .mv (.t 7), none⟩])
  .ret))⟩
theorem a_MatrixKnown1_ok : cFunc Try.prog 63 = some a_MatrixKnown1 := by kernel_rfl
def a_MatrixKnown2 : AFunc := ⟨4, 34, [.tmp 5],
  (.seq (.region [⟨(some 5), .mv (.c (.v (.bool false))), none⟩])
  (.seq (.region [⟨(some 9), .load none (.t 1), none⟩, ⟨(some 10), .mv (.t 0), none⟩, ⟨(some 11), .build [(.v (.int .i64 0)), (.v (.int .i64 0))] [(0, 1, (.t 9)), (1, 1, (.t 10))], none⟩, ⟨(some 6), .alloc [(.v (.int .i64 0)), (.v (.int .i64 0))], none⟩, ⟨none, .store 2 (.t 6) (.t 11), none⟩])
  (.seq (.seq (.region [⟨(some 12), .mv (.t 0), none⟩, ⟨(some 13), .bin .eql (.t 12) (.c (.v (.int .i64 0))), none⟩, ⟨(some 14), .mv (.t 13), none⟩, ⟨(some 15), .load (some 2) (.t 6), some (14, false)⟩, ⟨(some 16), .load (some 2) (.t 2), some (14, false)⟩, ⟨(some 17), .eqs false [.i, .i] (.t 15) (.t 16), some (14, false)⟩, ⟨(some 18), .pick (.t 14) (.c (.v (.bool true))) (.t 17), none⟩])
  (.cond (.t 18) (.seq (.region [⟨(some 5), .mv (.c (.v (.bool true))), none⟩])
  .ret)
  .skip))
  (.seq (.seq (.region [⟨(some 19), .faddr 1 (.t 2), none⟩, ⟨(some 20), .load none (.t 19), none⟩, ⟨(some 21), .bin .eql (.t 20) (.c (.v (.int .i64 0))), none⟩])
  (.cond (.t 21) (.seq (.region [⟨(some 5), .mv (.c (.v (.bool false))), none⟩])
  .ret)
  .skip))
  (.seq (.region [⟨(some 23), .load (some 1) (.t 3), none⟩, ⟨(some 24), .load (some 2) (.t 6), none⟩, ⟨(some 25), .load (some 2) (.t 2), none⟩, ⟨(some 26), .call (.c (.fn 23 [])) [(.t 23), (.t 24), (.t 25)], none⟩, ⟨(some 22), .mv (.t 26), none⟩, ⟨(some 27), .extract 0 (.t 22), none⟩, ⟨(some 28), .extract 1 (.t 22), none⟩, ⟨(some 7), .mv (.t 27), none⟩, ⟨(some 8), .mv (.t 28), none⟩])
  (.seq (.region [⟨(some 29), .mv (.t 8), none⟩, ⟨(some 30), .bin .eql (.t 29) (.c (.v (.int .i64 0))), none⟩, ⟨(some 31), .mv (.t 30), none⟩, ⟨(some 32), .mv (.t 7), some (31, true)⟩, ⟨(some 33), .pick (.t 31) (.t 32) (.c (.v (.bool false))), none⟩, ⟨(some 5), .mv (.t 33), none⟩])
  .ret))))))⟩
theorem a_MatrixKnown2_ok : cFunc Try.prog 64 = some a_MatrixKnown2 := by kernel_rfl

theorem MatrixKnown1_spec (x : List Int) (n : Int) (id : Nat) (b : List Row) (hid : b[id]? = some (.live 0 1 [[.v (.int .i64 n)]])) : ACalls Try.prog 63 [.v (.isl 1 (x.map eI)), .ptr id 0 0 0] b [] (fun r b' l' => r = .v (.bool ((x.length : Int) != n)) ∧ b' = b ∧ l' = []) := by
  refine calls_kept a_MatrixKnown1_ok rfl (by decide) ?_
  intro B g hB hR hE hA
  simp only [KArgs] at hA
  have hBb : B = b := by rw [hB, List.append_nil]
  have hbase := hget_low (B := B) (hBb.symm ▸ hid)
  simp (disch := (first | decide | omega)) only [a_MatrixKnown1, hA, hbase, List.length_map, go_sem]
  exact leave_pure (xs := [.v (.bool ((x.length : Int) != n))]) (.inr rfl) (by simp (disch := (first | decide | omega)) only [resVs, resV, go_sem, hA]) (by simp only [one, AVlt_v, AVlt_any, AVlt_sl, AVlt_ptr, AVlt_mp, AVlt_agg, AVlt_tup, AVlt_fn, RowsLt_nil, RowsLt_live, RowsLt_dead, List.mem_cons, List.not_mem_nil, List.forall_mem_cons, List.forall_mem_nil, or_false, false_or, forall_eq_or_imp, forall_eq, vs_lt, Nat.add_lt_add_iff_left, Nat.reduceLT, true_and, and_true, and_self, List.length_cons, List.length_nil, Nat.reduceAdd, Nat.zero_add, implies_true, false_imp_iff, lt_T, List.mem_map]) hR hB ⟨rfl, rfl, rfl⟩
/-- Whether an event, or none, is known after another one, or at the beginning. -/
noncomputable def kwB (t : Tr) (j c i d : Nat) : Bool := decide (c ≤ vc t (i, d) j)
theorem MatrixKnown2_spec (t : Tr) (hval : validL t = true) (hS : Small t) (hN : Nm t) (j c i d : Nat) (hj : j < t.length) (hc : c ≤ (evsOf t j).length) (hi : i < t.length) (hd : d ≤ (evsOf t i).length) (i1 i2 i3 : Nat) (b l : List Row)
    (h1 : (b ++ l)[i1]? = some (.live 0 1 [[.v (.int .i64 j)]])) (h2 : (b ++ l)[i2]? = some (.live 0 2 [[.v (.int .i64 i), .v (.int .i64 d)]])) (h3 : (b ++ l)[i3]? = some (.live 0 1 [[.v (eT t)]])) :
    ACalls Try.prog 64 [.v (.int .i64 c), .ptr i1 0 0 0, .ptr i2 0 0 0, .ptr i3 0 0 0] b l (fun r b' l' => r = .v (.bool (kwB t j c i d)) ∧ b' = b ∧ l' = l) := by
  refine calls_kept a_MatrixKnown2_ok rfl (by decide) ?_
  intro B g hB hR hE hA
  simp only [KArgs] at hA
  rw [← hB] at h1 h2 h3
  have g1 := hget_low h1
  have g2 := hget_low h2
  have g3 := hget_low h3
  have hv := vok hval
  have h00 : ((0 : Int) == 0) = true := rfl
  by_cases hc0 : c = 0
  · subst hc0
    have hz : (((0 : Nat) : Int) == 0) = true := rfl
    have hk : kwB t j 0 i d = true := by unfold kwB; simp
    rw [hk]
    simp (disch := (first | decide | omega)) only [a_MatrixKnown2, hA, g1, g2, g3, hz, go_sem]
    exact leave_pure (xs := [.v (.bool true)]) (.inr rfl) (by simp (disch := (first | decide | omega)) only [resVs, resV, go_sem, hA]) (by simp only [one, AVlt_v, AVlt_any, AVlt_sl, AVlt_ptr, AVlt_mp, AVlt_agg, AVlt_tup, AVlt_fn, RowsLt_nil, RowsLt_live, RowsLt_dead, List.mem_cons, List.not_mem_nil, List.forall_mem_cons, List.forall_mem_nil, or_false, false_or, forall_eq_or_imp, forall_eq, vs_lt, Nat.add_lt_add_iff_left, Nat.reduceLT, true_and, and_true, and_self, List.length_cons, List.length_nil, Nat.reduceAdd, Nat.zero_add, implies_true, false_imp_iff, lt_T, List.mem_map]) hR hB ⟨rfl, rfl, rfl⟩
  · have hz : ((c : Int) == 0) = false := beq_eq_false_iff_ne.2 (by omega)
    obtain ⟨c, rfl⟩ : ∃ k, c = k + 1 := ⟨c - 1, by omega⟩
    have hx : (j, c + 1) ∈ ids t := mem_ids2.2 ⟨hj, hc⟩
    have he : (((j : Int) == (i : Int)) && (((c + 1 : Nat) : Int) == (d : Int))) = decide ((j, c + 1) = (i, d)) := by rw [Bool.eq_iff_iff]; simp; omega
    by_cases hq : (j, c + 1) = (i, d)
    · have he' := he.trans (decide_eq_true hq)
      have hk : kwB t j (c + 1) i d = true := by
        unfold kwB
        rw [← hq, vc_own hv hx]; simp
      rw [hk]
      simp (disch := (first | decide | omega)) only [a_MatrixKnown2, hA, g1, g2, g3, hz, he', go_sem]
      exact leave_pure (xs := [.v (.bool true)]) (.inr rfl) (by simp (disch := (first | decide | omega)) only [resVs, resV, go_sem, hA]) (by simp only [one, AVlt_v, AVlt_any, AVlt_sl, AVlt_ptr, AVlt_mp, AVlt_agg, AVlt_tup, AVlt_fn, RowsLt_nil, RowsLt_live, RowsLt_dead, List.mem_cons, List.not_mem_nil, List.forall_mem_cons, List.forall_mem_nil, or_false, false_or, forall_eq_or_imp, forall_eq, vs_lt, Nat.add_lt_add_iff_left, Nat.reduceLT, true_and, and_true, and_self, List.length_cons, List.length_nil, Nat.reduceAdd, Nat.zero_add, implies_true, false_imp_iff, lt_T, List.mem_map]) hR hB ⟨rfl, rfl, rfl⟩
    · have he' := he.trans (decide_eq_false hq)
      by_cases hd0 : d = 0
      · subst hd0
        have hz2 : (((0 : Nat) : Int) == 0) = true := rfl
        have hk : kwB t j (c + 1) i 0 = false := by unfold kwB; rw [vc_zero]; simp
        rw [hk]
        simp (disch := (first | decide | omega)) only [a_MatrixKnown2, hA, g1, g2, g3, hz, he', hz2, go_sem]
        exact leave_pure (xs := [.v (.bool false)]) (.inr rfl) (by simp (disch := (first | decide | omega)) only [resVs, resV, go_sem, hA]) (by simp only [one, AVlt_v, AVlt_any, AVlt_sl, AVlt_ptr, AVlt_mp, AVlt_agg, AVlt_tup, AVlt_fn, RowsLt_nil, RowsLt_live, RowsLt_dead, List.mem_cons, List.not_mem_nil, List.forall_mem_cons, List.forall_mem_nil, or_false, false_or, forall_eq_or_imp, forall_eq, vs_lt, Nat.add_lt_add_iff_left, Nat.reduceLT, true_and, and_true, and_self, List.length_cons, List.length_nil, Nat.reduceAdd, Nat.zero_add, implies_true, false_imp_iff, lt_T, List.mem_map]) hR hB ⟨rfl, rfl, rfl⟩
      · have hz2 : ((d : Int) == 0) = false := beq_eq_false_iff_ne.2 (by omega)
        obtain ⟨d, rfl⟩ : ∃ k, d = k + 1 := ⟨d - 1, by omega⟩
        have hy : (i, d + 1) ∈ ids t := mem_ids2.2 ⟨hi, hd⟩
        have hk : kwB t j (c + 1) i (d + 1) = befB t (j, c + 1) (i, d + 1) := by
          unfold kwB befB
          rw [decide_eq_false hq]; rfl
        rw [hk]
        have hb := befR_ids hval hx hy
        simp only at hb
        simp (disch := (first | decide | omega)) only [a_MatrixKnown2, hA, g1, g2, g3, hz, he', hz2, go_sem]
        refine ACalls.nxt (Before_spec t hS hN (fun _ => ids_valid hv) ((j : Int), ((c + 1 : Nat) : Int)) ((i : Int), ((d + 1 : Nat) : Int)) _ _) ?_
        rw [hb]
        simp (disch := (first | decide | omega)) only [hA, h00, go_sem]
        exact leave_pure (xs := [.v (.bool (befB t (j, c + 1) (i, d + 1)))]) (.inr rfl) (by simp (disch := (first | decide | omega)) only [resVs, resV, go_sem, hA]) (by simp only [one, AVlt_v, AVlt_any, AVlt_sl, AVlt_ptr, AVlt_mp, AVlt_agg, AVlt_tup, AVlt_fn, RowsLt_nil, RowsLt_live, RowsLt_dead, List.mem_cons, List.not_mem_nil, List.forall_mem_cons, List.forall_mem_nil, or_false, false_or, forall_eq_or_imp, forall_eq, vs_lt, Nat.add_lt_add_iff_left, Nat.reduceLT, true_and, and_true, and_self, List.length_cons, List.length_nil, Nat.reduceAdd, Nat.zero_add, implies_true, false_imp_iff, lt_T, List.mem_map]) hR hB ⟨rfl, rfl, rfl⟩
theorem kn_nat {t : Tr} {x : Nat × Nat} {j : Nat} (hj : j < t.length) : ∀ n, n ≤ t.length → 0 < t.length → ∃ k : Nat, kn (mtx t x) n j = k ∧ (∀ i, i < n → k ≤ mE t x i j) ∧ ∃ i, i < t.length ∧ k = mE t x i j
  | 0, _, h => ⟨mE t x 0 j, by unfold kn; rw [mtx_ent h hj], fun i hi => by omega, 0, h, rfl⟩
  | n + 1, hn, h => by
    obtain ⟨k, h1, h2, i, h3, h4⟩ := kn_nat (x := x) hj n (by omega) h
    have e : kn (mtx t x) (n + 1) j = ((min k (mE t x n j) : Nat) : Int) := by
      unfold kn; rw [h1, mtx_ent (by omega) hj]; omega
    refine ⟨min k (mE t x n j), e, fun i' hi' => ?_, ?_⟩
    · by_cases hin : i' = n
      · subst hin; exact Nat.min_le_right _ _
      · exact Nat.le_trans (Nat.min_le_left _ _) (h2 i' (by omega))
    · rcases Nat.le_total k (mE t x n j) with hle | hle
      · exact ⟨i, h3, by rw [Nat.min_eq_left hle]; exact h4⟩
      · exact ⟨n, by omega, by rw [Nat.min_eq_right hle]⟩
/-- Whether one of the first does not know the next one. -/
noncomputable def smB (t : Tr) (x : Nat × Nat) (j k i : Nat) : Bool := (List.range i).any fun a => decide (k < (evsOf t j).length) && !kwB t j (k + 1) a (vc t x a)
theorem smB_next {t : Tr} {x : Nat × Nat} {j k i : Nat} : smB t x j k (i + 1) = (smB t x j k i || (decide (k < (evsOf t j).length) && !kwB t j (k + 1) i (vc t x i))) := by
  unfold smB; rw [List.range_succ, List.any_append]; simp
theorem smB_all {t : Tr} {x : Nat × Nat} {j k : Nat} (hk : k < (evsOf t j).length) (h : ∃ i, i < t.length ∧ k = mE t x i j) : smB t x j k t.length = true := by
  obtain ⟨i, hi, he⟩ := h
  refine any_last hi ?_
  rw [decide_eq_true hk, Bool.true_and]
  have : kwB t j (k + 1) i (vc t x i) = false := by
    unfold kwB
    refine decide_eq_false ?_
    have : vc t (i, vc t x i) j = k := he.symm
    omega
  rw [this]; rfl
set_option maxRecDepth 20000 in
set_option maxHeartbeats 2000000 in
theorem matrixKnown_run (t : Tr) (x : Int × Int) (hg : OkTr t) (b l : List Row) :
    ACalls Try.prog 13 [.agg [.v (eT t)], idP x] b l (fun r b' l' => r = .v (.bool true) ∧ b' = b ∧ l' = l) := by
  refine calls_kept a_MatrixKnown_ok rfl (by decide) ?_
  intro B g hB hR hE hA
  simp only [KArgs] at hA
  have hN := hg.nm
  simp (disch := decide) only [a_MatrixKnown, hA, idP, go_sem]
  refine ACalls.nxt (awake16_spec _ _) ?_
  simp (disch := decide) only [hA, go_sem]
  refine ACalls.nxt (small16_spec t (okTr_len hg) _ _) ?_
  cases hf : sm16B t with
  | false =>
    simp (disch := decide) only [hA, go_sem]
    exact leave_pure (xs := [.v (.bool true)]) (.inr rfl) (by simp (disch := (first | decide | omega)) only [resVs, resV, go_sem, hA]) (by simp only [one, AVlt_v, AVlt_any, AVlt_sl, AVlt_ptr, AVlt_mp, AVlt_agg, AVlt_tup, AVlt_fn, RowsLt_nil, RowsLt_live, RowsLt_dead, List.mem_cons, List.not_mem_nil, List.forall_mem_cons, List.forall_mem_nil, or_false, false_or, forall_eq_or_imp, forall_eq, vs_lt, Nat.add_lt_add_iff_left, Nat.reduceLT, true_and, and_true, and_self, List.length_cons, List.length_nil, Nat.reduceAdd, Nat.zero_add, implies_true, false_imp_iff, lt_T, List.mem_map]) hR hB ⟨rfl, rfl, rfl⟩
  | true =>
    have hM := sm16_sm (okTr_len hg) hf
    simp (disch := decide) only [hA, go_sem]
    refine ACalls.nxt (rvalid_specS t hM hN _ _) ?_
    cases hval : validL t with
    | false =>
      simp (disch := decide) only [hA, go_sem]
      exact leave_pure (xs := [.v (.bool true)]) (.inr rfl) (by simp (disch := (first | decide | omega)) only [resVs, resV, go_sem, hA]) (by simp only [one, AVlt_v, AVlt_any, AVlt_sl, AVlt_ptr, AVlt_mp, AVlt_agg, AVlt_tup, AVlt_fn, RowsLt_nil, RowsLt_live, RowsLt_dead, List.mem_cons, List.not_mem_nil, List.forall_mem_cons, List.forall_mem_nil, or_false, false_or, forall_eq_or_imp, forall_eq, vs_lt, Nat.add_lt_add_iff_left, Nat.reduceLT, true_and, and_true, and_self, List.length_cons, List.length_nil, Nat.reduceAdd, Nat.zero_add, implies_true, false_imp_iff, lt_T, List.mem_map]) hR hB ⟨rfl, rfl, rfl⟩
    | true =>
      have hv := vok hval
      have hS := hM.small hv.head
      have h8 := hv.hi
      have hn0 : ((0 : Int) != 0) = false := rfl
      have hn2 : ((2 : Int) != 0) = true := rfl
      simp (disch := decide) only [hA, go_sem]
      refine ACalls.nxt (At_spec t hM hN x _ _) ?_
      by_cases hin : inT t x
      case neg =>
        rw [show AtR t x = .tup [.v .zsl, .v (.int .i64 2)] by unfold AtR; rw [if_pos hval, if_neg hin]]
        simp (disch := (first | decide | omega)) only [hA, hn2, go_sem]
        exact leave_pure (xs := [.v (.bool true)]) (.inr rfl) (by simp (disch := (first | decide | omega)) only [resVs, resV, go_sem, hA]) (by simp only [one, AVlt_v, AVlt_any, AVlt_sl, AVlt_ptr, AVlt_mp, AVlt_agg, AVlt_tup, AVlt_fn, RowsLt_nil, RowsLt_live, RowsLt_dead, List.mem_cons, List.not_mem_nil, List.forall_mem_cons, List.forall_mem_nil, or_false, false_or, forall_eq_or_imp, forall_eq, vs_lt, Nat.add_lt_add_iff_left, Nat.reduceLT, true_and, and_true, and_self, List.length_cons, List.length_nil, Nat.reduceAdd, Nat.zero_add, implies_true, false_imp_iff, lt_T, List.mem_map]) hR hB ⟨rfl, rfl, rfl⟩
      obtain ⟨i1, i2, i3, i4⟩ := hin
      obtain ⟨x1, x2⟩ := x
      simp only at i1 i2 i3 i4
      obtain ⟨p, rfl⟩ : ∃ p : Nat, x1 = p := ⟨x1.toNat, by omega⟩
      obtain ⟨i0, rfl⟩ : ∃ i : Nat, x2 = i := ⟨x2.toNat, by omega⟩
      simp only [Int.toNat_natCast] at i4
      have hp : p < t.length := by omega
      have hi0 : i0 ≤ (evsOf t p).length := by omega
      rw [AtR_in hval hp hi0]
      have hnn : ∀ n : Int, (n != n) = false := fun n => by simp
      have hvl : ∀ z, (vcs t z).length = t.length := fun z => fl_len
      have hml : (mtx t (p, i0)).length = t.length := mtx_len
      have hkl : (knownM (mtx t (p, i0))).length = t.length := by unfold knownM; rw [fl_len, hml]
      have hkr : knownR (mtx t (p, i0)) = .tup [.v (.isl 1 ((knownM (mtx t (p, i0))).map eI)), .v (.int .i64 0)] := by
        unfold knownR; rw [if_pos (mtx_isM hv hS hv.lo _)]
      simp (disch := (first | decide | omega)) only [hA, hn0, go_sem]
      refine ACalls.nxt (mKnown_spec (mtx t (p, i0)) (mtx_fit hv _) _ _) ?_
      rw [hkr]
      simp (disch := (first | decide | omega)) only [hA, hn0, eT, eMt, List.length_map, hml, hkl, hnn, go_sem]
      refine ACalls.nxt (containsM_spec (mtx t (p, i0)) _ [.ptr (B.length + 2) 0 0 0] (fun k => ((t.length : Int) != (t.length : Int))) (by rw [hml]; omega) _ _ (fun k hk => by
        have := MatrixKnown1_spec ((mtx t (p, i0))[k]) (t.length : Int) (B.length + 2) (B ++ [.live 0 1 [[.v (.isl 3 (t.map ePr))]], .live 0 2 [[.v (.int .i64 p), .v (.int .i64 i0)]], .live 0 1 [[.v (.int .i64 (t.length : Int))]]]) (by rw [List.getElem?_append_right (by omega), Nat.add_sub_cancel_left]; rfl)
        have e : ((mtx t (p, i0))[k]).length = t.length := by
          have : (mtx t (p, i0))[k] = vcs t (k, vc t (p, i0) k) := fl_getE hk
          rw [this, hvl]
        rw [e] at this
        exact this)) ?_
      rw [any_no (fun k _ => hnn _)]
      simp (disch := (first | decide | omega)) only [hA, List.length_map, hml, go_sem]
      refine loop_kept (ι := Nat) r_MatrixKnown0 (fun q => [(62, .v (.int .i64 q))]) 3 (fun q => [.live 0 1 [[.v (.isl 3 (t.map ePr))]], .live 0 2 [[.v (.int .i64 p), .v (.int .i64 i0)]], .live 0 1 [[.v (.int .i64 (t.length : Int))]]])
        (fun q => q ≤ t.length) (fun q => t.length - q) 0 (Nat.zero_le _) (by (repeat (first | exact hE.mono (by omega) | refine KLt.up ?_ (by simp (disch := omega) only [AVlt_v, AVlt_any, AVlt_sl, AVlt_ptr, AVlt_mp, AVlt_agg, AVlt_tup, AVlt_fn, RowsLt_nil, RowsLt_live, RowsLt_dead, List.mem_cons, List.not_mem_nil, List.forall_mem_cons, List.forall_mem_nil, or_false, false_or, forall_eq_or_imp, forall_eq, vs_lt, Nat.add_lt_add_iff_left, Nat.reduceLT, true_and, and_true, and_self, List.length_cons, List.length_nil, Nat.reduceAdd, Nat.zero_add, implies_true, false_imp_iff, lt_T, List.mem_map])))) (by ((try simp (disch := decide) only [hA, go_sem]) <;> (repeat' (first | exact trivial | refine And.intro ?_ ?_)) <;> (first | rfl | (congr 2; omega)))) (fun e => Weak.refl _ _ _) ?_
      intro g1 hE1 hEE1 hg1 j hj
      have hpm : p < (mtx t (p, i0)).length := by rw [hml]; exact hp
      have hpr : ∀ h, (mtx t (p, i0))[p]'h = vcs t (p, i0) := fun h => by rw [mtx_at, vc_self hv hp hi0]
      by_cases hjl : j < t.length
      · obtain ⟨k, hk1, hk2, hk3⟩ := kn_nat (t := t) (x := (p, i0)) hjl t.length (Nat.le_refl _) hv.lo
        have hje := evsOf_lt hjl
        have hne := hS.ne _ (List.getElem_mem hjl)
        have hkle : k ≤ t[j].evs.length := by
          obtain ⟨i, _, he⟩ := hk3
          rw [he]
          have := vc_le (t := t) (x := (i, vc t (p, i0) i)) (q := j)
          rw [hje] at this
          exact this
        have hkj : j < (knownM (mtx t (p, i0))).length := by rw [hkl]; exact hjl
        have hkk : ∀ h, (knownM (mtx t (p, i0)))[j]'h = (k : Int) := fun h => by
          rw [← hk1, ← hml]; exact fl_getE h
        have d1 : decide ((k : Int) < 0) = false := decide_eq_false (by omega)
        have d2 : decide ((k : Int) > (t[j].evs.length : Int)) = false := decide_eq_false (by omega)
        have d2' : decide ((t[j].evs.length : Int) < (k : Int)) = false := d2
        have hs0 : smB t (p, i0) j k 0 = false := rfl
        simp (disch := (first | decide | omega)) only [hA, hg1, hkk, eI, ePr, List.length_map, d1, d2, d2', go_sem]
        refine loop_kept (ι := Nat) r_MatrixKnown1 (fun i => [(83, .v (.int .i64 i)), (12, .v (.bool (smB t (p, i0) j k i)))]) 4 (fun i => [.live 0 1 [[.v (.isl 3 (t.map ePr))]], .live 0 2 [[.v (.int .i64 p), .v (.int .i64 i0)]], .live 0 1 [[.v (.int .i64 (t.length : Int))]], .live 0 1 [[.v (.int .i64 j)]]])
          (fun i => i ≤ t.length) (fun i => t.length - i) 0 (Nat.zero_le _) (by (repeat (first | exact hE1.mono (by omega) | refine KLt.up ?_ (by simp (disch := omega) only [AVlt_v, AVlt_any, AVlt_sl, AVlt_ptr, AVlt_mp, AVlt_agg, AVlt_tup, AVlt_fn, RowsLt_nil, RowsLt_live, RowsLt_dead, List.mem_cons, List.not_mem_nil, List.forall_mem_cons, List.forall_mem_nil, or_false, false_or, forall_eq_or_imp, forall_eq, vs_lt, Nat.add_lt_add_iff_left, Nat.reduceLT, true_and, and_true, and_self, List.length_cons, List.length_nil, Nat.reduceAdd, Nat.zero_add, implies_true, false_imp_iff, lt_T, List.mem_map])))) (by ((try simp (disch := decide) only [hA, hg1, hs0, go_sem]) <;> (repeat' (first | exact trivial | refine And.intro ?_ ?_)) <;> (first | rfl | (congr 2; omega)))) (fun e => Weak.refl _ _ _) ?_
        intro g2 hE2 hEE2 hg2 i hi
        by_cases hil : i < t.length
        · have hie := evsOf_lt hil
          have hne2 := hS.ne _ (List.getElem_mem hil)
          have hvi := vc_le (t := t) (x := (p, i0)) (q := i)
          have hvi2 := hvi
          rw [hie] at hvi
          have hiv : i < (vcs t (p, i0)).length := by rw [hvl]; exact hil
          have hik : ∀ h, (vcs t (p, i0))[i]'h = (vc t (p, i0) i : Int) := vcs_at
          have e1 : decide ((vc t (p, i0) i : Int) < 0) = false := decide_eq_false (by omega)
          have e2 : decide ((vc t (p, i0) i : Int) > (t[i].evs.length : Int)) = false := decide_eq_false (by omega)
          have e2' : decide ((t[i].evs.length : Int) < (vc t (p, i0) i : Int)) = false := e2
          have hkn : kwB t j k i (vc t (p, i0) i) = true := decide_eq_true (hk2 i hil)
          have hkc : k ≤ (evsOf t j).length := by rw [hje]; exact hkle
          have hnx := smB_next (t := t) (x := (p, i0)) (j := j) (k := k) (i := i)
          have rows : ∀ L : List Row, L = [.live 0 1 [[.v (.isl 3 (t.map ePr))]], .live 0 2 [[.v (.int .i64 p), .v (.int .i64 i0)]], .live 0 1 [[.v (.int .i64 (t.length : Int))]], .live 0 1 [[.v (.int .i64 j)]], .live 0 2 [[.v (.int .i64 i), .v (.int .i64 (vc t (p, i0) i))]]] →
              (B ++ L)[B.length + 3]? = some (.live 0 1 [[.v (.int .i64 j)]]) ∧ (B ++ L)[B.length + 4]? = some (.live 0 2 [[.v (.int .i64 i), .v (.int .i64 (vc t (p, i0) i))]]) ∧ (B ++ L)[B.length]? = some (.live 0 1 [[.v (eT t)]]) := by
            rintro L rfl
            refine ⟨?_, ?_, ?_⟩
            · rw [List.getElem?_append_right (by omega), Nat.add_sub_cancel_left]; rfl
            · rw [List.getElem?_append_right (by omega), Nat.add_sub_cancel_left]; rfl
            · rw [List.getElem?_append_right (by omega), Nat.sub_self]; rfl
          simp (disch := (first | decide | omega)) only [hA, hg1, hg2, hpr, hik, eRw, eI, ePr, List.length_map, e1, e2, e2', go_sem]
          refine ACalls.nxt (MatrixKnown2_spec t hval hS hN j k i (vc t (p, i0) i) hjl hkc hil hvi2 (B.length + 3) (B.length + 4) B.length _ _ (rows _ rfl).1 (rows _ rfl).2.1 (rows _ rfl).2.2) ?_
          rw [hkn]
          cases hsm : smB t (p, i0) j k i with
          | true =>
            rw [hsm, Bool.true_or] at hnx
            simp (disch := (first | decide | omega)) only [hA, hg1, hg2, go_sem]
            refine ⟨i + 1, hil, by simp only; omega, ?_⟩
            exact Weak.kround (p := r_MatrixKnown1) (k := 4) (by ((repeat refine (kAny_up rfl).trans ?_); exact hEE2)) (by ((try simp (disch := decide) only [hA, hnx, go_sem]) <;> (repeat' (first | exact trivial | refine And.intro ?_ ?_)) <;> (first | rfl | (congr 2; omega)))) rfl hE2 (by simp) (by simp (disch := omega) only [KOvLt, AVlt_v, AVlt_any, AVlt_sl, AVlt_ptr, AVlt_mp, AVlt_agg, AVlt_tup, AVlt_fn, RowsLt_nil, RowsLt_live, RowsLt_dead, List.mem_cons, List.not_mem_nil, List.forall_mem_cons, List.forall_mem_nil, or_false, false_or, forall_eq_or_imp, forall_eq, vs_lt, Nat.add_lt_add_iff_left, Nat.reduceLT, true_and, and_true, and_self, List.length_cons, List.length_nil, Nat.reduceAdd, Nat.zero_add, implies_true, false_imp_iff, lt_T, List.mem_map]) hR (by simp (disch := omega) only [AVlt_v, AVlt_any, AVlt_sl, AVlt_ptr, AVlt_mp, AVlt_agg, AVlt_tup, AVlt_fn, RowsLt_nil, RowsLt_live, RowsLt_dead, List.mem_cons, List.not_mem_nil, List.forall_mem_cons, List.forall_mem_nil, or_false, false_or, forall_eq_or_imp, forall_eq, vs_lt, Nat.add_lt_add_iff_left, Nat.reduceLT, true_and, and_true, and_self, List.length_cons, List.length_nil, Nat.reduceAdd, Nat.zero_add, implies_true, false_imp_iff, lt_T, List.mem_map])
          | false =>
            rw [hsm, Bool.false_or] at hnx
            by_cases hlt : k < t[j].evs.length
            · have d3 : decide ((k : Int) < (t[j].evs.length : Int)) = true := decide_eq_true (by omega)
              rw [hje, decide_eq_true hlt, Bool.true_and] at hnx
              have hck : (k : Int) + 1 = ((k + 1 : Nat) : Int) := by omega
              simp (disch := (first | decide | omega)) only [hA, hg1, hg2, ePr, List.length_map, d3, hck, go_sem]
              refine ACalls.nxt (MatrixKnown2_spec t hval hS hN j (k + 1) i (vc t (p, i0) i) hjl (by rw [hje]; exact hlt) hil hvi2 (B.length + 3) (B.length + 4) B.length _ _ (rows _ rfl).1 (rows _ rfl).2.1 (rows _ rfl).2.2) ?_
              simp (disch := (first | decide | omega)) only [hA, hg1, hg2, go_sem]
              refine ⟨i + 1, hil, by simp only; omega, ?_⟩
              exact Weak.kround (p := r_MatrixKnown1) (k := 4) (by ((repeat refine (kAny_up rfl).trans ?_); exact hEE2)) (by ((try simp (disch := decide) only [hA, hnx, go_sem]) <;> (repeat' (first | exact trivial | refine And.intro ?_ ?_)) <;> (first | rfl | (congr 2; omega)))) rfl hE2 (by simp) (by simp (disch := omega) only [KOvLt, AVlt_v, AVlt_any, AVlt_sl, AVlt_ptr, AVlt_mp, AVlt_agg, AVlt_tup, AVlt_fn, RowsLt_nil, RowsLt_live, RowsLt_dead, List.mem_cons, List.not_mem_nil, List.forall_mem_cons, List.forall_mem_nil, or_false, false_or, forall_eq_or_imp, forall_eq, vs_lt, Nat.add_lt_add_iff_left, Nat.reduceLT, true_and, and_true, and_self, List.length_cons, List.length_nil, Nat.reduceAdd, Nat.zero_add, implies_true, false_imp_iff, lt_T, List.mem_map]) hR (by simp (disch := omega) only [AVlt_v, AVlt_any, AVlt_sl, AVlt_ptr, AVlt_mp, AVlt_agg, AVlt_tup, AVlt_fn, RowsLt_nil, RowsLt_live, RowsLt_dead, List.mem_cons, List.not_mem_nil, List.forall_mem_cons, List.forall_mem_nil, or_false, false_or, forall_eq_or_imp, forall_eq, vs_lt, Nat.add_lt_add_iff_left, Nat.reduceLT, true_and, and_true, and_self, List.length_cons, List.length_nil, Nat.reduceAdd, Nat.zero_add, implies_true, false_imp_iff, lt_T, List.mem_map])
            · have d3 : decide ((k : Int) < (t[j].evs.length : Int)) = false := decide_eq_false (by omega)
              rw [hje, decide_eq_false hlt, Bool.false_and] at hnx
              simp (disch := (first | decide | omega)) only [hA, hg1, hg2, ePr, List.length_map, d3, go_sem]
              refine ⟨i + 1, hil, by simp only; omega, ?_⟩
              exact Weak.kround (p := r_MatrixKnown1) (k := 4) (by ((repeat refine (kAny_up rfl).trans ?_); exact hEE2)) (by ((try simp (disch := decide) only [hA, hnx, go_sem]) <;> (repeat' (first | exact trivial | refine And.intro ?_ ?_)) <;> (first | rfl | (congr 2; omega)))) rfl hE2 (by simp) (by simp (disch := omega) only [KOvLt, AVlt_v, AVlt_any, AVlt_sl, AVlt_ptr, AVlt_mp, AVlt_agg, AVlt_tup, AVlt_fn, RowsLt_nil, RowsLt_live, RowsLt_dead, List.mem_cons, List.not_mem_nil, List.forall_mem_cons, List.forall_mem_nil, or_false, false_or, forall_eq_or_imp, forall_eq, vs_lt, Nat.add_lt_add_iff_left, Nat.reduceLT, true_and, and_true, and_self, List.length_cons, List.length_nil, Nat.reduceAdd, Nat.zero_add, implies_true, false_imp_iff, lt_T, List.mem_map]) hR (by simp (disch := omega) only [AVlt_v, AVlt_any, AVlt_sl, AVlt_ptr, AVlt_mp, AVlt_agg, AVlt_tup, AVlt_fn, RowsLt_nil, RowsLt_live, RowsLt_dead, List.mem_cons, List.not_mem_nil, List.forall_mem_cons, List.forall_mem_nil, or_false, false_or, forall_eq_or_imp, forall_eq, vs_lt, Nat.add_lt_add_iff_left, Nat.reduceLT, true_and, and_true, and_self, List.length_cons, List.length_nil, Nat.reduceAdd, Nat.zero_add, implies_true, false_imp_iff, lt_T, List.mem_map])
        · obtain rfl : i = t.length := by omega
          by_cases hlt : k < t[j].evs.length
          · have d3 : decide ((k : Int) < (t[j].evs.length : Int)) = true := decide_eq_true (by omega)
            have hsm : smB t (p, i0) j k t.length = true := smB_all (by rw [hje]; exact hlt) hk3
            simp (disch := (first | decide | omega)) only [hA, hg1, hg2, ePr, List.length_map, d3, hsm, go_sem]
            refine ⟨j + 1, hjl, by simp only; omega, ?_⟩
            exact Weak.kround (p := r_MatrixKnown0) (k := 3) (by ((repeat refine (kAny_up rfl).trans ?_); refine (kAny_sub hg2 (kIn_sub rfl)).trans ?_; (repeat refine (kAny_up rfl).trans ?_); exact hEE1)) (by ((try simp (disch := decide) only [hA, hg1, go_sem]) <;> (repeat' (first | exact trivial | refine And.intro ?_ ?_)) <;> (first | rfl | (congr 2; omega)))) rfl hE1 (by simp) (by simp (disch := omega) only [KOvLt, AVlt_v, AVlt_any, AVlt_sl, AVlt_ptr, AVlt_mp, AVlt_agg, AVlt_tup, AVlt_fn, RowsLt_nil, RowsLt_live, RowsLt_dead, List.mem_cons, List.not_mem_nil, List.forall_mem_cons, List.forall_mem_nil, or_false, false_or, forall_eq_or_imp, forall_eq, vs_lt, Nat.add_lt_add_iff_left, Nat.reduceLT, true_and, and_true, and_self, List.length_cons, List.length_nil, Nat.reduceAdd, Nat.zero_add, implies_true, false_imp_iff, lt_T, List.mem_map]) hR (by simp (disch := omega) only [AVlt_v, AVlt_any, AVlt_sl, AVlt_ptr, AVlt_mp, AVlt_agg, AVlt_tup, AVlt_fn, RowsLt_nil, RowsLt_live, RowsLt_dead, List.mem_cons, List.not_mem_nil, List.forall_mem_cons, List.forall_mem_nil, or_false, false_or, forall_eq_or_imp, forall_eq, vs_lt, Nat.add_lt_add_iff_left, Nat.reduceLT, true_and, and_true, and_self, List.length_cons, List.length_nil, Nat.reduceAdd, Nat.zero_add, implies_true, false_imp_iff, lt_T, List.mem_map])
          · have d3 : decide ((k : Int) < (t[j].evs.length : Int)) = false := decide_eq_false (by omega)
            simp (disch := (first | decide | omega)) only [hA, hg1, hg2, ePr, List.length_map, d3, go_sem]
            refine ⟨j + 1, hjl, by simp only; omega, ?_⟩
            exact Weak.kround (p := r_MatrixKnown0) (k := 3) (by ((repeat refine (kAny_up rfl).trans ?_); refine (kAny_sub hg2 (kIn_sub rfl)).trans ?_; (repeat refine (kAny_up rfl).trans ?_); exact hEE1)) (by ((try simp (disch := decide) only [hA, hg1, go_sem]) <;> (repeat' (first | exact trivial | refine And.intro ?_ ?_)) <;> (first | rfl | (congr 2; omega)))) rfl hE1 (by simp) (by simp (disch := omega) only [KOvLt, AVlt_v, AVlt_any, AVlt_sl, AVlt_ptr, AVlt_mp, AVlt_agg, AVlt_tup, AVlt_fn, RowsLt_nil, RowsLt_live, RowsLt_dead, List.mem_cons, List.not_mem_nil, List.forall_mem_cons, List.forall_mem_nil, or_false, false_or, forall_eq_or_imp, forall_eq, vs_lt, Nat.add_lt_add_iff_left, Nat.reduceLT, true_and, and_true, and_self, List.length_cons, List.length_nil, Nat.reduceAdd, Nat.zero_add, implies_true, false_imp_iff, lt_T, List.mem_map]) hR (by simp (disch := omega) only [AVlt_v, AVlt_any, AVlt_sl, AVlt_ptr, AVlt_mp, AVlt_agg, AVlt_tup, AVlt_fn, RowsLt_nil, RowsLt_live, RowsLt_dead, List.mem_cons, List.not_mem_nil, List.forall_mem_cons, List.forall_mem_nil, or_false, false_or, forall_eq_or_imp, forall_eq, vs_lt, Nat.add_lt_add_iff_left, Nat.reduceLT, true_and, and_true, and_self, List.length_cons, List.length_nil, Nat.reduceAdd, Nat.zero_add, implies_true, false_imp_iff, lt_T, List.mem_map])
      · simp (disch := (first | decide | omega)) only [hA, hg1, go_sem]
        exact leave_pure (xs := [.v (.bool true)]) (.inr rfl) (by simp (disch := (first | decide | omega)) only [resVs, resV, go_sem, hA, hg1]) (by simp only [one, AVlt_v, AVlt_any, AVlt_sl, AVlt_ptr, AVlt_mp, AVlt_agg, AVlt_tup, AVlt_fn, RowsLt_nil, RowsLt_live, RowsLt_dead, List.mem_cons, List.not_mem_nil, List.forall_mem_cons, List.forall_mem_nil, or_false, false_or, forall_eq_or_imp, forall_eq, vs_lt, Nat.add_lt_add_iff_left, Nat.reduceLT, true_and, and_true, and_self, List.length_cons, List.length_nil, Nat.reduceAdd, Nat.zero_add, implies_true, false_imp_iff, lt_T, List.mem_map]) hR hB ⟨rfl, rfl, rfl⟩
end Go.Proofs.Ytoaopldaleaijaa
