/- Texts of one proof, laid together: MW, MR, MX. No condition. -/
import Derived.Test.YtiiflkcebikecaaQD1
/- The laws MatrixTicks and MatrixReceives, as runs. No condition. -/
namespace Go.Proofs.Ytiiflkcebikecaa
set_option linter.unusedVariables false
set_option linter.unusedSimpArgs false
attribute [local go_sem ↓] run_skip run_region run_draw run_seq run_block run_exit run_ret run_cond atN_app seqC_normal seqC_exit seqC_ret seqQ_normal seqQ_exit seqQ_ret blkQ_normal blkQ_exit blkQ_ret runOps_nil runOps_cons runD_nil runD_cons grdO_true grdO_false grdD_true grdD_false ifC_true ifC_false opS_val opS_call opS_two opK_app dS_val dS_call dS_two dK_app kUp_same kUp_ne
attribute [local go_sem] rechks_nil rechks_cons rechk gcase_true gcase_false ex_val ex_val0 gd_none gd_some ev_t ev_c evs_nil evs_cons evo_some evo_none hget_at hget_first hsetB_at hsetB_first hsetL_at hsetL_first ofOpt_some aop aload astore aslice aappend aiaddr aiaddrA afaddr alen alenS acopy amm acall alookup amupdate alenM comma keyEq apick binV binVB binVS isSh intOp strOp boolOp shOp eqC eqF and2 cellsOf setFrom fillA fillS rd rdI elems mk bounds AV.cell List.all_cons List.all_nil Bool.and_true Bool.true_and Bool.and_self List.length_cons List.length_nil List.length_append Nat.reduceAdd Nat.reduceSub Nat.reduceMul Nat.zero_add Nat.add_zero List.cons_append List.nil_append List.append_assoc List.append_nil List.getElem?_cons_zero List.getElem?_cons_succ List.getElem?_nil List.set_cons_zero List.set_cons_succ List.drop_zero List.drop_succ_cons List.take_zero List.take_succ_cons List.take_nil List.drop_nil List.map_cons List.map_nil Option.map_some if_true if_false Bool.false_eq_true and_self true_and and_true Nat.reduceLeDiff Nat.reduceLT Nat.le_refl Nat.reduceEqDiff ite_true ite_false beq_self_eq_true beq_true beq_false Bool.not_true Bool.not_false Bool.true_beq Bool.false_beq map_vs vs_len vs_get vs_take vs_drop vs_snoc1 vs_snoc2 vs_snoc3 vs_snoc5 vs_set1 vs_set2 vs_rep wrap_id le_T lt_T le_F lt_F leI_T ltI_T leI_F ltI_F geI gtI get_T decide_true decide_false room List.getElem?_map List.length_map List.length_take Int.toNat_natCast Nat.min_def Nat.min_self nth_kOf put_kOf put_kNo kOv_cons kOv_nil KHas KArgs List.getElem_cons_zero List.getElem_cons_succ
def a_mfew : AFunc := ⟨1, 11, [.tmp 2],
  (.seq (.region [⟨(some 2), .mv (.c (.v (.bool false))), none⟩])
  (.seq (.region [⟨(some 3), .mv (.t 0), none⟩, ⟨(some 4), .len (.t 3), none⟩, ⟨(some 5), .bin .leq (.t 4) (.c (.v (.int .i64 12))), none⟩, ⟨(some 6), .mv (.t 5), none⟩, ⟨(some 7), .mv (.t 0), some (6, true)⟩, ⟨(some 8), .call (.c (.fn 60 [])) [(.t 7), (.c (.fn 94 []))], some (6, true)⟩, ⟨(some 9), .not (.t 8), some (6, true)⟩, ⟨(some 10), .pick (.t 6) (.t 9) (.c (.v (.bool false))), none⟩, ⟨(some 2), .mv (.t 10), none⟩])
  .ret))⟩
theorem a_mfew_ok : cFunc Try.prog 43 = some a_mfew := by kernel_rfl
def a_mfew1 : AFunc := ⟨1, 6, [.tmp 2],
  (.seq (.region [⟨(some 2), .mv (.c (.v (.bool false))), none⟩])
  (.seq (.region [⟨(some 3), .mv (.t 0), none⟩, ⟨(some 4), .len (.t 3), none⟩, ⟨(some 5), .bin .gtr (.t 4) (.c (.v (.int .i64 12))), none⟩, ⟨(some 2), .mv (.t 5), none⟩])
  .ret))⟩
theorem a_mfew1_ok : cFunc Try.prog 94 = some a_mfew1 := by kernel_rfl
def a_recv1 : AFunc := ⟨2, 12, [.tmp 3],
  (.seq (.region [⟨(some 3), .mv (.c (.v (.bool false))), none⟩])
  (.seq (.region [⟨(some 4), .mv (.t 0), none⟩, ⟨(some 5), .bin .geq (.t 4) (.c (.v (.int .i64 0))), none⟩, ⟨(some 6), .mv (.t 5), none⟩, ⟨(some 7), .mv (.t 0), some (6, true)⟩, ⟨(some 8), .load none (.t 1), some (6, true)⟩, ⟨(some 9), .len (.t 8), some (6, true)⟩, ⟨(some 10), .bin .lss (.t 7) (.t 9), some (6, true)⟩, ⟨(some 11), .pick (.t 6) (.t 10) (.c (.v (.bool false))), none⟩, ⟨(some 3), .mv (.t 11), none⟩])
  .ret))⟩
theorem a_recv1_ok : cFunc Try.prog 54 = some a_recv1 := by kernel_rfl
def a_MatrixReceives : AFunc := ⟨4, 103, [.tmp 8],
  (.seq (.region [⟨(some 4), .box (.t 0), none⟩, ⟨(some 8), .mv (.c (.v (.bool false))), none⟩])
  (.seq (.seq (.region [⟨(some 14), .call (.c (.fn 42 [])) [], none⟩, ⟨(some 15), .not (.t 14), none⟩])
  (.cond (.t 15) (.seq (.region [⟨(some 8), .mv (.c (.v (.bool false))), none⟩])
  .ret)
  .skip))
  (.seq (.seq (.region [⟨(some 16), .load none (.t 4), none⟩, ⟨(some 17), .call (.c (.fn 43 [])) [(.t 16)], none⟩, ⟨(some 18), .not (.t 17), none⟩, ⟨(some 19), .mv (.t 18), none⟩, ⟨(some 20), .mv (.t 2), some (19, false)⟩, ⟨(some 21), .call (.c (.fn 43 [])) [(.t 20)], some (19, false)⟩, ⟨(some 22), .not (.t 21), some (19, false)⟩, ⟨(some 23), .pick (.t 19) (.c (.v (.bool true))) (.t 22), none⟩])
  (.cond (.t 23) (.seq (.region [⟨(some 8), .mv (.c (.v (.bool true))), none⟩])
  .ret)
  .skip))
  (.seq (.region [⟨(some 25), .load none (.t 4), none⟩, ⟨(some 26), .mv (.t 1), none⟩, ⟨(some 27), .mv (.t 2), none⟩, ⟨(some 28), .mv (.t 3), none⟩, ⟨(some 29), .call (.c (.fn 53 [])) [(.t 25), (.t 26), (.t 27), (.t 28)], none⟩, ⟨(some 24), .mv (.t 29), none⟩, ⟨(some 30), .extract 0 (.t 24), none⟩, ⟨(some 31), .extract 1 (.t 24), none⟩, ⟨(some 9), .mv (.t 30), none⟩, ⟨(some 10), .mv (.t 31), none⟩])
  (.seq (.region [⟨(some 32), .mkfn 54 [(.t 4)], none⟩, ⟨(some 11), .mv (.t 32), none⟩])
  (.seq (.block 0 (.seq (.region [⟨(some 34), .load none (.t 4), none⟩, ⟨(some 35), .call (.c (.fn 49 [])) [(.t 34)], none⟩, ⟨(some 36), .not (.t 35), none⟩, ⟨(some 37), .mv (.t 36), none⟩, ⟨(some 38), .mv (.t 2), some (37, false)⟩, ⟨(some 39), .call (.c (.fn 49 [])) [(.t 38)], some (37, false)⟩, ⟨(some 40), .not (.t 39), some (37, false)⟩, ⟨(some 41), .pick (.t 37) (.c (.v (.bool true))) (.t 40), none⟩, ⟨(some 42), .mv (.t 41), none⟩, ⟨(some 43), .load none (.t 4), some (42, false)⟩, ⟨(some 44), .len (.t 43), some (42, false)⟩, ⟨(some 45), .mv (.t 2), some (42, false)⟩, ⟨(some 46), .len (.t 45), some (42, false)⟩, ⟨(some 47), .bin .neq (.t 44) (.t 46), some (42, false)⟩, ⟨(some 48), .pick (.t 42) (.c (.v (.bool true))) (.t 47), none⟩, ⟨(some 33), .mv (.t 48), none⟩])
  (.cond (.t 33) (.seq (.region [⟨(some 49), .mv (.t 9), none⟩, ⟨(some 50), .len (.t 49), none⟩, ⟨(some 51), .bin .eql (.t 50) (.c (.v (.int .i64 0))), none⟩, ⟨(some 52), .mv (.t 51), none⟩, ⟨(some 53), .mv (.t 10), some (52, true)⟩, ⟨(some 54), .bin .eql (.t 53) (.c (.v (.int .i64 1))), some (52, true)⟩, ⟨(some 55), .pick (.t 52) (.t 54) (.c (.v (.bool false))), none⟩, ⟨(some 8), .mv (.t 55), none⟩])
  .ret)
  (.seq (.region [⟨(some 57), .mv (.t 11), none⟩, ⟨(some 58), .mv (.t 1), none⟩, ⟨(some 59), .call (.t 57) [(.t 58)], none⟩, ⟨(some 60), .not (.t 59), none⟩, ⟨(some 61), .mv (.t 60), none⟩, ⟨(some 62), .mv (.t 11), some (61, false)⟩, ⟨(some 63), .mv (.t 3), some (61, false)⟩, ⟨(some 64), .call (.t 62) [(.t 63)], some (61, false)⟩, ⟨(some 65), .not (.t 64), some (61, false)⟩, ⟨(some 66), .pick (.t 61) (.c (.v (.bool true))) (.t 65), none⟩, ⟨(some 67), .mv (.t 66), none⟩, ⟨(some 68), .mv (.t 1), some (67, false)⟩, ⟨(some 69), .mv (.t 3), some (67, false)⟩, ⟨(some 70), .bin .eql (.t 68) (.t 69), some (67, false)⟩, ⟨(some 71), .pick (.t 67) (.c (.v (.bool true))) (.t 70), none⟩, ⟨(some 56), .mv (.t 71), none⟩])
  (.cond (.t 56) (.seq (.region [⟨(some 72), .mv (.t 9), none⟩, ⟨(some 73), .len (.t 72), none⟩, ⟨(some 74), .bin .eql (.t 73) (.c (.v (.int .i64 0))), none⟩, ⟨(some 75), .mv (.t 74), none⟩, ⟨(some 76), .mv (.t 10), some (75, true)⟩, ⟨(some 77), .bin .eql (.t 76) (.c (.v (.int .i64 2))), some (75, true)⟩, ⟨(some 78), .pick (.t 75) (.t 77) (.c (.v (.bool false))), none⟩, ⟨(some 8), .mv (.t 78), none⟩])
  .ret)
  .skip)))))
  (.seq (.region [⟨(some 80), .load none (.t 4), none⟩, ⟨(some 81), .mv (.t 1), none⟩, ⟨(some 82), .mv (.t 2), none⟩, ⟨(some 83), .mv (.t 3), none⟩, ⟨(some 84), .call (.c (.fn 55 [])) [(.t 80), (.t 81), (.t 82), (.t 83)], none⟩, ⟨(some 79), .mv (.t 84), none⟩, ⟨(some 85), .extract 0 (.t 79), none⟩, ⟨(some 86), .extract 1 (.t 79), none⟩, ⟨(some 12), .mv (.t 85), none⟩, ⟨(some 13), .mv (.t 86), none⟩])
  (.seq (.seq (.region [⟨(some 87), .mv (.t 13), none⟩, ⟨(some 88), .not (.t 87), none⟩])
  (.cond (.t 88) (.seq (.region [⟨(some 89), .mv (.t 9), none⟩, ⟨(some 90), .len (.t 89), none⟩, ⟨(some 91), .bin .eql (.t 90) (.c (.v (.int .i64 0))), none⟩, ⟨(some 92), .mv (.t 91), none⟩, ⟨(some 93), .mv (.t 10), some (92, true)⟩, ⟨(some 94), .bin .eql (.t 93) (.c (.v (.int .i64 9))), some (92, true)⟩, ⟨(some 95), .pick (.t 92) (.t 94) (.c (.v (.bool false))), none⟩, ⟨(some 8), .mv (.t 95), none⟩])
  .ret)
  .skip))
  (.seq (.region [⟨(some 96), .mv (.t 10), none⟩, ⟨(some 97), .bin .eql (.t 96) (.c (.v (.int .i64 0))), none⟩, ⟨(some 98), .mv (.t 97), none⟩, ⟨(some 99), .mv (.t 9), some (98, true)⟩, ⟨(some 100), .mv (.t 12), some (98, true)⟩, ⟨(some 101), .call (.c (.fn 45 [])) [(.t 99), (.t 100)], some (98, true)⟩, ⟨(some 102), .pick (.t 98) (.t 101) (.c (.v (.bool false))), none⟩, ⟨(some 8), .mv (.t 102), none⟩])
  .ret)))))))))⟩
theorem a_MatrixReceives_ok : cFunc Try.prog 10 = some a_MatrixReceives := by kernel_rfl
def a_MatrixTicks : AFunc := ⟨3, 133, [.tmp 6],
  (.seq (.region [⟨(some 6), .mv (.c (.v (.bool false))), none⟩])
  (.seq (.seq (.region [⟨(some 15), .call (.c (.fn 42 [])) [], none⟩, ⟨(some 16), .not (.t 15), none⟩])
  (.cond (.t 16) (.seq (.region [⟨(some 6), .mv (.c (.v (.bool false))), none⟩])
  .ret)
  .skip))
  (.seq (.seq (.region [⟨(some 17), .mv (.t 1), none⟩, ⟨(some 18), .call (.c (.fn 43 [])) [(.t 17)], none⟩, ⟨(some 19), .not (.t 18), none⟩])
  (.cond (.t 19) (.seq (.region [⟨(some 6), .mv (.c (.v (.bool true))), none⟩])
  .ret)
  .skip))
  (.seq (.region [⟨(some 21), .mv (.t 0), none⟩, ⟨(some 22), .call (.c (.fn 44 [])) [(.t 21)], none⟩, ⟨(some 20), .mv (.t 22), none⟩, ⟨(some 23), .extract 0 (.t 20), none⟩, ⟨(some 24), .extract 1 (.t 20), none⟩, ⟨(some 7), .mv (.t 23), none⟩, ⟨(some 8), .mv (.t 24), none⟩])
  (.seq (.seq (.region [⟨(some 25), .mv (.t 0), none⟩, ⟨(some 26), .bin .lss (.t 25) (.c (.v (.int .i64 1))), none⟩, ⟨(some 27), .mv (.t 26), none⟩, ⟨(some 28), .mv (.t 0), some (27, false)⟩, ⟨(some 29), .bin .gtr (.t 28) (.c (.v (.int .i64 8))), some (27, false)⟩, ⟨(some 30), .pick (.t 27) (.c (.v (.bool true))) (.t 29), none⟩])
  (.cond (.t 30) (.seq (.region [⟨(some 31), .mv (.t 7), none⟩, ⟨(some 32), .len (.t 31), none⟩, ⟨(some 33), .bin .neq (.t 32) (.c (.v (.int .i64 0))), none⟩, ⟨(some 34), .mv (.t 33), none⟩, ⟨(some 35), .mv (.t 8), some (34, false)⟩, ⟨(some 36), .bin .neq (.t 35) (.c (.v (.int .i64 2))), some (34, false)⟩, ⟨(some 37), .pick (.t 34) (.c (.v (.bool true))) (.t 36), none⟩])
  (.cond (.t 37) (.seq (.region [⟨(some 6), .mv (.c (.v (.bool false))), none⟩])
  .ret)
  .skip))
  (.seq (.region [⟨(some 38), .mv (.t 8), none⟩, ⟨(some 39), .bin .neq (.t 38) (.c (.v (.int .i64 0))), none⟩, ⟨(some 40), .mv (.t 39), none⟩, ⟨(some 41), .mv (.t 7), some (40, false)⟩, ⟨(some 42), .mv (.t 0), some (40, false)⟩, ⟨(some 43), .call (.c (.fn 46 [])) [(.t 42)], some (40, false)⟩, ⟨(some 44), .call (.c (.fn 45 [])) [(.t 41), (.t 43)], some (40, false)⟩, ⟨(some 45), .not (.t 44), some (40, false)⟩, ⟨(some 46), .pick (.t 40) (.c (.v (.bool true))) (.t 45), none⟩])
  (.cond (.t 46) (.seq (.region [⟨(some 6), .mv (.c (.v (.bool false))), none⟩])
  .ret)
  .skip))))
  (.seq (.region [⟨(some 48), .mv (.t 1), none⟩, ⟨(some 49), .mv (.t 2), none⟩, ⟨(some 50), .call (.c (.fn 47 [])) [(.t 48), (.t 49)], none⟩, ⟨(some 47), .mv (.t 50), none⟩, ⟨(some 51), .extract 0 (.t 47), none⟩, ⟨(some 52), .extract 1 (.t 47), none⟩, ⟨(some 9), .mv (.t 51), none⟩, ⟨(some 10), .mv (.t 52), none⟩])
  (.seq (.region [⟨(some 54), .mv (.t 1), none⟩, ⟨(some 55), .call (.c (.fn 48 [])) [(.t 54)], none⟩, ⟨(some 53), .mv (.t 55), none⟩, ⟨(some 56), .extract 0 (.t 53), none⟩, ⟨(some 57), .extract 1 (.t 53), none⟩, ⟨(some 11), .mv (.t 56), none⟩, ⟨(some 12), .mv (.t 57), none⟩])
  (.seq (.seq (.region [⟨(some 58), .mv (.t 1), none⟩, ⟨(some 59), .call (.c (.fn 49 [])) [(.t 58)], none⟩, ⟨(some 60), .not (.t 59), none⟩])
  (.cond (.t 60) (.seq (.region [⟨(some 61), .mv (.t 1), none⟩, ⟨(some 62), .call (.c (.fn 50 [])) [(.t 61)], none⟩, ⟨(some 63), .not (.t 62), none⟩, ⟨(some 64), .mv (.t 63), none⟩, ⟨(some 65), .mv (.t 9), some (64, true)⟩, ⟨(some 66), .len (.t 65), some (64, true)⟩, ⟨(some 67), .bin .eql (.t 66) (.c (.v (.int .i64 0))), some (64, true)⟩, ⟨(some 68), .pick (.t 64) (.t 67) (.c (.v (.bool false))), none⟩, ⟨(some 69), .mv (.t 68), none⟩, ⟨(some 70), .mv (.t 10), some (69, true)⟩, ⟨(some 71), .bin .eql (.t 70) (.c (.v (.int .i64 1))), some (69, true)⟩, ⟨(some 72), .pick (.t 69) (.t 71) (.c (.v (.bool false))), none⟩, ⟨(some 73), .mv (.t 72), none⟩, ⟨(some 74), .mv (.t 11), some (73, true)⟩, ⟨(some 75), .len (.t 74), some (73, true)⟩, ⟨(some 76), .bin .eql (.t 75) (.c (.v (.int .i64 0))), some (73, true)⟩, ⟨(some 77), .pick (.t 73) (.t 76) (.c (.v (.bool false))), none⟩, ⟨(some 78), .mv (.t 77), none⟩, ⟨(some 79), .mv (.t 12), some (78, true)⟩, ⟨(some 80), .bin .eql (.t 79) (.c (.v (.int .i64 1))), some (78, true)⟩, ⟨(some 81), .pick (.t 78) (.t 80) (.c (.v (.bool false))), none⟩, ⟨(some 6), .mv (.t 81), none⟩])
  .ret)
  .skip))
  (.seq (.seq (.region [⟨(some 82), .mv (.t 1), none⟩, ⟨(some 83), .call (.c (.fn 50 [])) [(.t 82)], none⟩, ⟨(some 84), .not (.t 83), none⟩, ⟨(some 85), .mv (.t 84), none⟩, ⟨(some 86), .mv (.t 12), some (85, false)⟩, ⟨(some 87), .bin .neq (.t 86) (.c (.v (.int .i64 0))), some (85, false)⟩, ⟨(some 88), .pick (.t 85) (.c (.v (.bool true))) (.t 87), none⟩, ⟨(some 89), .mv (.t 88), none⟩, ⟨(some 90), .mv (.t 11), some (89, false)⟩, ⟨(some 91), .mv (.t 1), some (89, false)⟩, ⟨(some 92), .call (.c (.fn 51 [])) [(.t 91)], some (89, false)⟩, ⟨(some 93), .call (.c (.fn 26 [])) [(.t 90), (.t 92)], some (89, false)⟩, ⟨(some 94), .not (.t 93), some (89, false)⟩, ⟨(some 95), .pick (.t 89) (.c (.v (.bool true))) (.t 94), none⟩])
  (.cond (.t 95) (.seq (.region [⟨(some 6), .mv (.c (.v (.bool false))), none⟩])
  .ret)
  .skip))
  (.seq (.seq (.region [⟨(some 96), .mv (.t 2), none⟩, ⟨(some 97), .bin .lss (.t 96) (.c (.v (.int .i64 0))), none⟩, ⟨(some 98), .mv (.t 97), none⟩, ⟨(some 99), .mv (.t 2), some (98, false)⟩, ⟨(some 100), .mv (.t 1), some (98, false)⟩, ⟨(some 101), .len (.t 100), some (98, false)⟩, ⟨(some 102), .bin .geq (.t 99) (.t 101), some (98, false)⟩, ⟨(some 103), .pick (.t 98) (.c (.v (.bool true))) (.t 102), none⟩])
  (.cond (.t 103) (.seq (.region [⟨(some 104), .mv (.t 9), none⟩, ⟨(some 105), .len (.t 104), none⟩, ⟨(some 106), .bin .eql (.t 105) (.c (.v (.int .i64 0))), none⟩, ⟨(some 107), .mv (.t 106), none⟩, ⟨(some 108), .mv (.t 10), some (107, true)⟩, ⟨(some 109), .bin .eql (.t 108) (.c (.v (.int .i64 2))), some (107, true)⟩, ⟨(some 110), .pick (.t 107) (.t 109) (.c (.v (.bool false))), none⟩, ⟨(some 6), .mv (.t 110), none⟩])
  .ret)
  .skip))
  (.seq (.region [⟨(some 112), .mv (.t 1), none⟩, ⟨(some 113), .mv (.t 2), none⟩, ⟨(some 114), .call (.c (.fn 52 [])) [(.t 112), (.t 113)], none⟩, ⟨(some 111), .mv (.t 114), none⟩, ⟨(some 115), .extract 0 (.t 111), none⟩, ⟨(some 116), .extract 1 (.t 111), none⟩, ⟨(some 13), .mv (.t 115), none⟩, ⟨(some 14), .mv (.t 116), none⟩])
  (.seq (.seq (.region [⟨(some 117), .mv (.t 14), none⟩, ⟨(some 118), .not (.t 117), none⟩])
  (.cond (.t 118) (.seq (.region [⟨(some 119), .mv (.t 9), none⟩, ⟨(some 120), .len (.t 119), none⟩, ⟨(some 121), .bin .eql (.t 120) (.c (.v (.int .i64 0))), none⟩, ⟨(some 122), .mv (.t 121), none⟩, ⟨(some 123), .mv (.t 10), some (122, true)⟩, ⟨(some 124), .bin .eql (.t 123) (.c (.v (.int .i64 9))), some (122, true)⟩, ⟨(some 125), .pick (.t 122) (.t 124) (.c (.v (.bool false))), none⟩, ⟨(some 6), .mv (.t 125), none⟩])
  .ret)
  .skip))
  (.seq (.region [⟨(some 126), .mv (.t 10), none⟩, ⟨(some 127), .bin .eql (.t 126) (.c (.v (.int .i64 0))), none⟩, ⟨(some 128), .mv (.t 127), none⟩, ⟨(some 129), .mv (.t 9), some (128, true)⟩, ⟨(some 130), .mv (.t 13), some (128, true)⟩, ⟨(some 131), .call (.c (.fn 45 [])) [(.t 129), (.t 130)], some (128, true)⟩, ⟨(some 132), .pick (.t 128) (.t 131) (.c (.v (.bool false))), none⟩, ⟨(some 6), .mv (.t 132), none⟩])
  .ret)))))))))))))⟩
theorem a_MatrixTicks_ok : cFunc Try.prog 9 = some a_MatrixTicks := by kernel_rfl

def longAt (m : List (List Int)) (i : Nat) : Bool := decide ((rowAt m i).length > 12)
def fewM (m : List (List Int)) : Bool := decide (m.length ≤ 12) && !(List.range m.length).any (longAt m)
theorem mfew1_spec (x : List Int) (b l : List Row) : ACalls Try.prog 94 [.v (.isl 1 (x.map eI))] b l (fun r b' l' => r = .v (.bool (decide (x.length > 12))) ∧ b' = b ∧ l' = l) := by
  refine calls_kept a_mfew1_ok rfl (by decide) ?_
  intro B g hB hR hE hA
  simp only [KArgs] at hA
  have hq : decide ((12 : Int) < x.length) = decide (x.length > 12) := by
    by_cases h : x.length > 12
    · rw [decide_eq_true h, decide_eq_true (by omega)]
    · rw [decide_eq_false h, decide_eq_false (by omega)]
  simp (disch := decide) only [a_mfew1, hA, List.length_map, go_sem]
  exact leave_pure (xs := [.v (.bool (decide ((12 : Int) < x.length)))]) (.inr rfl) (by simp (disch := (first | decide | omega)) only [resVs, resV, go_sem, hA, List.length_map]) (by simp only [one, AVlt_v, AVlt_any, AVlt_sl, AVlt_ptr, AVlt_mp, AVlt_agg, AVlt_tup, AVlt_fn, RowsLt_nil, RowsLt_live, RowsLt_dead, List.mem_cons, List.not_mem_nil, List.forall_mem_cons, List.forall_mem_nil, or_false, false_or, forall_eq_or_imp, forall_eq, vs_lt, Nat.add_lt_add_iff_left, Nat.reduceLT, true_and, and_true, and_self, List.length_cons, List.length_nil, Nat.reduceAdd, Nat.zero_add, implies_true, false_imp_iff, lt_T, List.mem_map]) hR hB ⟨by rw [hq]; rfl, rfl, rfl⟩
theorem mfew_spec (m : List (List Int)) (b l : List Row) : ACalls Try.prog 43 [.v (.isl 1 (m.map eRw))] b l (fun r b' l' => r = .v (.bool (fewM m)) ∧ b' = b ∧ l' = l) := by
  refine calls_kept a_mfew_ok rfl (by decide) ?_
  intro B g hB hR hE hA
  simp only [KArgs] at hA
  by_cases h : m.length ≤ 12
  · have hd : decide ((m.length : Int) ≤ 12) = true := decide_eq_true (by omega)
    simp (disch := decide) only [a_mfew, hA, List.length_map, hd, go_sem]
    refine ACalls.nxt (containsM_spec m _ [] (longAt m) (by omega) _ _ (fun i hi => by unfold longAt; rw [rowAt_at hi]; exact mfew1_spec _ _ _)) ?_
    simp (disch := decide) only [hA, go_sem]
    exact leave_pure (xs := [.v (.bool (!(List.range m.length).any (longAt m)))]) (.inr rfl) (by simp (disch := (first | decide | omega)) only [resVs, resV, go_sem, hA]) (by simp only [one, AVlt_v, AVlt_any, AVlt_sl, AVlt_ptr, AVlt_mp, AVlt_agg, AVlt_tup, AVlt_fn, RowsLt_nil, RowsLt_live, RowsLt_dead, List.mem_cons, List.not_mem_nil, List.forall_mem_cons, List.forall_mem_nil, or_false, false_or, forall_eq_or_imp, forall_eq, vs_lt, Nat.add_lt_add_iff_left, Nat.reduceLT, true_and, and_true, and_self, List.length_cons, List.length_nil, Nat.reduceAdd, Nat.zero_add, implies_true, false_imp_iff, lt_T, List.mem_map]) hR hB ⟨by simp [fewM, h, one], rfl, rfl⟩
  · have hd : decide ((m.length : Int) ≤ 12) = false := decide_eq_false (by omega)
    simp (disch := decide) only [a_mfew, hA, List.length_map, hd, go_sem]
    exact leave_pure (xs := [.v (.bool false)]) (.inr rfl) (by simp (disch := (first | decide | omega)) only [resVs, resV, go_sem, hA]) (by simp only [one, AVlt_v, AVlt_any, AVlt_sl, AVlt_ptr, AVlt_mp, AVlt_agg, AVlt_tup, AVlt_fn, RowsLt_nil, RowsLt_live, RowsLt_dead, List.mem_cons, List.not_mem_nil, List.forall_mem_cons, List.forall_mem_nil, or_false, false_or, forall_eq_or_imp, forall_eq, vs_lt, Nat.add_lt_add_iff_left, Nat.reduceLT, true_and, and_true, and_self, List.length_cons, List.length_nil, Nat.reduceAdd, Nat.zero_add, implies_true, false_imp_iff, lt_T, List.mem_map]) hR hB ⟨by simp [fewM, h, one], rfl, rfl⟩
theorem fewM_fit {m : List (List Int)} (h : fewM m = true) : Fit m := by
  simp only [fewM, Bool.and_eq_true, decide_eq_true_eq, Bool.not_eq_true', List.any_eq_false, List.mem_range, longAt] at h
  refine ⟨by omega, fun r hr => ?_⟩
  obtain ⟨i, hi, rfl⟩ := List.mem_iff_getElem.1 hr
  have := h.2 i hi
  rw [rowAt_at hi] at this
  omega
theorem recv1_spec (m : List (List Int)) (i : Int) (id : Nat) (b l : List Row) (hid : (b ++ l)[id]? = some (.live 0 1 [[.v (.isl 1 (m.map eRw))]])) : ACalls Try.prog 54 [.v (.int .i64 i), .ptr id 0 0 0] b l (fun r b' l' => r = .v (.bool (decide (0 ≤ i) && decide (i < (m.length : Int)))) ∧ b' = b ∧ l' = l) := by
  refine calls_kept a_recv1_ok rfl (by decide) ?_
  intro B g hB hR hE hA
  simp only [KArgs] at hA
  have hlt : id < B.length := by rw [hB]; exact (List.getElem?_eq_some_iff.1 hid).1
  have hbase : ∀ l, hget B l id = some (.live 0 1 [[.v (.isl 1 (m.map eRw))]]) := fun l => by unfold hget; rw [if_pos hlt, hB, hid]
  cases h1 : decide (0 ≤ i)
  · simp (disch := (first | decide | omega)) only [a_recv1, hA, hbase, h1, List.length_map, go_sem]
    exact leave_pure (xs := [.v (.bool false)]) (.inr rfl) (by simp (disch := (first | decide | omega)) only [resVs, resV, go_sem, hA]) (by simp only [one, AVlt_v, AVlt_any, AVlt_sl, AVlt_ptr, AVlt_mp, AVlt_agg, AVlt_tup, AVlt_fn, RowsLt_nil, RowsLt_live, RowsLt_dead, List.mem_cons, List.not_mem_nil, List.forall_mem_cons, List.forall_mem_nil, or_false, false_or, forall_eq_or_imp, forall_eq, vs_lt, Nat.add_lt_add_iff_left, Nat.reduceLT, true_and, and_true, and_self, List.length_cons, List.length_nil, Nat.reduceAdd, Nat.zero_add, implies_true, false_imp_iff, lt_T, List.mem_map]) hR hB ⟨rfl, rfl, rfl⟩
  · simp (disch := (first | decide | omega)) only [a_recv1, hA, hbase, h1, List.length_map, go_sem]
    exact leave_pure (xs := [.v (.bool (decide (i < (m.length : Int))))]) (.inr rfl) (by simp (disch := (first | decide | omega)) only [resVs, resV, go_sem, hA]) (by simp only [one, AVlt_v, AVlt_any, AVlt_sl, AVlt_ptr, AVlt_mp, AVlt_agg, AVlt_tup, AVlt_fn, RowsLt_nil, RowsLt_live, RowsLt_dead, List.mem_cons, List.not_mem_nil, List.forall_mem_cons, List.forall_mem_nil, or_false, false_or, forall_eq_or_imp, forall_eq, vs_lt, Nat.add_lt_add_iff_left, Nat.reduceLT, true_and, and_true, and_self, List.length_cons, List.length_nil, Nat.reduceAdd, Nat.zero_add, implies_true, false_imp_iff, lt_T, List.mem_map]) hR hB ⟨rfl, rfl, rfl⟩
theorem tick_ok {m : List (List Int)} (hm : isM m = true) {n : Nat} (hn : n < m.length) : (tickME m n = 0 ∧ decide (ent m n n + 1 ≤ 1125899906842624) = true) ∨ (tickME m n = 9 ∧ decide (ent m n n + 1 ≤ 1125899906842624) = false) := by
  unfold tickME
  rw [if_neg (by simp [hm]), if_neg (by omega), Int.toNat_natCast]
  by_cases h : ent m n n ≥ 1125899906842624
  · rw [if_pos h]; exact .inr ⟨rfl, decide_eq_false (by omega)⟩
  · rw [if_neg h]; exact .inl ⟨rfl, decide_eq_true (by omega)⟩
theorem tickM_fit {m : List (List Int)} (hF : Fit m) {n : Nat} : Fit (tickM m n) := by
  refine ⟨by unfold tickM; rw [fl_len]; exact hF.1, fun r hr => ?_⟩
  obtain ⟨j, hj, rfl⟩ := List.mem_map.1 hr
  have hj := List.mem_range.1 hj
  have rl : ∀ i, (rowAt m i).length ≤ 1000000 := by
    intro i
    by_cases hi : i < m.length
    · rw [rowAt_at hi]; exact hF.2 _ (List.getElem_mem hi)
    · unfold rowAt; simp [List.getD_eq_getElem?_getD, List.getElem?_eq_none (show m.length ≤ i by omega)]
  split
  · rw [List.length_set]; exact rl n
  · exact rl j
set_option maxRecDepth 20000 in
set_option maxHeartbeats 1000000 in
theorem matrixReceives_run (m : List (List Int)) (p : Int) (got : List (List Int)) (q : Int) (b l : List Row)
    (hw : ∀ b l, ACalls Try.prog 42 [] b l (fun r b' l' => r = .v (.bool true) ∧ b' = b ∧ l' = l)) :
    ACalls Try.prog 10 [.v (.isl 1 (m.map eRw)), .v (.int .i64 p), .v (.isl 1 (got.map eRw)), .v (.int .i64 q)] b l (fun r b' l' => r = .v (.bool true) ∧ b' = b ∧ l' = l) := by
  refine calls_kept a_MatrixReceives_ok rfl (by decide) ?_
  intro B g hB hR hE hA
  simp only [KArgs] at hA
  simp (disch := decide) only [a_MatrixReceives, hA, go_sem]
  refine ACalls.nxt (hw _ _) ?_
  simp (disch := decide) only [hA, go_sem]
  refine ACalls.nxt (mfew_spec m _ _) ?_
  cases hf : fewM m
  · simp (disch := decide) only [hA, go_sem]
    exact leave_pure (xs := [.v (.bool true)]) (.inr rfl) (by simp (disch := (first | decide | omega)) only [resVs, resV, go_sem, hA]) (by simp only [one, AVlt_v, AVlt_any, AVlt_sl, AVlt_ptr, AVlt_mp, AVlt_agg, AVlt_tup, AVlt_fn, RowsLt_nil, RowsLt_live, RowsLt_dead, List.mem_cons, List.not_mem_nil, List.forall_mem_cons, List.forall_mem_nil, or_false, false_or, forall_eq_or_imp, forall_eq, vs_lt, Nat.add_lt_add_iff_left, Nat.reduceLT, true_and, and_true, and_self, List.length_cons, List.length_nil, Nat.reduceAdd, Nat.zero_add, implies_true, false_imp_iff, lt_T, List.mem_map]) hR hB ⟨rfl, rfl, rfl⟩
  simp (disch := decide) only [hA, go_sem]
  refine ACalls.nxt (mfew_spec got _ _) ?_
  cases hg : fewM got
  · simp (disch := decide) only [hA, go_sem]
    exact leave_pure (xs := [.v (.bool true)]) (.inr rfl) (by simp (disch := (first | decide | omega)) only [resVs, resV, go_sem, hA]) (by simp only [one, AVlt_v, AVlt_any, AVlt_sl, AVlt_ptr, AVlt_mp, AVlt_agg, AVlt_tup, AVlt_fn, RowsLt_nil, RowsLt_live, RowsLt_dead, List.mem_cons, List.not_mem_nil, List.forall_mem_cons, List.forall_mem_nil, or_false, false_or, forall_eq_or_imp, forall_eq, vs_lt, Nat.add_lt_add_iff_left, Nat.reduceLT, true_and, and_true, and_self, List.length_cons, List.length_nil, Nat.reduceAdd, Nat.zero_add, implies_true, false_imp_iff, lt_T, List.mem_map]) hR hB ⟨rfl, rfl, rfl⟩
  have hF := fewM_fit hf
  have hG := fewM_fit hg
  have nes : ∀ n : Int, (n != n) = false := by intro n; simp
  have beqs : ∀ n : Int, (n == n) = true := by intro n; simp
  simp (disch := decide) only [hA, go_sem]
  refine ACalls.nxt (mReceive_spec m got hF hG p q _ _) ?_
  have hin : ∀ (l' : List Row) (i : Int), ACalls Try.prog 54 [.v (.int .i64 i), .ptr B.length 0 0 0] B [.live 0 1 [[.v (.isl 1 (m.map eRw))]]] (fun r b' l' => r = .v (.bool (decide (0 ≤ i) && decide (i < (m.length : Int)))) ∧ b' = B ∧ l' = [.live 0 1 [[.v (.isl 1 (m.map eRw))]]]) := fun _ i =>
    recv1_spec m i B.length _ _ (by rw [List.getElem?_append_right (Nat.le_refl _)]; simp)
  by_cases hA1 : isM m = false ∨ isM got = false ∨ got.length ≠ m.length
  · have e : recvE m p got q = 1 := by unfold recvE; rw [if_pos hA1]
    rw [recvR, e, if_neg (by decide)]
    simp (disch := decide) only [hA, go_sem]
    refine ACalls.nxt (rmValid_spec m hF _ _) ?_
    cases h1 : isM m
    · simp (disch := decide) only [hA, beqs, go_sem]
      exact leave_pure (xs := [.v (.bool true)]) (.inr rfl) (by simp (disch := (first | decide | omega)) only [resVs, resV, go_sem, hA]) (by simp only [one, AVlt_v, AVlt_any, AVlt_sl, AVlt_ptr, AVlt_mp, AVlt_agg, AVlt_tup, AVlt_fn, RowsLt_nil, RowsLt_live, RowsLt_dead, List.mem_cons, List.not_mem_nil, List.forall_mem_cons, List.forall_mem_nil, or_false, false_or, forall_eq_or_imp, forall_eq, vs_lt, Nat.add_lt_add_iff_left, Nat.reduceLT, true_and, and_true, and_self, List.length_cons, List.length_nil, Nat.reduceAdd, Nat.zero_add, implies_true, false_imp_iff, lt_T, List.mem_map]) hR hB ⟨rfl, rfl, rfl⟩
    simp (disch := decide) only [hA, go_sem]
    refine ACalls.nxt (rmValid_spec got hG _ _) ?_
    cases h2 : isM got
    · simp (disch := decide) only [hA, beqs, go_sem]
      exact leave_pure (xs := [.v (.bool true)]) (.inr rfl) (by simp (disch := (first | decide | omega)) only [resVs, resV, go_sem, hA]) (by simp only [one, AVlt_v, AVlt_any, AVlt_sl, AVlt_ptr, AVlt_mp, AVlt_agg, AVlt_tup, AVlt_fn, RowsLt_nil, RowsLt_live, RowsLt_dead, List.mem_cons, List.not_mem_nil, List.forall_mem_cons, List.forall_mem_nil, or_false, false_or, forall_eq_or_imp, forall_eq, vs_lt, Nat.add_lt_add_iff_left, Nat.reduceLT, true_and, and_true, and_self, List.length_cons, List.length_nil, Nat.reduceAdd, Nat.zero_add, implies_true, false_imp_iff, lt_T, List.mem_map]) hR hB ⟨rfl, rfl, rfl⟩
    have h3 : got.length ≠ m.length := by rw [h1, h2] at hA1; simpa using hA1
    have hd : ((m.length : Int) != (got.length : Int)) = true := by simp; omega
    simp (disch := decide) only [hA, List.length_map, hd, beqs, go_sem]
    exact leave_pure (xs := [.v (.bool true)]) (.inr rfl) (by simp (disch := (first | decide | omega)) only [resVs, resV, go_sem, hA]) (by simp only [one, AVlt_v, AVlt_any, AVlt_sl, AVlt_ptr, AVlt_mp, AVlt_agg, AVlt_tup, AVlt_fn, RowsLt_nil, RowsLt_live, RowsLt_dead, List.mem_cons, List.not_mem_nil, List.forall_mem_cons, List.forall_mem_nil, or_false, false_or, forall_eq_or_imp, forall_eq, vs_lt, Nat.add_lt_add_iff_left, Nat.reduceLT, true_and, and_true, and_self, List.length_cons, List.length_nil, Nat.reduceAdd, Nat.zero_add, implies_true, false_imp_iff, lt_T, List.mem_map]) hR hB ⟨rfl, rfl, rfl⟩
  have h1 : isM m = true := by
    cases h : isM m
    · exact absurd (.inl h) hA1
    · rfl
  have h2 : isM got = true := by
    cases h : isM got
    · exact absurd (.inr (.inl h)) hA1
    · rfl
  have h3 : got.length = m.length := Classical.byContradiction fun h => hA1 (.inr (.inr h))
  have hd : ((m.length : Int) != (got.length : Int)) = false := by simp [h3]
  by_cases hA2 : p < 0 ∨ p ≥ m.length ∨ q < 0 ∨ q ≥ m.length ∨ p = q
  · have e : recvE m p got q = 2 := by unfold recvE; rw [if_neg hA1, if_pos hA2]
    rw [recvR, e, if_neg (by decide)]
    simp (disch := decide) only [hA, go_sem]
    refine ACalls.nxt (rmValid_spec m hF _ _) ?_
    rw [h1]
    simp (disch := decide) only [hA, go_sem]
    refine ACalls.nxt (rmValid_spec got hG _ _) ?_
    rw [h2]
    simp (disch := decide) only [hA, List.length_map, hd, go_sem]
    refine ACalls.nxt (hin [] p) ?_
    cases c1 : (decide (0 ≤ p) && decide (p < (m.length : Int)))
    · simp (disch := decide) only [hA, beqs, go_sem]
      exact leave_pure (xs := [.v (.bool true)]) (.inr rfl) (by simp (disch := (first | decide | omega)) only [resVs, resV, go_sem, hA]) (by simp only [one, AVlt_v, AVlt_any, AVlt_sl, AVlt_ptr, AVlt_mp, AVlt_agg, AVlt_tup, AVlt_fn, RowsLt_nil, RowsLt_live, RowsLt_dead, List.mem_cons, List.not_mem_nil, List.forall_mem_cons, List.forall_mem_nil, or_false, false_or, forall_eq_or_imp, forall_eq, vs_lt, Nat.add_lt_add_iff_left, Nat.reduceLT, true_and, and_true, and_self, List.length_cons, List.length_nil, Nat.reduceAdd, Nat.zero_add, implies_true, false_imp_iff, lt_T, List.mem_map]) hR hB ⟨rfl, rfl, rfl⟩
    simp (disch := decide) only [hA, go_sem]
    refine ACalls.nxt (hin [] q) ?_
    cases c2 : (decide (0 ≤ q) && decide (q < (m.length : Int)))
    · simp (disch := decide) only [hA, beqs, go_sem]
      exact leave_pure (xs := [.v (.bool true)]) (.inr rfl) (by simp (disch := (first | decide | omega)) only [resVs, resV, go_sem, hA]) (by simp only [one, AVlt_v, AVlt_any, AVlt_sl, AVlt_ptr, AVlt_mp, AVlt_agg, AVlt_tup, AVlt_fn, RowsLt_nil, RowsLt_live, RowsLt_dead, List.mem_cons, List.not_mem_nil, List.forall_mem_cons, List.forall_mem_nil, or_false, false_or, forall_eq_or_imp, forall_eq, vs_lt, Nat.add_lt_add_iff_left, Nat.reduceLT, true_and, and_true, and_self, List.length_cons, List.length_nil, Nat.reduceAdd, Nat.zero_add, implies_true, false_imp_iff, lt_T, List.mem_map]) hR hB ⟨rfl, rfl, rfl⟩
    have hpq : (p == q) = true := by
      simp only [Bool.and_eq_true, decide_eq_true_eq] at c1 c2
      simp; omega
    simp (disch := decide) only [hA, hpq, beqs, go_sem]
    exact leave_pure (xs := [.v (.bool true)]) (.inr rfl) (by simp (disch := (first | decide | omega)) only [resVs, resV, go_sem, hA]) (by simp only [one, AVlt_v, AVlt_any, AVlt_sl, AVlt_ptr, AVlt_mp, AVlt_agg, AVlt_tup, AVlt_fn, RowsLt_nil, RowsLt_live, RowsLt_dead, List.mem_cons, List.not_mem_nil, List.forall_mem_cons, List.forall_mem_nil, or_false, false_or, forall_eq_or_imp, forall_eq, vs_lt, Nat.add_lt_add_iff_left, Nat.reduceLT, true_and, and_true, and_self, List.length_cons, List.length_nil, Nat.reduceAdd, Nat.zero_add, implies_true, false_imp_iff, lt_T, List.mem_map]) hR hB ⟨rfl, rfl, rfl⟩
  obtain ⟨np, rfl⟩ : ∃ n : Nat, p = n := ⟨p.toNat, by omega⟩
  obtain ⟨nq, rfl⟩ : ∃ n : Nat, q = n := ⟨q.toNat, by omega⟩
  have hp : np < m.length := by omega
  have hq : nq < m.length := by omega
  have e : recvE m np got nq = tickME (recvM m np got nq) np := by unfold recvE; rw [if_neg hA1, if_neg hA2, Int.toNat_natCast, Int.toNat_natCast]
  have c1 : (decide (0 ≤ (np : Int)) && decide ((np : Int) < (m.length : Int))) = true := by simp; omega
  have c2 : (decide (0 ≤ (nq : Int)) && decide ((nq : Int) < (m.length : Int))) = true := by simp; omega
  have hpq : ((np : Int) == (nq : Int)) = false := by simp; omega
  obtain ⟨hfit, _⟩ := recv_fit h1 h2 h3 hp hq
  have hvM := recv_isM h1 h2 h3 hp hq
  have hnl : np < (recvM m np got nq).length := by unfold recvM; rw [fl_len]; exact hp
  rw [recvR, e, Int.toNat_natCast, Int.toNat_natCast]
  rcases tick_ok hvM hnl with ⟨t1, t2⟩ | ⟨t1, t2⟩
  · rw [t1, if_pos rfl]
    simp (disch := decide) only [hA, go_sem]
    refine ACalls.nxt (rmValid_spec m hF _ _) ?_
    rw [h1]
    simp (disch := decide) only [hA, go_sem]
    refine ACalls.nxt (rmValid_spec got hG _ _) ?_
    rw [h2]
    simp (disch := decide) only [hA, List.length_map, hd, go_sem]
    refine ACalls.nxt (hin [] np) ?_
    rw [c1]
    simp (disch := decide) only [hA, go_sem]
    refine ACalls.nxt (hin [] nq) ?_
    rw [c2]
    simp (disch := decide) only [hA, hpq, go_sem]
    refine ACalls.nxt (rmReceive_spec m got h1 h2 h3 np nq hp hq _ _) ?_
    rw [rRecvR, rTickR, t2]
    simp (disch := decide) only [hA, beqs, go_sem]
    refine ACalls.nxt (rmSame_spec (tickM (recvM m np got nq) np) (tickM (recvM m np got nq) np) (tickM_fit hfit) (tickM_fit hfit) _ _) ?_
    rw [decide_eq_true rfl]
    simp (disch := decide) only [hA, go_sem]
    exact leave_pure (xs := [.v (.bool true)]) (.inr rfl) (by simp (disch := (first | decide | omega)) only [resVs, resV, go_sem, hA]) (by simp only [one, AVlt_v, AVlt_any, AVlt_sl, AVlt_ptr, AVlt_mp, AVlt_agg, AVlt_tup, AVlt_fn, RowsLt_nil, RowsLt_live, RowsLt_dead, List.mem_cons, List.not_mem_nil, List.forall_mem_cons, List.forall_mem_nil, or_false, false_or, forall_eq_or_imp, forall_eq, vs_lt, Nat.add_lt_add_iff_left, Nat.reduceLT, true_and, and_true, and_self, List.length_cons, List.length_nil, Nat.reduceAdd, Nat.zero_add, implies_true, false_imp_iff, lt_T, List.mem_map]) hR hB ⟨rfl, rfl, rfl⟩
  · rw [t1, if_neg (by decide)]
    simp (disch := decide) only [hA, go_sem]
    refine ACalls.nxt (rmValid_spec m hF _ _) ?_
    rw [h1]
    simp (disch := decide) only [hA, go_sem]
    refine ACalls.nxt (rmValid_spec got hG _ _) ?_
    rw [h2]
    simp (disch := decide) only [hA, List.length_map, hd, go_sem]
    refine ACalls.nxt (hin [] np) ?_
    rw [c1]
    simp (disch := decide) only [hA, go_sem]
    refine ACalls.nxt (hin [] nq) ?_
    rw [c2]
    simp (disch := decide) only [hA, hpq, go_sem]
    refine ACalls.nxt (rmReceive_spec m got h1 h2 h3 np nq hp hq _ _) ?_
    rw [rRecvR, rTickR, t2]
    simp (disch := decide) only [hA, beqs, go_sem]
    exact leave_pure (xs := [.v (.bool true)]) (.inr rfl) (by simp (disch := (first | decide | omega)) only [resVs, resV, go_sem, hA]) (by simp only [one, AVlt_v, AVlt_any, AVlt_sl, AVlt_ptr, AVlt_mp, AVlt_agg, AVlt_tup, AVlt_fn, RowsLt_nil, RowsLt_live, RowsLt_dead, List.mem_cons, List.not_mem_nil, List.forall_mem_cons, List.forall_mem_nil, or_false, false_or, forall_eq_or_imp, forall_eq, vs_lt, Nat.add_lt_add_iff_left, Nat.reduceLT, true_and, and_true, and_self, List.length_cons, List.length_nil, Nat.reduceAdd, Nat.zero_add, implies_true, false_imp_iff, lt_T, List.mem_map]) hR hB ⟨rfl, rfl, rfl⟩
theorem zeroM_fit {n : Nat} (h : n ≤ 8) : Fit (zeroM n) := by
  refine ⟨by unfold zeroM; rw [fl_len]; omega, fun r hr => ?_⟩
  obtain ⟨j, _, rfl⟩ := List.mem_map.1 hr
  rw [List.length_replicate]; omega
set_option maxRecDepth 20000 in
set_option maxHeartbeats 1000000 in
theorem matrixTicks_run (n : Int) (m : List (List Int)) (p : Int) (b l : List Row)
    (hw : ∀ b l, ACalls Try.prog 42 [] b l (fun r b' l' => r = .v (.bool true) ∧ b' = b ∧ l' = l)) :
    ACalls Try.prog 9 [.v (.int .i64 n), .v (.isl 1 (m.map eRw)), .v (.int .i64 p)] b l (fun r b' l' => r = .v (.bool true) ∧ b' = b ∧ l' = l) := by
  refine calls_kept a_MatrixTicks_ok rfl (by decide) ?_
  intro B g hB hR hE hA
  simp only [KArgs] at hA
  simp (disch := decide) only [a_MatrixTicks, hA, go_sem]
  refine ACalls.nxt (hw _ _) ?_
  simp (disch := decide) only [hA, go_sem]
  refine ACalls.nxt (mfew_spec m _ _) ?_
  cases hf : fewM m
  · simp (disch := decide) only [hA, go_sem]
    exact leave_pure (xs := [.v (.bool true)]) (.inr rfl) (by simp (disch := (first | decide | omega)) only [resVs, resV, go_sem, hA]) (by simp only [one, AVlt_v, AVlt_any, AVlt_sl, AVlt_ptr, AVlt_mp, AVlt_agg, AVlt_tup, AVlt_fn, RowsLt_nil, RowsLt_live, RowsLt_dead, List.mem_cons, List.not_mem_nil, List.forall_mem_cons, List.forall_mem_nil, or_false, false_or, forall_eq_or_imp, forall_eq, vs_lt, Nat.add_lt_add_iff_left, Nat.reduceLT, true_and, and_true, and_self, List.length_cons, List.length_nil, Nat.reduceAdd, Nat.zero_add, implies_true, false_imp_iff, lt_T, List.mem_map]) hR hB ⟨rfl, rfl, rfl⟩
  have hF := fewM_fit hf
  have nes : ∀ n : Int, (n != n) = false := by intro n; simp
  have beqs : ∀ n : Int, (n == n) = true := by intro n; simp
  simp (disch := decide) only [hA, go_sem]
  refine ACalls.nxt (mZero_spec n _ _) ?_
  have hc : (1 ≤ n ∧ n ≤ 8) ∨ (n < 1 ∨ (¬ n < 1 ∧ n > 8)) := by omega
  rcases hc with hn | hn | ⟨hn, hn2⟩
  case' inl =>
    obtain ⟨k, rfl⟩ : ∃ k : Nat, n = k := ⟨n.toNat, by omega⟩
    have hd3 : decide ((k : Int) < 1) = false := decide_eq_false (by omega)
    have hd4 : decide ((k : Int) > 8) = false := decide_eq_false (by omega)
    rw [zeroMR, if_pos hn, Int.toNat_natCast]
    simp (disch := decide) only [hA, hd3, hd4, nes, go_sem]
    refine ACalls.nxt (rmZero_spec k (by omega) _ _) ?_
    rw [List.length_nil, Nat.add_zero, List.nil_append]
    simp (disch := decide) only [hA, go_sem]
    have hmv : mV k 1 (zRows k) = (zeroM k).map eRw := by unfold zeroM; rw [← mV_rows]; rfl
    refine ACalls.mat (args' := [.v (.isl 1 ((zeroM k).map eRw)), .v (.isl 1 (mV k 1 (zRows k)))]) (fun i hi => ?_) (by
      have hv : (mV k 1 (zRows k)).length = k := by simp [mV, fl_len]
      simp only [List.map_cons, List.map_nil, deep, frz0, hv]
      rw [if_pos (by simp), List.drop_zero, List.take_of_length_le (by rw [hv]; exact Nat.le_refl _)]) (fun l9 => ?_)
    · simp only [List.map_cons, List.map_nil, deep, frz0]; rw [if_neg (by omega)]
    rw [hmv]
    refine ACalls.nxt (rmSame_spec (zeroM k) (zeroM k) (zeroM_fit (by omega)) (zeroM_fit (by omega)) _ _) ?_
    rw [decide_eq_true rfl]
    simp (disch := decide) only [hA, go_sem]
  case' inr.inl =>
    have hd3 : decide (n < 1) = true := decide_eq_true hn
    rw [zeroMR, if_neg (by omega)]
    simp (disch := decide) only [hA, hd3, nes, go_sem]
  case' inr.inr =>
    have hd3 : decide (n < 1) = false := decide_eq_false hn
    have hd4 : decide (n > 8) = true := decide_eq_true hn2
    rw [zeroMR, if_neg (by omega)]
    simp (disch := decide) only [hA, hd3, hd4, nes, go_sem]
  all_goals
    refine ACalls.nxt (mTick_spec m hF p _ _) ?_
    cases h1 : isM m
    · have e : tickME m p = 1 := by simp [tickME, h1]
      rw [tickMR, e, if_neg (by decide)]
      simp (disch := decide) only [hA, go_sem]
      refine ACalls.nxt (mKnown_spec m hF _ _) ?_
      rw [knownR, h1, if_neg (by decide)]
      simp (disch := decide) only [hA, go_sem]
      refine ACalls.nxt (rmValid_spec m hF _ _) ?_
      rw [h1]
      simp (disch := decide) only [hA, go_sem]
      refine ACalls.nxt (mValid_spec m hF _ _) ?_
      rw [h1]
      simp (disch := decide) only [hA, beqs, go_sem]
      exact leave_pure (xs := [.v (.bool true)]) (.inr rfl) (by simp (disch := (first | decide | omega)) only [resVs, resV, go_sem, hA]) (by simp only [one, AVlt_v, AVlt_any, AVlt_sl, AVlt_ptr, AVlt_mp, AVlt_agg, AVlt_tup, AVlt_fn, RowsLt_nil, RowsLt_live, RowsLt_dead, List.mem_cons, List.not_mem_nil, List.forall_mem_cons, List.forall_mem_nil, or_false, false_or, forall_eq_or_imp, forall_eq, vs_lt, Nat.add_lt_add_iff_left, Nat.reduceLT, true_and, and_true, and_self, List.length_cons, List.length_nil, Nat.reduceAdd, Nat.zero_add, implies_true, false_imp_iff, lt_T, List.mem_map]) hR hB ⟨rfl, rfl, rfl⟩
    obtain ⟨l1, l2, l3, _⟩ := isM_open h1
    have hkl : (knownM m).length ≤ 1000000 := by unfold knownM; rw [fl_len]; omega
    by_cases c1 : p < 0
    · have e : tickME m p = 2 := by simp [tickME, h1, c1]
      have d1 := decide_eq_true c1
      rw [tickMR, e, if_neg (by decide)]
      simp (disch := decide) only [hA, go_sem]
      refine ACalls.nxt (mKnown_spec m hF _ _) ?_
      rw [knownR, if_pos h1]
      simp (disch := decide) only [hA, go_sem]
      refine ACalls.nxt (rmValid_spec m hF _ _) ?_
      rw [h1]
      simp (disch := decide) only [hA, go_sem]
      refine ACalls.nxt (mValid_spec m hF _ _) ?_
      rw [h1]
      simp (disch := decide) only [hA, nes, go_sem]
      refine ACalls.nxt (rmKnown_spec m h1 _ _) ?_
      simp (disch := decide) only [hA, go_sem]
      refine ACalls.nxt (eq1_spec (knownM m) (knownM m) hkl _ _) ?_
      rw [decide_eq_true rfl]
      simp (disch := decide) only [hA, d1, beqs, go_sem]
      exact leave_pure (xs := [.v (.bool true)]) (.inr rfl) (by simp (disch := (first | decide | omega)) only [resVs, resV, go_sem, hA]) (by simp only [one, AVlt_v, AVlt_any, AVlt_sl, AVlt_ptr, AVlt_mp, AVlt_agg, AVlt_tup, AVlt_fn, RowsLt_nil, RowsLt_live, RowsLt_dead, List.mem_cons, List.not_mem_nil, List.forall_mem_cons, List.forall_mem_nil, or_false, false_or, forall_eq_or_imp, forall_eq, vs_lt, Nat.add_lt_add_iff_left, Nat.reduceLT, true_and, and_true, and_self, List.length_cons, List.length_nil, Nat.reduceAdd, Nat.zero_add, implies_true, false_imp_iff, lt_T, List.mem_map]) hR hB ⟨rfl, rfl, rfl⟩
    have d1 := decide_eq_false c1
    by_cases c2 : p ≥ m.length
    · have e : tickME m p = 2 := by simp [tickME, h1, c2]
      have d2 : decide (p ≥ (m.length : Int)) = true := decide_eq_true c2
      rw [tickMR, e, if_neg (by decide)]
      simp (disch := decide) only [hA, go_sem]
      refine ACalls.nxt (mKnown_spec m hF _ _) ?_
      rw [knownR, if_pos h1]
      simp (disch := decide) only [hA, go_sem]
      refine ACalls.nxt (rmValid_spec m hF _ _) ?_
      rw [h1]
      simp (disch := decide) only [hA, go_sem]
      refine ACalls.nxt (mValid_spec m hF _ _) ?_
      rw [h1]
      simp (disch := decide) only [hA, nes, go_sem]
      refine ACalls.nxt (rmKnown_spec m h1 _ _) ?_
      simp (disch := decide) only [hA, go_sem]
      refine ACalls.nxt (eq1_spec (knownM m) (knownM m) hkl _ _) ?_
      rw [decide_eq_true rfl]
      simp (disch := decide) only [hA, d1, d2, beqs, List.length_map, go_sem]
      exact leave_pure (xs := [.v (.bool true)]) (.inr rfl) (by simp (disch := (first | decide | omega)) only [resVs, resV, go_sem, hA]) (by simp only [one, AVlt_v, AVlt_any, AVlt_sl, AVlt_ptr, AVlt_mp, AVlt_agg, AVlt_tup, AVlt_fn, RowsLt_nil, RowsLt_live, RowsLt_dead, List.mem_cons, List.not_mem_nil, List.forall_mem_cons, List.forall_mem_nil, or_false, false_or, forall_eq_or_imp, forall_eq, vs_lt, Nat.add_lt_add_iff_left, Nat.reduceLT, true_and, and_true, and_self, List.length_cons, List.length_nil, Nat.reduceAdd, Nat.zero_add, implies_true, false_imp_iff, lt_T, List.mem_map]) hR hB ⟨rfl, rfl, rfl⟩
    have d2 : decide (p ≥ (m.length : Int)) = false := decide_eq_false c2
    obtain ⟨q, rfl⟩ : ∃ q : Nat, p = q := ⟨p.toNat, by omega⟩
    have hq : q < m.length := by omega
    rcases tick_ok h1 hq with ⟨t1, t2⟩ | ⟨t1, t2⟩
    · rw [tickMR, t1, if_pos rfl, Int.toNat_natCast]
      simp (disch := decide) only [hA, go_sem]
      refine ACalls.nxt (mKnown_spec m hF _ _) ?_
      rw [knownR, if_pos h1]
      simp (disch := decide) only [hA, go_sem]
      refine ACalls.nxt (rmValid_spec m hF _ _) ?_
      rw [h1]
      simp (disch := decide) only [hA, go_sem]
      refine ACalls.nxt (mValid_spec m hF _ _) ?_
      rw [h1]
      simp (disch := decide) only [hA, nes, go_sem]
      refine ACalls.nxt (rmKnown_spec m h1 _ _) ?_
      simp (disch := decide) only [hA, go_sem]
      refine ACalls.nxt (eq1_spec (knownM m) (knownM m) hkl _ _) ?_
      rw [decide_eq_true rfl]
      simp (disch := decide) only [hA, d1, d2, beqs, List.length_map, go_sem]
      refine ACalls.nxt (rmTick_spec m h1 q hq _ _) ?_
      rw [rTickR, t2]
      simp (disch := decide) only [hA, beqs, go_sem]
      refine ACalls.nxt (rmSame_spec (tickM m q) (tickM m q) (tickM_fit hF) (tickM_fit hF) _ _) ?_
      rw [decide_eq_true rfl]
      simp (disch := decide) only [hA, go_sem]
      exact leave_pure (xs := [.v (.bool true)]) (.inr rfl) (by simp (disch := (first | decide | omega)) only [resVs, resV, go_sem, hA]) (by simp only [one, AVlt_v, AVlt_any, AVlt_sl, AVlt_ptr, AVlt_mp, AVlt_agg, AVlt_tup, AVlt_fn, RowsLt_nil, RowsLt_live, RowsLt_dead, List.mem_cons, List.not_mem_nil, List.forall_mem_cons, List.forall_mem_nil, or_false, false_or, forall_eq_or_imp, forall_eq, vs_lt, Nat.add_lt_add_iff_left, Nat.reduceLT, true_and, and_true, and_self, List.length_cons, List.length_nil, Nat.reduceAdd, Nat.zero_add, implies_true, false_imp_iff, lt_T, List.mem_map]) hR hB ⟨rfl, rfl, rfl⟩
    · rw [tickMR, t1, if_neg (by decide)]
      simp (disch := decide) only [hA, go_sem]
      refine ACalls.nxt (mKnown_spec m hF _ _) ?_
      rw [knownR, if_pos h1]
      simp (disch := decide) only [hA, go_sem]
      refine ACalls.nxt (rmValid_spec m hF _ _) ?_
      rw [h1]
      simp (disch := decide) only [hA, go_sem]
      refine ACalls.nxt (mValid_spec m hF _ _) ?_
      rw [h1]
      simp (disch := decide) only [hA, nes, go_sem]
      refine ACalls.nxt (rmKnown_spec m h1 _ _) ?_
      simp (disch := decide) only [hA, go_sem]
      refine ACalls.nxt (eq1_spec (knownM m) (knownM m) hkl _ _) ?_
      rw [decide_eq_true rfl]
      simp (disch := decide) only [hA, d1, d2, beqs, List.length_map, go_sem]
      refine ACalls.nxt (rmTick_spec m h1 q hq _ _) ?_
      rw [rTickR, t2]
      simp (disch := decide) only [hA, beqs, go_sem]
      exact leave_pure (xs := [.v (.bool true)]) (.inr rfl) (by simp (disch := (first | decide | omega)) only [resVs, resV, go_sem, hA]) (by simp only [one, AVlt_v, AVlt_any, AVlt_sl, AVlt_ptr, AVlt_mp, AVlt_agg, AVlt_tup, AVlt_fn, RowsLt_nil, RowsLt_live, RowsLt_dead, List.mem_cons, List.not_mem_nil, List.forall_mem_cons, List.forall_mem_nil, or_false, false_or, forall_eq_or_imp, forall_eq, vs_lt, Nat.add_lt_add_iff_left, Nat.reduceLT, true_and, and_true, and_self, List.length_cons, List.length_nil, Nat.reduceAdd, Nat.zero_add, implies_true, false_imp_iff, lt_T, List.mem_map]) hR hB ⟨rfl, rfl, rfl⟩
end Go.Proofs.Ytiiflkcebikecaa

/- Lists of lists of numbers, read as they come in. No condition. -/
namespace Go.Proofs.Ytiiflkcebikecaa
set_option linter.unusedVariables false
theorem tr_mat : TR Try.prog 29 1 (fun m : List (List Int) => [.isl 1 (m.map eRw)]) (fun m => m.length ≤ maxLen ∧ ∀ r ∈ m, r.length ≤ maxLen ∧ ∀ n ∈ r, (Lit.int .i64 n).wf = true) := tr_slice tr_ints Try.underlying29 (by kernel_rfl) (by decide)
end Go.Proofs.Ytiiflkcebikecaa

/- awake of chapter 16: the concrete run. -/
namespace Go.Proofs.Ytiiflkcebikecaa
set_option linter.unusedVariables false
set_option linter.unusedSimpArgs false
def pair16 : Tr := [⟨⟨#[97]⟩, [], [⟨2, 1, 0, 0, []⟩]⟩, ⟨⟨#[98]⟩, [], [⟨3, 0, 0, 0, []⟩]⟩]
def epair16 : IV := .isl 3 [[.str ⟨#[97]⟩, .zsl, .isl 5 [[.int .i64 2, .int .i64 1, .int .i64 0, .int .i64 0, .zsl]]], [.str ⟨#[98]⟩, .zsl, .isl 5 [[.int .i64 3, .int .i64 0, .int .i64 0, .int .i64 0, .zsl]]]]
def ora16 : Nat → List AV → Option AV := fun f args => if (f == 72 && eqL (eqA 20) args [.agg [.v epair16]]) = true then some (.v (.bool true)) else none
def frz16 : Nat → Nat := fun f => if f = 57 then 500 else 0
set_option maxRecDepth 100000
theorem run16 : xOk (E1.xcall tab15 ora16 frz16 (E1.exec tab15 ora16 frz16 3000) 42 [] [] []) = true := by kernel_rfl
theorem epair16_le : IVle epair16 (eT pair16) := by
  have ev : ∀ (a c d e : Int), IVle (.isl 5 [[.int .i64 a, .int .i64 c, .int .i64 d, .int .i64 e, .zsl]]) (.isl 5 [[.int .i64 a, .int .i64 c, .int .i64 d, .int .i64 e, .isl 2 []]]) := fun a c d e =>
    .rows ⟨⟨rfl, getLe_cons (.refl _) (getLe_cons (.refl _) (getLe_cons (.refl _) (getLe_cons (.refl _) (getLe_cons (.zsl 2) getLe_nil))))⟩, trivial⟩
  exact .rows ⟨⟨rfl, getLe_cons (.refl _) (getLe_cons (.zsl 2) (getLe_cons (ev _ _ _ _) getLe_nil))⟩, ⟨rfl, getLe_cons (.refl _) (getLe_cons (.zsl 2) (getLe_cons (ev _ _ _ _) getLe_nil))⟩, trivial⟩
theorem pair16_small : Small pair16 := ⟨by decide, by decide, by decide, by decide⟩
theorem pair16_nm : Nm pair16 := by
  intro p hp
  simp [pair16] at hp
  rcases hp with rfl | rfl <;> exact ⟨by decide, by simp⟩
theorem pair16_valid : validL pair16 = true := conc_valid (rank := fun x => x.1 * 10 + x.2) (by kernel_rfl)
theorem ora16_ok (f : Nat) (args : List AV) (y : AV) (h : ora16 f args = some y) (b l : List Row) : ACalls Try.prog f args b l (fun r b' l' => r = y ∧ b' = b ∧ l' = l) := by
  unfold ora16 at h
  split at h
  · rename_i hc
    simp only [Bool.and_eq_true, beq_iff_eq] at hc
    obtain ⟨rfl, h2⟩ := hc
    have h3 := eqL_eq (eqA_eq 20) h2
    subst h3
    cases h
    have hv := valid_spec pair16 pair16_small pair16_nm b l
    rw [pair16_valid] at hv
    refine ACalls.le hv rfl ?_
    intro i a c h1 h2
    cases i with
    | zero =>
      simp at h1 h2; subst h1; subst h2
      refine .agg _ _ rfl (fun i a c h1 h2 => ?_)
      cases i with
      | zero => simp at h1 h2; subst h1; subst h2; exact .v _ _ epair16_le
      | succ i => simp at h1
    | succ i => simp at h1
  · cases h
/-- The example of chapter 16. -/
theorem awake16_spec (b l : List Row) : ACalls Try.prog 42 [] b l (fun r b' l' => r = .v (.bool true) ∧ b' = b ∧ l' = l) := by
  obtain ⟨b1, l1, t, h⟩ := xOk_ok run16
  exact ACalls.lift_bool (E1.ACalls.of_exec (T := tab15) (O := ora16) (Z := frz16) (fun f af h => h) ora16_ok h) b l
end Go.Proofs.Ytiiflkcebikecaa
