/- Texts of one proof, laid together: PE, PI. No condition. -/
import Derived.Test.YtfdekchpckdeiaaQB1
/- messageFault and Fifo, as runs. No condition but on lengths. -/
namespace Go.Proofs.Ytfdekchpckdeiaa
set_option linter.unusedVariables false
set_option linter.unusedSimpArgs false
attribute [local go_sem ↓] run_skip run_region run_draw run_seq run_block run_exit run_ret run_cond atN_app seqC_normal seqC_exit seqC_ret seqQ_normal seqQ_exit seqQ_ret blkQ_normal blkQ_exit blkQ_ret runOps_nil runOps_cons runD_nil runD_cons grdO_true grdO_false grdD_true grdD_false ifC_true ifC_false opS_val opS_call opS_two opK_app dS_val dS_call dS_two dK_app
attribute [local go_sem] rechks_nil rechks_cons rechk gcase_true gcase_false ex_val ex_val0 gd_none gd_some nth_zero nth_succ upd_zero upd_succ put_some put_none ev_t ev_c evs_nil evs_cons evo_some evo_none hget_at hget_first hsetB_at hsetB_first hsetL_at hsetL_first ofOpt_some aop aload astore aslice aappend aiaddr aiaddrA afaddr alen alenS acopy amm acall apick binV binVB binVS isSh intOp strOp boolOp shOp eqC eqF and2 cellsOf setFrom fillA fillS rd rdI elems mk bounds AV.cell List.all_cons List.all_nil Bool.and_true Bool.true_and Bool.and_self List.length_cons List.length_nil List.length_append Nat.reduceAdd Nat.reduceSub Nat.reduceMul Nat.zero_add Nat.add_zero List.replicate_succ List.replicate_zero List.cons_append List.nil_append List.append_assoc List.append_nil List.getElem?_cons_zero List.getElem?_cons_succ List.getElem?_nil List.set_cons_zero List.set_cons_succ List.drop_zero List.drop_succ_cons List.take_zero List.take_succ_cons List.take_nil List.drop_nil List.map_cons List.map_nil Option.map_some if_true if_false Bool.false_eq_true and_self true_and and_true Nat.reduceLeDiff Nat.reduceLT Nat.le_refl Nat.reduceEqDiff ite_true ite_false beq_self_eq_true beq_true beq_false Bool.not_true Bool.not_false Bool.true_beq Bool.false_beq map_vs vs_len vs_get vs_take vs_drop vs_snoc1 vs_snoc2 vs_snoc3 vs_snoc5 vs_set1 vs_set2 vs_rep wrap_id le_T lt_T le_F lt_F leI_T ltI_T leI_F ltI_F geI gtI get_T decide_true decide_false room List.getElem?_map List.length_map List.length_take Int.toNat_natCast Nat.min_def Nat.min_self List.getElem_cons_zero List.getElem_cons_succ
def a_Fifo : AFunc := ⟨1, 74, [.tmp 2],
  (.seq (.region [⟨(some 1), .box (.t 0), none⟩, ⟨(some 2), .mv (.c (.v (.bool false))), none⟩])
  (.seq (.seq (.region [⟨(some 13), .load (some 1) (.t 1), none⟩, ⟨(some 14), .call (.c (.fn 19 [])) [(.t 13)], none⟩, ⟨(some 15), .not (.t 14), none⟩])
  (.cond (.t 15) (.seq (.region [⟨(some 2), .mv (.c (.v (.bool false))), none⟩])
  .ret)
  .skip))
  (.seq (.region [⟨(some 17), .load (some 1) (.t 1), none⟩, ⟨(some 18), .call (.c (.fn 75 [])) [(.t 17)], none⟩, ⟨(some 16), .mv (.t 18), none⟩, ⟨(some 19), .extract 0 (.t 16), none⟩, ⟨(some 20), .extract 1 (.t 16), none⟩, ⟨(some 21), .extract 2 (.t 16), none⟩, ⟨(some 4), .alloc [(.v (.int .i64 0)), (.v (.int .i64 0))], none⟩, ⟨(some 3), .mv (.t 19), none⟩, ⟨none, .store 2 (.t 4) (.t 20), none⟩, ⟨(some 5), .mv (.t 21), none⟩])
  (.seq (.seq (.region [⟨(some 22), .faddr 0 (.t 1), none⟩, ⟨(some 23), .load none (.t 22), none⟩, ⟨(some 24), .len (.t 23), none⟩, ⟨(some 25), .mv (.c (.v (.int .i64 0))), none⟩])
  (.block 0 (.loop (.seq (.region [⟨(some 26), .bin .lss (.t 25) (.t 24), none⟩])
  (.seq (.cond (.t 26) .skip
  (.exit 0))
  (.seq (.block 1 (.seq (.region [⟨(some 27), .mv (.t 25), none⟩, ⟨(some 6), .mv (.t 27), none⟩])
  (.seq (.region [⟨(some 28), .faddr 0 (.t 1), none⟩, ⟨(some 29), .load none (.t 28), none⟩, ⟨(some 30), .len (.t 29), none⟩, ⟨(some 31), .mv (.c (.v (.int .i64 0))), none⟩])
  (.block 2 (.loop (.seq (.region [⟨(some 32), .bin .lss (.t 31) (.t 30), none⟩])
  (.seq (.cond (.t 32) .skip
  (.exit 2))
  (.seq (.block 3 (.seq (.region [⟨(some 33), .mv (.t 31), none⟩, ⟨(some 7), .mv (.t 33), none⟩])
  (.seq (.region [⟨(some 8), .mv (.c (.v (.int .i64 0))), none⟩, ⟨(some 9), .mv (.c (.v (.bool false))), none⟩])
  (.seq (.region [⟨(some 34), .faddr 0 (.t 1), none⟩, ⟨(some 35), .load none (.t 34), none⟩, ⟨(some 36), .mv (.t 6), none⟩, ⟨(some 37), .iaddr 3 (.t 35) (.t 36), none⟩, ⟨(some 38), .faddr 2 (.t 37), none⟩, ⟨(some 39), .load none (.t 38), none⟩, ⟨(some 40), .len (.t 39), none⟩, ⟨(some 41), .mv (.c (.v (.int .i64 0))), none⟩])
  (.block 4 (.loop (.seq (.region [⟨(some 42), .bin .lss (.t 41) (.t 40), none⟩])
  (.seq (.cond (.t 42) .skip
  (.exit 4))
  (.seq (.block 5 (.seq (.region [⟨(some 43), .iaddr 5 (.t 39) (.t 41), none⟩, ⟨(some 44), .load (some 5) (.t 43), none⟩, ⟨(some 11), .alloc [(.v (.int .i64 0)), (.v (.int .i64 0)), (.v (.int .i64 0)), (.v (.int .i64 0)), (.v .zsl)], none⟩, ⟨none, .store 5 (.t 11) (.t 44), none⟩])
  (.seq (.seq (.region [⟨(some 45), .faddr 0 (.t 11), none⟩, ⟨(some 46), .load none (.t 45), none⟩, ⟨(some 47), .bin .neq (.t 46) (.c (.v (.int .i64 2))), none⟩, ⟨(some 48), .mv (.t 47), none⟩, ⟨(some 49), .faddr 1 (.t 11), some (48, false)⟩, ⟨(some 50), .load none (.t 49), some (48, false)⟩, ⟨(some 51), .mv (.t 7), some (48, false)⟩, ⟨(some 52), .bin .neq (.t 50) (.t 51), some (48, false)⟩, ⟨(some 53), .pick (.t 48) (.c (.v (.bool true))) (.t 52), none⟩])
  (.cond (.t 53) (.exit 5)
  .skip))
  (.seq (.draw [⟨0, ⟨(some 54), .mv (.t 3), none⟩, []⟩, ⟨1, ⟨(some 55), .faddr 2 (.t 11), none⟩, []⟩, ⟨2, ⟨(some 56), .load none (.t 55), none⟩, []⟩, ⟨3, ⟨(some 57), .nilck (.t 54), none⟩, []⟩, ⟨4, ⟨(some 58), .iaddrA 200 4 (.t 57) (.t 56), none⟩, []⟩, ⟨5, ⟨(some 59), .faddr 2 (.t 58), none⟩, []⟩, ⟨6, ⟨(some 60), .faddr 1 (.t 59), none⟩, []⟩, ⟨7, ⟨(some 61), .load none (.t 60), none⟩, []⟩, ⟨8, ⟨(some 12), .mv (.t 61), none⟩, []⟩])
  (.seq (.seq (.region [⟨(some 62), .mv (.t 12), none⟩, ⟨(some 63), .bin .eql (.t 62) (.c (.v (.int .i64 0))), none⟩])
  (.cond (.t 63) (.seq (.region [⟨(some 9), .mv (.c (.v (.bool true))), none⟩])
  (.exit 5))
  .skip))
  (.seq (.seq (.region [⟨(some 64), .mv (.t 9), none⟩, ⟨(some 65), .mv (.t 64), none⟩, ⟨(some 66), .mv (.t 12), some (65, false)⟩, ⟨(some 67), .mv (.t 8), some (65, false)⟩, ⟨(some 68), .bin .lss (.t 66) (.t 67), some (65, false)⟩, ⟨(some 69), .pick (.t 65) (.c (.v (.bool true))) (.t 68), none⟩])
  (.cond (.t 69) (.seq (.region [⟨(some 2), .mv (.c (.v (.bool false))), none⟩])
  .ret)
  .skip))
  (.region [⟨(some 70), .mv (.t 12), none⟩, ⟨(some 8), .mv (.t 70), none⟩])))))))
  (.region [⟨(some 71), .bin .add (.t 41) (.c (.v (.int .i64 1))), none⟩, ⟨(some 41), .mv (.t 71), none⟩]))))))))))
  (.region [⟨(some 72), .bin .add (.t 31) (.c (.v (.int .i64 1))), none⟩, ⟨(some 31), .mv (.t 72), none⟩])))))))))
  (.region [⟨(some 73), .bin .add (.t 25) (.c (.v (.int .i64 1))), none⟩, ⟨(some 25), .mv (.t 73), none⟩])))))))
  (.seq (.region [⟨(some 2), .mv (.c (.v (.bool true))), none⟩])
  .ret)))))⟩
theorem a_Fifo_ok : cFunc Try.prog 32 = some a_Fifo := by kernel_rfl
def m_Fifo0 : List Bool := [false, false, true, false, false, false, true, true, true, true, false, true, true, false, false, false, false, false, false, false, false, false, false, false, false, true, true, true, true, true, true, true, true, true, true, true, true, true, true, true, true, true, true, true, true, true, true, true, true, true, true, true, true, true, true, true, true, true, true, true, true, true, true, true, true, true, true, true, true, true, true, true, true, true]
def m_Fifo1 : List Bool := [false, false, true, false, false, false, false, true, true, true, false, true, true, false, false, false, false, false, false, false, false, false, false, false, false, false, false, false, false, false, false, true, true, true, true, true, true, true, true, true, true, true, true, true, true, true, true, true, true, true, true, true, true, true, true, true, true, true, true, true, true, true, true, true, true, true, true, true, true, true, true, true, true, false]
def m_Fifo2 : List Bool := [false, false, true, false, false, false, false, false, true, true, false, true, true, false, false, false, false, false, false, false, false, false, false, false, false, false, false, false, false, false, false, false, false, false, false, false, false, false, false, false, false, true, true, true, true, true, true, true, true, true, true, true, true, true, true, true, true, true, true, true, true, true, true, true, true, true, true, true, true, true, true, true, false, false]
def a_rFifo : AFunc := ⟨1, 92, [.tmp 2],
  (.seq (.region [⟨(some 1), .box (.t 0), none⟩, ⟨(some 2), .mv (.c (.v (.bool false))), none⟩])
  (.seq (.seq (.region [⟨(some 10), .load (some 1) (.t 1), none⟩, ⟨(some 11), .call (.c (.fn 34 [])) [(.t 10)], none⟩, ⟨(some 12), .not (.t 11), none⟩])
  (.cond (.t 12) (.seq (.region [⟨(some 2), .mv (.c (.v (.bool false))), none⟩])
  .ret)
  .skip))
  (.seq (.seq (.region [⟨(some 3), .mv (.c (.v (.int .i64 0))), none⟩])
  (.block 0 (.loop (.seq (.seq (.region [⟨(some 13), .mv (.t 3), none⟩, ⟨(some 14), .faddr 0 (.t 1), none⟩, ⟨(some 15), .load none (.t 14), none⟩, ⟨(some 16), .len (.t 15), none⟩, ⟨(some 17), .bin .lss (.t 13) (.t 16), none⟩])
  (.cond (.t 17) .skip
  (.exit 0)))
  (.seq (.block 1 (.seq (.region [⟨(some 4), .mv (.c (.v (.int .i64 0))), none⟩])
  (.block 2 (.loop (.seq (.seq (.region [⟨(some 20), .mv (.t 4), none⟩, ⟨(some 21), .faddr 0 (.t 1), none⟩, ⟨(some 22), .load none (.t 21), none⟩, ⟨(some 23), .mv (.t 3), none⟩, ⟨(some 24), .iaddr 3 (.t 22) (.t 23), none⟩, ⟨(some 25), .faddr 2 (.t 24), none⟩, ⟨(some 26), .load none (.t 25), none⟩, ⟨(some 27), .len (.t 26), none⟩, ⟨(some 28), .bin .lss (.t 20) (.t 27), none⟩])
  (.cond (.t 28) .skip
  (.exit 2)))
  (.seq (.block 3 (.seq (.region [⟨(some 5), .mv (.c (.v (.int .i64 0))), none⟩])
  (.block 4 (.loop (.seq (.seq (.region [⟨(some 31), .mv (.t 5), none⟩, ⟨(some 32), .mv (.t 4), none⟩, ⟨(some 33), .bin .lss (.t 31) (.t 32), none⟩])
  (.cond (.t 33) .skip
  (.exit 4)))
  (.seq (.block 5 (.seq (.draw [⟨0, ⟨(some 36), .faddr 0 (.t 1), none⟩, []⟩, ⟨1, ⟨(some 37), .load none (.t 36), none⟩, []⟩, ⟨2, ⟨(some 38), .mv (.t 3), none⟩, []⟩, ⟨3, ⟨(some 39), .iaddr 3 (.t 37) (.t 38), none⟩, []⟩, ⟨4, ⟨(some 40), .faddr 2 (.t 39), none⟩, []⟩, ⟨5, ⟨(some 41), .load none (.t 40), none⟩, []⟩, ⟨6, ⟨(some 42), .mv (.t 5), none⟩, []⟩, ⟨7, ⟨(some 43), .iaddr 5 (.t 41) (.t 42), none⟩, []⟩, ⟨8, ⟨(some 44), .load (some 5) (.t 43), none⟩, []⟩, ⟨9, ⟨(some 45), .faddr 0 (.t 1), none⟩, []⟩, ⟨10, ⟨(some 46), .load none (.t 45), none⟩, []⟩, ⟨11, ⟨(some 47), .mv (.t 3), none⟩, []⟩, ⟨12, ⟨(some 48), .iaddr 3 (.t 46) (.t 47), none⟩, []⟩, ⟨13, ⟨(some 49), .faddr 2 (.t 48), none⟩, []⟩, ⟨14, ⟨(some 50), .load none (.t 49), none⟩, []⟩, ⟨15, ⟨(some 51), .mv (.t 4), none⟩, []⟩, ⟨16, ⟨(some 52), .iaddr 5 (.t 50) (.t 51), none⟩, []⟩, ⟨17, ⟨(some 53), .load (some 5) (.t 52), none⟩, []⟩, ⟨18, ⟨(some 6), .alloc [(.v (.int .i64 0)), (.v (.int .i64 0)), (.v (.int .i64 0)), (.v (.int .i64 0)), (.v .zsl)], none⟩, [⟨(some 36), .faddr 0 (.t 1), none⟩, ⟨(some 37), .load none (.t 36), none⟩, ⟨(some 38), .mv (.t 3), none⟩, ⟨(some 39), .iaddr 3 (.t 37) (.t 38), none⟩, ⟨(some 40), .faddr 2 (.t 39), none⟩, ⟨(some 41), .load none (.t 40), none⟩, ⟨(some 42), .mv (.t 5), none⟩, ⟨(some 43), .iaddr 5 (.t 41) (.t 42), none⟩, ⟨(some 44), .load (some 5) (.t 43), none⟩, ⟨(some 45), .faddr 0 (.t 1), none⟩, ⟨(some 46), .load none (.t 45), none⟩, ⟨(some 47), .mv (.t 3), none⟩, ⟨(some 48), .iaddr 3 (.t 46) (.t 47), none⟩, ⟨(some 49), .faddr 2 (.t 48), none⟩, ⟨(some 50), .load none (.t 49), none⟩, ⟨(some 51), .mv (.t 4), none⟩, ⟨(some 52), .iaddr 5 (.t 50) (.t 51), none⟩, ⟨(some 53), .load (some 5) (.t 52), none⟩]⟩, ⟨19, ⟨(some 7), .alloc [(.v (.int .i64 0)), (.v (.int .i64 0)), (.v (.int .i64 0)), (.v (.int .i64 0)), (.v .zsl)], none⟩, [⟨(some 36), .faddr 0 (.t 1), none⟩, ⟨(some 37), .load none (.t 36), none⟩, ⟨(some 38), .mv (.t 3), none⟩, ⟨(some 39), .iaddr 3 (.t 37) (.t 38), none⟩, ⟨(some 40), .faddr 2 (.t 39), none⟩, ⟨(some 41), .load none (.t 40), none⟩, ⟨(some 42), .mv (.t 5), none⟩, ⟨(some 43), .iaddr 5 (.t 41) (.t 42), none⟩, ⟨(some 44), .load (some 5) (.t 43), none⟩, ⟨(some 45), .faddr 0 (.t 1), none⟩, ⟨(some 46), .load none (.t 45), none⟩, ⟨(some 47), .mv (.t 3), none⟩, ⟨(some 48), .iaddr 3 (.t 46) (.t 47), none⟩, ⟨(some 49), .faddr 2 (.t 48), none⟩, ⟨(some 50), .load none (.t 49), none⟩, ⟨(some 51), .mv (.t 4), none⟩, ⟨(some 52), .iaddr 5 (.t 50) (.t 51), none⟩, ⟨(some 53), .load (some 5) (.t 52), none⟩]⟩, ⟨20, ⟨none, .store 5 (.t 6) (.t 44), none⟩, [⟨(some 45), .faddr 0 (.t 1), none⟩, ⟨(some 46), .load none (.t 45), none⟩, ⟨(some 47), .mv (.t 3), none⟩, ⟨(some 48), .iaddr 3 (.t 46) (.t 47), none⟩, ⟨(some 49), .faddr 2 (.t 48), none⟩, ⟨(some 50), .load none (.t 49), none⟩, ⟨(some 51), .mv (.t 4), none⟩, ⟨(some 52), .iaddr 5 (.t 50) (.t 51), none⟩, ⟨(some 53), .load (some 5) (.t 52), none⟩]⟩, ⟨21, ⟨none, .store 5 (.t 7) (.t 53), none⟩, []⟩])
  (.seq (.seq (.region [⟨(some 54), .faddr 0 (.t 6), none⟩, ⟨(some 55), .load none (.t 54), none⟩, ⟨(some 56), .bin .neq (.t 55) (.c (.v (.int .i64 2))), none⟩, ⟨(some 57), .mv (.t 56), none⟩, ⟨(some 58), .faddr 0 (.t 7), some (57, false)⟩, ⟨(some 59), .load none (.t 58), some (57, false)⟩, ⟨(some 60), .bin .neq (.t 59) (.c (.v (.int .i64 2))), some (57, false)⟩, ⟨(some 61), .pick (.t 57) (.c (.v (.bool true))) (.t 60), none⟩, ⟨(some 62), .mv (.t 61), none⟩, ⟨(some 63), .faddr 1 (.t 6), some (62, false)⟩, ⟨(some 64), .load none (.t 63), some (62, false)⟩, ⟨(some 65), .faddr 1 (.t 7), some (62, false)⟩, ⟨(some 66), .load none (.t 65), some (62, false)⟩, ⟨(some 67), .bin .neq (.t 64) (.t 66), some (62, false)⟩, ⟨(some 68), .pick (.t 62) (.c (.v (.bool true))) (.t 67), none⟩])
  (.cond (.t 68) (.exit 5)
  .skip))
  (.seq (.draw [⟨0, ⟨(some 69), .load (some 1) (.t 1), none⟩, []⟩, ⟨1, ⟨(some 70), .faddr 2 (.t 6), none⟩, []⟩, ⟨2, ⟨(some 71), .load none (.t 70), none⟩, []⟩, ⟨4, ⟨(some 73), .load (some 1) (.t 1), none⟩, []⟩, ⟨5, ⟨(some 74), .faddr 2 (.t 7), none⟩, []⟩, ⟨6, ⟨(some 75), .load none (.t 74), none⟩, []⟩, ⟨3, ⟨(some 72), .call (.c (.fn 25 [])) [(.t 69), (.c (.v (.int .i64 3))), (.t 71)], none⟩, [⟨(some 73), .load (some 1) (.t 1), none⟩, ⟨(some 74), .faddr 2 (.t 7), none⟩, ⟨(some 75), .load none (.t 74), none⟩]⟩, ⟨7, ⟨(some 76), .call (.c (.fn 25 [])) [(.t 73), (.c (.v (.int .i64 3))), (.t 75)], none⟩, []⟩, ⟨8, ⟨(some 8), .alloc [(.v (.int .i64 0)), (.v (.int .i64 0))], none⟩, [⟨(some 69), .load (some 1) (.t 1), none⟩, ⟨(some 70), .faddr 2 (.t 6), none⟩, ⟨(some 71), .load none (.t 70), none⟩, ⟨(some 73), .load (some 1) (.t 1), none⟩, ⟨(some 74), .faddr 2 (.t 7), none⟩, ⟨(some 75), .load none (.t 74), none⟩]⟩, ⟨9, ⟨(some 9), .alloc [(.v (.int .i64 0)), (.v (.int .i64 0))], none⟩, [⟨(some 69), .load (some 1) (.t 1), none⟩, ⟨(some 70), .faddr 2 (.t 6), none⟩, ⟨(some 71), .load none (.t 70), none⟩, ⟨(some 73), .load (some 1) (.t 1), none⟩, ⟨(some 74), .faddr 2 (.t 7), none⟩, ⟨(some 75), .load none (.t 74), none⟩]⟩, ⟨10, ⟨none, .store 2 (.t 8) (.t 72), none⟩, []⟩, ⟨11, ⟨none, .store 2 (.t 9) (.t 76), none⟩, []⟩])
  (.seq (.region [⟨(some 77), .faddr 1 (.t 9), none⟩, ⟨(some 78), .load none (.t 77), none⟩, ⟨(some 79), .bin .neq (.t 78) (.c (.v (.int .i64 0))), none⟩, ⟨(some 80), .mv (.t 79), none⟩, ⟨(some 81), .faddr 1 (.t 8), some (80, true)⟩, ⟨(some 82), .load none (.t 81), some (80, true)⟩, ⟨(some 83), .bin .eql (.t 82) (.c (.v (.int .i64 0))), some (80, true)⟩, ⟨(some 84), .mv (.t 83), some (80, true)⟩, ⟨(some 85), .faddr 1 (.t 8), some (84, false)⟩, ⟨(some 86), .load none (.t 85), some (84, false)⟩, ⟨(some 87), .faddr 1 (.t 9), some (84, false)⟩, ⟨(some 88), .load none (.t 87), some (84, false)⟩, ⟨(some 89), .bin .gtr (.t 86) (.t 88), some (84, false)⟩, ⟨(some 90), .pick (.t 84) (.c (.v (.bool true))) (.t 89), some (80, true)⟩, ⟨(some 91), .pick (.t 80) (.t 90) (.c (.v (.bool false))), none⟩])
  (.cond (.t 91) (.seq (.region [⟨(some 2), .mv (.c (.v (.bool false))), none⟩])
  .ret)
  .skip))))))
  (.region [⟨(some 34), .mv (.t 5), none⟩, ⟨(some 35), .bin .add (.t 34) (.c (.v (.int .i64 1))), none⟩, ⟨(some 5), .mv (.t 35), none⟩])))))))
  (.region [⟨(some 29), .mv (.t 4), none⟩, ⟨(some 30), .bin .add (.t 29) (.c (.v (.int .i64 1))), none⟩, ⟨(some 4), .mv (.t 30), none⟩])))))))
  (.region [⟨(some 18), .mv (.t 3), none⟩, ⟨(some 19), .bin .add (.t 18) (.c (.v (.int .i64 1))), none⟩, ⟨(some 3), .mv (.t 19), none⟩]))))))
  (.seq (.region [⟨(some 2), .mv (.c (.v (.bool true))), none⟩])
  .ret))))⟩
theorem a_rFifo_ok : cFunc Try.prog 33 = some a_rFifo := by kernel_rfl
def m_rFifo0 : List Bool := [false, false, true, true, true, true, true, true, true, true, false, false, false, true, true, true, true, true, true, true, true, true, true, true, true, true, true, true, true, true, true, true, true, true, true, true, true, true, true, true, true, true, true, true, true, true, true, true, true, true, true, true, true, true, true, true, true, true, true, true, true, true, true, true, true, true, true, true, true, true, true, true, true, true, true, true, true, true, true, true, true, true, true, true, true, true, true, true, true, true, true, true]
def m_rFifo1 : List Bool := [false, false, true, false, true, true, true, true, true, true, false, false, false, false, false, false, false, false, false, false, true, true, true, true, true, true, true, true, true, true, true, true, true, true, true, true, true, true, true, true, true, true, true, true, true, true, true, true, true, true, true, true, true, true, true, true, true, true, true, true, true, true, true, true, true, true, true, true, true, true, true, true, true, true, true, true, true, true, true, true, true, true, true, true, true, true, true, true, true, true, true, true]
def m_rFifo2 : List Bool := [false, false, true, false, false, true, true, true, true, true, false, false, false, false, false, false, false, false, false, false, false, false, false, false, false, false, false, false, false, false, false, true, true, true, true, true, true, true, true, true, true, true, true, true, true, true, true, true, true, true, true, true, true, true, true, true, true, true, true, true, true, true, true, true, true, true, true, true, true, true, true, true, true, true, true, true, true, true, true, true, true, true, true, true, true, true, true, true, true, true, true, true]

theorem mf_spec (t : Tr) (hS : Small t) (hN : Nm t) (hv : validL t = true) (b l : List Row) :
    ACalls Try.prog 75 [.agg [.v (eT t)]] b l (fun r b' l' => r = .tup [.v (.iptr (letRow t) 0), idA (0, 0), .v (.int .i64 0)] ∧ b' = b ∧ l' = l) := by
  refine ACalls.of_new ⟨_, Try.func75, by kernel_rfl, by kernel_rfl⟩ (fun F L w vs hF hr => ?_)
  obtain ⟨u, us, rfl, hs, hr2⟩ := repL_tr hN hr
  obtain rfl := repL_nil hr2
  refine (messageFault_any u t w hS.np hS.ne hs (valid_form hv)).mono ?_
  rintro e w' ⟨he, hcase⟩
  rcases hcase with ⟨x, hx, _⟩ | ⟨_, bL, ls, hbL, hL, hA, rfl⟩
  · rw [valid_pairs hv] at hx; cases hx
  refine ⟨he, _, _, fun b => F b ∨ b = bL, rfl, fun _ h => .inl h, fun b hb h => h.elim id (fun h => absurd h (by omega)), fun b h => ?_, RepL.tup (RepL.cons (.v _ _ (letRow_rep hL hA (.inr rfl))) (RepL.cons (idA_rep _ _ _ _) (RepL.cons (.v _ _ (.int _ _)) RepL.nil))), rfl, rfl, rfl⟩
  rcases h with h | rfl
  · exact Nat.lt_of_lt_of_le (hF b h) he.size
  · exact hL.lt

def evp (t : Tr) (p j : Nat) : Ev := evAt t (p, j + 1)
def toI (t : Tr) (p j : Nat) : Nat := (findV t 3 (evp t p j).msg).2
/-- Of two sends over one channel the second one is received, and the first one later, or not at all. -/
def pairBad (t : Tr) (p j i : Nat) : Bool :=
  (evp t p j).kind == 2 && ((evp t p i).kind == 2 && ((evp t p j).peer == (evp t p i).peer && (toI t p i != 0 && (toI t p j == 0 || decide (toI t p i < toI t p j)))))
def fifoB (t : Tr) : Bool := (List.range t.length).all fun p => (List.range (evsOf t p).length).all fun i => (List.range i).all fun j => !pairBad t p j i
theorem evsOf_at {t : Tr} {p : Nat} (h : p < t.length) : evsOf t p = t[p].evs := by unfold evsOf; simp [List.getD, h]
theorem fifo_false {t : Tr} {p i j : Nat} (hp : p < t.length) (hi : i < t[p].evs.length) (hj : j < i) (h : pairBad t p j i = true) : fifoB t = false := by
  unfold fifoB
  rw [List.all_eq_false]
  refine ⟨p, List.mem_range.2 hp, ?_⟩
  rw [Bool.not_eq_true, List.all_eq_false]
  refine ⟨i, List.mem_range.2 (by rw [evsOf_at hp]; exact hi), ?_⟩
  rw [Bool.not_eq_true, List.all_eq_false]
  exact ⟨j, List.mem_range.2 hj, by rw [h]; simp⟩
theorem fifo_true {t : Tr} (h : ∀ p (hp : p < t.length), ∀ i, i < t[p].evs.length → ∀ j, j < i → pairBad t p j i = false) : fifoB t = true := by
  unfold fifoB
  rw [List.all_eq_true]
  intro p hp
  have hp := List.mem_range.1 hp
  rw [List.all_eq_true]
  intro i hi
  rw [evsOf_at hp] at hi
  rw [List.all_eq_true]
  intro j hj
  rw [h p hp i (List.mem_range.1 hi) j (List.mem_range.1 hj)]; rfl
theorem evp_at {t : Tr} {p j : Nat} (hp : p < t.length) (hj : j < t[p].evs.length) : evp t p j = t[p].evs[j] := evAt_at hp hj

structure FfI (t : Tr) (p q k last : Nat) (mis : Bool) : Prop where
  m1 : ∀ j, j < k → (evp t p j).kind = 2 → (evp t p j).peer = q → toI t p j = 0 → mis = true
  m2 : mis = true → ∃ j, j < k ∧ (evp t p j).kind = 2 ∧ (evp t p j).peer = q ∧ toI t p j = 0
  l1 : ∀ j, j < k → (evp t p j).kind = 2 → (evp t p j).peer = q → toI t p j ≤ last
  l2 : 0 < last → ∃ j, j < k ∧ (evp t p j).kind = 2 ∧ (evp t p j).peer = q ∧ toI t p j = last
  g : ∀ i, i < k → ∀ j, j < i → (evp t p i).peer = q → pairBad t p j i = false
theorem FfI.start (t : Tr) (p q : Nat) : FfI t p q 0 0 false := ⟨fun j h => by omega, fun h => (by cases h), fun j h => by omega, fun h => by omega, fun j h => by omega⟩
theorem FfI.skip {t : Tr} {p q k last : Nat} {mis : Bool} (h : FfI t p q k last mis) (hk : ¬ ((evp t p k).kind = 2 ∧ (evp t p k).peer = q)) : FfI t p q (k + 1) last mis := by
  have up : ∀ j, j < k + 1 → j < k ∨ j = k := fun j hj => by omega
  refine ⟨fun j hj a b c => ?_, fun hm => ?_, fun j hj a b => ?_, fun hl => ?_, fun i hi j hj hp => ?_⟩
  · rcases up j hj with h1 | rfl
    · exact h.m1 j h1 a b c
    · exact absurd ⟨a, b⟩ hk
  · obtain ⟨j, h1, h2⟩ := h.m2 hm; exact ⟨j, by omega, h2⟩
  · rcases up j hj with h1 | rfl
    · exact h.l1 j h1 a b
    · exact absurd ⟨a, b⟩ hk
  · obtain ⟨j, h1, h2⟩ := h.l2 hl; exact ⟨j, by omega, h2⟩
  · rcases up i hi with h1 | rfl
    · exact h.g i h1 j hj hp
    · have : ((evp t p i).kind == 2) = false := by
        cases hh : (evp t p i).kind == 2 with
        | false => rfl
        | true => exact absurd ⟨by simpa using hh, hp⟩ hk
      unfold pairBad; rw [this]; simp
theorem FfI.miss {t : Tr} {p q k last : Nat} {mis : Bool} (h : FfI t p q k last mis) (h1 : (evp t p k).kind = 2) (h2 : (evp t p k).peer = q) (h3 : toI t p k = 0) : FfI t p q (k + 1) last true := by
  have up : ∀ j, j < k + 1 → j < k ∨ j = k := fun j hj => by omega
  refine ⟨fun _ _ _ _ _ => rfl, fun _ => ⟨k, by omega, h1, h2, h3⟩, fun j hj a b => ?_, fun hl => ?_, fun i hi j hj hp => ?_⟩
  · rcases up j hj with g | rfl
    · exact h.l1 j g a b
    · omega
  · obtain ⟨j, g1, g2⟩ := h.l2 hl; exact ⟨j, by omega, g2⟩
  · rcases up i hi with g | rfl
    · exact h.g i g j hj hp
    · unfold pairBad; rw [h3]; simp
theorem FfI.next {t : Tr} {p q k last : Nat} (h : FfI t p q k last false) (h1 : (evp t p k).kind = 2) (h2 : (evp t p k).peer = q) (h3 : toI t p k ≠ 0) (h4 : last ≤ toI t p k) : FfI t p q (k + 1) (toI t p k) false := by
  have up : ∀ j, j < k + 1 → j < k ∨ j = k := fun j hj => by omega
  refine ⟨fun j hj a b c => ?_, fun hm => (by cases hm), fun j hj a b => ?_, fun hl => ⟨k, by omega, h1, h2, rfl⟩, fun i hi j hj hp => ?_⟩
  · rcases up j hj with g | rfl
    · exact h.m1 j g a b c
    · exact absurd c h3
  · rcases up j hj with g | rfl
    · have := h.l1 j g a b; omega
    · exact Nat.le_refl _
  · rcases up i hi with g | rfl
    · exact h.g i g j hj hp
    · unfold pairBad
      cases hk : (evp t p j).kind == 2
      · simp
      cases he : (evp t p j).peer == (evp t p i).peer
      · simp
      have hk : (evp t p j).kind = 2 := by simpa using hk
      have he : (evp t p j).peer = q := by rw [← h2]; simpa using he
      have hz : (toI t p j == 0) = false := by
        cases hq : toI t p j == 0 with
        | false => rfl
        | true => exact absurd (h.m1 j hj hk he (by simpa using hq)) (by simp)
      have := h.l1 j hj hk he
      rw [hz, decide_eq_false (by omega)]; simp
theorem FfI.bad {t : Tr} {p q k last : Nat} {mis : Bool} (h : FfI t p q k last mis) (h1 : (evp t p k).kind = 2) (h2 : (evp t p k).peer = q) (h3 : toI t p k ≠ 0) (h4 : mis = true ∨ toI t p k < last) : ∃ j, j < k ∧ pairBad t p j k = true := by
  rcases h4 with h4 | h4
  · obtain ⟨j, g1, g2, g3, g4⟩ := h.m2 h4
    refine ⟨j, g1, ?_⟩
    unfold pairBad; rw [g2, g3, h1, h2, g4]; simp [h3]
  · obtain ⟨j, g1, g2, g3, g4⟩ := h.l2 (by omega)
    refine ⟨j, g1, ?_⟩
    unfold pairBad; rw [g2, g3, h1, h2, g4]; simp [h3, h4]
theorem letRow_to {t : Tr} {m : Nat} (h : m < 200) : (letRow t)[m * 4 + 2 + 1]? = some (.int .i64 ((findV t 3 m).2 : Int)) := by
  rw [letRow_get (by omega)]
  have : letV t (m * 4 + 2 + 1) = (findV t 3 m).2 := by
    unfold letV; rw [show (m * 4 + 2 + 1) % 4 = 3 by omega, show (m * 4 + 2 + 1) / 4 = m by omega]; rfl
  rw [this]

set_option maxHeartbeats 1000000 in
theorem fifo_spec (t : Tr) (hS : Small t) (hN : Nm t) (b l : List Row) : ACalls Try.prog 32 [.agg [.v (eT t)]] b l (fun r b' l' => r = .v (.bool (validL t && fifoB t)) ∧ b' = b ∧ l' = l) := by
  refine calls_of a_Fifo_ok rfl ?_
  intro B hB hR _
  have hnp := hS.np
  simp only [a_Fifo, eT, go_sem]
  refine ACalls_mono _ _ _ _ _ _ (valid_spec t hS hN _ _) ?_
  rintro r b' l' ⟨rfl, rfl, rfl⟩
  cases hv : validL t
  · simp only [go_sem]
    exact leave_pure (.inr rfl) rfl (.v _) hR hB ⟨rfl, rfl, rfl⟩
  simp only [go_sem]
  refine ACalls_mono _ _ _ _ _ _ (mf_spec t hS hN hv _ _) ?_
  rintro r b' l' ⟨rfl, rfl, rfl⟩
  obtain ⟨lr, hlr⟩ : ∃ lr, letRow t = lr := ⟨_, rfl⟩
  have hll : lr.length = 800 := by rw [← hlr]; exact letRow_len t
  simp only [idA, hlr]
  simp only [go_sem]
  refine loop_auto (ι := Nat) m_Fifo0 (fun i => [(25, .v (.int .i64 i))]) (fun _ => [.live 0 1 [[.v (.isl 3 (t.map ePr))]], .live 0 2 [[.v (.int .i64 0), .v (.int .i64 0)]]])
    (fun p => p ≤ t.length ∧ ∀ p', p' < p → ∀ (h : p' < t.length), ∀ i, i < t[p'].evs.length → ∀ j, j < i → pairBad t p' j i = false) (fun i => t.length - i) 0 ⟨Nat.zero_le _, fun p h => by omega⟩ ?_ ?_
  · simp only [m_Fifo0, ovr_cons, ovr_nil, anyM_t, anyM_f, anyM_nil, upd_zero, upd_succ, List.length_map, go_sem]
    exact Weak.forget (by simp [Fgt])
  rintro p ⟨hp, h0⟩
  simp only [m_Fifo0, ovr_cons, ovr_nil, anyM_t, anyM_f, anyM_nil, upd_zero, upd_succ, List.length_map]
  by_cases hpl : p < t.length
  · have hne := hS.ne _ (List.getElem_mem hpl)
    simp (disch := omega) only [go_sem]
    refine loop_auto (ι := Nat) m_Fifo1 (fun i => [(31, .v (.int .i64 i))]) (fun _ => [.live 0 1 [[.v (.isl 3 (t.map ePr))]], .live 0 2 [[.v (.int .i64 0), .v (.int .i64 0)]]])
      (fun q => q ≤ t.length ∧ ∀ i, i < t[p].evs.length → ∀ j, j < i → ∀ q' : Nat, q' < q → (evp t p i).peer = q' → pairBad t p j i = false) (fun i => t.length - i) 0 ⟨Nat.zero_le _, fun i _ j _ q' h => by omega⟩ ?_ ?_
    · simp only [m_Fifo1, ovr_cons, ovr_nil, anyM_t, anyM_f, anyM_nil, upd_zero, upd_succ]
      exact Weak.forget (by simp [Fgt])
    rintro q ⟨hq, h1⟩
    simp only [m_Fifo1, ovr_cons, ovr_nil, anyM_t, anyM_f, anyM_nil, upd_zero, upd_succ]
    by_cases hql : q < t.length
    · simp (disch := omega) only [ePr, go_sem]
      refine loop_auto (ι := Nat × Nat × Bool) m_Fifo2 (fun i => [(8, .v (.int .i64 i.2.1)), (9, .v (.bool i.2.2)), (41, .v (.int .i64 i.1))]) (fun _ => [.live 0 1 [[.v (.isl 3 (t.map ePr))]], .live 0 2 [[.v (.int .i64 0), .v (.int .i64 0)]]])
        (fun i => i.1 ≤ t[p].evs.length ∧ FfI t p q i.1 i.2.1 i.2.2) (fun i => t[p].evs.length - i.1) (0, 0, false) ⟨Nat.zero_le _, FfI.start t p q⟩ ?_ ?_
      · simp only [m_Fifo2, ovr_cons, ovr_nil, anyM_t, anyM_f, anyM_nil, upd_zero, upd_succ]
        exact Weak.forget (by simp [Fgt])
      rintro ⟨k, last, mis⟩ ⟨hk, hI⟩
      dsimp only at hk hI ⊢
      simp only [m_Fifo2, ovr_cons, ovr_nil, anyM_t, anyM_f, anyM_nil, upd_zero, upd_succ]
      by_cases hkl : k < t[p].evs.length
      · have hev := evp_at hpl hkl
        have hstep : ∀ last' mis', FfI t p q (k + 1) last' mis' → (k + 1) ≤ t[p].evs.length ∧ FfI t p q (k + 1) last' mis' := fun _ _ h => ⟨hkl, h⟩
        cases hk2 : t[p].evs[k].kind != 2
        case true =>
          simp (disch := omega) only [eEv, hk2, go_sem]
          refine ⟨(k + 1, last, mis), hstep _ _ (hI.skip (by rw [hev]; rintro ⟨h, _⟩; rw [h] at hk2; simp at hk2)), by simp only; omega, ?_⟩
          simp only [m_Fifo2, ovr_cons, ovr_nil, anyM_t, anyM_f, anyM_nil, upd_zero, upd_succ]
          exact Weak.round (by simp [Fgt]) rfl (by simp (disch := omega) only [AVlt_v, AVlt_any, AVlt_sl, AVlt_ptr, AVlt_agg, AVlt_tup, AVlt_fn, RowsLt_nil, RowsLt_live, RowsLt_dead, List.mem_cons, List.not_mem_nil, List.forall_mem_cons, List.forall_mem_nil, or_false, false_or, forall_eq_or_imp, forall_eq, vs_lt, Nat.add_lt_add_iff_left, Nat.reduceLT, true_and, and_true, and_self, List.length_cons, List.length_nil, Nat.reduceAdd, Nat.zero_add, implies_true, false_imp_iff, lt_T, List.mem_map]) hR (by simp (disch := omega) only [AVlt_v, AVlt_any, AVlt_sl, AVlt_ptr, AVlt_agg, AVlt_tup, AVlt_fn, RowsLt_nil, RowsLt_live, RowsLt_dead, List.mem_cons, List.not_mem_nil, List.forall_mem_cons, List.forall_mem_nil, or_false, false_or, forall_eq_or_imp, forall_eq, vs_lt, Nat.add_lt_add_iff_left, Nat.reduceLT, true_and, and_true, and_self, List.length_cons, List.length_nil, Nat.reduceAdd, Nat.zero_add, implies_true, false_imp_iff, lt_T, List.mem_map])
        cases hp2 : t[p].evs[k].peer != (q : Int)
        case true =>
          simp (disch := omega) only [eEv, hk2, hp2, go_sem]
          refine ⟨(k + 1, last, mis), hstep _ _ (hI.skip (by rw [hev]; rintro ⟨_, h⟩; rw [h] at hp2; simp at hp2)), by simp only; omega, ?_⟩
          simp only [m_Fifo2, ovr_cons, ovr_nil, anyM_t, anyM_f, anyM_nil, upd_zero, upd_succ]
          exact Weak.round (by simp [Fgt]) rfl (by simp (disch := omega) only [AVlt_v, AVlt_any, AVlt_sl, AVlt_ptr, AVlt_agg, AVlt_tup, AVlt_fn, RowsLt_nil, RowsLt_live, RowsLt_dead, List.mem_cons, List.not_mem_nil, List.forall_mem_cons, List.forall_mem_nil, or_false, false_or, forall_eq_or_imp, forall_eq, vs_lt, Nat.add_lt_add_iff_left, Nat.reduceLT, true_and, and_true, and_self, List.length_cons, List.length_nil, Nat.reduceAdd, Nat.zero_add, implies_true, false_imp_iff, lt_T, List.mem_map]) hR (by simp (disch := omega) only [AVlt_v, AVlt_any, AVlt_sl, AVlt_ptr, AVlt_agg, AVlt_tup, AVlt_fn, RowsLt_nil, RowsLt_live, RowsLt_dead, List.mem_cons, List.not_mem_nil, List.forall_mem_cons, List.forall_mem_nil, or_false, false_or, forall_eq_or_imp, forall_eq, vs_lt, Nat.add_lt_add_iff_left, Nat.reduceLT, true_and, and_true, and_self, List.length_cons, List.length_nil, Nat.reduceAdd, Nat.zero_add, implies_true, false_imp_iff, lt_T, List.mem_map])
        have hkd : t[p].evs[k].kind = 2 := by simpa using hk2
        have hpd : t[p].evs[k].peer = q := by simpa using hp2
        obtain ⟨m, q2, hm, hm2, _, _, _⟩ := formed_open (valid_form hv (p, k + 1) (mem_ids.2 ⟨hpl, by simp, by simp; omega⟩)) (by rw [evAt_at hpl hkl, hkd]; rfl)
        rw [evAt_at hpl hkl] at hm
        have hto : toI t p k = (findV t 3 (m : Int)).2 := by unfold toI; rw [hev, hm]
        have hlt := letRow_to (t := t) hm2
        rw [hlr] at hlt
        by_cases hz : toI t p k = 0
        · have hz2 : ((findV t 3 (m : Int)).2 : Int) = 0 := by omega
          simp (disch := omega) only [eEv, hk2, hp2, hm, hlt, hz2, go_sem]
          refine ⟨(k + 1, last, true), hstep _ _ (hI.miss (by rw [hev]; exact hkd) (by rw [hev]; exact hpd) hz), by simp only; omega, ?_⟩
          simp only [m_Fifo2, ovr_cons, ovr_nil, anyM_t, anyM_f, anyM_nil, upd_zero, upd_succ]
          exact Weak.round (by simp [Fgt]) rfl (by simp (disch := omega) only [AVlt_v, AVlt_any, AVlt_sl, AVlt_ptr, AVlt_agg, AVlt_tup, AVlt_fn, RowsLt_nil, RowsLt_live, RowsLt_dead, List.mem_cons, List.not_mem_nil, List.forall_mem_cons, List.forall_mem_nil, or_false, false_or, forall_eq_or_imp, forall_eq, vs_lt, Nat.add_lt_add_iff_left, Nat.reduceLT, true_and, and_true, and_self, List.length_cons, List.length_nil, Nat.reduceAdd, Nat.zero_add, implies_true, false_imp_iff, lt_T, List.mem_map]) hR (by simp (disch := omega) only [AVlt_v, AVlt_any, AVlt_sl, AVlt_ptr, AVlt_agg, AVlt_tup, AVlt_fn, RowsLt_nil, RowsLt_live, RowsLt_dead, List.mem_cons, List.not_mem_nil, List.forall_mem_cons, List.forall_mem_nil, or_false, false_or, forall_eq_or_imp, forall_eq, vs_lt, Nat.add_lt_add_iff_left, Nat.reduceLT, true_and, and_true, and_self, List.length_cons, List.length_nil, Nat.reduceAdd, Nat.zero_add, implies_true, false_imp_iff, lt_T, List.mem_map])
        · have hz2 : (((findV t 3 (m : Int)).2 : Int) == 0) = false := by simp; omega
          cases hmi : mis
          case true =>
            simp (disch := omega) only [eEv, hk2, hp2, hm, hlt, hz2, go_sem]
            obtain ⟨j, g1, g2⟩ := hI.bad (by rw [hev]; exact hkd) (by rw [hev]; exact hpd) hz (.inl hmi)
            exact leave_pure (.inr rfl) rfl (.v _) hR hB ⟨by rw [fifo_false hpl hkl g1 g2]; rfl, rfl, rfl⟩
          subst hmi
          by_cases hl : toI t p k < last
          · have hl2 : decide (((findV t 3 (m : Int)).2 : Int) < (last : Int)) = true := by simp; omega
            simp (disch := omega) only [eEv, hk2, hp2, hm, hlt, hz2, hl2, go_sem]
            obtain ⟨j, g1, g2⟩ := hI.bad (by rw [hev]; exact hkd) (by rw [hev]; exact hpd) hz (.inr hl)
            exact leave_pure (.inr rfl) rfl (.v _) hR hB ⟨by rw [fifo_false hpl hkl g1 g2]; rfl, rfl, rfl⟩
          · have hl2 : decide (((findV t 3 (m : Int)).2 : Int) < (last : Int)) = false := by simp; omega
            simp (disch := omega) only [eEv, hk2, hp2, hm, hlt, hz2, hl2, go_sem]
            refine ⟨(k + 1, toI t p k, false), hstep _ _ (hI.next (by rw [hev]; exact hkd) (by rw [hev]; exact hpd) hz (by omega)), by simp only; omega, ?_⟩
            simp only [m_Fifo2, hto, ovr_cons, ovr_nil, anyM_t, anyM_f, anyM_nil, upd_zero, upd_succ]
            exact Weak.round (by simp [Fgt]) rfl (by simp (disch := omega) only [AVlt_v, AVlt_any, AVlt_sl, AVlt_ptr, AVlt_agg, AVlt_tup, AVlt_fn, RowsLt_nil, RowsLt_live, RowsLt_dead, List.mem_cons, List.not_mem_nil, List.forall_mem_cons, List.forall_mem_nil, or_false, false_or, forall_eq_or_imp, forall_eq, vs_lt, Nat.add_lt_add_iff_left, Nat.reduceLT, true_and, and_true, and_self, List.length_cons, List.length_nil, Nat.reduceAdd, Nat.zero_add, implies_true, false_imp_iff, lt_T, List.mem_map]) hR (by simp (disch := omega) only [AVlt_v, AVlt_any, AVlt_sl, AVlt_ptr, AVlt_agg, AVlt_tup, AVlt_fn, RowsLt_nil, RowsLt_live, RowsLt_dead, List.mem_cons, List.not_mem_nil, List.forall_mem_cons, List.forall_mem_nil, or_false, false_or, forall_eq_or_imp, forall_eq, vs_lt, Nat.add_lt_add_iff_left, Nat.reduceLT, true_and, and_true, and_self, List.length_cons, List.length_nil, Nat.reduceAdd, Nat.zero_add, implies_true, false_imp_iff, lt_T, List.mem_map])
      · simp (disch := omega) only [go_sem]
        obtain rfl : k = t[p].evs.length := by omega
        refine ⟨q + 1, ⟨hql, fun i hi j hj q' hq' he => ?_⟩, by simp only; omega, ?_⟩
        · rcases Nat.lt_or_ge q' q with h | h
          · exact h1 i hi j hj q' h he
          · obtain rfl : q' = q := by omega
            exact hI.g i hi j hj he
        · simp only [m_Fifo1, ovr_cons, ovr_nil, anyM_t, anyM_f, anyM_nil, upd_zero, upd_succ]
          exact Weak.forget (by simp [Fgt])
    · simp (disch := omega) only [go_sem]
      refine ⟨p + 1, ⟨hpl, fun p' hp' h i hi j hj => ?_⟩, by simp only; omega, ?_⟩
      · rcases Nat.lt_or_ge p' p with hh | hh
        · exact h0 p' hh h i hi j hj
        · obtain rfl : p' = p := by omega
          cases hb : pairBad t p' j i with
          | false => rfl
          | true =>
            have hb2 := hb
            unfold pairBad at hb2
            simp only [Bool.and_eq_true, beq_iff_eq] at hb2
            obtain ⟨_, q2, _, _, hq2, hq3, _⟩ := formed_open (valid_form hv (p', i + 1) (mem_ids.2 ⟨hpl, by simp, by simp; omega⟩)) (by have := hb2.2.1; unfold evp at this; rw [this]; rfl)
            rw [h1 i hi j hj q2 (by omega) (by unfold evp; exact hq2)] at hb; cases hb
      · simp only [m_Fifo0, ovr_cons, ovr_nil, anyM_t, anyM_f, anyM_nil, upd_zero, upd_succ, List.length_map]
        exact Weak.forget (by simp [Fgt])
  · simp (disch := omega) only [go_sem]
    exact leave_pure (.inr rfl) rfl (.v _) hR hB ⟨by rw [fifo_true (fun p' hp' i hi j hj => h0 p' (by omega) hp' i hi j hj)]; rfl, rfl, rfl⟩

set_option maxRecDepth 20000 in
set_option maxHeartbeats 8000000 in
theorem rfifo_spec (t : Tr) (hS : Small t) (hN : Nm t) (b l : List Row) : ACalls Try.prog 33 [.agg [.v (eT t)]] b l (fun r b' l' => r = .v (.bool (validL t && fifoB t)) ∧ b' = b ∧ l' = l) := by
  refine calls_of a_rFifo_ok rfl ?_
  intro B hB hR _
  have hnp := hS.np
  simp only [a_rFifo, eT, go_sem]
  refine ACalls_mono _ _ _ _ _ _ (rvalid_spec t hS hN _ _) ?_
  rintro r b' l' ⟨rfl, rfl, rfl⟩
  cases hv : validL t
  · simp only [go_sem]
    exact leave_pure (.inr rfl) rfl (.v _) hR hB ⟨rfl, rfl, rfl⟩
  simp only [go_sem]
  refine loop_auto (ι := Nat) m_rFifo0 (fun i => [(3, .v (.int .i64 i))]) (fun _ => [.live 0 1 [[.v (.isl 3 (t.map ePr))]]])
    (fun p => p ≤ t.length ∧ ∀ p', p' < p → ∀ (h : p' < t.length), ∀ i, i < t[p'].evs.length → ∀ j, j < i → pairBad t p' j i = false) (fun i => t.length - i) 0 ⟨Nat.zero_le _, fun p h => by omega⟩ ?_ ?_
  · simp only [m_rFifo0, ovr_cons, ovr_nil, anyM_t, anyM_f, anyM_nil, upd_zero, upd_succ]
    exact Weak.forget (by simp [Fgt])
  rintro p ⟨hp, h0⟩
  simp only [m_rFifo0, ovr_cons, ovr_nil, anyM_t, anyM_f, anyM_nil, upd_zero, upd_succ]
  by_cases hpl : p < t.length
  · have hne := hS.ne _ (List.getElem_mem hpl)
    simp (disch := omega) only [go_sem]
    refine loop_auto (ι := Nat) m_rFifo1 (fun i => [(4, .v (.int .i64 i))]) (fun _ => [.live 0 1 [[.v (.isl 3 (t.map ePr))]]])
      (fun i => i ≤ t[p].evs.length ∧ ∀ i', i' < i → ∀ j, j < i' → pairBad t p j i' = false) (fun i => t[p].evs.length - i) 0 ⟨Nat.zero_le _, fun i h => by omega⟩ ?_ ?_
    · simp only [m_rFifo1, ovr_cons, ovr_nil, anyM_t, anyM_f, anyM_nil, upd_zero, upd_succ]
      exact Weak.forget (by simp [Fgt])
    rintro i ⟨hi, h1⟩
    simp only [m_rFifo1, ovr_cons, ovr_nil, anyM_t, anyM_f, anyM_nil, upd_zero, upd_succ]
    by_cases hil : i < t[p].evs.length
    · simp (disch := omega) only [ePr, go_sem]
      refine loop_auto (ι := Nat) m_rFifo2 (fun i => [(5, .v (.int .i64 i))]) (fun _ => [.live 0 1 [[.v (.isl 3 (t.map ePr))]]])
        (fun j => j ≤ i ∧ ∀ j', j' < j → pairBad t p j' i = false) (fun j => i - j) 0 ⟨Nat.zero_le _, fun j h => by omega⟩ ?_ ?_
      · simp only [m_rFifo2, ovr_cons, ovr_nil, anyM_t, anyM_f, anyM_nil, upd_zero, upd_succ]
        exact Weak.forget (by simp [Fgt])
      rintro j ⟨hj, h2⟩
      simp only [m_rFifo2, ovr_cons, ovr_nil, anyM_t, anyM_f, anyM_nil, upd_zero, upd_succ]
      by_cases hji : j < i
      · have hjl : j < t[p].evs.length := by omega
        have hbad : pairBad t p j i = ((t[p].evs[j].kind == 2) && ((t[p].evs[i].kind == 2) && ((t[p].evs[j].peer == t[p].evs[i].peer) && ((findV t 3 t[p].evs[i].msg).2 != 0 && ((findV t 3 t[p].evs[j].msg).2 == 0 || decide ((findV t 3 t[p].evs[i].msg).2 < (findV t 3 t[p].evs[j].msg).2)))))) := by
          unfold pairBad toI; rw [evp_at hpl hjl, evp_at hpl hil]
        have hgo : pairBad t p j i = false → ∀ j', j' < j + 1 → pairBad t p j' i = false := fun hb j' hj' => by
          rcases Nat.lt_or_ge j' j with h | h
          · exact h2 j' h
          · obtain rfl : j' = j := by omega
            exact hb
        have bn : ∀ {x : Int} {y : Int} {b : Bool}, (x != y) = b → (x == y) = !b := by intro x y b h; cases b <;> simp_all [bne]
        cases hk1 : t[p].evs[j].kind != 2
        case true =>
          simp (disch := omega) only [ePr, eEv, hk1, go_sem]
          refine ⟨j + 1, ⟨hji, hgo (by rw [hbad, bn hk1]; rfl)⟩, by simp only; omega, ?_⟩
          simp only [m_rFifo2, ovr_cons, ovr_nil, anyM_t, anyM_f, anyM_nil, upd_zero, upd_succ]
          exact Weak.round (by simp [Fgt]) rfl (by simp (disch := omega) only [AVlt_v, AVlt_any, AVlt_sl, AVlt_ptr, AVlt_agg, AVlt_tup, AVlt_fn, RowsLt_nil, RowsLt_live, RowsLt_dead, List.mem_cons, List.not_mem_nil, List.forall_mem_cons, List.forall_mem_nil, or_false, false_or, forall_eq_or_imp, forall_eq, vs_lt, Nat.add_lt_add_iff_left, Nat.reduceLT, true_and, and_true, and_self, List.length_cons, List.length_nil, Nat.reduceAdd, Nat.zero_add, implies_true, false_imp_iff, lt_T, List.mem_map]) hR (by simp (disch := omega) only [AVlt_v, AVlt_any, AVlt_sl, AVlt_ptr, AVlt_agg, AVlt_tup, AVlt_fn, RowsLt_nil, RowsLt_live, RowsLt_dead, List.mem_cons, List.not_mem_nil, List.forall_mem_cons, List.forall_mem_nil, or_false, false_or, forall_eq_or_imp, forall_eq, vs_lt, Nat.add_lt_add_iff_left, Nat.reduceLT, true_and, and_true, and_self, List.length_cons, List.length_nil, Nat.reduceAdd, Nat.zero_add, implies_true, false_imp_iff, lt_T, List.mem_map])
        cases hk2 : t[p].evs[i].kind != 2
        case true =>
          simp (disch := omega) only [ePr, eEv, hk1, hk2, go_sem]
          refine ⟨j + 1, ⟨hji, hgo (by rw [hbad, bn hk1, bn hk2]; rfl)⟩, by simp only; omega, ?_⟩
          simp only [m_rFifo2, ovr_cons, ovr_nil, anyM_t, anyM_f, anyM_nil, upd_zero, upd_succ]
          exact Weak.round (by simp [Fgt]) rfl (by simp (disch := omega) only [AVlt_v, AVlt_any, AVlt_sl, AVlt_ptr, AVlt_agg, AVlt_tup, AVlt_fn, RowsLt_nil, RowsLt_live, RowsLt_dead, List.mem_cons, List.not_mem_nil, List.forall_mem_cons, List.forall_mem_nil, or_false, false_or, forall_eq_or_imp, forall_eq, vs_lt, Nat.add_lt_add_iff_left, Nat.reduceLT, true_and, and_true, and_self, List.length_cons, List.length_nil, Nat.reduceAdd, Nat.zero_add, implies_true, false_imp_iff, lt_T, List.mem_map]) hR (by simp (disch := omega) only [AVlt_v, AVlt_any, AVlt_sl, AVlt_ptr, AVlt_agg, AVlt_tup, AVlt_fn, RowsLt_nil, RowsLt_live, RowsLt_dead, List.mem_cons, List.not_mem_nil, List.forall_mem_cons, List.forall_mem_nil, or_false, false_or, forall_eq_or_imp, forall_eq, vs_lt, Nat.add_lt_add_iff_left, Nat.reduceLT, true_and, and_true, and_self, List.length_cons, List.length_nil, Nat.reduceAdd, Nat.zero_add, implies_true, false_imp_iff, lt_T, List.mem_map])
        cases hk3 : t[p].evs[j].peer != t[p].evs[i].peer
        case true =>
          simp (disch := omega) only [ePr, eEv, hk1, hk2, hk3, go_sem]
          refine ⟨j + 1, ⟨hji, hgo (by rw [hbad, bn hk1, bn hk2, bn hk3]; rfl)⟩, by simp only; omega, ?_⟩
          simp only [m_rFifo2, ovr_cons, ovr_nil, anyM_t, anyM_f, anyM_nil, upd_zero, upd_succ]
          exact Weak.round (by simp [Fgt]) rfl (by simp (disch := omega) only [AVlt_v, AVlt_any, AVlt_sl, AVlt_ptr, AVlt_agg, AVlt_tup, AVlt_fn, RowsLt_nil, RowsLt_live, RowsLt_dead, List.mem_cons, List.not_mem_nil, List.forall_mem_cons, List.forall_mem_nil, or_false, false_or, forall_eq_or_imp, forall_eq, vs_lt, Nat.add_lt_add_iff_left, Nat.reduceLT, true_and, and_true, and_self, List.length_cons, List.length_nil, Nat.reduceAdd, Nat.zero_add, implies_true, false_imp_iff, lt_T, List.mem_map]) hR (by simp (disch := omega) only [AVlt_v, AVlt_any, AVlt_sl, AVlt_ptr, AVlt_agg, AVlt_tup, AVlt_fn, RowsLt_nil, RowsLt_live, RowsLt_dead, List.mem_cons, List.not_mem_nil, List.forall_mem_cons, List.forall_mem_nil, or_false, false_or, forall_eq_or_imp, forall_eq, vs_lt, Nat.add_lt_add_iff_left, Nat.reduceLT, true_and, and_true, and_self, List.length_cons, List.length_nil, Nat.reduceAdd, Nat.zero_add, implies_true, false_imp_iff, lt_T, List.mem_map])
        simp (disch := omega) only [ePr, eEv, hk1, hk2, hk3, go_sem]
        refine ACalls_mono _ _ _ _ _ _ (rFind_spec t hS hN 3 _ _ _) ?_
        rintro r b' l' ⟨rfl, rfl, rfl⟩
        simp only [idA]
        simp (disch := omega) only [go_sem]
        refine ACalls_mono _ _ _ _ _ _ (rFind_spec t hS hN 3 _ _ _) ?_
        rintro r b' l' ⟨rfl, rfl, rfl⟩
        simp only [idA]
        by_cases q1 : (findV t 3 t[p].evs[i].msg).2 = 0
        · have q1d : (((findV t 3 t[p].evs[i].msg).2 : Int) != 0) = false := by simp; omega
          simp (disch := omega) only [q1d, go_sem]
          refine ⟨j + 1, ⟨hji, hgo (by rw [hbad, bn hk1, bn hk2, bn hk3, q1]; rfl)⟩, by simp only; omega, ?_⟩
          simp only [m_rFifo2, ovr_cons, ovr_nil, anyM_t, anyM_f, anyM_nil, upd_zero, upd_succ]
          exact Weak.round (by simp [Fgt]) rfl (by simp (disch := omega) only [AVlt_v, AVlt_any, AVlt_sl, AVlt_ptr, AVlt_agg, AVlt_tup, AVlt_fn, RowsLt_nil, RowsLt_live, RowsLt_dead, List.mem_cons, List.not_mem_nil, List.forall_mem_cons, List.forall_mem_nil, or_false, false_or, forall_eq_or_imp, forall_eq, vs_lt, Nat.add_lt_add_iff_left, Nat.reduceLT, true_and, and_true, and_self, List.length_cons, List.length_nil, Nat.reduceAdd, Nat.zero_add, implies_true, false_imp_iff, lt_T, List.mem_map]) hR (by simp (disch := omega) only [AVlt_v, AVlt_any, AVlt_sl, AVlt_ptr, AVlt_agg, AVlt_tup, AVlt_fn, RowsLt_nil, RowsLt_live, RowsLt_dead, List.mem_cons, List.not_mem_nil, List.forall_mem_cons, List.forall_mem_nil, or_false, false_or, forall_eq_or_imp, forall_eq, vs_lt, Nat.add_lt_add_iff_left, Nat.reduceLT, true_and, and_true, and_self, List.length_cons, List.length_nil, Nat.reduceAdd, Nat.zero_add, implies_true, false_imp_iff, lt_T, List.mem_map])
        have q1d : (((findV t 3 t[p].evs[i].msg).2 : Int) != 0) = true := by simp; omega
        by_cases q2 : (findV t 3 t[p].evs[j].msg).2 = 0
        · have q2d : (((findV t 3 t[p].evs[j].msg).2 : Int) == 0) = true := by simp; omega
          simp (disch := omega) only [q1d, q2d, go_sem]
          exact leave_pure (.inr rfl) rfl (.v _) hR hB ⟨by rw [fifo_false hpl hil hji (by rw [hbad, bn hk1, bn hk2, bn hk3, q2]; simp [q1])]; rfl, rfl, rfl⟩
        have q2d : (((findV t 3 t[p].evs[j].msg).2 : Int) == 0) = false := by simp; omega
        by_cases q3 : (findV t 3 t[p].evs[i].msg).2 < (findV t 3 t[p].evs[j].msg).2
        · have q3d : decide (((findV t 3 t[p].evs[j].msg).2 : Int) > ((findV t 3 t[p].evs[i].msg).2 : Int)) = true := by simp; omega
          simp (disch := omega) only [q1d, q2d, q3d, go_sem]
          exact leave_pure (.inr rfl) rfl (.v _) hR hB ⟨by rw [fifo_false hpl hil hji (by rw [hbad, bn hk1, bn hk2, bn hk3]; simp [q1, q3])]; rfl, rfl, rfl⟩
        · have q3d : decide (((findV t 3 t[p].evs[j].msg).2 : Int) > ((findV t 3 t[p].evs[i].msg).2 : Int)) = false := by simp; omega
          simp (disch := omega) only [q1d, q2d, q3d, go_sem]
          refine ⟨j + 1, ⟨hji, hgo (by rw [hbad, bn hk1, bn hk2, bn hk3]; simp [q2, q3])⟩, by simp only; omega, ?_⟩
          simp only [m_rFifo2, ovr_cons, ovr_nil, anyM_t, anyM_f, anyM_nil, upd_zero, upd_succ]
          exact Weak.round (by simp [Fgt]) rfl (by simp (disch := omega) only [AVlt_v, AVlt_any, AVlt_sl, AVlt_ptr, AVlt_agg, AVlt_tup, AVlt_fn, RowsLt_nil, RowsLt_live, RowsLt_dead, List.mem_cons, List.not_mem_nil, List.forall_mem_cons, List.forall_mem_nil, or_false, false_or, forall_eq_or_imp, forall_eq, vs_lt, Nat.add_lt_add_iff_left, Nat.reduceLT, true_and, and_true, and_self, List.length_cons, List.length_nil, Nat.reduceAdd, Nat.zero_add, implies_true, false_imp_iff, lt_T, List.mem_map]) hR (by simp (disch := omega) only [AVlt_v, AVlt_any, AVlt_sl, AVlt_ptr, AVlt_agg, AVlt_tup, AVlt_fn, RowsLt_nil, RowsLt_live, RowsLt_dead, List.mem_cons, List.not_mem_nil, List.forall_mem_cons, List.forall_mem_nil, or_false, false_or, forall_eq_or_imp, forall_eq, vs_lt, Nat.add_lt_add_iff_left, Nat.reduceLT, true_and, and_true, and_self, List.length_cons, List.length_nil, Nat.reduceAdd, Nat.zero_add, implies_true, false_imp_iff, lt_T, List.mem_map])
      · simp (disch := omega) only [go_sem]
        obtain rfl : j = i := by omega
        refine ⟨j + 1, ⟨hil, fun i' hi' j' hj' => ?_⟩, by simp only; omega, ?_⟩
        · rcases Nat.lt_or_ge i' j with h | h
          · exact h1 i' h j' hj'
          · obtain rfl : i' = j := by omega
            exact h2 j' hj'
        · simp only [m_rFifo1, ovr_cons, ovr_nil, anyM_t, anyM_f, anyM_nil, upd_zero, upd_succ]
          exact Weak.forget (by simp [Fgt])
    · simp (disch := omega) only [ePr, go_sem]
      have hie : i = t[p].evs.length := by omega
      refine ⟨p + 1, ⟨hpl, fun p' hp' h i2 hi2 j hj => ?_⟩, by simp only; omega, ?_⟩
      · rcases Nat.lt_or_ge p' p with hh | hh
        · exact h0 p' hh h i2 hi2 j hj
        · obtain rfl : p' = p := by omega
          exact h1 i2 (by omega) j hj
      · simp only [m_rFifo0, ovr_cons, ovr_nil, anyM_t, anyM_f, anyM_nil, upd_zero, upd_succ]
        exact Weak.forget (by simp [Fgt])
  · simp (disch := omega) only [go_sem]
    exact leave_pure (.inr rfl) rfl (.v _) hR hB ⟨by rw [fifo_true (fun p' hp' i hi j hj => h0 p' (by omega) hp' i hi j hj)]; rfl, rfl, rfl⟩
end Go.Proofs.Ytfdekchpckdeiaa

/- The law TraceMessages, as a run. No condition but on lengths. -/
namespace Go.Proofs.Ytfdekchpckdeiaa
set_option linter.unusedVariables false
set_option linter.unusedSimpArgs false
attribute [local go_sem ↓] run_skip run_region run_draw run_seq run_block run_exit run_ret run_cond atN_app seqC_normal seqC_exit seqC_ret seqQ_normal seqQ_exit seqQ_ret blkQ_normal blkQ_exit blkQ_ret runOps_nil runOps_cons runD_nil runD_cons grdO_true grdO_false grdD_true grdD_false ifC_true ifC_false opS_val opS_call opS_two opK_app dS_val dS_call dS_two dK_app
attribute [local go_sem] rechks_nil rechks_cons rechk gcase_true gcase_false ex_val ex_val0 gd_none gd_some nth_zero nth_succ upd_zero upd_succ put_some put_none ev_t ev_c evs_nil evs_cons evo_some evo_none hget_at hget_first hsetB_at hsetB_first hsetL_at hsetL_first ofOpt_some aop aload astore aslice aappend aiaddr aiaddrA afaddr alen alenS acopy amm acall apick binV binVB binVS isSh intOp strOp boolOp shOp eqC eqF and2 cellsOf setFrom fillA fillS rd rdI elems mk bounds AV.cell List.all_cons List.all_nil Bool.and_true Bool.true_and Bool.and_self List.length_cons List.length_nil List.length_append Nat.reduceAdd Nat.reduceSub Nat.reduceMul Nat.zero_add Nat.add_zero List.replicate_succ List.replicate_zero List.cons_append List.nil_append List.append_assoc List.append_nil List.getElem?_cons_zero List.getElem?_cons_succ List.getElem?_nil List.set_cons_zero List.set_cons_succ List.drop_zero List.drop_succ_cons List.take_zero List.take_succ_cons List.take_nil List.drop_nil List.map_cons List.map_nil Option.map_some if_true if_false Bool.false_eq_true and_self true_and and_true Nat.reduceLeDiff Nat.reduceLT Nat.le_refl Nat.reduceEqDiff ite_true ite_false beq_self_eq_true beq_true beq_false Bool.not_true Bool.not_false Bool.true_beq Bool.false_beq map_vs vs_len vs_get vs_take vs_drop vs_snoc1 vs_snoc2 vs_snoc3 vs_snoc5 vs_set1 vs_set2 vs_rep wrap_id le_T lt_T le_F lt_F leI_T ltI_T leI_F ltI_F geI gtI get_T decide_true decide_false room List.getElem?_map List.length_map List.length_take Int.toNat_natCast Nat.min_def Nat.min_self List.getElem_cons_zero List.getElem_cons_succ
def a_TraceMessages : AFunc := ⟨2, 80, [.tmp 4],
  (.seq (.region [⟨(some 2), .box (.t 0), none⟩, ⟨(some 4), .mv (.c (.v (.bool false))), none⟩])
  (.seq (.seq (.region [⟨(some 11), .call (.c (.fn 15 [])) [], none⟩, ⟨(some 12), .not (.t 11), none⟩])
  (.cond (.t 12) (.seq (.region [⟨(some 4), .mv (.c (.v (.bool false))), none⟩])
  .ret)
  .skip))
  (.seq (.seq (.region [⟨(some 13), .load (some 1) (.t 2), none⟩, ⟨(some 14), .call (.c (.fn 16 [])) [(.t 13)], none⟩, ⟨(some 15), .not (.t 14), none⟩])
  (.cond (.t 15) (.seq (.region [⟨(some 4), .mv (.c (.v (.bool true))), none⟩])
  .ret)
  .skip))
  (.seq (.region [⟨(some 17), .load (some 1) (.t 2), none⟩, ⟨(some 18), .mv (.t 1), none⟩, ⟨(some 19), .call (.c (.fn 27 [])) [(.t 17), (.t 18)], none⟩, ⟨(some 16), .mv (.t 19), none⟩, ⟨(some 20), .extract 0 (.t 16), none⟩, ⟨(some 21), .extract 1 (.t 16), none⟩, ⟨(some 5), .alloc [(.v (.int .i64 0)), (.v (.int .i64 0))], none⟩, ⟨none, .store 2 (.t 5) (.t 20), none⟩, ⟨(some 6), .mv (.t 21), none⟩])
  (.seq (.region [⟨(some 23), .load (some 1) (.t 2), none⟩, ⟨(some 24), .mv (.t 1), none⟩, ⟨(some 25), .call (.c (.fn 28 [])) [(.t 23), (.t 24)], none⟩, ⟨(some 22), .mv (.t 25), none⟩, ⟨(some 26), .extract 0 (.t 22), none⟩, ⟨(some 27), .extract 1 (.t 22), none⟩, ⟨(some 7), .alloc [(.v (.int .i64 0)), (.v (.int .i64 0))], none⟩, ⟨none, .store 2 (.t 7) (.t 26), none⟩, ⟨(some 8), .mv (.t 27), none⟩])
  (.seq (.seq (.draw [⟨0, ⟨(some 28), .load (some 1) (.t 2), none⟩, []⟩, ⟨2, ⟨(some 30), .load (some 1) (.t 2), none⟩, []⟩, ⟨1, ⟨(some 29), .call (.c (.fn 32 [])) [(.t 28)], none⟩, [⟨(some 30), .load (some 1) (.t 2), none⟩]⟩, ⟨3, ⟨(some 31), .call (.c (.fn 33 [])) [(.t 30)], none⟩, []⟩, ⟨4, ⟨(some 32), .binB .neq (.t 29) (.t 31), none⟩, []⟩])
  (.cond (.t 32) (.seq (.region [⟨(some 4), .mv (.c (.v (.bool false))), none⟩])
  .ret)
  .skip))
  (.seq (.seq (.region [⟨(some 33), .load (some 1) (.t 2), none⟩, ⟨(some 34), .call (.c (.fn 34 [])) [(.t 33)], none⟩, ⟨(some 35), .not (.t 34), none⟩])
  (.cond (.t 35) (.seq (.region [⟨(some 36), .load (some 2) (.t 5), none⟩, ⟨(some 37), .build [(.v (.int .i64 0)), (.v (.int .i64 0))] [], none⟩, ⟨(some 38), .eqs false [.i, .i] (.t 36) (.t 37), none⟩, ⟨(some 39), .mv (.t 38), none⟩, ⟨(some 40), .mv (.t 6), some (39, true)⟩, ⟨(some 41), .not (.t 40), some (39, true)⟩, ⟨(some 42), .pick (.t 39) (.t 41) (.c (.v (.bool false))), none⟩, ⟨(some 43), .mv (.t 42), none⟩, ⟨(some 44), .load (some 2) (.t 7), some (43, true)⟩, ⟨(some 45), .build [(.v (.int .i64 0)), (.v (.int .i64 0))] [], some (43, true)⟩, ⟨(some 46), .eqs false [.i, .i] (.t 44) (.t 45), some (43, true)⟩, ⟨(some 47), .pick (.t 43) (.t 46) (.c (.v (.bool false))), none⟩, ⟨(some 48), .mv (.t 47), none⟩, ⟨(some 49), .mv (.t 8), some (48, true)⟩, ⟨(some 50), .not (.t 49), some (48, true)⟩, ⟨(some 51), .pick (.t 48) (.t 50) (.c (.v (.bool false))), none⟩, ⟨(some 4), .mv (.t 51), none⟩])
  .ret)
  .skip))
  (.seq (.draw [⟨0, ⟨(some 52), .load (some 1) (.t 2), none⟩, []⟩, ⟨1, ⟨(some 53), .mv (.t 1), none⟩, []⟩, ⟨3, ⟨(some 55), .load (some 1) (.t 2), none⟩, []⟩, ⟨4, ⟨(some 56), .mv (.t 1), none⟩, []⟩, ⟨2, ⟨(some 54), .call (.c (.fn 25 [])) [(.t 52), (.c (.v (.int .i64 2))), (.t 53)], none⟩, [⟨(some 55), .load (some 1) (.t 2), none⟩, ⟨(some 56), .mv (.t 1), none⟩]⟩, ⟨5, ⟨(some 57), .call (.c (.fn 25 [])) [(.t 55), (.c (.v (.int .i64 3))), (.t 56)], none⟩, []⟩, ⟨6, ⟨(some 9), .alloc [(.v (.int .i64 0)), (.v (.int .i64 0))], none⟩, [⟨(some 52), .load (some 1) (.t 2), none⟩, ⟨(some 53), .mv (.t 1), none⟩, ⟨(some 55), .load (some 1) (.t 2), none⟩, ⟨(some 56), .mv (.t 1), none⟩]⟩, ⟨7, ⟨(some 10), .alloc [(.v (.int .i64 0)), (.v (.int .i64 0))], none⟩, [⟨(some 52), .load (some 1) (.t 2), none⟩, ⟨(some 53), .mv (.t 1), none⟩, ⟨(some 55), .load (some 1) (.t 2), none⟩, ⟨(some 56), .mv (.t 1), none⟩]⟩, ⟨8, ⟨none, .store 2 (.t 9) (.t 54), none⟩, []⟩, ⟨9, ⟨none, .store 2 (.t 10) (.t 57), none⟩, []⟩])
  (.seq (.region [⟨(some 58), .load (some 2) (.t 5), none⟩, ⟨(some 59), .load (some 2) (.t 9), none⟩, ⟨(some 60), .eqs false [.i, .i] (.t 58) (.t 59), none⟩, ⟨(some 61), .mv (.t 60), none⟩, ⟨(some 62), .mv (.t 6), some (61, true)⟩, ⟨(some 63), .faddr 1 (.t 9), some (61, true)⟩, ⟨(some 64), .load none (.t 63), some (61, true)⟩, ⟨(some 65), .bin .neq (.t 64) (.c (.v (.int .i64 0))), some (61, true)⟩, ⟨(some 66), .binB .eql (.t 62) (.t 65), some (61, true)⟩, ⟨(some 67), .pick (.t 61) (.t 66) (.c (.v (.bool false))), none⟩, ⟨(some 68), .mv (.t 67), none⟩, ⟨(some 69), .load (some 2) (.t 7), some (68, true)⟩, ⟨(some 70), .load (some 2) (.t 10), some (68, true)⟩, ⟨(some 71), .eqs false [.i, .i] (.t 69) (.t 70), some (68, true)⟩, ⟨(some 72), .pick (.t 68) (.t 71) (.c (.v (.bool false))), none⟩, ⟨(some 73), .mv (.t 72), none⟩, ⟨(some 74), .mv (.t 8), some (73, true)⟩, ⟨(some 75), .faddr 1 (.t 10), some (73, true)⟩, ⟨(some 76), .load none (.t 75), some (73, true)⟩, ⟨(some 77), .bin .neq (.t 76) (.c (.v (.int .i64 0))), some (73, true)⟩, ⟨(some 78), .binB .eql (.t 74) (.t 77), some (73, true)⟩, ⟨(some 79), .pick (.t 73) (.t 78) (.c (.v (.bool false))), none⟩, ⟨(some 4), .mv (.t 79), none⟩])
  .ret)))))))))⟩
theorem a_TraceMessages_ok : cFunc Try.prog 9 = some a_TraceMessages := by kernel_rfl

theorem findR_valid {t : Tr} (h : validL t = true) (k m : Int) : findR t k m = findV t k m := by unfold findR; rw [if_pos h]
theorem findR_not {t : Tr} (h : validL t = false) (k m : Int) : findR t k m = (0, 0) := by unfold findR; rw [h]; simp
theorem pos_ne (n : Nat) : (decide (0 < n) == ((n : Int) != 0)) = true := by
  by_cases h : n = 0
  · subst h; rfl
  · have h1 : ((n : Int) != 0) = true := by simp; omega
    rw [h1, decide_eq_true (by omega)]; rfl
theorem traceMessages_run (t : Tr) (hF : Fits t) (hN : Nm t) (m : Int) (b l : List Row) :
    ACalls Try.prog 9 [.agg [.v (eT t)], .v (.int .i64 m)] b l (fun r b' l' => r = .v (.bool true) ∧ b' = b ∧ l' = l) := by
  refine calls_of a_TraceMessages_ok rfl ?_
  intro B hB hR _
  simp only [a_TraceMessages, eT, go_sem]
  refine ACalls_mono _ _ _ _ _ _ (awake_spec _ _) ?_
  rintro r b' l' ⟨rfl, rfl, rfl⟩
  simp only [go_sem]
  refine ACalls_mono _ _ _ _ _ _ (few_spec t hF _ _) ?_
  rintro r b' l' ⟨rfl, rfl, rfl⟩
  cases hf : fewB t
  · simp only [go_sem]
    exact leave_pure (.inr rfl) rfl (.v _) hR hB ⟨rfl, rfl, rfl⟩
  have hS := few_small hf
  simp only [go_sem]
  refine ACalls_mono _ _ _ _ _ _ (sender_spec t hS hN _ _ m) ?_
  rintro r b' l' ⟨rfl, rfl, rfl⟩
  simp only [idA]
  simp only [go_sem]
  refine ACalls_mono _ _ _ _ _ _ (receiver_spec t hS hN _ _ m) ?_
  rintro r b' l' ⟨rfl, rfl, rfl⟩
  simp only [idA]
  simp only [go_sem]
  refine ACalls_mono _ _ _ _ _ _ (fifo_spec t hS hN _ _) ?_
  rintro r b' l' ⟨rfl, rfl, rfl⟩
  simp only [go_sem]
  refine ACalls_mono _ _ _ _ _ _ (rfifo_spec t hS hN _ _) ?_
  rintro r b' l' ⟨rfl, rfl, rfl⟩
  have hbb : ∀ b : Bool, (!(b == b)) = false := by intro b; cases b <;> rfl
  have hb2 : ∀ b : Bool, (b == b) = true := by intro b; cases b <;> rfl
  simp only [hb2, go_sem]
  refine ACalls_mono _ _ _ _ _ _ (rvalid_spec t hS hN _ _) ?_
  rintro r b' l' ⟨rfl, rfl, rfl⟩
  cases hv : validL t
  · simp only [findR_not hv]
    have z : ((0 : Nat) : Int) = 0 := rfl
    simp only [z, Nat.lt_irrefl, decide_false, go_sem]
    exact leave_pure (.inr rfl) rfl (.v _) hR hB ⟨by simp [nth, one], rfl, rfl⟩
  · simp only [findR_valid hv]
    simp only [go_sem]
    refine ACalls_mono _ _ _ _ _ _ (rFind_spec t hS hN 2 m _ _) ?_
    rintro r b' l' ⟨rfl, rfl, rfl⟩
    simp only [idA]
    simp only [go_sem]
    refine ACalls_mono _ _ _ _ _ _ (rFind_spec t hS hN 3 m _ _) ?_
    rintro r b' l' ⟨rfl, rfl, rfl⟩
    simp only [idA]
    simp only [pos_ne, hb2, go_sem]
    exact leave_pure (.inr rfl) rfl (.v _) hR hB ⟨by simp [nth, one, pos_ne], rfl, rfl⟩
end Go.Proofs.Ytfdekchpckdeiaa
