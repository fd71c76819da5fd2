/- Texts of one proof, laid together: MA, HD, MB, WU, VC, VX, MX, MC, MF, MG, MH, HI. No condition. -/
import Derived.Test.YtoaopldaleaijaaSF8
import Derived.Test.YtoaopldaleaijaaSF3
import Derived.Test.YtoaopldaleaijaaSF2
import Derived.KernelRfl
import Derived.Test.YtoaopldaleaijaaProg
namespace Go.Proofs.Ytoaopldaleaijaa
set_option linter.unusedVariables false
set_option linter.unusedSimpArgs false
attribute [local go_sem ↓] run_skip run_region run_draw run_seq run_block run_exit run_ret run_cond atN_app seqC_normal seqC_exit seqC_ret seqQ_normal seqQ_exit seqQ_ret blkQ_normal blkQ_exit blkQ_ret runOps_nil runOps_cons runD_nil runD_cons grdO_true grdO_false grdD_true grdD_false ifC_true ifC_false opS_val opS_call opS_two opK_app dS_val dS_call dS_two dK_app kUp_same kUp_ne
attribute [local go_sem] rechks_nil rechks_cons rechk gcase_true gcase_false ex_val ex_val0 gd_none gd_some ev_t ev_c evs_nil evs_cons evo_some evo_none hget_at hget_first hsetB_at hsetB_first hsetL_at hsetL_first ofOpt_some aop aload astore aslice aappend aiaddr aiaddrA afaddr alen alenS acopy amm acall alookup amupdate alenM comma keyEq apick binV binVB binVS isSh intOp strOp boolOp shOp eqC eqF and2 cellsOf setFrom fillA fillS rd rdI elems mk bounds AV.cell List.all_cons List.all_nil Bool.and_true Bool.true_and Bool.and_self List.length_cons List.length_nil List.length_append Nat.reduceAdd Nat.reduceSub Nat.reduceMul Nat.zero_add Nat.add_zero List.cons_append List.nil_append List.append_assoc List.append_nil List.getElem?_cons_zero List.getElem?_cons_succ List.getElem?_nil List.set_cons_zero List.set_cons_succ List.drop_zero List.drop_succ_cons List.take_zero List.take_succ_cons List.take_nil List.drop_nil List.map_cons List.map_nil Option.map_some if_true if_false Bool.false_eq_true and_self true_and and_true Nat.reduceLeDiff Nat.reduceLT Nat.le_refl Nat.reduceEqDiff ite_true ite_false beq_self_eq_true beq_true beq_false Bool.not_true Bool.not_false Bool.true_beq Bool.false_beq map_vs vs_len vs_get vs_take vs_drop vs_snoc1 vs_snoc2 vs_snoc3 vs_snoc5 vs_set1 vs_set2 vs_rep wrap_id le_T lt_T le_F lt_F leI_T ltI_T leI_F ltI_F geI gtI get_T decide_true decide_false room List.getElem?_map List.length_map List.length_take Int.toNat_natCast Nat.min_def Nat.min_self nth_kOf put_kOf put_kNo kOv_cons kOv_nil KHas KArgs List.getElem_cons_zero List.getElem_cons_succ
def a_mAt : AFunc := ⟨2, 111, [.tmp 4],
  (.seq (.region [⟨(some 3), .box (.t 1), none⟩, ⟨(some 4), .mv (.c (.v .zsl)), none⟩])
  (.seq (.seq (.draw [⟨0, ⟨(some 13), .mv (.t 0), none⟩, []⟩, ⟨1, ⟨(some 14), .nilck (.t 13), none⟩, []⟩, ⟨2, ⟨(some 15), .faddr 1 (.t 14), none⟩, []⟩, ⟨3, ⟨(some 16), .load none (.t 15), none⟩, []⟩, ⟨4, ⟨(some 17), .load (some 2) (.t 3), none⟩, []⟩, ⟨5, ⟨(some 18), .lookup (.many [.i, .i]) (.v .zsl) true (.t 16) (.t 17), none⟩, []⟩, ⟨6, ⟨(some 12), .mv (.t 18), none⟩, []⟩, ⟨7, ⟨(some 19), .extract 0 (.t 12), none⟩, []⟩, ⟨8, ⟨(some 20), .extract 1 (.t 12), none⟩, []⟩, ⟨9, ⟨(some 5), .mv (.t 19), none⟩, []⟩, ⟨10, ⟨(some 6), .mv (.t 20), none⟩, []⟩])
  (.seq (.region [⟨(some 21), .mv (.t 6), none⟩])
  (.cond (.t 21) (.seq (.region [⟨(some 22), .mv (.t 5), none⟩, ⟨(some 4), .mv (.t 22), none⟩])
  .ret)
  .skip)))
  (.seq (.seq (.region [⟨(some 23), .faddr 1 (.t 3), none⟩, ⟨(some 24), .load none (.t 23), none⟩, ⟨(some 25), .bin .eql (.t 24) (.c (.v (.int .i64 0))), none⟩])
  (.cond (.t 25) (.seq (.region [⟨(some 27), .mv (.t 0), none⟩, ⟨(some 28), .nilck (.t 27), none⟩, ⟨(some 29), .faddr 0 (.t 28), none⟩, ⟨(some 30), .faddr 0 (.t 29), none⟩, ⟨(some 31), .load none (.t 30), none⟩, ⟨(some 32), .len (.t 31), none⟩, ⟨(some 33), .call (.c (.fn 141 [])) [(.t 32)], none⟩, ⟨(some 26), .mv (.t 33), none⟩, ⟨(some 34), .extract 0 (.t 26), none⟩, ⟨(some 35), .extract 1 (.t 26), none⟩, ⟨(some 7), .mv (.t 34), none⟩, ⟨(some 8), .mv (.t 35), none⟩])
  (.seq (.draw [⟨0, ⟨(some 36), .mv (.t 0), none⟩, []⟩, ⟨1, ⟨(some 37), .nilck (.t 36), none⟩, []⟩, ⟨2, ⟨(some 38), .faddr 1 (.t 37), none⟩, []⟩, ⟨3, ⟨(some 39), .load none (.t 38), none⟩, []⟩, ⟨4, ⟨(some 40), .load (some 2) (.t 3), none⟩, []⟩, ⟨5, ⟨(some 41), .mv (.t 7), none⟩, []⟩, ⟨6, ⟨none, .mupdate (.many [.i, .i]) (.t 39) (.t 40) (.t 41), none⟩, []⟩])
  (.seq (.region [⟨(some 42), .mv (.t 7), none⟩, ⟨(some 4), .mv (.t 42), none⟩])
  .ret)))
  .skip))
  (.seq (.region [⟨(some 43), .mv (.t 0), none⟩, ⟨(some 44), .faddr 0 (.t 3), none⟩, ⟨(some 45), .load none (.t 44), none⟩, ⟨(some 46), .faddr 1 (.t 3), none⟩, ⟨(some 47), .load none (.t 46), none⟩, ⟨(some 48), .bin .sub (.t 47) (.c (.v (.int .i64 1))), none⟩, ⟨(some 49), .build [(.v (.int .i64 0)), (.v (.int .i64 0))] [(0, 1, (.t 45)), (1, 1, (.t 48))], none⟩, ⟨(some 50), .call (.c (.fn 106 [])) [(.t 43), (.t 49)], none⟩, ⟨(some 9), .mv (.t 50), none⟩])
  (.seq (.seq (.draw [⟨0, ⟨(some 51), .mv (.t 0), none⟩, []⟩, ⟨1, ⟨(some 52), .nilck (.t 51), none⟩, []⟩, ⟨2, ⟨(some 53), .faddr 0 (.t 52), none⟩, []⟩, ⟨3, ⟨(some 54), .faddr 0 (.t 53), none⟩, []⟩, ⟨4, ⟨(some 55), .load none (.t 54), none⟩, []⟩, ⟨5, ⟨(some 56), .faddr 0 (.t 3), none⟩, []⟩, ⟨6, ⟨(some 57), .load none (.t 56), none⟩, []⟩, ⟨7, ⟨(some 58), .iaddr 3 (.t 55) (.t 57), none⟩, []⟩, ⟨8, ⟨(some 59), .faddr 2 (.t 58), none⟩, []⟩, ⟨9, ⟨(some 60), .load none (.t 59), none⟩, []⟩, ⟨10, ⟨(some 61), .faddr 1 (.t 3), none⟩, []⟩, ⟨11, ⟨(some 62), .load none (.t 61), none⟩, []⟩, ⟨12, ⟨(some 63), .bin .sub (.t 62) (.c (.v (.int .i64 1))), none⟩, []⟩, ⟨13, ⟨(some 64), .iaddr 5 (.t 60) (.t 63), none⟩, []⟩, ⟨14, ⟨(some 65), .load (some 5) (.t 64), none⟩, []⟩, ⟨15, ⟨(some 10), .alloc [(.v (.int .i64 0)), (.v (.int .i64 0)), (.v (.int .i64 0)), (.v (.int .i64 0)), (.v .zsl)], none⟩, [⟨(some 51), .mv (.t 0), none⟩, ⟨(some 52), .nilck (.t 51), none⟩, ⟨(some 53), .faddr 0 (.t 52), none⟩, ⟨(some 54), .faddr 0 (.t 53), none⟩, ⟨(some 55), .load none (.t 54), none⟩, ⟨(some 56), .faddr 0 (.t 3), none⟩, ⟨(some 57), .load none (.t 56), none⟩, ⟨(some 58), .iaddr 3 (.t 55) (.t 57), none⟩, ⟨(some 59), .faddr 2 (.t 58), none⟩, ⟨(some 60), .load none (.t 59), none⟩, ⟨(some 61), .faddr 1 (.t 3), none⟩, ⟨(some 62), .load none (.t 61), none⟩, ⟨(some 63), .bin .sub (.t 62) (.c (.v (.int .i64 1))), none⟩, ⟨(some 64), .iaddr 5 (.t 60) (.t 63), none⟩, ⟨(some 65), .load (some 5) (.t 64), none⟩]⟩, ⟨16, ⟨none, .store 5 (.t 10) (.t 65), none⟩, []⟩])
  (.seq (.region [⟨(some 66), .faddr 0 (.t 10), none⟩, ⟨(some 67), .load none (.t 66), none⟩, ⟨(some 68), .bin .eql (.t 67) (.c (.v (.int .i64 3))), none⟩])
  (.cond (.t 68) (.seq (.draw [⟨0, ⟨(some 69), .mv (.t 0), none⟩, []⟩, ⟨1, ⟨(some 70), .nilck (.t 69), none⟩, []⟩, ⟨2, ⟨(some 71), .faddr 0 (.t 70), none⟩, []⟩, ⟨3, ⟨(some 72), .faddr 0 (.t 71), none⟩, []⟩, ⟨4, ⟨(some 73), .load none (.t 72), none⟩, []⟩, ⟨5, ⟨(some 74), .faddr 1 (.t 10), none⟩, []⟩, ⟨6, ⟨(some 75), .load none (.t 74), none⟩, []⟩, ⟨7, ⟨(some 76), .iaddr 3 (.t 73) (.t 75), none⟩, []⟩, ⟨8, ⟨(some 77), .faddr 2 (.t 76), none⟩, []⟩, ⟨9, ⟨(some 78), .load none (.t 77), none⟩, []⟩, ⟨10, ⟨(some 79), .mkfn 142 [(.t 10)], none⟩, []⟩, ⟨11, ⟨(some 80), .call (.c (.fn 24 [])) [(.t 78), (.t 79)], none⟩, []⟩, ⟨12, ⟨(some 11), .mv (.t 80), none⟩, []⟩])
  (.draw [⟨0, ⟨(some 82), .mv (.t 9), none⟩, []⟩, ⟨1, ⟨(some 83), .faddr 0 (.t 3), none⟩, []⟩, ⟨2, ⟨(some 84), .load none (.t 83), none⟩, []⟩, ⟨3, ⟨(some 85), .mv (.t 0), none⟩, []⟩, ⟨4, ⟨(some 86), .faddr 1 (.t 10), none⟩, []⟩, ⟨5, ⟨(some 87), .load none (.t 86), none⟩, []⟩, ⟨6, ⟨(some 88), .mv (.t 11), none⟩, []⟩, ⟨7, ⟨(some 89), .bin .add (.t 88) (.c (.v (.int .i64 1))), none⟩, []⟩, ⟨8, ⟨(some 90), .build [(.v (.int .i64 0)), (.v (.int .i64 0))] [(0, 1, (.t 87)), (1, 1, (.t 89))], none⟩, []⟩, ⟨10, ⟨(some 92), .faddr 1 (.t 10), none⟩, []⟩, ⟨11, ⟨(some 93), .load none (.t 92), none⟩, []⟩, ⟨9, ⟨(some 91), .call (.c (.fn 106 [])) [(.t 85), (.t 90)], none⟩, [⟨(some 82), .mv (.t 9), none⟩, ⟨(some 83), .faddr 0 (.t 3), none⟩, ⟨(some 84), .load none (.t 83), none⟩, ⟨(some 92), .faddr 1 (.t 10), none⟩, ⟨(some 93), .load none (.t 92), none⟩]⟩, ⟨12, ⟨(some 94), .call (.c (.fn 143 [])) [(.t 82), (.t 84), (.t 91), (.t 93)], none⟩, []⟩, ⟨13, ⟨(some 81), .mv (.t 94), none⟩, []⟩, ⟨14, ⟨(some 95), .extract 0 (.t 81), none⟩, []⟩, ⟨15, ⟨(some 96), .extract 1 (.t 81), none⟩, []⟩, ⟨16, ⟨(some 9), .mv (.t 95), none⟩, []⟩]))
  (.region [⟨(some 98), .mv (.t 9), none⟩, ⟨(some 99), .faddr 0 (.t 3), none⟩, ⟨(some 100), .load none (.t 99), none⟩, ⟨(some 101), .call (.c (.fn 144 [])) [(.t 98), (.t 100)], none⟩, ⟨(some 97), .mv (.t 101), none⟩, ⟨(some 102), .extract 0 (.t 97), none⟩, ⟨(some 103), .extract 1 (.t 97), none⟩, ⟨(some 9), .mv (.t 102), none⟩]))))
  (.seq (.draw [⟨0, ⟨(some 104), .mv (.t 0), none⟩, []⟩, ⟨1, ⟨(some 105), .nilck (.t 104), none⟩, []⟩, ⟨2, ⟨(some 106), .faddr 1 (.t 105), none⟩, []⟩, ⟨3, ⟨(some 107), .load none (.t 106), none⟩, []⟩, ⟨4, ⟨(some 108), .load (some 2) (.t 3), none⟩, []⟩, ⟨5, ⟨(some 109), .mv (.t 9), none⟩, []⟩, ⟨6, ⟨none, .mupdate (.many [.i, .i]) (.t 107) (.t 108) (.t 109), none⟩, []⟩])
  (.seq (.region [⟨(some 110), .mv (.t 9), none⟩, ⟨(some 4), .mv (.t 110), none⟩])
  .ret)))))))⟩
theorem a_mAt_ok : cFunc Try.prog 106 = some a_mAt := by kernel_rfl
def a_mAt1 : AFunc := ⟨2, 14, [.tmp 3],
  (.seq (.region [⟨(some 2), .box (.t 0), none⟩, ⟨(some 3), .mv (.c (.v (.bool false))), none⟩])
  (.seq (.region [⟨(some 4), .faddr 0 (.t 2), none⟩, ⟨(some 5), .load none (.t 4), none⟩, ⟨(some 6), .bin .eql (.t 5) (.c (.v (.int .i64 2))), none⟩, ⟨(some 7), .mv (.t 6), none⟩, ⟨(some 8), .faddr 2 (.t 2), some (7, true)⟩, ⟨(some 9), .load none (.t 8), some (7, true)⟩, ⟨(some 10), .faddr 2 (.t 1), some (7, true)⟩, ⟨(some 11), .load none (.t 10), some (7, true)⟩, ⟨(some 12), .bin .eql (.t 9) (.t 11), some (7, true)⟩, ⟨(some 13), .pick (.t 7) (.t 12) (.c (.v (.bool false))), none⟩, ⟨(some 3), .mv (.t 13), none⟩])
  .ret))⟩
theorem a_mAt1_ok : cFunc Try.prog 142 = some a_mAt1 := by kernel_rfl
def a_mOpen : AFunc := ⟨1, 7, [.tmp 2],
  (.seq (.region [⟨(some 1), .box (.t 0), none⟩, ⟨(some 2), .mv (.c (.v .nilp)), none⟩])
  (.seq (.region [⟨(some 3), .load (some 1) (.t 1), none⟩, ⟨(some 4), .mkmap, none⟩, ⟨(some 5), .build [(.v .zsl), (.v .nilm)] [(0, 1, (.t 3)), (1, 1, (.t 4))], none⟩, ⟨(some 6), .box (.t 5), none⟩, ⟨(some 2), .mv (.t 6), none⟩])
  .ret))⟩
theorem a_mOpen_ok : cFunc Try.prog 105 = some a_mOpen := by kernel_rfl
def a_AtM : AFunc := ⟨2, 44, [.tmp 4, .tmp 5],
  (.seq (.region [⟨(some 2), .box (.t 0), none⟩, ⟨(some 3), .box (.t 1), none⟩, ⟨(some 4), .mv (.c (.v .zsl)), none⟩, ⟨(some 5), .mv (.c (.v (.int .i64 0))), none⟩])
  (.seq (.block 0 (.seq (.region [⟨(some 7), .load (some 1) (.t 2), none⟩, ⟨(some 8), .call (.c (.fn 67 [])) [(.t 7)], none⟩, ⟨(some 9), .not (.t 8), none⟩, ⟨(some 6), .mv (.t 9), none⟩])
  (.cond (.t 6) (.seq (.region [⟨(some 4), .mv (.c (.v .zsl)), none⟩, ⟨(some 5), .mv (.c (.v (.int .i64 1))), none⟩])
  .ret)
  (.seq (.draw [⟨0, ⟨(some 11), .faddr 0 (.t 3), none⟩, []⟩, ⟨1, ⟨(some 12), .load none (.t 11), none⟩, []⟩, ⟨2, ⟨(some 13), .bin .lss (.t 12) (.c (.v (.int .i64 0))), none⟩, []⟩, ⟨3, ⟨(some 14), .mv (.t 13), none⟩, []⟩, ⟨4, ⟨(some 15), .faddr 0 (.t 3), some (14, false)⟩, []⟩, ⟨5, ⟨(some 16), .load none (.t 15), some (14, false)⟩, []⟩, ⟨6, ⟨(some 17), .faddr 0 (.t 2), some (14, false)⟩, []⟩, ⟨7, ⟨(some 18), .load none (.t 17), some (14, false)⟩, []⟩, ⟨8, ⟨(some 19), .len (.t 18), some (14, false)⟩, []⟩, ⟨9, ⟨(some 20), .bin .geq (.t 16) (.t 19), some (14, false)⟩, []⟩, ⟨10, ⟨(some 21), .pick (.t 14) (.c (.v (.bool true))) (.t 20), none⟩, []⟩, ⟨11, ⟨(some 22), .mv (.t 21), none⟩, []⟩, ⟨12, ⟨(some 23), .faddr 1 (.t 3), some (22, false)⟩, []⟩, ⟨13, ⟨(some 24), .load none (.t 23), some (22, false)⟩, []⟩, ⟨14, ⟨(some 25), .bin .lss (.t 24) (.c (.v (.int .i64 0))), some (22, false)⟩, []⟩, ⟨15, ⟨(some 26), .pick (.t 22) (.c (.v (.bool true))) (.t 25), none⟩, []⟩, ⟨16, ⟨(some 27), .mv (.t 26), none⟩, []⟩, ⟨17, ⟨(some 28), .faddr 1 (.t 3), some (27, false)⟩, []⟩, ⟨18, ⟨(some 29), .load none (.t 28), some (27, false)⟩, []⟩, ⟨19, ⟨(some 30), .faddr 0 (.t 2), some (27, false)⟩, []⟩, ⟨20, ⟨(some 31), .load none (.t 30), some (27, false)⟩, []⟩, ⟨21, ⟨(some 32), .faddr 0 (.t 3), some (27, false)⟩, []⟩, ⟨22, ⟨(some 33), .load none (.t 32), some (27, false)⟩, []⟩, ⟨23, ⟨(some 34), .iaddr 3 (.t 31) (.t 33), some (27, false)⟩, []⟩, ⟨24, ⟨(some 35), .faddr 2 (.t 34), some (27, false)⟩, []⟩, ⟨25, ⟨(some 36), .load none (.t 35), some (27, false)⟩, []⟩, ⟨26, ⟨(some 37), .len (.t 36), some (27, false)⟩, []⟩, ⟨27, ⟨(some 38), .bin .gtr (.t 29) (.t 37), some (27, false)⟩, []⟩, ⟨28, ⟨(some 39), .pick (.t 27) (.c (.v (.bool true))) (.t 38), none⟩, []⟩, ⟨29, ⟨(some 10), .mv (.t 39), none⟩, []⟩])
  (.cond (.t 10) (.seq (.region [⟨(some 4), .mv (.c (.v .zsl)), none⟩, ⟨(some 5), .mv (.c (.v (.int .i64 2))), none⟩])
  .ret)
  .skip)))))
  (.seq (.draw [⟨0, ⟨(some 40), .load (some 1) (.t 2), none⟩, []⟩, ⟨2, ⟨(some 42), .load (some 2) (.t 3), none⟩, []⟩, ⟨1, ⟨(some 41), .call (.c (.fn 105 [])) [(.t 40)], none⟩, [⟨(some 42), .load (some 2) (.t 3), none⟩]⟩, ⟨3, ⟨(some 43), .call (.c (.fn 106 [])) [(.t 41), (.t 42)], none⟩, []⟩, ⟨4, ⟨(some 4), .mv (.t 43), none⟩, []⟩, ⟨5, ⟨(some 5), .mv (.c (.v (.int .i64 0))), none⟩, []⟩])
  .ret)))⟩
theorem a_AtM_ok : cFunc Try.prog 55 = some a_AtM := by kernel_rfl

noncomputable def eMt (t : Tr) (x : Nat × Nat) : IV := .isl 1 ((mtx t x).map eRw)
noncomputable def kmL (t : Tr) (K : List (Nat × Nat)) : List (List AV) := K.map fun y => [idA y, .v (eMt t y)]
theorem keyEq_id {x y : Nat × Nat} : keyEq (.many [.i, .i]) (idA x) (idA y) = some (decide (x = y)) := by
  obtain ⟨a, c⟩ := x
  obtain ⟨d, e⟩ := y
  simp only [keyEq, idA, eqC, eqF, and2, if_true, Bool.and_true]
  congr 1
  rw [Bool.eq_iff_iff]
  simp
  omega
theorem findM_km {t : Tr} {x : Nat × Nat} : ∀ K, findM (.many [.i, .i]) (idA x) (kmL t K) = some (if x ∈ K then some (.v (eMt t x)) else none)
  | [] => rfl
  | y :: K => by
    have ih := findM_km (t := t) (x := x) K
    unfold kmL at ih ⊢
    rw [List.map_cons]
    simp only [findM]
    rw [keyEq_id]
    by_cases h : x = y
    · subst h; simp
    · rw [decide_eq_false h]
      simp only [ih, List.mem_cons, h, false_or]
def addK (K : List (Nat × Nat)) (x : Nat × Nat) : List (Nat × Nat) := if x ∈ K then K else K ++ [x]
theorem updM_km {t : Tr} {x : Nat × Nat} : ∀ K, updM (.many [.i, .i]) (idA x) (.v (eMt t x)) (kmL t K) = some (kmL t (addK K x))
  | [] => rfl
  | y :: K => by
    have ih := updM_km (t := t) (x := x) K
    have e : kmL t (y :: K) = [idA y, .v (eMt t y)] :: kmL t K := rfl
    rw [e]
    simp only [updM]
    rw [keyEq_id]
    by_cases h : x = y
    · subst h
      simp only [decide_true, addK, List.mem_cons, true_or, if_true]
      rfl
    · rw [decide_eq_false h]
      simp only [ih, Option.map_some, addK, List.mem_cons, h, false_or]
      by_cases hk : x ∈ K
      · rw [if_pos hk, if_pos hk]; rfl
      · rw [if_neg hk, if_neg hk]; rfl
theorem mtx_pp {t : Tr} (hv : Vok t) {p i : Nat} (hp : p < t.length) (hi : i ≤ (evsOf t p).length) : ent (mtx t (p, i)) p p = i := by
  rw [mtx_ent hp hp]
  unfold mE
  rw [vc_self hv hp hi, vc_self hv hp hi]
theorem tick_ok {t : Tr} (hv : Vok t) (hS : Small t) {p i : Nat} (hp : p < t.length) (hi : i ≤ (evsOf t p).length) : tickME (mtx t (p, i)) p = 0 := by
  have h1 := mtx_isM hv hS (by omega) (p, i)
  have h2 := hS.ne _ (List.getElem_mem hp)
  rw [evsOf_lt hp] at hi
  unfold tickME
  rw [h1, mtx_len, Int.toNat_natCast, mtx_pp hv hp (by rw [evsOf_lt hp]; exact hi)]
  rw [if_neg (by simp), if_neg (by omega), if_neg (by omega)]
theorem recv_ok {t : Tr} (hv : Vok t) (hS : Small t) {p i : Nat} (hx : (p, i + 1) ∈ ids t) (hk : (evAt t (p, i + 1)).kind = 3) : recvE (mtx t (p, i)) p (mtx t (sndr t (p, i + 1))) (sndr t (p, i + 1)).1 = 0 := by
  obtain ⟨hp, hi⟩ := mem_ids2.1 hx
  obtain ⟨_, hne, _, _⟩ := sndr_peer hv hx hk
  have hsq := (mem_ids.1 (sndr_in hv hx hk).1).1
  have h1 := mtx_isM hv hS (by omega) (p, i)
  have h2 := mtx_isM hv hS (by omega) (sndr t (p, i + 1))
  have hM := recv_isM (p := p) (q := (sndr t (p, i + 1)).1) h1 h2 (by rw [mtx_len, mtx_len]) (by rw [mtx_len]; exact hp) (by rw [mtx_len]; exact hsq)
  have hx2 := mtx_recv hv hx hk
  have hl : (recvM (mtx t (p, i)) p (mtx t (sndr t (p, i + 1))) (sndr t (p, i + 1)).1).length = t.length := by unfold recvM; rw [fl_len, mtx_len]
  have hpp : ent (recvM (mtx t (p, i)) p (mtx t (sndr t (p, i + 1))) (sndr t (p, i + 1)).1) p p = i := by
    have h3 := mtx_pp hv hp (show i + 1 ≤ (evsOf t p).length from hi)
    rw [hx2] at h3
    have e : rowAt (tickM (recvM (mtx t (p, i)) p (mtx t (sndr t (p, i + 1))) (sndr t (p, i + 1)).1) p) p = (rowAt (recvM (mtx t (p, i)) p (mtx t (sndr t (p, i + 1))) (sndr t (p, i + 1)).1) p).set p (ent (recvM (mtx t (p, i)) p (mtx t (sndr t (p, i + 1))) (sndr t (p, i + 1)).1) p p + 1) := by
      unfold tickM; rw [hl, show rowAt (fl t.length _) p = _ from fl_getD hp, if_pos rfl]
    have hrl := (isM_open hM).2.2.1 p (by rw [hl]; exact hp)
    rw [hl] at hrl
    unfold ent at h3
    rw [e, getD_at (by rw [List.length_set, hrl]; exact hp), List.getElem_set_self] at h3
    omega
  have hne2 := hS.ne _ (List.getElem_mem hp)
  rw [evsOf_lt hp] at hi
  unfold recvE
  rw [h1, h2, mtx_len, mtx_len]
  rw [if_neg (by simp), if_neg (by omega)]
  unfold tickME
  rw [Int.toNat_natCast, Int.toNat_natCast, hM, hl, hpp]
  rw [if_neg (by simp), if_neg (by omega), if_neg (by omega)]
theorem mAt1_spec (t : Tr) (e f : Ev) (id : Nat) (b : List Row) (hid : b[id]? = some (.live 0 5 [(eEv e).map .v])) : ACalls Try.prog 142 [.agg ((eEv f).map .v), .ptr id 0 0 0] b [] (fun r b' l' => r = .v (.bool ((f.kind == 2) && (f.msg == e.msg))) ∧ b' = b ∧ l' = []) := by
  refine calls_kept a_mAt1_ok rfl (by decide) ?_
  intro B g hB hR hE hA
  simp only [KArgs] at hA
  have hBb : B = b := by rw [hB, List.append_nil]
  have hbase := hget_low (B := B) (hBb.symm ▸ hid)
  cases hk : f.kind == 2 with
  | false =>
    simp (disch := (first | decide | omega)) only [a_mAt1, hA, hbase, eEv, hk, go_sem]
    exact leave_pure (xs := [.v (.bool false)]) (.inr rfl) (by simp (disch := (first | decide | omega)) only [resVs, resV, go_sem, hA]) (by simp only [one, AVlt_v, AVlt_any, AVlt_sl, AVlt_ptr, AVlt_mp, AVlt_agg, AVlt_tup, AVlt_fn, RowsLt_nil, RowsLt_live, RowsLt_dead, List.mem_cons, List.not_mem_nil, List.forall_mem_cons, List.forall_mem_nil, or_false, false_or, forall_eq_or_imp, forall_eq, vs_lt, Nat.add_lt_add_iff_left, Nat.reduceLT, true_and, and_true, and_self, List.length_cons, List.length_nil, Nat.reduceAdd, Nat.zero_add, implies_true, false_imp_iff, lt_T, List.mem_map]) hR hB ⟨rfl, rfl, rfl⟩
  | true =>
    simp (disch := (first | decide | omega)) only [a_mAt1, hA, hbase, eEv, hk, go_sem]
    exact leave_pure (xs := [.v (.bool (f.msg == e.msg))]) (.inr rfl) (by simp (disch := (first | decide | omega)) only [resVs, resV, go_sem, hA]) (by simp only [one, AVlt_v, AVlt_any, AVlt_sl, AVlt_ptr, AVlt_mp, AVlt_agg, AVlt_tup, AVlt_fn, RowsLt_nil, RowsLt_live, RowsLt_dead, List.mem_cons, List.not_mem_nil, List.forall_mem_cons, List.forall_mem_nil, or_false, false_or, forall_eq_or_imp, forall_eq, vs_lt, Nat.add_lt_add_iff_left, Nat.reduceLT, true_and, and_true, and_self, List.length_cons, List.length_nil, Nat.reduceAdd, Nat.zero_add, implies_true, false_imp_iff, lt_T, List.mem_map]) hR hB ⟨rfl, rfl, rfl⟩
/-- A row of the caller's, or of its own: what it is after it was put anew. -/
theorem hset_same {b l : List Row} {m : Nat} {r : Row} (h : (b ++ l)[m]? = some r) : hsetB b m r = b ∧ hsetL b l m r = l := by
  unfold hsetB hsetL
  by_cases hm : m < b.length
  · rw [if_pos hm, if_pos hm]
    rw [List.getElem?_append_left hm] at h
    refine ⟨?_, rfl⟩
    apply List.ext_getElem?
    intro j
    by_cases hj : m = j
    · subst hj; rw [List.getElem?_set_self hm, h]
    · rw [List.getElem?_set_ne hj]
  · rw [if_neg hm, if_neg hm]
    rw [List.getElem?_append_right (by omega)] at h
    refine ⟨rfl, ?_⟩
    apply List.ext_getElem?
    intro j
    have hl := (List.getElem?_eq_some_iff.1 h).1
    by_cases hj : m - b.length = j
    · subst hj; rw [List.getElem?_set_self hl, h]
    · rw [List.getElem?_set_ne hj]
noncomputable def kmR (t : Tr) (K : List (Nat × Nat)) : Row := .live 0 0 (kmL t K)
/-- Where the work of an event stands in an order in which its calls go down. -/
noncomputable def rkM (t : Tr) (x : Nat × Nat) : Nat := if x.2 = 0 then 0 else rk t x + 1
def MQ (t : Tr) (b l : List Row) (m : Nat) (x : Nat × Nat) (r : AV) (b' l' : List Row) : Prop := ∃ K, r = .v (eMt t x) ∧ b' = hsetB b m (kmR t K) ∧ l' = hsetL b l m (kmR t K)
theorem RowsLt.setKm {n m : Nat} {B : List Row} {t : Tr} {K : List (Nat × Nat)} (h : RowsLt n B) : RowsLt n (B.set m (kmR t K)) := by
  intro i v' sz' els hr row hrow c hc
  by_cases hi : m = i
  · subst hi
    rw [List.getElem?_set] at hr
    simp only [if_true] at hr
    split at hr
    · cases hr
      obtain ⟨y, _, rfl⟩ := List.mem_map.1 hrow
      simp only [List.mem_cons, List.not_mem_nil, or_false] at hc
      rcases hc with rfl | rfl
      · unfold idA; simp only [AVlt_v, AVlt_any, AVlt_sl, AVlt_ptr, AVlt_mp, AVlt_agg, AVlt_tup, AVlt_fn, RowsLt_nil, RowsLt_live, RowsLt_dead, List.mem_cons, List.not_mem_nil, List.forall_mem_cons, List.forall_mem_nil, or_false, false_or, forall_eq_or_imp, forall_eq, vs_lt, Nat.add_lt_add_iff_left, Nat.reduceLT, true_and, and_true, and_self, List.length_cons, List.length_nil, Nat.reduceAdd, Nat.zero_add, implies_true, false_imp_iff, lt_T, List.mem_map]
      · exact .v _
    · cases hr
  · rw [List.getElem?_set_ne hi] at hr
    exact h i v' sz' els hr row hrow c hc
set_option maxRecDepth 20000 in
theorem mAt_spec (t : Tr) (hv : Vok t) (hS : Small t) (c m : Nat) (hcm : c ≠ m) : ∀ n (x : Nat × Nat), rkM t x = n → x.1 < t.length → x.2 ≤ (evsOf t x.1).length → ∀ (b l : List Row) (K : List (Nat × Nat)),
    (b ++ l)[c]? = some (.live 0 2 [[.v (eT t), .mp m 0]]) → (b ++ l)[m]? = some (kmR t K) →
    ACalls Try.prog 106 [.ptr c 0 0 0, idA x] b l (MQ t b l m x) := by
  intro n
  induction n using Nat.strongRecOn with
  | _ n ih =>
  rintro ⟨p, i⟩ hn hp hi b l K hc hm
  simp only at hp hi
  refine calls_kept a_mAt_ok rfl (by decide) ?_
  intro B g hB hR hE hA
  simp only [KArgs] at hA
  rw [← hB] at hc hm
  have hcl := (List.getElem?_eq_some_iff.1 hc).1
  have hml := (List.getElem?_eq_some_iff.1 hm).1
  have hgc := hget_low hc
  have hgm := hget_low hm
  have hf := findM_km (t := t) (x := (p, i)) K
  have hke := keyEq_id (x := (p, i)) (y := (p, i))
  rw [decide_eq_true rfl] at hke
  simp only [idA] at hf hke
  have h8 := hv.hi
  have hgm' : ∀ L, hget B L m = some (.live 0 0 (kmL t K)) := hgm
  by_cases hmem : (p, i) ∈ K
  · rw [if_pos hmem] at hf
    simp (disch := (first | decide | omega)) only [a_mAt, hA, idA, hgc, hgm', hf, hke, go_sem]
    have hsm := hset_same (hB ▸ hm)
    exact leave_pure (xs := [.v (eMt t (p, i))]) (.inr rfl) (by simp (disch := (first | decide | omega)) only [resVs, resV, hA, go_sem]) (by simp only [one]; exact .v _) hR hB ⟨K, rfl, hsm.1.symm, hsm.2.symm⟩
  · rw [if_neg hmem] at hf
    have hu : ∀ K, updM (.many [.i, .i]) (.agg [.v (.int .i64 p), .v (.int .i64 i)]) (.v (eMt t (p, i))) (kmL t K) = some (kmL t (addK K (p, i))) := fun K => updM_km (t := t) (x := (p, i)) K
    have hgt : ∀ K' L, hget (B.set m (kmR t K')) L m = some (.live 0 0 (kmL t K')) := fun K' L => by
      unfold hget; rw [if_pos (by rw [List.length_set]; exact hml), List.getElem?_set_self hml]; rfl
    have hgc2 : ∀ K' L, hget (B.set m (kmR t K')) L c = some (.live 0 2 [[.v (eT t), .mp m 0]]) := fun K' L => by
      unfold hget; rw [if_pos (by rw [List.length_set]; exact hcl), List.getElem?_set_ne (Ne.symm hcm), hc]
    have hsBk : ∀ K', hsetB B m (kmR t K') = B.set m (kmR t K') := fun K' => by unfold hsetB; rw [if_pos hml]
    have hsB : ∀ K', hsetB B m (.live 0 0 (kmL t K')) = B.set m (kmR t K') := hsBk
    have hsL : ∀ q L, hsetL B L m q = L := fun q L => by unfold hsetL; rw [if_pos hml]
    have hsB2k : ∀ K' K2, hsetB (B.set m (kmR t K')) m (kmR t K2) = B.set m (kmR t K2) := fun K' q => by unfold hsetB; rw [if_pos (by rw [List.length_set]; exact hml), List.set_set]
    have hsB2 : ∀ K' K2, hsetB (B.set m (kmR t K')) m (.live 0 0 (kmL t K2)) = B.set m (kmR t K2) := hsB2k
    have hsL2 : ∀ K' q L, hsetL (B.set m (kmR t K')) L m q = L := fun K' q L => by unfold hsetL; rw [if_pos (by rw [List.length_set]; exact hml)]
    have hgo : ∀ K' L k, hget (B.set m (kmR t K')) L (B.length + k) = L[k]? := fun K' L k => by
      unfold hget; rw [if_neg (by rw [List.length_set]; omega), List.length_set, Nat.add_sub_cancel_left]
    have hgo0 : ∀ K' L, hget (B.set m (kmR t K')) L B.length = L[0]? := fun K' L => hgo K' L 0
    have hso : ∀ K' L k q, hsetL (B.set m (kmR t K')) L (B.length + k) q = L.set k q := fun K' L k q => by
      unfold hsetL; rw [if_neg (by rw [List.length_set]; omega), List.length_set, Nat.add_sub_cancel_left]
    have hsoB : ∀ K' k q, hsetB (B.set m (kmR t K')) (B.length + k) q = B.set m (kmR t K') := fun K' k q => by
      unfold hsetB; rw [if_neg (by rw [List.length_set]; omega)]
    have fin : ∀ (e : List AV) (L : List Row) (K' : List (Nat × Nat)), resVs e (B.set m (kmR t K')) L a_mAt.res = some [.v (eMt t (p, i))] → Leaves a_mAt.res (MQ t b l m (p, i)) b.length .ret e (B.set m (kmR t K')) L := by
      intro e L K' hx
      have hsplit : B.set m (kmR t K') = hsetB b m (kmR t K') ++ hsetL b l m (kmR t K') := by rw [hset_eq, ← hB]
      have := leave_pure (rs := a_mAt.res) (Q := MQ t b l m (p, i)) (B := B.set m (kmR t K')) (ex := .ret) (e := e) (l := L) (.inr rfl) hx (by simp only [one]; exact .v _) (by rw [List.length_set]; exact RowsLt.setKm hR) hsplit ⟨K', rfl, rfl, rfl⟩
      rwa [hsetB_len] at this
    cases i with
    | zero =>
      have hz : zeroMR (t.length : Int) = .tup [.v (eMt t (p, 0)), .v (.int .i64 0)] := by
        unfold zeroMR eMt
        rw [if_pos (by omega), Int.toNat_natCast, mtx_zero]
      have hi0 : (((0 : Nat) : Int) == 0) = true := rfl
      simp (disch := (first | decide | omega)) only [a_mAt, hA, idA, hgc, hgm', hf, hke, hi0, eT, List.length_map, go_sem]
      refine ACalls.nxt (mZero_spec (t.length : Int) _ _) ?_
      rw [hz]
      simp (disch := (first | decide | omega)) only [hA, hgc, hgm', hke, hu, hsB, hsL, go_sem]
      exact fin _ _ (addK K (p, 0)) (by simp (disch := (first | decide | omega)) only [a_mAt, resVs, resV, hA, go_sem])
    | succ i =>
      have hx : (p, i + 1) ∈ ids t := mem_ids2.2 ⟨hp, hi⟩
      have hrk : rkM t (p, i) < n := by
        rw [← hn]
        unfold rkM
        rw [if_neg (show ¬ (i + 1 = 0) by omega)]
        by_cases h0 : i = 0
        · rw [if_pos h0]; omega
        · rw [if_neg h0]
          have := rk_lt hv hx (hb_row (p := p) (show i < i + 1 by omega) hi)
          omega
      have hi0 : (((i + 1 : Nat) : Int) == 0) = false := beq_eq_false_iff_ne.2 (by omega)
      have hc1 : ((i + 1 : Nat) : Int) - 1 = (i : Int) := by omega
      have hil : i < t[p].evs.length := by rw [evsOf_lt hp] at hi; exact hi
      have hne := hS.ne _ (List.getElem_mem hp)
      have hev := evAt_eq hp hil
      simp (disch := (first | decide | omega)) only [a_mAt, hA, idA, hgc, hgm', hf, hke, hi0, hc1, go_sem]
      refine ACalls_mono _ _ _ _ _ _ (ih _ hrk (p, i) rfl hp (show i ≤ (evsOf t p).length by omega) B _ K (by rw [List.getElem?_append_left hcl]; exact hc) (by rw [List.getElem?_append_left hml]; exact hm)) ?_
      rintro r b' l' ⟨K1, rfl, rfl, rfl⟩
      rw [hsBk, hsL]
      by_cases hk : (evAt t (p, i + 1)).kind = 3
      · have hkb : (t[p].evs[i].kind == 3) = true := by rw [← hev, hk]; rfl
        obtain ⟨hpr, hsne, hsk, hsm⟩ := sndr_peer hv hx hk
        obtain ⟨hsi, hsb⟩ := sndr_in hv hx hk
        have hmr := mtx_recv hv hx hk
        have hro := recv_ok hv hS hx hk
        have hrs : rkM t (sndr t (p, i + 1)) < n := by
          rw [← hn]
          unfold rkM
          rw [if_neg (show ¬ (i + 1 = 0) by omega)]
          have := rk_lt hv hx hsb
          split <;> omega
        obtain ⟨⟨sp, sj⟩, hsd⟩ : ∃ y, sndr t (p, i + 1) = y := ⟨_, rfl⟩
        have hfst := fun (j : Nat) (hj : sj = j + 1) h1 h2 => sndr_first hv hx hk (q := sp) (j := j) (by rw [hsd, hj]) h1 h2
        rw [hsd] at hpr hsne hsk hsm hsi hsb hmr hro hrs
        simp only at hpr hsne hmr hro
        obtain ⟨sj, rfl⟩ : ∃ k, sj = k + 1 := ⟨sj - 1, by have := mem_pos hsi; simp only at this; omega⟩
        obtain ⟨hsp, hsl⟩ := mem_ids2.1 hsi
        have hsl2 : sj < t[sp].evs.length := by rw [evsOf_lt hsp] at hsl; exact hsl
        have hfp := hfst sj rfl hsp hsl2
        have hne2 := hS.ne _ (List.getElem_mem hsp)
        rw [hev] at hpr hfp
        have hcs : (sj : Int) + 1 = ((sj + 1 : Nat) : Int) := by omega
        have hrr : recvR (mtx t (p, i)) (p : Int) (mtx t (sp, sj + 1)) (sp : Int) = .tup [.v (eMt t (p, i + 1)), .v (.int .i64 0)] := by
          unfold recvR eMt
          rw [if_pos hro, Int.toNat_natCast, Int.toNat_natCast, ← hmr]
        simp (disch := (first | decide | omega)) only [hA, hgc2, hgo, hgo0, hso, hsoB, List.length_set, hkb, hc1, eT, ePr, eEv, hpr, go_sem]
        refine ACalls.nxt (indexE_spec t[sp].evs _ [.ptr (B.length + 1) 0 0 0] (fun k => ((t[sp].evs.getD k dfEv).kind == 2) && ((t[sp].evs.getD k dfEv).msg == t[p].evs[i].msg)) hne2 _ _ (fun k hk => by
          rw [getD_at hk]
          exact mAt1_spec t t[p].evs[i] t[sp].evs[k] (B.length + 1) _ (by rw [List.getElem?_append_right (by rw [List.length_set]; omega), List.length_set, Nat.add_sub_cancel_left]; simp only [eEv, hpr, List.map_cons, List.map_nil, List.getElem?_cons_succ, List.getElem?_cons_zero]))) ?_
        rw [hfp]
        simp (disch := (first | decide | omega)) only [hA, hgc2, hgo, hgo0, hso, hsoB, List.length_set, hcs, hpr, go_sem]
        refine ACalls_mono _ _ _ _ _ _ (ih _ hrs (sp, sj + 1) rfl hsp hsl _ _ K1 (by rw [List.getElem?_append_left (by rw [List.length_set]; exact hcl), List.getElem?_set_ne (Ne.symm hcm)]; exact hc) (by rw [List.getElem?_append_left (by rw [List.length_set]; exact hml), List.getElem?_set_self hml])) ?_
        rintro r b' l' ⟨K2, rfl, rfl, rfl⟩
        rw [hsB2k, hsL2]
        simp (disch := (first | decide | omega)) only [hA, hgc2, hgo, hgo0, hso, hsoB, List.length_set, go_sem]
        refine ACalls.nxt (mReceive_spec (mtx t (p, i)) (mtx t (sp, sj + 1)) (mtx_fit hv _) (mtx_fit hv _) (p : Int) (sp : Int) _ _) ?_
        rw [hrr]
        simp (disch := (first | decide | omega)) only [hA, hgc2, hgt, hgo, hgo0, hke, hu, hsB2, hsL2, go_sem]
        exact fin _ _ (addK K2 (p, i + 1)) (by simp (disch := (first | decide | omega)) only [a_mAt, resVs, resV, hA, go_sem])
      · have hkb : (t[p].evs[i].kind == 3) = false := by rw [← hev]; exact beq_eq_false_iff_ne.2 hk
        have ht : tickMR (mtx t (p, i)) (p : Int) = .tup [.v (eMt t (p, i + 1)), .v (.int .i64 0)] := by
          unfold tickMR eMt
          rw [if_pos (tick_ok hv hS hp (by omega)), Int.toNat_natCast, mtx_tick hv hx hk]
        simp (disch := (first | decide | omega)) only [hA, hgc2, hgo, hgo0, hso, hsoB, List.length_set, hkb, hc1, eT, ePr, eEv, go_sem]
        refine ACalls.nxt (mTick_spec (mtx t (p, i)) (mtx_fit hv _) (p : Int) _ _) ?_
        rw [ht]
        simp (disch := (first | decide | omega)) only [hA, hgc2, hgt, hgo, hgo0, hke, hu, hsB2, hsL2, go_sem]
        exact fin _ _ (addK K1 (p, i + 1)) (by simp (disch := (first | decide | omega)) only [a_mAt, resVs, resV, hA, go_sem])
end Go.Proofs.Ytoaopldaleaijaa

namespace Go.Proofs.Ytoaopldaleaijaa
set_option linter.unusedVariables false
set_option linter.unusedSimpArgs false
attribute [local go_sem ↓] run_skip run_region run_draw run_seq run_block run_exit run_ret run_cond atN_app seqC_normal seqC_exit seqC_ret seqQ_normal seqQ_exit seqQ_ret blkQ_normal blkQ_exit blkQ_ret runOps_nil runOps_cons runD_nil runD_cons grdO_true grdO_false grdD_true grdD_false ifC_true ifC_false opS_val opS_call opS_two opK_app dS_val dS_call dS_two dK_app kUp_same kUp_ne
attribute [local go_sem] rechks_nil rechks_cons rechk gcase_true gcase_false ex_val ex_val0 gd_none gd_some ev_t ev_c evs_nil evs_cons evo_some evo_none hget_at hget_first hsetB_at hsetB_first hsetL_at hsetL_first ofOpt_some aop aload astore aslice aappend aiaddr aiaddrA afaddr alen alenS acopy amm acall alookup amupdate alenM comma keyEq apick binV binVB binVS isSh intOp strOp boolOp shOp eqC eqF and2 cellsOf setFrom fillA fillS rd rdI elems mk bounds AV.cell List.all_cons List.all_nil Bool.and_true Bool.true_and Bool.and_self List.length_cons List.length_nil List.length_append Nat.reduceAdd Nat.reduceSub Nat.reduceMul Nat.zero_add Nat.add_zero List.cons_append List.nil_append List.append_assoc List.append_nil List.getElem?_cons_zero List.getElem?_cons_succ List.getElem?_nil List.set_cons_zero List.set_cons_succ List.drop_zero List.drop_succ_cons List.take_zero List.take_succ_cons List.take_nil List.drop_nil List.map_cons List.map_nil Option.map_some if_true if_false Bool.false_eq_true and_self true_and and_true Nat.reduceLeDiff Nat.reduceLT Nat.le_refl Nat.reduceEqDiff ite_true ite_false beq_self_eq_true beq_true beq_false Bool.not_true Bool.not_false Bool.true_beq Bool.false_beq map_vs vs_len vs_get vs_take vs_drop vs_snoc1 vs_snoc2 vs_snoc3 vs_snoc5 vs_set1 vs_set2 vs_rep wrap_id le_T lt_T le_F lt_F leI_T ltI_T leI_F ltI_F geI gtI get_T decide_true decide_false room List.getElem?_map List.length_map List.length_take Int.toNat_natCast Nat.min_def Nat.min_self nth_kOf put_kOf put_kNo kOv_cons kOv_nil KHas KArgs List.getElem_cons_zero List.getElem_cons_succ
def idP (x : Int × Int) : AV := .agg [.v (.int .i64 x.1), .v (.int .i64 x.2)]
end Go.Proofs.Ytoaopldaleaijaa

namespace Go.Proofs.Ytoaopldaleaijaa
set_option linter.unusedVariables false
set_option linter.unusedSimpArgs false
attribute [local go_sem ↓] run_skip run_region run_draw run_seq run_block run_exit run_ret run_cond atN_app seqC_normal seqC_exit seqC_ret seqQ_normal seqQ_exit seqQ_ret blkQ_normal blkQ_exit blkQ_ret runOps_nil runOps_cons runD_nil runD_cons grdO_true grdO_false grdD_true grdD_false ifC_true ifC_false opS_val opS_call opS_two opK_app dS_val dS_call dS_two dK_app kUp_same kUp_ne
attribute [local go_sem] rechks_nil rechks_cons rechk gcase_true gcase_false ex_val ex_val0 gd_none gd_some ev_t ev_c evs_nil evs_cons evo_some evo_none hget_at hget_first hsetB_at hsetB_first hsetL_at hsetL_first ofOpt_some aop aload astore aslice aappend aiaddr aiaddrA afaddr alen alenS acopy amm acall alookup amupdate alenM comma keyEq apick binV binVB binVS isSh intOp strOp boolOp shOp eqC eqF and2 cellsOf setFrom fillA fillS rd rdI elems mk bounds AV.cell List.all_cons List.all_nil Bool.and_true Bool.true_and Bool.and_self List.length_cons List.length_nil List.length_append Nat.reduceAdd Nat.reduceSub Nat.reduceMul Nat.zero_add Nat.add_zero List.cons_append List.nil_append List.append_assoc List.append_nil List.getElem?_cons_zero List.getElem?_cons_succ List.getElem?_nil List.set_cons_zero List.set_cons_succ List.drop_zero List.drop_succ_cons List.take_zero List.take_succ_cons List.take_nil List.drop_nil List.map_cons List.map_nil Option.map_some if_true if_false Bool.false_eq_true and_self true_and and_true Nat.reduceLeDiff Nat.reduceLT Nat.le_refl Nat.reduceEqDiff ite_true ite_false beq_self_eq_true beq_true beq_false Bool.not_true Bool.not_false Bool.true_beq Bool.false_beq map_vs vs_len vs_get vs_take vs_drop vs_snoc1 vs_snoc2 vs_snoc3 vs_snoc5 vs_set1 vs_set2 vs_rep wrap_id le_T lt_T le_F lt_F leI_T ltI_T leI_F ltI_F geI gtI get_T decide_true decide_false room List.getElem?_map List.length_map List.length_take Int.toNat_natCast Nat.min_def Nat.min_self nth_kOf put_kOf put_kNo kOv_cons kOv_nil KHas KArgs List.getElem_cons_zero List.getElem_cons_succ
def a_small16 : AFunc := ⟨1, 34, [.tmp 2],
  (.seq (.region [⟨(some 1), .box (.t 0), none⟩, ⟨(some 2), .mv (.c (.v (.bool false))), none⟩])
  (.seq (.seq (.region [⟨(some 6), .faddr 0 (.t 1), none⟩, ⟨(some 7), .load none (.t 6), none⟩, ⟨(some 8), .len (.t 7), none⟩, ⟨(some 9), .bin .gtr (.t 8) (.c (.v (.int .i64 10))), none⟩])
  (.cond (.t 9) (.seq (.region [⟨(some 2), .mv (.c (.v (.bool false))), none⟩])
  .ret)
  .skip))
  (.seq (.region [⟨(some 3), .mv (.c (.v (.int .i64 0))), none⟩])
  (.seq (.seq (.region [⟨(some 10), .faddr 0 (.t 1), none⟩, ⟨(some 11), .load none (.t 10), none⟩, ⟨(some 12), .len (.t 11), none⟩, ⟨(some 13), .mv (.c (.v (.int .i64 0))), none⟩])
  (.block 0 (.loop (.seq (.region [⟨(some 14), .bin .lss (.t 13) (.t 12), none⟩])
  (.seq (.cond (.t 14) .skip
  (.exit 0))
  (.seq (.block 1 (.seq (.region [⟨(some 15), .iaddr 3 (.t 11) (.t 13), none⟩, ⟨(some 16), .load (some 3) (.t 15), none⟩, ⟨(some 5), .alloc [(.v (.str ⟨#[]⟩)), (.v .zsl), (.v .zsl)], none⟩, ⟨none, .store 3 (.t 5) (.t 16), none⟩])
  (.seq (.region [⟨(some 17), .mv (.t 3), none⟩, ⟨(some 18), .faddr 2 (.t 5), none⟩, ⟨(some 19), .load none (.t 18), none⟩, ⟨(some 20), .len (.t 19), none⟩, ⟨(some 21), .bin .add (.t 17) (.t 20), none⟩, ⟨(some 3), .mv (.t 21), none⟩])
  (.seq (.region [⟨(some 22), .faddr 1 (.t 5), none⟩, ⟨(some 23), .load none (.t 22), none⟩, ⟨(some 24), .len (.t 23), none⟩, ⟨(some 25), .bin .gtr (.t 24) (.c (.v (.int .i64 12))), none⟩, ⟨(some 26), .mv (.t 25), none⟩, ⟨(some 27), .faddr 2 (.t 5), some (26, false)⟩, ⟨(some 28), .load none (.t 27), some (26, false)⟩, ⟨(some 29), .call (.c (.fn 75 [])) [(.t 28), (.c (.fn 104 []))], some (26, false)⟩, ⟨(some 30), .pick (.t 26) (.c (.v (.bool true))) (.t 29), none⟩])
  (.cond (.t 30) (.seq (.region [⟨(some 2), .mv (.c (.v (.bool false))), none⟩])
  .ret)
  .skip)))))
  (.region [⟨(some 31), .bin .add (.t 13) (.c (.v (.int .i64 1))), none⟩, ⟨(some 13), .mv (.t 31), none⟩])))))))
  (.seq (.region [⟨(some 32), .mv (.t 3), none⟩, ⟨(some 33), .bin .leq (.t 32) (.c (.v (.int .i64 60))), none⟩, ⟨(some 2), .mv (.t 33), none⟩])
  .ret)))))⟩
theorem a_small16_ok : cFunc Try.prog 54 = some a_small16 := by kernel_rfl
def r_small160 : List (Nat × Nat) := [(2, 3), (5, 5), (13, 31)]
def a_small161 : AFunc := ⟨1, 7, [.tmp 2],
  (.seq (.region [⟨(some 1), .box (.t 0), none⟩, ⟨(some 2), .mv (.c (.v (.bool false))), none⟩])
  (.seq (.region [⟨(some 3), .faddr 4 (.t 1), none⟩, ⟨(some 4), .load none (.t 3), none⟩, ⟨(some 5), .len (.t 4), none⟩, ⟨(some 6), .bin .gtr (.t 5) (.c (.v (.int .i64 12))), none⟩, ⟨(some 2), .mv (.t 6), none⟩])
  .ret))⟩
theorem a_small161_ok : cFunc Try.prog 104 = some a_small161 := by kernel_rfl

theorem mOpen_spec (t : Tr) (b l : List Row) : ACalls Try.prog 105 [.agg [.v (eT t)]] b l (fun r b' l' => r = .ptr (b.length + l.length + 2) 0 0 0 ∧ b' = b ∧ l' = l ++ [.live 0 1 [[.v (eT t)]], .live 0 0 [], .live 0 2 [[.v (eT t), .mp (b.length + l.length + 1) 0]]]) := by
  refine calls_kept a_mOpen_ok rfl (by decide) ?_
  intro B g hB hR hE hA
  simp only [KArgs] at hA
  have hBl : B.length = b.length + l.length := by rw [hB, List.length_append]
  simp (disch := (first | decide | omega)) only [a_mOpen, hA, go_sem]
  exact leave (.inr rfl) (xs := [.ptr (B.length + 2) 0 0 0]) (by simp (disch := (first | decide | omega)) only [resVs, resV, hA, go_sem]) (y := .ptr (B.length + 2) 0 0 0) (Weak.refl _ _ _) hB ⟨by rw [hBl], rfl, by rw [hBl]⟩
def inT (t : Tr) (x : Int × Int) : Prop := 0 ≤ x.1 ∧ x.1 < (t.length : Int) ∧ 0 ≤ x.2 ∧ x.2 ≤ ((evsOf t x.1.toNat).length : Int)
open Classical in
noncomputable def AtR (t : Tr) (x : Int × Int) : AV := if validL t = true then (if inT t x then .tup [.v (eMt t (x.1.toNat, x.2.toNat)), .v (.int .i64 0)] else .tup [.v .zsl, .v (.int .i64 2)]) else .tup [.v .zsl, .v (.int .i64 1)]
theorem At_spec (t : Tr) (hS : Sm t) (hN : Nm t) (x : Int × Int) (b l : List Row) : ACalls Try.prog 55 [.agg [.v (eT t)], idP x] b l (fun r b' l' => r = AtR t x ∧ b' = b ∧ l' = l) := by
  refine calls_kept a_AtM_ok rfl (by decide) ?_
  intro B g hB hR hE hA
  simp only [KArgs] at hA
  simp (disch := (first | decide | omega)) only [a_AtM, hA, idP, go_sem]
  refine ACalls.nxt (valid_specS t hS hN _ _) ?_
  cases hval : validL t with
  | false =>
    simp (disch := (first | decide | omega)) only [hA, go_sem]
    exact leave_pure (xs := [.v .zsl, .v (.int .i64 1)]) (.inr rfl) (by simp (disch := (first | decide | omega)) only [resVs, resV, go_sem, hA]) (by simp only [one, AVlt_v, AVlt_any, AVlt_sl, AVlt_ptr, AVlt_mp, AVlt_agg, AVlt_tup, AVlt_fn, RowsLt_nil, RowsLt_live, RowsLt_dead, List.mem_cons, List.not_mem_nil, List.forall_mem_cons, List.forall_mem_nil, or_false, false_or, forall_eq_or_imp, forall_eq, vs_lt, Nat.add_lt_add_iff_left, Nat.reduceLT, true_and, and_true, and_self, List.length_cons, List.length_nil, Nat.reduceAdd, Nat.zero_add, implies_true, false_imp_iff, lt_T, List.mem_map]) hR hB ⟨by unfold AtR; rw [hval]; rfl, rfl, rfl⟩
  | true =>
    have hv := vok hval
    have hS := hS.small hv.head
    obtain ⟨a, c⟩ := x
    have bad : ¬ inT t (a, c) → AtR t (a, c) = .tup [.v .zsl, .v (.int .i64 2)] := fun h => by unfold AtR; rw [if_pos hval, if_neg h]
    by_cases h1 : a < 0
    · have d1 := decide_eq_true h1
      simp (disch := (first | decide | omega)) only [hA, d1, eT, List.length_map, go_sem]
      exact leave_pure (xs := [.v .zsl, .v (.int .i64 2)]) (.inr rfl) (by simp (disch := (first | decide | omega)) only [resVs, resV, go_sem, hA]) (by simp only [one, AVlt_v, AVlt_any, AVlt_sl, AVlt_ptr, AVlt_mp, AVlt_agg, AVlt_tup, AVlt_fn, RowsLt_nil, RowsLt_live, RowsLt_dead, List.mem_cons, List.not_mem_nil, List.forall_mem_cons, List.forall_mem_nil, or_false, false_or, forall_eq_or_imp, forall_eq, vs_lt, Nat.add_lt_add_iff_left, Nat.reduceLT, true_and, and_true, and_self, List.length_cons, List.length_nil, Nat.reduceAdd, Nat.zero_add, implies_true, false_imp_iff, lt_T, List.mem_map]) hR hB ⟨by rw [bad (fun h => by have := h.1; simp only at this; omega)]; rfl, rfl, rfl⟩
    · have d1 := decide_eq_false h1
      obtain ⟨p, rfl⟩ : ∃ p : Nat, a = p := ⟨a.toNat, by omega⟩
      by_cases h2 : (p : Int) ≥ (t.length : Int)
      · have d2 := decide_eq_true h2
        have d2' : decide ((t.length : Int) ≤ (p : Int)) = true := d2
        simp (disch := (first | decide | omega)) only [hA, d1, d2, d2', eT, List.length_map, go_sem]
        exact leave_pure (xs := [.v .zsl, .v (.int .i64 2)]) (.inr rfl) (by simp (disch := (first | decide | omega)) only [resVs, resV, go_sem, hA]) (by simp only [one, AVlt_v, AVlt_any, AVlt_sl, AVlt_ptr, AVlt_mp, AVlt_agg, AVlt_tup, AVlt_fn, RowsLt_nil, RowsLt_live, RowsLt_dead, List.mem_cons, List.not_mem_nil, List.forall_mem_cons, List.forall_mem_nil, or_false, false_or, forall_eq_or_imp, forall_eq, vs_lt, Nat.add_lt_add_iff_left, Nat.reduceLT, true_and, and_true, and_self, List.length_cons, List.length_nil, Nat.reduceAdd, Nat.zero_add, implies_true, false_imp_iff, lt_T, List.mem_map]) hR hB ⟨by rw [bad (fun h => by have := h.2.1; simp only at this; omega)]; rfl, rfl, rfl⟩
      · have d2 := decide_eq_false h2
        have d2' : decide ((t.length : Int) ≤ (p : Int)) = false := d2
        have hp : p < t.length := by omega
        have hpe := evsOf_lt hp
        have hne := hS.ne _ (List.getElem_mem hp)
        by_cases h3 : c < 0
        · have d3 := decide_eq_true h3
          simp (disch := (first | decide | omega)) only [hA, d1, d2, d2', d3, eT, List.length_map, go_sem]
          exact leave_pure (xs := [.v .zsl, .v (.int .i64 2)]) (.inr rfl) (by simp (disch := (first | decide | omega)) only [resVs, resV, go_sem, hA]) (by simp only [one, AVlt_v, AVlt_any, AVlt_sl, AVlt_ptr, AVlt_mp, AVlt_agg, AVlt_tup, AVlt_fn, RowsLt_nil, RowsLt_live, RowsLt_dead, List.mem_cons, List.not_mem_nil, List.forall_mem_cons, List.forall_mem_nil, or_false, false_or, forall_eq_or_imp, forall_eq, vs_lt, Nat.add_lt_add_iff_left, Nat.reduceLT, true_and, and_true, and_self, List.length_cons, List.length_nil, Nat.reduceAdd, Nat.zero_add, implies_true, false_imp_iff, lt_T, List.mem_map]) hR hB ⟨by rw [bad (fun h => by have := h.2.2.1; simp only at this; omega)]; rfl, rfl, rfl⟩
        · have d3 := decide_eq_false h3
          obtain ⟨i, rfl⟩ : ∃ i : Nat, c = i := ⟨c.toNat, by omega⟩
          by_cases h4 : (i : Int) > (t[p].evs.length : Int)
          · have d4 := decide_eq_true h4
            have d4' : decide ((t[p].evs.length : Int) < (i : Int)) = true := d4
            simp (disch := (first | decide | omega)) only [hA, d1, d2, d2', d3, d4, d4', eT, ePr, List.length_map, go_sem]
            exact leave_pure (xs := [.v .zsl, .v (.int .i64 2)]) (.inr rfl) (by simp (disch := (first | decide | omega)) only [resVs, resV, go_sem, hA]) (by simp only [one, AVlt_v, AVlt_any, AVlt_sl, AVlt_ptr, AVlt_mp, AVlt_agg, AVlt_tup, AVlt_fn, RowsLt_nil, RowsLt_live, RowsLt_dead, List.mem_cons, List.not_mem_nil, List.forall_mem_cons, List.forall_mem_nil, or_false, false_or, forall_eq_or_imp, forall_eq, vs_lt, Nat.add_lt_add_iff_left, Nat.reduceLT, true_and, and_true, and_self, List.length_cons, List.length_nil, Nat.reduceAdd, Nat.zero_add, implies_true, false_imp_iff, lt_T, List.mem_map]) hR hB ⟨by rw [bad (fun h => by have := h.2.2.2; simp only [Int.toNat_natCast, hpe] at this; omega)]; rfl, rfl, rfl⟩
          · have d4 := decide_eq_false h4
            have d4' : decide ((t[p].evs.length : Int) < (i : Int)) = false := d4
            have good : AtR t ((p : Int), (i : Int)) = .tup [.v (eMt t (p, i)), .v (.int .i64 0)] := by
              unfold AtR
              rw [if_pos hval, if_pos ⟨by simp only; omega, by simp only; omega, by simp only; omega, by simp only [Int.toNat_natCast, hpe]; omega⟩]
              simp
            rw [good]
            simp (disch := (first | decide | omega)) only [hA, d1, d2, d2', d3, d4, d4', eT, ePr, List.length_map, go_sem]
            refine ACalls.nxt (mOpen_spec t _ _) ?_
            simp (disch := (first | decide | omega)) only [hA, go_sem]
            refine ACalls_mono _ _ _ _ _ _ (mAt_spec t hv hS (B.length + 4) (B.length + 3) (by omega) _ (p, i) rfl hp (by rw [hpe]; show i ≤ _; omega) _ _ [] (by rw [List.getElem?_append_right (by omega), Nat.add_sub_cancel_left]; rfl) (by rw [List.getElem?_append_right (by omega), Nat.add_sub_cancel_left]; rfl)) ?_
            rintro r b' l' ⟨K1, rfl, rfl, rfl⟩
            simp (disch := (first | decide | omega)) only [hA, go_sem]
            exact leave_pure (xs := [.v (eMt t (p, i)), .v (.int .i64 0)]) (.inr rfl) (by simp (disch := (first | decide | omega)) only [resVs, resV, go_sem, hA]) (by simp only [one, AVlt_v, AVlt_any, AVlt_sl, AVlt_ptr, AVlt_mp, AVlt_agg, AVlt_tup, AVlt_fn, RowsLt_nil, RowsLt_live, RowsLt_dead, List.mem_cons, List.not_mem_nil, List.forall_mem_cons, List.forall_mem_nil, or_false, false_or, forall_eq_or_imp, forall_eq, vs_lt, Nat.add_lt_add_iff_left, Nat.reduceLT, true_and, and_true, and_self, List.length_cons, List.length_nil, Nat.reduceAdd, Nat.zero_add, implies_true, false_imp_iff, lt_T, List.mem_map]) hR hB ⟨rfl, rfl, rfl⟩
theorem indexE_specL (v : List (Ev)) (k : Nat) (caps : List AV) (p : Nat → Bool) (hn : v.length ≤ 9223372036854775807) (b l : List Row)
    (hp : ∀ (i : Nat) (h : i < v.length), ACalls Try.prog k (.agg ((eEv v[i]).map .v) :: caps) (b ++ l) [] (fun r b' l' => r = .v (.bool (p i)) ∧ b' = b ++ l ∧ l' = [])) :
    ACalls Try.prog 24 [.v (.isl 5 (v.map eEv)), .fn k caps] b l (fun r b' l' => r = .v (.int .i64 (firstP p v.length)) ∧ b' = b ∧ l' = l) := by
  refine calls_kept a_IndE_ok rfl (by decide) ?_
  intro B g hB hR hE hA
  simp only [KArgs] at hA
  simp (disch := decide) only [a_IndE, hA, List.length_map, go_sem]
  refine loop_kept (ι := Nat) r_IndE0 (fun i => [(8, .v (.int .i64 i))]) 0 (fun _ => [])
    (fun i => i ≤ v.length ∧ ∀ j, j < i → p j = false) (fun i => v.length - i) 0 ⟨Nat.zero_le _, fun j hj => by omega⟩ (by (repeat (first | exact hE.mono (by omega) | refine KLt.up ?_ (by simp (disch := omega) only [AVlt_v, AVlt_any, AVlt_sl, AVlt_ptr, AVlt_mp, AVlt_agg, AVlt_tup, AVlt_fn, RowsLt_nil, RowsLt_live, RowsLt_dead, List.mem_cons, List.not_mem_nil, List.forall_mem_cons, List.forall_mem_nil, or_false, false_or, forall_eq_or_imp, forall_eq, vs_lt, Nat.add_lt_add_iff_left, Nat.reduceLT, true_and, and_true, and_self, List.length_cons, List.length_nil, Nat.reduceAdd, Nat.zero_add, implies_true, false_imp_iff, lt_T, List.mem_map])))) (by ((try simp (disch := decide) only [hA, go_sem]) <;> (repeat' (first | exact trivial | refine And.intro ?_ ?_)) <;> (first | rfl | (congr 2; omega)))) (fun e => Weak.refl _ _ _) ?_
  rintro g1 hE1 hEE1 hg1 i ⟨hi, h0⟩
  by_cases hlt : i < v.length
  · have hpi0 := hp i hlt
    try simp only [eEv, List.map_cons, List.map_nil] at hpi0
    simp (disch := (first | decide | omega)) only [hA, hg1, eEv, List.length_map, go_sem]
    refine ACalls_mono _ _ _ _ _ _ (hB ▸ hpi0) ?_
    rintro r b' l' ⟨rfl, rfl, rfl⟩
    cases hpi : p i
    · simp (disch := (first | decide | omega)) only [hA, hg1, hpi, go_sem]
      refine ⟨i + 1, ⟨hlt, fun j hj => ?_⟩, by simp only; omega, ?_⟩
      · rcases Nat.lt_or_ge j i with hji | hji
        · exact h0 j hji
        · have : j = i := by omega
          rw [this]; exact hpi
      exact Weak.kround (p := r_IndE0) (k := 0) (by ((repeat refine (kAny_up rfl).trans ?_); exact hEE1)) (by ((try simp (disch := decide) only [hA, go_sem]) <;> (repeat' (first | exact trivial | refine And.intro ?_ ?_)) <;> (first | rfl | (congr 2; omega)))) rfl hE1 (by simp) (by simp (disch := omega) only [KOvLt, AVlt_v, AVlt_any, AVlt_sl, AVlt_ptr, AVlt_mp, AVlt_agg, AVlt_tup, AVlt_fn, RowsLt_nil, RowsLt_live, RowsLt_dead, List.mem_cons, List.not_mem_nil, List.forall_mem_cons, List.forall_mem_nil, or_false, false_or, forall_eq_or_imp, forall_eq, vs_lt, Nat.add_lt_add_iff_left, Nat.reduceLT, true_and, and_true, and_self, List.length_cons, List.length_nil, Nat.reduceAdd, Nat.zero_add, implies_true, false_imp_iff, lt_T, List.mem_map]) hR (by simp (disch := omega) only [AVlt_v, AVlt_any, AVlt_sl, AVlt_ptr, AVlt_mp, AVlt_agg, AVlt_tup, AVlt_fn, RowsLt_nil, RowsLt_live, RowsLt_dead, List.mem_cons, List.not_mem_nil, List.forall_mem_cons, List.forall_mem_nil, or_false, false_or, forall_eq_or_imp, forall_eq, vs_lt, Nat.add_lt_add_iff_left, Nat.reduceLT, true_and, and_true, and_self, List.length_cons, List.length_nil, Nat.reduceAdd, Nat.zero_add, implies_true, false_imp_iff, lt_T, List.mem_map])
    · simp (disch := (first | decide | omega)) only [hA, hg1, hpi, go_sem]
      exact leave_pure (xs := [.v (.int .i64 i)]) (.inr rfl) (by simp (disch := (first | decide | omega)) only [resVs, resV, go_sem, hA, hg1]) (by simp only [one, AVlt_v, AVlt_any, AVlt_sl, AVlt_ptr, AVlt_mp, AVlt_agg, AVlt_tup, AVlt_fn, RowsLt_nil, RowsLt_live, RowsLt_dead, List.mem_cons, List.not_mem_nil, List.forall_mem_cons, List.forall_mem_nil, or_false, false_or, forall_eq_or_imp, forall_eq, vs_lt, Nat.add_lt_add_iff_left, Nat.reduceLT, true_and, and_true, and_self, List.length_cons, List.length_nil, Nat.reduceAdd, Nat.zero_add, implies_true, false_imp_iff, lt_T, List.mem_map]) hR hB ⟨by rw [firstP_at hlt h0 hpi]; rfl, rfl, rfl⟩
  · simp (disch := (first | decide | omega)) only [hA, hg1, List.length_map, go_sem]
    obtain rfl : i = v.length := by omega
    exact leave_pure (xs := [.v (.int .i64 (-1))]) (.inr rfl) (by simp (disch := (first | decide | omega)) only [resVs, resV, go_sem, hA, hg1]) (by simp only [one, AVlt_v, AVlt_any, AVlt_sl, AVlt_ptr, AVlt_mp, AVlt_agg, AVlt_tup, AVlt_fn, RowsLt_nil, RowsLt_live, RowsLt_dead, List.mem_cons, List.not_mem_nil, List.forall_mem_cons, List.forall_mem_nil, or_false, false_or, forall_eq_or_imp, forall_eq, vs_lt, Nat.add_lt_add_iff_left, Nat.reduceLT, true_and, and_true, and_self, List.length_cons, List.length_nil, Nat.reduceAdd, Nat.zero_add, implies_true, false_imp_iff, lt_T, List.mem_map]) hR hB ⟨by rw [firstP_none h0]; rfl, rfl, rfl⟩
theorem containsE_specL (v : List (Ev)) (k : Nat) (caps : List AV) (p : Nat → Bool) (hn : v.length ≤ 9223372036854775807) (b l : List Row)
    (hp : ∀ (i : Nat) (h : i < v.length), ACalls Try.prog k (.agg ((eEv v[i]).map .v) :: caps) (b ++ l) [] (fun r b' l' => r = .v (.bool (p i)) ∧ b' = b ++ l ∧ l' = [])) :
    ACalls Try.prog 75 [.v (.isl 5 (v.map eEv)), .fn k caps] b l (fun r b' l' => r = .v (.bool ((List.range v.length).any p)) ∧ b' = b ∧ l' = l) := by
  refine calls_kept a_ConE_ok rfl (by decide) ?_
  intro B g hB hR hE hA
  simp only [KArgs] at hA
  simp (disch := decide) only [a_ConE, hA, go_sem]
  refine ACalls.nxt (indexE_specL v k caps p hn B [] (by rw [List.append_nil, hB]; exact hp)) ?_
  simp (disch := decide) only [hA, go_sem]
  exact leave_pure (xs := [.v (.bool (decide (0 ≤ firstP p v.length)))]) (.inr rfl) (by simp (disch := (first | decide | omega)) only [resVs, resV, go_sem, hA]) (by simp only [one, AVlt_v, AVlt_any, AVlt_sl, AVlt_ptr, AVlt_mp, AVlt_agg, AVlt_tup, AVlt_fn, RowsLt_nil, RowsLt_live, RowsLt_dead, List.mem_cons, List.not_mem_nil, List.forall_mem_cons, List.forall_mem_nil, or_false, false_or, forall_eq_or_imp, forall_eq, vs_lt, Nat.add_lt_add_iff_left, Nat.reduceLT, true_and, and_true, and_self, List.length_cons, List.length_nil, Nat.reduceAdd, Nat.zero_add, implies_true, false_imp_iff, lt_T, List.mem_map]) hR hB ⟨by rw [firstP_ge]; rfl, rfl, rfl⟩

def lg12E (e : Ev) : Bool := decide (12 < e.asg.length)
def lg12P (x : Pr) : Bool := decide (12 < x.vars.length) || (List.range x.evs.length).any fun j => lg12E (x.evs.getD j dfEv)
/-- The number of events, as the program counts it. -/
def wcnt (t : Tr) : Nat → Int
  | 0 => 0
  | i + 1 => IntKind.i64.wrap (wcnt t i + ((evsOf t i).length : Int))
def sm16B (t : Tr) : Bool := decide (t.length ≤ 10) && (!((List.range t.length).any fun j => lg12P (t.getD j dfPr)) && decide (wcnt t t.length ≤ 60))
theorem small161_spec (e : Ev) (b l : List Row) : ACalls Try.prog 104 [.agg ((eEv e).map .v)] b l (fun r b' l' => r = .v (.bool (lg12E e)) ∧ b' = b ∧ l' = l) := by
  refine calls_kept a_small161_ok rfl (by decide) ?_
  intro B g hB hR hE hA
  simp only [KArgs] at hA
  have hd : decide ((e.asg.length : Int) > 12) = lg12E e := by unfold lg12E; rw [Bool.eq_iff_iff]; simp; omega
  have hd' : decide ((12 : Int) < e.asg.length) = lg12E e := hd
  simp (disch := (first | decide | omega)) only [a_small161, hA, eEv, List.length_map, hd, hd', go_sem]
  exact leave_pure (xs := [.v (.bool (lg12E e))]) (.inr rfl) (by simp (disch := (first | decide | omega)) only [resVs, resV, go_sem, hA]) (by simp only [one, AVlt_v, AVlt_any, AVlt_sl, AVlt_ptr, AVlt_mp, AVlt_agg, AVlt_tup, AVlt_fn, RowsLt_nil, RowsLt_live, RowsLt_dead, List.mem_cons, List.not_mem_nil, List.forall_mem_cons, List.forall_mem_nil, or_false, false_or, forall_eq_or_imp, forall_eq, vs_lt, Nat.add_lt_add_iff_left, Nat.reduceLT, true_and, and_true, and_self, List.length_cons, List.length_nil, Nat.reduceAdd, Nat.zero_add, implies_true, false_imp_iff, lt_T, List.mem_map]) hR hB ⟨rfl, rfl, rfl⟩
theorem any_last {n : Nat} {f : Nat → Bool} {i : Nat} (hi : i < n) (h : f i = true) : (List.range n).any f = true := List.any_eq_true.2 ⟨i, List.mem_range.2 hi, h⟩
theorem small16_spec (t : Tr) (hM : ∀ x ∈ t, x.evs.length ≤ 9223372036854775807) (b l : List Row) : ACalls Try.prog 54 [.agg [.v (eT t)]] b l (fun r b' l' => r = .v (.bool (sm16B t)) ∧ b' = b ∧ l' = l) := by
  refine calls_kept a_small16_ok rfl (by decide) ?_
  intro B g hB hR hE hA
  simp only [KArgs] at hA
  by_cases h1 : t.length ≤ 10
  case neg =>
    have hd : decide ((t.length : Int) > 10) = true := decide_eq_true (by omega)
    have hd' : decide ((10 : Int) < (t.length : Int)) = true := hd
    have hq : sm16B t = false := by unfold sm16B; rw [decide_eq_false h1]; rfl
    simp (disch := (first | decide | omega)) only [a_small16, hA, eT, List.length_map, hd, hd', go_sem]
    exact leave_pure (xs := [.v (.bool false)]) (.inr rfl) (by simp (disch := (first | decide | omega)) only [resVs, resV, go_sem, hA]) (by simp only [one, AVlt_v, AVlt_any, AVlt_sl, AVlt_ptr, AVlt_mp, AVlt_agg, AVlt_tup, AVlt_fn, RowsLt_nil, RowsLt_live, RowsLt_dead, List.mem_cons, List.not_mem_nil, List.forall_mem_cons, List.forall_mem_nil, or_false, false_or, forall_eq_or_imp, forall_eq, vs_lt, Nat.add_lt_add_iff_left, Nat.reduceLT, true_and, and_true, and_self, List.length_cons, List.length_nil, Nat.reduceAdd, Nat.zero_add, implies_true, false_imp_iff, lt_T, List.mem_map]) hR hB ⟨by rw [hq]; rfl, rfl, rfl⟩
  have hd : decide ((t.length : Int) > 10) = false := decide_eq_false (by omega)
  have hd' : decide ((10 : Int) < (t.length : Int)) = false := hd
  have hw0 : wcnt t 0 = 0 := rfl
  simp (disch := (first | decide | omega)) only [a_small16, hA, eT, List.length_map, hd, hd', go_sem]
  refine loop_kept (ι := Nat) r_small160 (fun i => [(13, .v (.int .i64 i)), (3, .v (.int .i64 (wcnt t i)))]) 1 (fun i => [.live 0 1 [[.v (.isl 3 (t.map ePr))]]])
    (fun i => i ≤ t.length ∧ ∀ j, j < i → lg12P (t.getD j dfPr) = false) (fun i => t.length - i) 0 ⟨Nat.zero_le _, fun j h => by omega⟩ (by (repeat (first | exact hE.mono (by omega) | refine KLt.up ?_ (by simp (disch := omega) only [AVlt_v, AVlt_any, AVlt_sl, AVlt_ptr, AVlt_mp, AVlt_agg, AVlt_tup, AVlt_fn, RowsLt_nil, RowsLt_live, RowsLt_dead, List.mem_cons, List.not_mem_nil, List.forall_mem_cons, List.forall_mem_nil, or_false, false_or, forall_eq_or_imp, forall_eq, vs_lt, Nat.add_lt_add_iff_left, Nat.reduceLT, true_and, and_true, and_self, List.length_cons, List.length_nil, Nat.reduceAdd, Nat.zero_add, implies_true, false_imp_iff, lt_T, List.mem_map])))) (by ((try simp (disch := decide) only [hA, hw0, go_sem]) <;> (repeat' (first | exact trivial | refine And.intro ?_ ?_)) <;> (first | rfl | (congr 2; omega)))) (fun e => Weak.refl _ _ _) ?_
  rintro g1 hE1 hEE1 hg1 i ⟨hi, hbef⟩
  by_cases hil : i < t.length
  · have hwn : IntKind.i64.wrap (wcnt t i + (t[i].evs.length : Int)) = wcnt t (i + 1) := by
      show _ = IntKind.i64.wrap (wcnt t i + ((evsOf t i).length : Int)); rw [evsOf_lt hil]
    have hlen := hM _ (List.getElem_mem hil)
    have hpe : lg12P (t.getD i dfPr) = (decide (12 < t[i].vars.length) || (List.range t[i].evs.length).any fun j => lg12E (t[i].evs.getD j dfEv)) := by rw [getD_at hil]; rfl
    have bad : lg12P (t.getD i dfPr) = true → sm16B t = false := fun h => by
      unfold sm16B; rw [any_last hil h]; simp
    by_cases hv : 12 < t[i].vars.length
    · have e1 : decide ((t[i].vars.length : Int) > 12) = true := decide_eq_true (by omega)
      have e1' : decide ((12 : Int) < (t[i].vars.length : Int)) = true := e1
      simp (disch := (first | decide | omega)) only [hA, hg1, ePr, List.length_map, hwn, e1, e1', go_sem]
      exact leave_pure (xs := [.v (.bool false)]) (.inr rfl) (by simp (disch := (first | decide | omega)) only [resVs, resV, go_sem, hA, hg1]) (by simp only [one, AVlt_v, AVlt_any, AVlt_sl, AVlt_ptr, AVlt_mp, AVlt_agg, AVlt_tup, AVlt_fn, RowsLt_nil, RowsLt_live, RowsLt_dead, List.mem_cons, List.not_mem_nil, List.forall_mem_cons, List.forall_mem_nil, or_false, false_or, forall_eq_or_imp, forall_eq, vs_lt, Nat.add_lt_add_iff_left, Nat.reduceLT, true_and, and_true, and_self, List.length_cons, List.length_nil, Nat.reduceAdd, Nat.zero_add, implies_true, false_imp_iff, lt_T, List.mem_map]) hR hB ⟨by rw [bad (by rw [hpe, decide_eq_true hv]; rfl)]; rfl, rfl, rfl⟩
    · have e1 : decide ((t[i].vars.length : Int) > 12) = false := decide_eq_false (by omega)
      have e1' : decide ((12 : Int) < (t[i].vars.length : Int)) = false := e1
      simp (disch := (first | decide | omega)) only [hA, hg1, ePr, List.length_map, hwn, e1, e1', go_sem]
      refine ACalls.nxt (containsE_specL t[i].evs _ [] (fun j => lg12E (t[i].evs.getD j dfEv)) hlen _ _ (fun k hk => by simp only [getD_at hk]; exact small161_spec _ _ _)) ?_
      cases hany : (List.range t[i].evs.length).any fun j => lg12E (t[i].evs.getD j dfEv) with
      | true =>
        simp (disch := (first | decide | omega)) only [hA, hg1, go_sem]
        exact leave_pure (xs := [.v (.bool false)]) (.inr rfl) (by simp (disch := (first | decide | omega)) only [resVs, resV, go_sem, hA, hg1]) (by simp only [one, AVlt_v, AVlt_any, AVlt_sl, AVlt_ptr, AVlt_mp, AVlt_agg, AVlt_tup, AVlt_fn, RowsLt_nil, RowsLt_live, RowsLt_dead, List.mem_cons, List.not_mem_nil, List.forall_mem_cons, List.forall_mem_nil, or_false, false_or, forall_eq_or_imp, forall_eq, vs_lt, Nat.add_lt_add_iff_left, Nat.reduceLT, true_and, and_true, and_self, List.length_cons, List.length_nil, Nat.reduceAdd, Nat.zero_add, implies_true, false_imp_iff, lt_T, List.mem_map]) hR hB ⟨by rw [bad (by rw [hpe, hany, Bool.or_true])]; rfl, rfl, rfl⟩
      | false =>
        simp (disch := (first | decide | omega)) only [hA, hg1, go_sem]
        refine ⟨i + 1, ⟨hil, fun j hj => ?_⟩, by simp only; omega, ?_⟩
        · by_cases hji : j = i
          · subst hji; rw [hpe, hany, decide_eq_false hv]; rfl
          · exact hbef j (by omega)
        · exact Weak.kround (p := r_small160) (k := 1) (by ((repeat refine (kAny_up rfl).trans ?_); exact hEE1)) (by ((try simp (disch := decide) only [hA, go_sem]) <;> (repeat' (first | exact trivial | refine And.intro ?_ ?_)) <;> (first | rfl | (congr 2; omega)))) rfl hE1 (by simp) (by simp (disch := omega) only [KOvLt, AVlt_v, AVlt_any, AVlt_sl, AVlt_ptr, AVlt_mp, AVlt_agg, AVlt_tup, AVlt_fn, RowsLt_nil, RowsLt_live, RowsLt_dead, List.mem_cons, List.not_mem_nil, List.forall_mem_cons, List.forall_mem_nil, or_false, false_or, forall_eq_or_imp, forall_eq, vs_lt, Nat.add_lt_add_iff_left, Nat.reduceLT, true_and, and_true, and_self, List.length_cons, List.length_nil, Nat.reduceAdd, Nat.zero_add, implies_true, false_imp_iff, lt_T, List.mem_map]) hR (by simp (disch := omega) only [AVlt_v, AVlt_any, AVlt_sl, AVlt_ptr, AVlt_mp, AVlt_agg, AVlt_tup, AVlt_fn, RowsLt_nil, RowsLt_live, RowsLt_dead, List.mem_cons, List.not_mem_nil, List.forall_mem_cons, List.forall_mem_nil, or_false, false_or, forall_eq_or_imp, forall_eq, vs_lt, Nat.add_lt_add_iff_left, Nat.reduceLT, true_and, and_true, and_self, List.length_cons, List.length_nil, Nat.reduceAdd, Nat.zero_add, implies_true, false_imp_iff, lt_T, List.mem_map])
  · obtain rfl : i = t.length := by omega
    have hno : ((List.range t.length).any fun j => lg12P (t.getD j dfPr)) = false := by
      rw [List.any_eq_false]; intro j hj; rw [hbef j (List.mem_range.1 hj)]; simp
    have hq : sm16B t = decide (wcnt t t.length ≤ 60) := by unfold sm16B; rw [decide_eq_true h1, hno]; rfl
    rw [hq]
    simp (disch := (first | decide | omega)) only [hA, hg1, go_sem]
    exact leave_pure (xs := [.v (.bool (decide (wcnt t t.length ≤ 60)))]) (.inr rfl) (by simp (disch := (first | decide | omega)) only [resVs, resV, go_sem, hA, hg1]) (by simp only [one, AVlt_v, AVlt_any, AVlt_sl, AVlt_ptr, AVlt_mp, AVlt_agg, AVlt_tup, AVlt_fn, RowsLt_nil, RowsLt_live, RowsLt_dead, List.mem_cons, List.not_mem_nil, List.forall_mem_cons, List.forall_mem_nil, or_false, false_or, forall_eq_or_imp, forall_eq, vs_lt, Nat.add_lt_add_iff_left, Nat.reduceLT, true_and, and_true, and_self, List.length_cons, List.length_nil, Nat.reduceAdd, Nat.zero_add, implies_true, false_imp_iff, lt_T, List.mem_map]) hR hB ⟨rfl, rfl, rfl⟩
theorem sm16_sm {t : Tr} (hM : ∀ x ∈ t, x.evs.length ≤ 9223372036854775807) (h : sm16B t = true) : Sm t := by
  simp only [sm16B, Bool.and_eq_true, decide_eq_true_eq, Bool.not_eq_true', List.any_eq_false, List.mem_range] at h
  obtain ⟨h1, h2, _⟩ := h
  have key : ∀ x ∈ t, x.vars.length ≤ 12 ∧ ∀ e ∈ x.evs, e.asg.length ≤ 12 := by
    intro x hx
    obtain ⟨i, hi, rfl⟩ := List.getElem_of_mem hx
    have := h2 i hi
    rw [getD_at hi] at this
    simp only [lg12P, Bool.or_eq_true, decide_eq_true_eq, List.any_eq_true, List.mem_range, not_or, not_exists, not_and] at this
    refine ⟨by omega, fun e he => ?_⟩
    obtain ⟨j, hj, rfl⟩ := List.getElem_of_mem he
    have h3 := this.2 j hj
    rw [getD_at hj] at h3
    simp only [lg12E, decide_eq_true_eq] at h3
    omega
  exact ⟨by omega, fun x hx => by have := (key x hx).1; omega, hM, fun x hx e he => by have := (key x hx).2 e he; omega⟩
end Go.Proofs.Ytoaopldaleaijaa

namespace Go.Proofs.Ytoaopldaleaijaa
set_option linter.unusedVariables false
set_option linter.unusedSimpArgs false

inductive IVle : IV → IV → Prop where
  | refl (x : IV) : IVle x x
  | zsl (sz : Nat) : IVle .zsl (.isl sz [])
  | isl (sz : Nat) (rows rows' : List (List IV)) (hl : rows.length = rows'.length) (hl2 : ∀ (k : Nat) (row row' : List IV), rows[k]? = some row → rows'[k]? = some row' → row.length = row'.length)
      (hr : ∀ (k : Nat) (row row' : List IV) (j : Nat) (a a' : IV), rows[k]? = some row → rows'[k]? = some row' → row[j]? = some a → row'[j]? = some a' → IVle a a') : IVle (.isl sz rows) (.isl sz rows')

theorem RepI.le {w : World} {F : Nat → Prop} {x y : IV} (h : IVle x y) : ∀ {v : Value}, RepI w F x v → RepI w F y v := by
  induction h with
  | refl x => exact fun h => h
  | zsl sz => intro v h; cases h; exact .isl0 _ _ _ (Nat.zero_le _)
  | isl sz rows rows' hl hl2 hr ih =>
    intro v h
    obtain ⟨A, c, rfl, h2, h3, h4⟩ := repI_isl h
    rw [hl] at h2 h4 ⊢
    refine isl_repI h2 h3 (fun h0 => ?_)
    obtain ⟨b, off, h5, h6, h7⟩ := h4 h0
    refine ⟨b, off, h5, h6, fun k row' hk' => ?_⟩
    have hk : k < rows.length := by rw [hl]; exact (List.getElem?_eq_some_iff.1 hk').1
    obtain ⟨g1, g2⟩ := h7 k rows[k] (List.getElem?_eq_getElem hk)
    have hll := hl2 k rows[k] row' (List.getElem?_eq_getElem hk) hk'
    refine ⟨by rw [← hll]; exact g1, fun j a' hj' => ?_⟩
    have hj : j < rows[k].length := by rw [hll]; exact (List.getElem?_eq_some_iff.1 hj').1
    obtain ⟨v, hv, hrep⟩ := g2 j rows[k][j] (List.getElem?_eq_getElem hj)
    exact ⟨v, hv, ih k _ _ j _ _ (List.getElem?_eq_getElem hk) hk' (List.getElem?_eq_getElem hj) hj' hrep⟩

/-- Row by row. -/
def RowsLe : List (List IV) → List (List IV) → Prop
  | [], [] => True
  | r :: rs, q :: qs => (r.length = q.length ∧ ∀ (j : Nat) (a a' : IV), r[j]? = some a → q[j]? = some a' → IVle a a') ∧ RowsLe rs qs
  | _, _ => False
theorem RowsLe.len : ∀ {r q : List (List IV)}, RowsLe r q → r.length = q.length
  | [], [], _ => rfl
  | _ :: _, _ :: _, h => by simp [RowsLe.len h.2]
  | [], _ :: _, h => h.elim
  | _ :: _, [], h => h.elim
theorem RowsLe.get : ∀ {r q : List (List IV)}, RowsLe r q → ∀ (k : Nat) (row row' : List IV), r[k]? = some row → q[k]? = some row' → row.length = row'.length ∧ ∀ (j : Nat) (a a' : IV), row[j]? = some a → row'[j]? = some a' → IVle a a'
  | [], [], _, k, row, row', h, _ => by simp at h
  | r :: rs, q :: qs, h, k, row, row', h1, h2 => by
    cases k with
    | zero => simp at h1 h2; subst h1; subst h2; exact h.1
    | succ k => simp at h1 h2; exact RowsLe.get h.2 k row row' h1 h2
  | [], _ :: _, h, _, _, _, _, _ => h.elim
  | _ :: _, [], h, _, _, _, _, _ => h.elim
theorem IVle.rows {sz : Nat} {r q : List (List IV)} (h : RowsLe r q) : IVle (.isl sz r) (.isl sz q) :=
  .isl sz r q h.len (fun k row row' h1 h2 => (h.get k row row' h1 h2).1) (fun k row row' j a a' h1 h2 => (h.get k row row' h1 h2).2 j a a')

inductive AVle : AV → AV → Prop where
  | refl (x : AV) : AVle x x
  | v (x y : IV) (h : IVle x y) : AVle (.v x) (.v y)
  | agg (cs ds : List AV) (hl : cs.length = ds.length) (h : ∀ (i : Nat) (a c : AV), cs[i]? = some a → ds[i]? = some c → AVle a c) : AVle (.agg cs) (.agg ds)
theorem RepA.le {w : World} {F : Nat → Prop} {L : LMap} {x y : AV} (h : AVle x y) : ∀ {v : Value}, RepA w F L x v → RepA w F L y v := by
  induction h with
  | refl x => exact fun h => h
  | v x y h => intro v hx; exact .v _ _ (hx.vI.le h)
  | agg cs ds hl h ih =>
    intro v hx
    obtain ⟨vs, rfl, hr⟩ := hx.aggL
    refine RepL.agg ⟨by rw [← hl]; exact hr.1, fun i c u hc hu => ?_⟩
    have hi : i < cs.length := by rw [hl]; exact (List.getElem?_eq_some_iff.1 hc).1
    exact ih i cs[i] c (List.getElem?_eq_getElem hi) hc (hr.2 i _ u (List.getElem?_eq_getElem hi) hu)
/-- Arguments that say more will do. -/
theorem ACalls.le {P : Program} {f : Nat} {args args' : List AV} {b l : List Row} {Q : AV → List Row → List Row → Prop} (h : ACalls P f args b l Q) (hl : args'.length = args.length) (hle : ∀ (i : Nat) (a c : AV), args'[i]? = some a → args[i]? = some c → AVle a c) : ACalls P f args' b l Q :=
  ⟨h.1, fun F L w vs s hr => h.2 F L w vs s ⟨by rw [← hl]; exact hr.1, fun i c v hc hv => by
    have hi : i < args'.length := by rw [hl]; exact (List.getElem?_eq_some_iff.1 hc).1
    exact RepA.le (hle i args'[i] c (List.getElem?_eq_getElem hi) hc) (hr.2 i _ v (List.getElem?_eq_getElem hi) hv)⟩⟩
/-- A state that says less. -/
theorem Weak.le {e e' : List AV} {b l : List Row} (hl : e.length = e'.length) (h : ∀ (i : Nat) (x y : AV), e[i]? = some x → e'[i]? = some y → AVle x y) : Weak e b l e' b l := by
  intro F L w a s hea
  refine ⟨F, L, s, ⟨hea.1, by rw [← hl]; exact hea.2.1, fun i y v hy hv => ?_⟩, Step.refl _ _ _ _ _, rfl⟩
  have hi : i < e.length := by rw [hl]; exact (List.getElem?_eq_some_iff.1 hy).1
  exact RepA.le (h i e[i] y (List.getElem?_eq_getElem hi) hy) (hea.2.2 i _ v (List.getElem?_eq_getElem hi) hv)
end Go.Proofs.Ytoaopldaleaijaa

namespace Go.Proofs.Ytoaopldaleaijaa
set_option linter.unusedVariables false
def concB (t : Tr) (rank : Nat × Nat → Nat) : Bool :=
  decide (1 ≤ t.length) && (decide (t.length ≤ 8) && ((List.range t.length).all (fun p => headF t p == 0) && ((ids t).all (fun x => formF t x == 0) && ((ids t).all (fun x => pairF t x == 0) && (ids t).all (fun x => (dirL t x).all fun y => decide (rank x < rank y))))))
theorem conc_fault {t : Tr} {rank : Nat × Nat → Nat} (h : concB t rank = true) : faultL t = ((0, 0), 0) := by
  simp only [concB, Bool.and_eq_true, decide_eq_true_eq, List.all_eq_true, beq_iff_eq] at h
  obtain ⟨h1, h2, h3, h4, h5, h6⟩ := h
  have hb : ∀ {x y : Nat × Nat}, Hb t x y → x ∈ ids t → rank x < rank y := by
    intro x y hxy
    induction hxy with
    | one h => intro hx; exact h6 _ hx _ (mem_dirL.2 h)
    | more h k ih =>
      intro hx
      exact Nat.lt_trans (ih hx) (h6 _ (Hb.mem hx h) _ (mem_dirL.2 k))
  unfold faultL
  rw [if_neg (by omega)]
  have e1 : (List.range t.length).find? (fun p => headF t p != 0) = none := by
    rw [List.find?_eq_none]; intro p hp; simp [h3 p hp]
  have e2 : (ids t).find? (fun x => formF t x != 0) = none := by
    rw [List.find?_eq_none]; intro p hp; simp [h4 p hp]
  have e3 : (ids t).find? (fun x => pairF t x != 0) = none := by
    rw [List.find?_eq_none]; intro p hp; simp [h5 p hp]
  rw [e1]; simp only
  rw [e2]; simp only
  rw [e3]; simp only
  have e4 : (ids t).find? (fun x => @decide (Hb t x x) (Classical.propDecidable _)) = none := by
    rw [List.find?_eq_none]
    intro x hx
    simp only [decide_eq_true_eq]
    intro hh
    have := hb hh hx
    omega
  rw [e4]
theorem conc_valid {t : Tr} {rank : Nat × Nat → Nat} (h : concB t rank = true) : validL t = true := by simp [validL, conc_fault h]
end Go.Proofs.Ytoaopldaleaijaa

namespace Go.Proofs.Ytoaopldaleaijaa
set_option linter.unusedVariables false
set_option linter.unusedSimpArgs false
def xOk : XV → Bool
  | .ok (.v (.bool true)) _ _ _ => true
  | _ => false
theorem xOk_ok {x : XV} (h : xOk x = true) : ∃ b l t, x = .ok (.v (.bool true)) b l t := by
  unfold xOk at h
  split at h
  · exact ⟨_, _, _, rfl⟩
  · exact absurd h (by decide)
noncomputable def tab15 : Nat → Option AFunc := fun f => cFunc Try.prog f
set_option maxRecDepth 100000
theorem getLe_nil {f : IV → IV → Prop} : ∀ (j : Nat) (a a' : IV), ([] : List IV)[j]? = some a → ([] : List IV)[j]? = some a' → f a a' := fun j a a' h => by simp at h
theorem getLe_cons {f : IV → IV → Prop} {x y : IV} {xs ys : List IV} (h : f x y) (hs : ∀ (j : Nat) (a a' : IV), xs[j]? = some a → ys[j]? = some a' → f a a') : ∀ (j : Nat) (a a' : IV), (x :: xs)[j]? = some a → (y :: ys)[j]? = some a' → f a a' := by
  intro j a a' h1 h2
  cases j with
  | zero => simp at h1 h2; subst h1; subst h2; exact h
  | succ j => simp at h1 h2; exact hs j a a' h1 h2
/-- A contract of a function without arguments that answers with a bool, with nothing said of rows: it holds among any rows. -/
theorem ACalls.lift_bool {P : Program} {f : Nat} {z : Bool} (h : ACalls P f [] [] [] (fun r _ _ => r = .v (.bool z))) (b l : List Row) : ACalls P f [] b l (fun r b' l' => r = .v (.bool z) ∧ b' = b ∧ l' = l) := by
  refine ACalls.of_ext h.1 (fun F L w vs hr => ?_)
  have hn : vs = #[] := Array.toList_inj.1 (repL_nil hr)
  subst hn
  refine (ACalls.calls h (vs := #[]) RepL.nil).mono ?_
  rintro en w' ⟨v, x, b', l', F', L', he, hx, hE, rfl⟩
  cases hx.vI
  exact ⟨hE, _, _, he, .v _ _ (.bool _), rfl, rfl, rfl⟩
end Go.Proofs.Ytoaopldaleaijaa

namespace Go.Proofs.Ytoaopldaleaijaa
set_option linter.unusedVariables false
set_option linter.unusedSimpArgs false
def pair16 : Tr := [⟨⟨#[97]⟩, [], [⟨2, 1, 0, 0, []⟩]⟩, ⟨⟨#[98]⟩, [], [⟨3, 0, 0, 0, []⟩]⟩]
def epair16 : IV := .isl 3 [[.str ⟨#[97]⟩, .zsl, .isl 5 [[.int .i64 2, .int .i64 1, .int .i64 0, .int .i64 0, .zsl]]], [.str ⟨#[98]⟩, .zsl, .isl 5 [[.int .i64 3, .int .i64 0, .int .i64 0, .int .i64 0, .zsl]]]]
def ora16 : Nat → List AV → Option AV := fun f args => if (f == 67 && eqL (eqA 20) args [.agg [.v epair16]]) = true then some (.v (.bool true)) else none
def frz16 : Nat → Nat := fun f => if f = 55 then 500 else 0
set_option maxRecDepth 100000
theorem run16 : xOk (E1.xcall tab15 ora16 frz16 (E1.exec tab15 ora16 frz16 3000) 53 [] [] []) = true := by kernel_rfl
theorem epair16_le : IVle epair16 (eT pair16) := by
  have ev : ∀ (a c d e : Int), IVle (.isl 5 [[.int .i64 a, .int .i64 c, .int .i64 d, .int .i64 e, .zsl]]) (.isl 5 [[.int .i64 a, .int .i64 c, .int .i64 d, .int .i64 e, .isl 2 []]]) := fun a c d e =>
    .rows ⟨⟨rfl, getLe_cons (.refl _) (getLe_cons (.refl _) (getLe_cons (.refl _) (getLe_cons (.refl _) (getLe_cons (.zsl 2) getLe_nil))))⟩, trivial⟩
  exact .rows ⟨⟨rfl, getLe_cons (.refl _) (getLe_cons (.zsl 2) (getLe_cons (ev _ _ _ _) getLe_nil))⟩, ⟨rfl, getLe_cons (.refl _) (getLe_cons (.zsl 2) (getLe_cons (ev _ _ _ _) getLe_nil))⟩, trivial⟩
theorem pair16_small : Small pair16 := ⟨by decide, by decide, by decide, by decide⟩
theorem pair16_nm : Nm pair16 := by
  intro p hp
  simp [pair16] at hp
  rcases hp with rfl | rfl <;> exact ⟨by decide, by simp⟩
theorem pair16_valid : validL pair16 = true := conc_valid (rank := fun x => x.1 * 10 + x.2) (by kernel_rfl)
theorem ora16_ok (f : Nat) (args : List AV) (y : AV) (h : ora16 f args = some y) (b l : List Row) : ACalls Try.prog f args b l (fun r b' l' => r = y ∧ b' = b ∧ l' = l) := by
  unfold ora16 at h
  split at h
  · rename_i hc
    simp only [Bool.and_eq_true, beq_iff_eq] at hc
    obtain ⟨rfl, h2⟩ := hc
    have h3 := eqL_eq (eqA_eq 20) h2
    subst h3
    cases h
    have hv := valid_spec pair16 pair16_small pair16_nm b l
    rw [pair16_valid] at hv
    refine ACalls.le hv rfl ?_
    intro i a c h1 h2
    cases i with
    | zero =>
      simp at h1 h2; subst h1; subst h2
      refine .agg _ _ rfl (fun i a c h1 h2 => ?_)
      cases i with
      | zero => simp at h1 h2; subst h1; subst h2; exact .v _ _ epair16_le
      | succ i => simp at h1
    | succ i => simp at h1
  · cases h
/-- The example of chapter 16. -/
theorem awake16_spec (b l : List Row) : ACalls Try.prog 53 [] b l (fun r b' l' => r = .v (.bool true) ∧ b' = b ∧ l' = l) := by
  obtain ⟨b1, l1, t, h⟩ := xOk_ok run16
  exact ACalls.lift_bool (E1.ACalls.of_exec (T := tab15) (O := ora16) (Z := frz16) (fun f af h => h) ora16_ok h) b l
end Go.Proofs.Ytoaopldaleaijaa

namespace Go.Proofs.Ytoaopldaleaijaa
set_option linter.unusedVariables false
set_option linter.unusedSimpArgs false
/-- What is known of a trace that is small for chapter 16, and valid. -/
theorem okTr_len {t : Tr} (h : OkTr t) : ∀ x ∈ t, x.evs.length ≤ 9223372036854775807 := fun x hx => by
  have := (h.2 x hx).2.2
  rwa [maxLen_eq] at this
end Go.Proofs.Ytoaopldaleaijaa

namespace Go.Proofs.Ytoaopldaleaijaa
set_option linter.unusedVariables false
set_option linter.unusedSimpArgs false
attribute [local go_sem ↓] run_skip run_region run_draw run_seq run_block run_exit run_ret run_cond atN_app seqC_normal seqC_exit seqC_ret seqQ_normal seqQ_exit seqQ_ret blkQ_normal blkQ_exit blkQ_ret runOps_nil runOps_cons runD_nil runD_cons grdO_true grdO_false grdD_true grdD_false ifC_true ifC_false opS_val opS_call opS_two opK_app dS_val dS_call dS_two dK_app kUp_same kUp_ne
attribute [local go_sem] rechks_nil rechks_cons rechk gcase_true gcase_false ex_val ex_val0 gd_none gd_some ev_t ev_c evs_nil evs_cons evo_some evo_none hget_at hget_first hsetB_at hsetB_first hsetL_at hsetL_first ofOpt_some aop aload astore aslice aappend aiaddr aiaddrA afaddr alen alenS acopy amm acall alookup amupdate alenM comma keyEq apick binV binVB binVS isSh intOp strOp boolOp shOp eqC eqF and2 cellsOf setFrom fillA fillS rd rdI elems mk bounds AV.cell List.all_cons List.all_nil Bool.and_true Bool.true_and Bool.and_self List.length_cons List.length_nil List.length_append Nat.reduceAdd Nat.reduceSub Nat.reduceMul Nat.zero_add Nat.add_zero List.cons_append List.nil_append List.append_assoc List.append_nil List.getElem?_cons_zero List.getElem?_cons_succ List.getElem?_nil List.set_cons_zero List.set_cons_succ List.drop_zero List.drop_succ_cons List.take_zero List.take_succ_cons List.take_nil List.drop_nil List.map_cons List.map_nil Option.map_some if_true if_false Bool.false_eq_true and_self true_and and_true Nat.reduceLeDiff Nat.reduceLT Nat.le_refl Nat.reduceEqDiff ite_true ite_false beq_self_eq_true beq_true beq_false Bool.not_true Bool.not_false Bool.true_beq Bool.false_beq map_vs vs_len vs_get vs_take vs_drop vs_snoc1 vs_snoc2 vs_snoc3 vs_snoc5 vs_set1 vs_set2 vs_rep wrap_id le_T lt_T le_F lt_F leI_T ltI_T leI_F ltI_F geI gtI get_T decide_true decide_false room List.getElem?_map List.length_map List.length_take Int.toNat_natCast Nat.min_def Nat.min_self nth_kOf put_kOf put_kNo kOv_cons kOv_nil KHas KArgs List.getElem_cons_zero List.getElem_cons_succ
def a_FinalM : AFunc := ⟨1, 34, [.tmp 2, .tmp 3],
  (.seq (.region [⟨(some 1), .box (.t 0), none⟩, ⟨(some 2), .mv (.c (.v .zsl)), none⟩, ⟨(some 3), .mv (.c (.v (.int .i64 0))), none⟩])
  (.seq (.seq (.region [⟨(some 8), .load (some 1) (.t 1), none⟩, ⟨(some 9), .call (.c (.fn 67 [])) [(.t 8)], none⟩, ⟨(some 10), .not (.t 9), none⟩])
  (.cond (.t 10) (.seq (.region [⟨(some 2), .mv (.c (.v .zsl)), none⟩, ⟨(some 3), .mv (.c (.v (.int .i64 1))), none⟩])
  .ret)
  .skip))
  (.seq (.region [⟨(some 11), .load (some 1) (.t 1), none⟩, ⟨(some 12), .call (.c (.fn 105 [])) [(.t 11)], none⟩, ⟨(some 4), .mv (.t 12), none⟩])
  (.seq (.region [⟨(some 5), .mv (.c (.v .zsl)), none⟩])
  (.seq (.seq (.region [⟨(some 13), .faddr 0 (.t 1), none⟩, ⟨(some 14), .load none (.t 13), none⟩, ⟨(some 15), .len (.t 14), none⟩, ⟨(some 16), .mv (.c (.v (.int .i64 0))), none⟩])
  (.block 0 (.loop (.seq (.region [⟨(some 17), .bin .lss (.t 16) (.t 15), none⟩])
  (.seq (.cond (.t 17) .skip
  (.exit 0))
  (.seq (.block 1 (.seq (.region [⟨(some 18), .mv (.t 16), none⟩, ⟨(some 19), .iaddr 3 (.t 14) (.t 16), none⟩, ⟨(some 20), .load (some 3) (.t 19), none⟩, ⟨(some 7), .alloc [(.v (.str ⟨#[]⟩)), (.v .zsl), (.v .zsl)], none⟩, ⟨(some 6), .mv (.t 18), none⟩, ⟨none, .store 3 (.t 7) (.t 20), none⟩])
  (.region [⟨(some 21), .mv (.t 5), none⟩, ⟨(some 22), .mv (.t 4), none⟩, ⟨(some 23), .mv (.t 6), none⟩, ⟨(some 24), .faddr 2 (.t 7), none⟩, ⟨(some 25), .load none (.t 24), none⟩, ⟨(some 26), .len (.t 25), none⟩, ⟨(some 27), .build [(.v (.int .i64 0)), (.v (.int .i64 0))] [(0, 1, (.t 23)), (1, 1, (.t 26))], none⟩, ⟨(some 28), .call (.c (.fn 106 [])) [(.t 22), (.t 27)], none⟩, ⟨(some 29), .call (.c (.fn 107 [])) [(.t 28)], none⟩, ⟨(some 30), .bslice 1 [(.v .zsl)] 1 [(0, (.t 29))], none⟩, ⟨(some 31), .append 1 24 (.t 21) (.t 30), none⟩, ⟨(some 5), .mv (.t 31), none⟩])))
  (.region [⟨(some 32), .bin .add (.t 16) (.c (.v (.int .i64 1))), none⟩, ⟨(some 16), .mv (.t 32), none⟩])))))))
  (.seq (.region [⟨(some 33), .mv (.t 5), none⟩, ⟨(some 2), .mv (.t 33), none⟩, ⟨(some 3), .mv (.c (.v (.int .i64 0))), none⟩])
  .ret))))))⟩
theorem a_FinalM_ok : cFunc Try.prog 56 = some a_FinalM := by kernel_rfl
def r_FinalM0 : List (Nat × Nat) := [(5, 7), (16, 32)]

/-- A matrix that a call leaves in rows of its own, said as a value. -/
theorem ACalls.valmat {P : Program} {f : Nat} {args : List AV} {b l : List Row} {n v0 sz : Nat} {ver : Nat → Nat} {R : Nat → List (List IV)} (h : ACalls P f args b l (fun r b' l' => r = .sl (b.length + l.length) v0 0 n ∧ b' = b ∧ l' = l ++ mR n v0 (b.length + l.length) sz 0 ver R)) :
    ACalls P f args b l (fun r b' l' => r = .v (.isl 1 (mV n sz R)) ∧ b' = b ∧ l' = l) := by
  refine ⟨h.1, fun F L w vs s hr => Calls.mono (h.2 F L w vs s hr) ?_⟩
  rintro en w' ⟨v, x, b', l', F', L', h1, h2, h3, h4, h5, rfl, rfl, rfl⟩
  have hbl : (b' ++ l).length = b'.length + l.length := List.length_append
  have hw : Weak [AV.sl (b' ++ l).length v0 0 n] (b' ++ l) (mR n v0 (b' ++ l).length sz 0 ver R) [.v (.isl 1 (mV n sz R))] (b' ++ l) [] := by
    refine (Weak.mfrz (fun i hi => ?_) n (Nat.le_refl _)).trans ?_
    · simp only [List.map_cons, List.map_nil, frz, frz0]
      rw [if_neg (by omega)]
    refine (Weak.freezeR (i := 0) (rows := mV n sz R) (mR_all (n := n) (v0 := v0) (base := (b' ++ l).length) (sz := sz) (ver := ver) (R := R))).trans ?_
    have h2 : List.map (frz ((b' ++ l).length + 0) v0 1 (mV n sz R)) [AV.sl (b' ++ l).length v0 0 n] = [.v (.isl 1 (mV n sz R))] := by
      simp [frz, frz0, mV, fl_len]
      unfold fl
      rw [List.take_of_length_le (by simp)]
    rw [h2]
    refine Weak.trim (l1 := []) rfl (by intro x hx; simp only [List.mem_singleton] at hx; subst hx; exact .v _) ?_ RowsLt_nil
    simpa using s.rowsLt
  have hsim : Sim F' L' ((b' ++ l) ++ mR n v0 (b' ++ l).length sz 0 ver R) w' := by rw [List.append_assoc, hbl]; exact h3
  obtain ⟨F2, L2, k1, k2, k3, k4⟩ := hw F' L' w' { tmps := #[v], defers := [] } hsim ⟨rfl, rfl, fun i x u hx hu => by
    cases i with
    | zero => simp at hx hu; subst hx; subst hu; exact h2
    | succ i => simp at hx⟩
  rw [List.append_nil] at k1 k3
  refine ⟨v, .v (.isl 1 (mV n sz R)), b', l, F2, L2, h1, ?_, k1, ?_, h5, rfl, rfl, rfl⟩
  · exact k2.2.2 0 _ v rfl rfl
  · refine h4.trans ?_
    rw [← List.append_assoc, ← hbl]
    exact k3
theorem copied_val (m : List (List Int)) (hm : isM m = true) (b l : List Row) : ACalls Try.prog 107 [.v (.isl 1 (m.map eRw))] b l (fun r b' l' => r = .v (.isl 1 (m.map eRw)) ∧ b' = b ∧ l' = l) := by
  have h := ACalls.valmat (copied_spec m hm b l)
  have e : mV m.length 1 (rowsM m) = m.map eRw := by
    unfold mV rowsM
    apply List.ext_getElem?
    intro j
    by_cases hj : j < m.length
    · rw [fl_get hj, List.getElem?_map, List.getElem?_eq_getElem hj, rowAt_at hj]; rfl
    · rw [fl_none (by omega), List.getElem?_eq_none (by simp; omega)]
  rw [e] at h
  exact h
theorem rmZero_val (n : Nat) (hn : n ≤ 1000000) (b l : List Row) : ACalls Try.prog 108 [.v (.int .i64 n)] b l (fun r b' l' => r = .v (.isl 1 ((zeroM n).map eRw)) ∧ b' = b ∧ l' = l) := by
  have h := ACalls.valmat (rmZero_spec n hn b l)
  have e : mV n 1 (zRows n) = (zeroM n).map eRw := by
    unfold mV zRows zeroM
    rw [fl_map]; rfl
  rw [e] at h
  exact h
theorem find_spec (t : Tr) (hS : Small t) (hN : Nm t) (k m : Int) (b l : List Row) : ACalls Try.prog 110 [.agg [.v (eT t)], .v (.int .i64 k), .v (.int .i64 m)] b l (fun r b' l' => r = idA (findV t k m) ∧ b' = b ∧ l' = l) := by
  refine ACalls.of_ext ⟨_, Try.func110, by kernel_rfl, by kernel_rfl⟩ (fun F L w vs hr => ?_)
  obtain ⟨u, us, rfl, hs, hr2⟩ := repL_tr hN hr
  obtain ⟨v1, us1, rfl, h1, hr3⟩ := repL_cons hr2
  obtain ⟨v2, us2, rfl, h2, hr4⟩ := repL_cons hr3
  obtain rfl := repL_nil hr4
  cases h1.vI
  cases h2.vI
  refine (Find_any u t k m w hS hs).mono ?_
  rintro e w' ⟨rfl, he⟩
  exact ⟨he, _, _, rfl, idA_rep _ _ _ _, rfl, rfl, rfl⟩
noncomputable def lastM (t : Tr) (n : Nat) : List (List IV) := fl n fun p => [eMt t (p, (evsOf t p).length)]
noncomputable def finR (t : Tr) : AV := if validL t = true then .tup [.v (.isl 1 (lastM t t.length)), .v (.int .i64 0)] else .tup [.v .zsl, .v (.int .i64 1)]
noncomputable def fiR (t : Tr) (n : Nat) (K : List (Nat × Nat)) (i : Nat) : List Row := [.live 0 1 [[.v (.isl 3 (t.map ePr))]], .live 0 1 [[.v (.isl 3 (t.map ePr))]], kmR t K, .live 0 2 [[.v (.isl 3 (t.map ePr)), .mp (n + 1 + 1) 0]], .live i 1 (vs (lastM t i))]
theorem fiR_len {t : Tr} {n : Nat} {K : List (Nat × Nat)} {i : Nat} : (fiR t n K i).length = 5 := rfl
theorem km_lt {t : Tr} {K : List (Nat × Nat)} {m : Nat} : ∀ row ∈ kmL t K, ∀ c ∈ row, AVlt m c := by
  intro row hr c hc
  obtain ⟨y, _, rfl⟩ := List.mem_map.1 hr
  simp only [List.mem_cons, List.not_mem_nil, or_false] at hc
  rcases hc with rfl | rfl
  · unfold idA; simp only [AVlt_v, AVlt_any, AVlt_sl, AVlt_ptr, AVlt_mp, AVlt_agg, AVlt_tup, AVlt_fn, RowsLt_nil, RowsLt_live, RowsLt_dead, List.mem_cons, List.not_mem_nil, List.forall_mem_cons, List.forall_mem_nil, or_false, false_or, forall_eq_or_imp, forall_eq, vs_lt, Nat.add_lt_add_iff_left, Nat.reduceLT, true_and, and_true, and_self, List.length_cons, List.length_nil, Nat.reduceAdd, Nat.zero_add, implies_true, false_imp_iff, lt_T, List.mem_map]
  · exact .v _
theorem fiR_lt {t : Tr} {n m : Nat} {K : List (Nat × Nat)} {i : Nat} (h : n + 5 ≤ m) : RowsLt m (fiR t n K i) := by
  intro id ver sz els hr row hrow c hc
  match id, hr with
  | 0, hr => cases hr; simp at hrow; subst hrow; simp at hc; subst hc; exact .v _
  | 1, hr => cases hr; simp at hrow; subst hrow; simp at hc; subst hc; exact .v _
  | 2, hr => cases hr; exact km_lt row hrow c hc
  | 3, hr => cases hr; simp at hrow; subst hrow; simp at hc; rcases hc with rfl | rfl <;> first | exact .v _ | exact .mp _ _ (by omega)
  | 4, hr =>
    cases hr
    obtain ⟨r0, _, rfl⟩ := List.mem_map.1 hrow
    obtain ⟨x0, _, rfl⟩ := List.mem_map.1 hc
    exact .v _
  | id + 5, hr => cases hr
theorem Final_spec (t : Tr) (hS : Sm t) (hN : Nm t) (b l : List Row) : ACalls Try.prog 56 [.agg [.v (eT t)]] b l (fun r b' l' => r = finR t ∧ b' = b ∧ l' = l) := by
  refine calls_kept a_FinalM_ok rfl (by decide) ?_
  intro B g hB hR hE hA
  simp only [KArgs] at hA
  simp (disch := (first | decide | omega)) only [a_FinalM, hA, go_sem]
  refine ACalls.nxt (valid_specS t hS hN _ _) ?_
  cases hval : validL t with
  | false =>
    simp (disch := (first | decide | omega)) only [hA, go_sem]
    exact leave_pure (xs := [.v .zsl, .v (.int .i64 1)]) (.inr rfl) (by simp (disch := (first | decide | omega)) only [resVs, resV, go_sem, hA]) (by simp only [one, AVlt_v, AVlt_any, AVlt_sl, AVlt_ptr, AVlt_mp, AVlt_agg, AVlt_tup, AVlt_fn, RowsLt_nil, RowsLt_live, RowsLt_dead, List.mem_cons, List.not_mem_nil, List.forall_mem_cons, List.forall_mem_nil, or_false, false_or, forall_eq_or_imp, forall_eq, vs_lt, Nat.add_lt_add_iff_left, Nat.reduceLT, true_and, and_true, and_self, List.length_cons, List.length_nil, Nat.reduceAdd, Nat.zero_add, implies_true, false_imp_iff, lt_T, List.mem_map]) hR hB ⟨by unfold finR; rw [hval]; rfl, rfl, rfl⟩
  | true =>
    have hv := vok hval
    have hS := hS.small hv.head
    have h8 := hv.hi
    simp (disch := (first | decide | omega)) only [hA, go_sem]
    refine ACalls.nxt (mOpen_spec t _ _) ?_
    simp (disch := (first | decide | omega)) only [hA, eT, List.length_map, go_sem]
    refine loop_kept_nil (ι := Nat × List (Nat × Nat)) 5 1 r_FinalM0 (fun i => [(16, .v (.int .i64 i.1)), (5, .sl (B.length + 4) i.1 0 i.1)]) 5 (fun i => fiR t B.length i.2 i.1)
      (fun i => i.1 ≤ t.length) (fun i => t.length - i.1) (0, []) (Nat.zero_le _) rfl (by decide) (by decide) (by (repeat (first | exact hE.mono (by omega) | refine KLt.up ?_ (by simp (disch := omega) only [AVlt_v, AVlt_any, AVlt_sl, AVlt_ptr, AVlt_mp, AVlt_agg, AVlt_tup, AVlt_fn, RowsLt_nil, RowsLt_live, RowsLt_dead, List.mem_cons, List.not_mem_nil, List.forall_mem_cons, List.forall_mem_nil, or_false, false_or, forall_eq_or_imp, forall_eq, vs_lt, Nat.add_lt_add_iff_left, Nat.reduceLT, true_and, and_true, and_self, List.length_cons, List.length_nil, Nat.reduceAdd, Nat.zero_add, implies_true, false_imp_iff, lt_T, List.mem_map])))) (by ((try simp (disch := decide) only [hA, go_sem]) <;> (repeat' (first | exact trivial | refine And.intro ?_ ?_)) <;> (first | rfl | (congr 2; omega)))) (fun e => Weak.refl _ _ _) ?_
    rintro g1 hE1 hEE1 hg1 ⟨p, K⟩ hp
    simp only at hp
    by_cases hpl : p < t.length
    · have hpe := evsOf_lt hpl
      have hne := hS.ne _ (List.getElem_mem hpl)
      have hrw : (lastM t p).length = p := fl_len
      have tk : List.take p (lastM t p) = lastM t p := List.take_of_length_le (by omega)
      have hsn : lastM t p ++ [[.isl 1 ((mtx t (p, t[p].evs.length)).map eRw)]] = lastM t (p + 1) := fl_next (by simp only [hpe, eMt])
      have hm := mAt_spec t hv hS (B.length + 3) (B.length + 2) (by omega) _ (p, t[p].evs.length) rfl hpl (by rw [hpe]; exact Nat.le_refl _)
      simp (disch := (first | decide | omega)) only [hA, hg1, fiR, ePr, List.length_map, go_sem]
      refine ACalls_mono _ _ _ _ _ _ (hm _ _ K (by rw [List.getElem?_append_right (by omega), Nat.add_sub_cancel_left]; rfl) (by rw [List.getElem?_append_right (by omega), Nat.add_sub_cancel_left]; rfl)) ?_
      rintro r b' l' ⟨K1, rfl, rfl, rfl⟩
      simp (disch := (first | decide | omega)) only [hA, hg1, eMt, go_sem]
      refine ACalls.nxt (copied_val (mtx t (p, t[p].evs.length)) (mtx_isM hv hS hv.lo _) _ _) ?_
      simp (disch := (first | decide | omega)) only [hA, hg1, hrw, tk, hsn, List.replicate_succ, List.replicate_zero, reduceCtorEq, setFrom, cellsOf, go_sem]
      refine ⟨(p + 1, K1), hpl, by simp only; omega, ?_⟩
      exact Weak.kround (l1 := fiR t B.length K1 (p + 1)) (p := r_FinalM0) (k := 5) (by ((repeat refine (kAny_up rfl).trans ?_); exact hEE1)) (by ((try simp (disch := decide) only [hA, go_sem]) <;> (repeat' (first | exact trivial | refine And.intro ?_ ?_)) <;> (first | rfl | (congr 2; omega)))) rfl hE1 (by simp [fiR]) (by simp (disch := omega) only [KOvLt, fiR_len, AVlt_v, AVlt_any, AVlt_sl, AVlt_ptr, AVlt_mp, AVlt_agg, AVlt_tup, AVlt_fn, RowsLt_nil, RowsLt_live, RowsLt_dead, List.mem_cons, List.not_mem_nil, List.forall_mem_cons, List.forall_mem_nil, or_false, false_or, forall_eq_or_imp, forall_eq, vs_lt, Nat.add_lt_add_iff_left, Nat.reduceLT, true_and, and_true, and_self, List.length_cons, List.length_nil, Nat.reduceAdd, Nat.zero_add, implies_true, false_imp_iff, lt_T, List.mem_map]) hR (fiR_lt (by simp [fiR]))
    · simp (disch := (first | decide | omega)) only [hA, hg1, fiR, go_sem]
      obtain rfl : p = t.length := by omega
      exact leave_frz2 (i := 4) (ver := t.length) (sz := 1) (n := t.length) (rows := lastM t t.length) (z := .int .i64 0) (.inr rfl) (by simp (disch := (first | decide | omega)) only [resVs, resV, hA, hg1, go_sem]) rfl (by simp [lastM, fl_len]) hR hB ⟨by unfold finR; rw [if_pos hval], rfl, rfl⟩
end Go.Proofs.Ytoaopldaleaijaa

namespace Go.Proofs.Ytoaopldaleaijaa
set_option linter.unusedVariables false
set_option linter.unusedSimpArgs false
attribute [local go_sem ↓] run_skip run_region run_draw run_seq run_block run_exit run_ret run_cond atN_app seqC_normal seqC_exit seqC_ret seqQ_normal seqQ_exit seqQ_ret blkQ_normal blkQ_exit blkQ_ret runOps_nil runOps_cons runD_nil runD_cons grdO_true grdO_false grdD_true grdD_false ifC_true ifC_false opS_val opS_call opS_two opK_app dS_val dS_call dS_two dK_app kUp_same kUp_ne
attribute [local go_sem] rechks_nil rechks_cons rechk gcase_true gcase_false ex_val ex_val0 gd_none gd_some ev_t ev_c evs_nil evs_cons evo_some evo_none hget_at hget_first hsetB_at hsetB_first hsetL_at hsetL_first ofOpt_some aop aload astore aslice aappend aiaddr aiaddrA afaddr alen alenS acopy amm acall alookup amupdate alenM comma keyEq apick binV binVB binVS isSh intOp strOp boolOp shOp eqC eqF and2 cellsOf setFrom fillA fillS rd rdI elems mk bounds AV.cell List.all_cons List.all_nil Bool.and_true Bool.true_and Bool.and_self List.length_cons List.length_nil List.length_append Nat.reduceAdd Nat.reduceSub Nat.reduceMul Nat.zero_add Nat.add_zero List.cons_append List.nil_append List.append_assoc List.append_nil List.getElem?_cons_zero List.getElem?_cons_succ List.getElem?_nil List.set_cons_zero List.set_cons_succ List.drop_zero List.drop_succ_cons List.take_zero List.take_succ_cons List.take_nil List.drop_nil List.map_cons List.map_nil Option.map_some if_true if_false Bool.false_eq_true and_self true_and and_true Nat.reduceLeDiff Nat.reduceLT Nat.le_refl Nat.reduceEqDiff ite_true ite_false beq_self_eq_true beq_true beq_false Bool.not_true Bool.not_false Bool.true_beq Bool.false_beq map_vs vs_len vs_get vs_take vs_drop vs_snoc1 vs_snoc2 vs_snoc3 vs_snoc5 vs_set1 vs_set2 vs_rep wrap_id le_T lt_T le_F lt_F leI_T ltI_T leI_F ltI_F geI gtI get_T decide_true decide_false room List.getElem?_map List.length_map List.length_take Int.toNat_natCast Nat.min_def Nat.min_self nth_kOf put_kOf put_kNo kOv_cons kOv_nil KHas KArgs List.getElem_cons_zero List.getElem_cons_succ
def a_All : AFunc := ⟨1, 133, [.tmp 2],
  (.seq (.region [⟨(some 1), .box (.t 0), none⟩, ⟨(some 2), .mv (.c (.v .zsl)), none⟩])
  (.seq (.region [⟨(some 15), .faddr 0 (.t 1), none⟩, ⟨(some 16), .load none (.t 15), none⟩, ⟨(some 17), .len (.t 16), none⟩, ⟨(some 3), .mv (.t 17), none⟩])
  (.seq (.region [⟨(some 4), .mv (.c (.v .zsl)), none⟩])
  (.seq (.seq (.region [⟨(some 5), .mv (.c (.v (.int .i64 0))), none⟩])
  (.block 0 (.loop (.seq (.seq (.region [⟨(some 18), .mv (.t 5), none⟩, ⟨(some 19), .mv (.t 3), none⟩, ⟨(some 20), .bin .lss (.t 18) (.t 19), none⟩])
  (.cond (.t 20) .skip
  (.exit 0)))
  (.seq (.block 1 (.region [⟨(some 23), .mv (.t 4), none⟩, ⟨(some 24), .mv (.t 3), none⟩, ⟨(some 25), .call (.c (.fn 108 [])) [(.t 24)], none⟩, ⟨(some 26), .bslice 1 [(.v .zsl)] 1 [(0, (.t 25))], none⟩, ⟨(some 27), .bslice 1 [(.v .zsl)] 1 [(0, (.t 26))], none⟩, ⟨(some 28), .append 1 24 (.t 23) (.t 27), none⟩, ⟨(some 4), .mv (.t 28), none⟩]))
  (.region [⟨(some 21), .mv (.t 5), none⟩, ⟨(some 22), .bin .add (.t 21) (.c (.v (.int .i64 1))), none⟩, ⟨(some 5), .mv (.t 22), none⟩]))))))
  (.seq (.seq (.region [⟨(some 6), .mv (.c (.v (.bool true))), none⟩])
  (.block 2 (.loop (.seq (.seq (.region [⟨(some 29), .mv (.t 6), none⟩])
  (.cond (.t 29) .skip
  (.exit 2)))
  (.block 3 (.seq (.region [⟨(some 6), .mv (.c (.v (.bool false))), none⟩])
  (.seq (.region [⟨(some 7), .mv (.c (.v (.int .i64 0))), none⟩])
  (.block 4 (.loop (.seq (.seq (.region [⟨(some 30), .mv (.t 7), none⟩, ⟨(some 31), .mv (.t 3), none⟩, ⟨(some 32), .bin .lss (.t 30) (.t 31), none⟩])
  (.cond (.t 32) .skip
  (.exit 4)))
  (.seq (.block 5 (.seq (.region [⟨(some 35), .mv (.t 4), none⟩, ⟨(some 36), .mv (.t 7), none⟩, ⟨(some 37), .iaddr 1 (.t 35) (.t 36), none⟩, ⟨(some 38), .load none (.t 37), none⟩, ⟨(some 39), .len (.t 38), none⟩, ⟨(some 8), .mv (.t 39), none⟩])
  (.seq (.seq (.region [⟨(some 40), .mv (.t 8), none⟩, ⟨(some 41), .faddr 0 (.t 1), none⟩, ⟨(some 42), .load none (.t 41), none⟩, ⟨(some 43), .mv (.t 7), none⟩, ⟨(some 44), .iaddr 3 (.t 42) (.t 43), none⟩, ⟨(some 45), .faddr 2 (.t 44), none⟩, ⟨(some 46), .load none (.t 45), none⟩, ⟨(some 47), .len (.t 46), none⟩, ⟨(some 48), .bin .gtr (.t 40) (.t 47), none⟩])
  (.cond (.t 48) (.exit 5)
  .skip))
  (.seq (.region [⟨(some 49), .faddr 0 (.t 1), none⟩, ⟨(some 50), .load none (.t 49), none⟩, ⟨(some 51), .mv (.t 7), none⟩, ⟨(some 52), .iaddr 3 (.t 50) (.t 51), none⟩, ⟨(some 53), .faddr 2 (.t 52), none⟩, ⟨(some 54), .load none (.t 53), none⟩, ⟨(some 55), .mv (.t 8), none⟩, ⟨(some 56), .bin .sub (.t 55) (.c (.v (.int .i64 1))), none⟩, ⟨(some 57), .iaddr 5 (.t 54) (.t 56), none⟩, ⟨(some 58), .load (some 5) (.t 57), none⟩, ⟨(some 9), .alloc [(.v (.int .i64 0)), (.v (.int .i64 0)), (.v (.int .i64 0)), (.v (.int .i64 0)), (.v .zsl)], none⟩, ⟨none, .store 5 (.t 9) (.t 58), none⟩])
  (.seq (.seq (.region [⟨(some 59), .faddr 0 (.t 9), none⟩, ⟨(some 60), .load none (.t 59), none⟩, ⟨(some 61), .bin .neq (.t 60) (.c (.v (.int .i64 3))), none⟩])
  (.cond (.t 61) (.seq (.region [⟨(some 63), .mv (.t 4), none⟩, ⟨(some 64), .mv (.t 7), none⟩, ⟨(some 65), .iaddr 1 (.t 63) (.t 64), none⟩, ⟨(some 66), .load none (.t 65), none⟩, ⟨(some 67), .mv (.t 8), none⟩, ⟨(some 68), .bin .sub (.t 67) (.c (.v (.int .i64 1))), none⟩, ⟨(some 69), .iaddr 1 (.t 66) (.t 68), none⟩, ⟨(some 70), .load none (.t 69), none⟩, ⟨(some 71), .mv (.t 7), none⟩, ⟨(some 72), .call (.c (.fn 109 [])) [(.t 70), (.t 71)], none⟩, ⟨(some 62), .mv (.t 72), none⟩, ⟨(some 73), .extract 0 (.t 62), none⟩, ⟨(some 74), .extract 1 (.t 62), none⟩, ⟨(some 10), .mv (.t 73), none⟩, ⟨(some 11), .mv (.t 74), none⟩])
  (.seq (.region [⟨(some 75), .mv (.t 4), none⟩, ⟨(some 76), .mv (.t 7), none⟩, ⟨(some 77), .mv (.t 4), none⟩, ⟨(some 78), .mv (.t 7), none⟩, ⟨(some 79), .iaddr 1 (.t 77) (.t 78), none⟩, ⟨(some 80), .load none (.t 79), none⟩, ⟨(some 81), .mv (.t 10), none⟩, ⟨(some 82), .bslice 1 [(.v .zsl)] 1 [(0, (.t 81))], none⟩, ⟨(some 83), .append 1 24 (.t 80) (.t 82), none⟩, ⟨(some 84), .iaddr 1 (.t 75) (.t 76), none⟩, ⟨none, .store 1 (.t 84) (.t 83), none⟩])
  (.seq (.region [⟨(some 6), .mv (.c (.v (.bool true))), none⟩])
  (.exit 5))))
  .skip))
  (.seq (.region [⟨(some 85), .load (some 1) (.t 1), none⟩, ⟨(some 86), .faddr 2 (.t 9), none⟩, ⟨(some 87), .load none (.t 86), none⟩, ⟨(some 88), .call (.c (.fn 110 [])) [(.t 85), (.c (.v (.int .i64 2))), (.t 87)], none⟩, ⟨(some 12), .alloc [(.v (.int .i64 0)), (.v (.int .i64 0))], none⟩, ⟨none, .store 2 (.t 12) (.t 88), none⟩])
  (.seq (.draw [⟨0, ⟨(some 89), .faddr 1 (.t 12), none⟩, []⟩, ⟨1, ⟨(some 90), .load none (.t 89), none⟩, []⟩, ⟨2, ⟨(some 91), .mv (.t 4), none⟩, []⟩, ⟨3, ⟨(some 92), .faddr 0 (.t 12), none⟩, []⟩, ⟨4, ⟨(some 93), .load none (.t 92), none⟩, []⟩, ⟨5, ⟨(some 94), .iaddr 1 (.t 91) (.t 93), none⟩, []⟩, ⟨6, ⟨(some 95), .load none (.t 94), none⟩, []⟩, ⟨7, ⟨(some 96), .len (.t 95), none⟩, []⟩, ⟨8, ⟨(some 97), .bin .lss (.t 90) (.t 96), none⟩, []⟩])
  (.cond (.t 97) (.seq (.draw [⟨0, ⟨(some 99), .mv (.t 4), none⟩, []⟩, ⟨1, ⟨(some 100), .mv (.t 7), none⟩, []⟩, ⟨2, ⟨(some 101), .iaddr 1 (.t 99) (.t 100), none⟩, []⟩, ⟨3, ⟨(some 102), .load none (.t 101), none⟩, []⟩, ⟨4, ⟨(some 103), .mv (.t 8), none⟩, []⟩, ⟨5, ⟨(some 104), .bin .sub (.t 103) (.c (.v (.int .i64 1))), none⟩, []⟩, ⟨6, ⟨(some 105), .iaddr 1 (.t 102) (.t 104), none⟩, []⟩, ⟨7, ⟨(some 106), .load none (.t 105), none⟩, []⟩, ⟨8, ⟨(some 107), .mv (.t 7), none⟩, []⟩, ⟨9, ⟨(some 108), .mv (.t 4), none⟩, []⟩, ⟨10, ⟨(some 109), .faddr 0 (.t 12), none⟩, []⟩, ⟨11, ⟨(some 110), .load none (.t 109), none⟩, []⟩, ⟨12, ⟨(some 111), .iaddr 1 (.t 108) (.t 110), none⟩, []⟩, ⟨13, ⟨(some 112), .load none (.t 111), none⟩, []⟩, ⟨14, ⟨(some 113), .faddr 1 (.t 12), none⟩, []⟩, ⟨15, ⟨(some 114), .load none (.t 113), none⟩, []⟩, ⟨16, ⟨(some 115), .iaddr 1 (.t 112) (.t 114), none⟩, []⟩, ⟨17, ⟨(some 116), .load none (.t 115), none⟩, []⟩, ⟨18, ⟨(some 117), .faddr 0 (.t 12), none⟩, []⟩, ⟨19, ⟨(some 118), .load none (.t 117), none⟩, []⟩, ⟨20, ⟨(some 119), .call (.c (.fn 111 [])) [(.t 106), (.t 107), (.t 116), (.t 118)], none⟩, []⟩, ⟨21, ⟨(some 98), .mv (.t 119), none⟩, []⟩, ⟨22, ⟨(some 120), .extract 0 (.t 98), none⟩, []⟩, ⟨23, ⟨(some 121), .extract 1 (.t 98), none⟩, []⟩, ⟨24, ⟨(some 13), .mv (.t 120), none⟩, []⟩, ⟨25, ⟨(some 14), .mv (.t 121), none⟩, []⟩])
  (.seq (.region [⟨(some 122), .mv (.t 4), none⟩, ⟨(some 123), .mv (.t 7), none⟩, ⟨(some 124), .mv (.t 4), none⟩, ⟨(some 125), .mv (.t 7), none⟩, ⟨(some 126), .iaddr 1 (.t 124) (.t 125), none⟩, ⟨(some 127), .load none (.t 126), none⟩, ⟨(some 128), .mv (.t 13), none⟩, ⟨(some 129), .bslice 1 [(.v .zsl)] 1 [(0, (.t 128))], none⟩, ⟨(some 130), .append 1 24 (.t 127) (.t 129), none⟩, ⟨(some 131), .iaddr 1 (.t 122) (.t 123), none⟩, ⟨none, .store 1 (.t 131) (.t 130), none⟩])
  (.region [⟨(some 6), .mv (.c (.v (.bool true))), none⟩])))
  .skip))))))))
  (.region [⟨(some 33), .mv (.t 7), none⟩, ⟨(some 34), .bin .add (.t 33) (.c (.v (.int .i64 1))), none⟩, ⟨(some 7), .mv (.t 34), none⟩]))))))))))))
  (.seq (.region [⟨(some 132), .mv (.t 4), none⟩, ⟨(some 2), .mv (.t 132), none⟩])
  .ret))))))⟩
theorem a_All_ok : cFunc Try.prog 57 = some a_All := by kernel_rfl
def r_All0 : List (Nat × Nat) := [(4, 5), (18, 28)]
def r_All1 : List (Nat × Nat) := [(6, 14), (29, 131)]
def r_All2 : List (Nat × Nat) := [(6, 14), (30, 131)]

noncomputable def mRow (t : Tr) (q k : Nat) : List (List IV) := fl k fun i => [eMt t (q, i)]
noncomputable def cA (t : Tr) (D : Nat → Nat) (q : Nat) : Row := .live (D q) 1 (vs (mRow t q (D q + 1)))
/-- The rows of the work. -/
noncomputable def aR (t : Tr) (base : Nat) (D : Nat → Nat) (T : List Row) : List Row :=
  .live 0 1 [[.v (.isl 3 (t.map ePr))]] :: .live t.length 1 (fl t.length fun q => [.sl (base + (q + 1 + 1)) (D q) 0 (D q + 1)]) :: (fl t.length (cA t D) ++ T)
theorem aR_lt {t : Tr} {m base : Nat} {D : Nat → Nat} {T : List Row} (hm : base + (t.length + 2) ≤ m) (hT : RowsLt m T) : RowsLt m (aR t base D T) := by
  intro id ver sz els hr row hrow c hc
  match id, hr with
  | 0, hr => cases hr; simp at hrow; subst hrow; simp at hc; subst hc; exact .v _
  | 1, hr =>
    cases hr
    obtain ⟨j, hj, rfl⟩ := List.mem_map.1 hrow
    simp only [List.mem_singleton] at hc
    subst hc
    have := List.mem_range.1 hj
    exact .sl _ _ _ _ (by omega)
  | id + 2, hr =>
    have hr : (fl t.length (cA t D) ++ T)[id]? = some (.live ver sz els) := hr
    by_cases hid : id < t.length
    · rw [fa_at hid] at hr
      cases hr
      obtain ⟨r0, _, rfl⟩ := List.mem_map.1 hrow
      obtain ⟨x0, _, rfl⟩ := List.mem_map.1 hc
      exact .v _
    · rw [List.getElem?_append_right (by rw [fl_len]; omega)] at hr
      exact hT _ _ _ _ hr row hrow c hc
theorem aR_lt0 {t : Tr} {m base : Nat} {D : Nat → Nat} (hm : base + (t.length + 2) ≤ m) : RowsLt m (.live 0 1 [[.v (.isl 3 (t.map ePr))]] :: .live t.length 1 (fl t.length fun q => [.sl (base + (q + 1 + 1)) (D q) 0 (D q + 1)]) :: fl t.length (cA t D)) := by
  have h := aR_lt (t := t) (D := D) hm RowsLt_nil
  unfold aR at h
  rwa [List.append_nil] at h
/-- The rows when the first processes have their first matrix. -/
noncomputable def a0R (t : Tr) (base p : Nat) : List Row := .live 0 1 [[.v (.isl 3 (t.map ePr))]] :: .live p 1 (fl p fun q => [.sl (base + (q + 1 + 1)) 0 0 1]) :: fl p (cA t fun _ => 0)
theorem a0R_lt {t : Tr} {m base p : Nat} (hm : base + (p + 2) ≤ m) : RowsLt m (a0R t base p) := by
  intro id ver sz els hr row hrow c hc
  match id, hr with
  | 0, hr => cases hr; simp at hrow; subst hrow; simp at hc; subst hc; exact .v _
  | 1, hr =>
    cases hr
    obtain ⟨j, hj, rfl⟩ := List.mem_map.1 hrow
    simp only [List.mem_singleton] at hc
    subst hc
    have := List.mem_range.1 hj
    exact .sl _ _ _ _ (by omega)
  | id + 2, hr =>
    have hr : (fl p (cA t fun _ => 0))[id]? = some (.live ver sz els) := hr
    by_cases hid : id < p
    · rw [fl_get hid] at hr
      cases hr
      obtain ⟨r0, _, rfl⟩ := List.mem_map.1 hrow
      obtain ⟨x0, _, rfl⟩ := List.mem_map.1 hc
      exact .v _
    · rw [fl_none (by omega)] at hr; cases hr
theorem a0R_all {t : Tr} {base : Nat} : a0R t base t.length = aR t base (fun _ => 0) [] := by unfold a0R aR; rw [List.append_nil]
theorem a0R_next {t : Tr} {base p : Nat} {x : Row} {junk : List Row} (hx : cA t (fun _ => 0) p = x) :
    (.live 0 1 [[.v (.isl 3 (t.map ePr))]] :: .live (p + 1) 1 ((fl p fun q => [AV.sl (base + (q + 1 + 1)) 0 0 1]) ++ [[.sl (base + (p + 1 + 1)) 0 0 1]]) :: (fl p (cA t fun _ => 0) ++ x :: junk)) = a0R t base (p + 1) ++ junk := by
  unfold a0R
  rw [← fl_next (n := p) (f := cA t fun _ => 0) hx, ← fl_next (n := p) (f := fun q => [AV.sl (base + (q + 1 + 1)) 0 0 1]) rfl]
  simp
theorem Weak.shift {e e' : List AV} {b c l l' : List Row} (h : Weak e (b ++ c) l e' (b ++ c) l') : Weak e b (c ++ l) e' b (c ++ l') := by
  intro F L w a s he
  obtain ⟨F', L', k1, k2, k3, k4⟩ := h F L w a (by rw [List.append_assoc]; exact s) he
  rw [List.append_assoc] at k1
  refine ⟨F', L', k1, k2, ?_, rfl⟩
  have k3' : Step (b ++ c).length F L (b ++ (c ++ l)) w F' L' (b ++ (c ++ l')) w := by rw [← List.append_assoc, ← List.append_assoc]; exact k3
  exact ⟨k3'.imm, fun id ver q hid h => k3'.loc id ver q (by rw [List.length_append]; omega) h, k3'.os, k3'.tape, k3'.output, k3'.size, k3'.block, k3'.own, fun id hid v hv => k3'.base id (by rw [List.length_append]; omega) v hv, k3'.fnew⟩
/-- All matrices, as a value. -/
noncomputable def allV (t : Tr) : List (List IV) := fl t.length fun p => [.isl 1 (mRow t p ((evsOf t p).length + 1))]
theorem leave_all {rs : List ARes} {Q : AV → List Row → List Row → Prop} {B e l : _} {t : Tr} {D : Nat → Nat} (hD : ∀ p, p < t.length → D p = (evsOf t p).length) (hx : resVs e B l rs = some [.sl (B.length + 1) t.length 0 t.length]) (hl : l = aR t B.length D [])
    (hR : RowsLt B.length B) {b0 l0 : List Row} (hB : B = b0 ++ l0) (hq : Q (.v (.isl 1 (allV t))) b0 l0) : Leaves rs Q b0.length .ret e B l := by
  subst hl
  have e1 : aR t B.length D [] = [.live 0 1 [[.v (.isl 3 (t.map ePr))]]] ++ mR t.length t.length (B ++ [Row.live 0 1 [[AV.v (.isl 3 (t.map ePr))]]]).length 1 0 D (fun q => mRow t q (D q + 1)) := by
    unfold aR mR
    rw [List.append_nil]
    simp only [List.cons_append, List.nil_append, List.length_append, List.length_cons, List.length_nil]
    congr 2
    congr 1
    refine fl_congr (fun q _ => ?_)
    rw [mC_0]
    have : (mRow t q (D q + 1)).length = D q + 1 := fl_len
    rw [this, show B.length + (0 + 1) + (q + 1) = B.length + (q + 1 + 1) by omega]
  refine leave (.inr rfl) hx (y := .v (.isl 1 (allV t))) (l' := []) ?_ hB (by simpa using hq)
  rw [e1]
  have hlen : (B ++ [Row.live 0 1 [[AV.v (.isl 3 (t.map ePr))]]]).length = B.length + 1 := by simp
  have hw := Weak.mfrz (e := [AV.sl (B.length + 1) t.length 0 t.length]) (b := B ++ [Row.live 0 1 [[AV.v (.isl 3 (t.map ePr))]]]) (n := t.length) (v0 := t.length) (sz := 1) (ver := D) (R := fun q => mRow t q (D q + 1)) (fun i hi => by
    simp only [List.map_cons, List.map_nil, frz, frz0]
    rw [if_neg (by omega)]) t.length (Nat.le_refl _)
  have hw2 := hw.trans (Weak.freezeR (i := 0) (rows := mV t.length 1 (fun q => mRow t q (D q + 1))) mR_all)
  refine (Weak.shift hw2).trans ?_
  have h2 : List.map (frz ((B ++ [Row.live 0 1 [[AV.v (.isl 3 (t.map ePr))]]]).length + 0) t.length 1 (mV t.length 1 (fun q => mRow t q (D q + 1)))) [AV.sl (B.length + 1) t.length 0 t.length] = [.v (.isl 1 (allV t))] := by
    have hv : mV t.length 1 (fun q => mRow t q (D q + 1)) = allV t := by
      unfold mV allV
      exact fl_congr (fun q hq => by show [IV.isl 1 (mRow t q (D q + 1))] = _; rw [hD q hq])
    rw [hv, hlen]
    simp [frz, frz0, allV, fl_len]
    unfold fl
    rw [List.take_of_length_le (by simp)]
  rw [h2]
  exact Weak.trim (l1 := []) rfl (by intro x hx; simp only [List.mem_singleton] at hx; subst hx; exact .v _) (by simpa using hR) RowsLt_nil
theorem oA_up {n base p : Nat} {D : Nat → Nat} : (fl n fun q => [AV.sl (base + (q + 1 + 1)) (D q) 0 (D q + 1)]).set p [.sl (base + (p + 1 + 1)) (D p + 1) 0 (D p + 1 + 1)] = fl n fun q => [.sl (base + (q + 1 + 1)) (fUp D p (D p + 1) q) 0 (fUp D p (D p + 1) q + 1)] := by
  rw [fl_set]
  refine fl_congr (fun q _ => ?_)
  by_cases h : q = p
  · subst h; rw [fUp_same, fUp_same]
  · rw [fUp_ne h, fUp_ne h]
theorem cA_up {t : Tr} {n p : Nat} {D : Nat → Nat} : fl n (fUp (cA t D) p (.live (D p + 1) 1 (vs (mRow t p (D p + 1 + 1))))) = fl n (cA t (fUp D p (D p + 1))) := by
  refine fl_congr (fun q _ => ?_)
  by_cases h : q = p
  · subst h; unfold cA; rw [fUp_same, fUp_same]
  · rw [fUp_ne h]; unfold cA; rw [fUp_ne h]
set_option maxHeartbeats 1000000 in
set_option maxRecDepth 20000 in
theorem all_spec (t : Tr) (hv : Vok t) (hS : Small t) (hN : Nm t) (b l : List Row) :
    ACalls Try.prog 57 [.agg [.v (eT t)]] b l (fun r b' l' => r = .v (.isl 1 (allV t)) ∧ b' = b ∧ l' = l) := by
  refine calls_kept a_All_ok rfl (by decide) ?_
  intro B g hB hR hE hA
  simp only [KArgs] at hA
  have h8 := hv.hi
  simp (disch := (first | decide | omega)) only [a_All, eT, hA, List.length_map, go_sem]
  refine loop_kept_nil (ι := Nat) 4 1 r_All0 (fun p => [(5, .v (.int .i64 p)), (4, .sl (B.length + 1) p 0 p)]) 2 (fun p => a0R t B.length p)
    (fun p => p ≤ t.length) (fun p => t.length - p) 0 (Nat.zero_le _) rfl (by decide) (by decide) (by (repeat (first | exact hE.mono (by omega) | refine KLt.up ?_ (by simp (disch := omega) only [AVlt_v, AVlt_any, AVlt_sl, AVlt_ptr, AVlt_mp, AVlt_agg, AVlt_tup, AVlt_fn, RowsLt_nil, RowsLt_live, RowsLt_dead, List.mem_cons, List.not_mem_nil, List.forall_mem_cons, List.forall_mem_nil, or_false, false_or, forall_eq_or_imp, forall_eq, vs_lt, Nat.add_lt_add_iff_left, Nat.reduceLT, true_and, and_true, and_self, List.length_cons, List.length_nil, Nat.reduceAdd, Nat.zero_add, implies_true, false_imp_iff, lt_T, List.mem_map])))) (by ((try simp (disch := decide) only [hA, go_sem]) <;> (repeat' (first | exact trivial | refine And.intro ?_ ?_)) <;> (first | rfl | (congr 2; omega)))) (fun e => Weak.refl _ _ _) ?_
  intro g1 hE1 hEE1 hg1 p hp
  by_cases hpl : p < t.length
  · have hx : cA t (fun _ => 0) p = .live 0 1 [[.v (.isl 1 ((zeroM t.length).map eRw))]] := by
      unfold cA mRow
      rw [show fl (0 + 1) (fun i => [eMt t (p, i)]) = [[eMt t (p, 0)]] from rfl]
      unfold eMt
      rw [mtx_zero]; rfl
    have hcl : (fl p fun q => [AV.sl (B.length + (q + 1 + 1)) 0 0 1]).length = p := fl_len
    have tk : List.take p (fl p fun q => [AV.sl (B.length + (q + 1 + 1)) 0 0 1]) = fl p fun q => [AV.sl (B.length + (q + 1 + 1)) 0 0 1] := List.take_of_length_le (by rw [hcl]; exact Nat.le_refl _)
    simp (disch := (first | decide | omega)) only [hA, hg1, a0R, go_sem]
    refine ACalls.nxt (rmZero_val t.length (by omega) _ _) ?_
    simp (disch := (first | decide | omega)) only [hA, hg1, a0R, fl_len, tk, hcl, List.replicate_succ, List.replicate_zero, reduceCtorEq, setFrom, cellsOf, fa_at, fa_tail, fa_tail0, go_sem]
    refine ⟨p + 1, hpl, by simp only; omega, ?_⟩
    have hz := a0R_next (t := t) (base := B.length) (p := p) (junk := [Row.live 0 1 [[.sl (B.length + (p + 1 + 1)) 0 0 1]]]) hx
    rw [hz]
    exact Weak.kround (l1 := a0R t B.length (p + 1)) (p := r_All0) (k := 2) (by ((repeat refine (kAny_up rfl).trans ?_); exact hEE1)) (by ((try simp (disch := decide) only [hA, go_sem]) <;> (repeat' (first | exact trivial | refine And.intro ?_ ?_)) <;> (first | rfl | (congr 2; omega)))) rfl hE1 (by simp [a0R]) (by simp (disch := omega) only [KOvLt, a0R, List.length_cons, fl_len, AVlt_v, AVlt_any, AVlt_sl, AVlt_ptr, AVlt_mp, AVlt_agg, AVlt_tup, AVlt_fn, RowsLt_nil, RowsLt_live, RowsLt_dead, List.mem_cons, List.not_mem_nil, List.forall_mem_cons, List.forall_mem_nil, or_false, false_or, forall_eq_or_imp, forall_eq, vs_lt, Nat.add_lt_add_iff_left, Nat.reduceLT, true_and, and_true, and_self, List.length_cons, List.length_nil, Nat.reduceAdd, Nat.zero_add, implies_true, false_imp_iff, lt_T, List.mem_map]) hR (a0R_lt (by simp [a0R, fl_len]))
  · simp (disch := (first | decide | omega)) only [hA, hg1, a0R, go_sem]
    obtain rfl : p = t.length := by omega
    have z0 := a0R_all (t := t) (base := B.length)
    unfold a0R at z0
    refine loop_kept (ι := (Nat → Nat) × Bool) r_All1 (fun i => [(6, .v (.bool i.2))]) (t.length + 2) (fun i => aR t B.length i.1 [])
      (fun i => Dn t i.1 ∧ (i.2 = false → ∀ p, p < t.length → i.1 p = (evsOf t p).length)) (fun i => 2 * remT t i.1 + cond i.2 1 0) (fun _ => 0, true) ⟨fun p hp => Nat.zero_le _, fun h => by cases h⟩ (by (repeat (first | exact hE1.mono (by omega) | refine KLt.up ?_ (by simp (disch := omega) only [AVlt_v, AVlt_any, AVlt_sl, AVlt_ptr, AVlt_mp, AVlt_agg, AVlt_tup, AVlt_fn, RowsLt_nil, RowsLt_live, RowsLt_dead, List.mem_cons, List.not_mem_nil, List.forall_mem_cons, List.forall_mem_nil, or_false, false_or, forall_eq_or_imp, forall_eq, vs_lt, Nat.add_lt_add_iff_left, Nat.reduceLT, true_and, and_true, and_self, List.length_cons, List.length_nil, Nat.reduceAdd, Nat.zero_add, implies_true, false_imp_iff, lt_T, List.mem_map])))) (by ((try simp (disch := decide) only [hA, hg1, go_sem]) <;> (repeat' (first | exact trivial | refine And.intro ?_ ?_)) <;> (first | rfl | (congr 2; omega)))) (fun e => by rw [z0]; exact Weak.refl _ _ _) ?_
    rintro g2 hE2 hEE2 hg2 ⟨D0, ag0⟩ ⟨hD0, hag0⟩
    cases ag0 with
    | false =>
      have hall := hag0 rfl
      simp (disch := (first | decide | omega)) only [hA, hg1, hg2, go_sem]
      exact leave_all hall (by simp (disch := (first | decide | omega)) only [resVs, resV, hA, hg1, hg2, go_sem]) rfl hR hB ⟨rfl, rfl, rfl⟩
    | true =>
      simp (disch := (first | decide | omega)) only [hA, hg1, hg2, List.length_map, aR, go_sem]
      refine loop_kept (ι := Nat × (Nat → Nat) × Bool) r_All2 (fun i => [(6, .v (.bool i.2.2)), (7, .v (.int .i64 i.1))]) (t.length + 2) (fun i => aR t B.length i.2.1 [])
        (fun i => i.1 ≤ t.length ∧ Prg t D0 i.2.1 i.2.2 i.1) (fun i => t.length - i.1) (0, D0, false) ⟨Nat.zero_le _, hD0, fun _ => ⟨rfl, fun q hq => by omega⟩, fun h => by cases h⟩ (by (repeat (first | exact hE2.mono (by omega) | refine KLt.up ?_ (by simp (disch := omega) only [AVlt_v, AVlt_any, AVlt_sl, AVlt_ptr, AVlt_mp, AVlt_agg, AVlt_tup, AVlt_fn, RowsLt_nil, RowsLt_live, RowsLt_dead, List.mem_cons, List.not_mem_nil, List.forall_mem_cons, List.forall_mem_nil, or_false, false_or, forall_eq_or_imp, forall_eq, vs_lt, Nat.add_lt_add_iff_left, Nat.reduceLT, true_and, and_true, and_self, List.length_cons, List.length_nil, Nat.reduceAdd, Nat.zero_add, implies_true, false_imp_iff, lt_T, List.mem_map])))) (by ((try simp (disch := decide) only [hA, hg1, hg2, go_sem]) <;> (repeat' (first | exact trivial | refine And.intro ?_ ?_)) <;> (first | rfl | (congr 2; omega)))) (fun e => by unfold aR; rw [List.append_nil]; exact Weak.refl _ _ _) ?_
      rintro g3 hE3 hEE3 hg3 ⟨p, D, ag⟩ ⟨hp, hP⟩
      simp only at hp hP
      by_cases hlt : p < t.length
      · have heq := evsOf_lt hlt
        have hne := hS.ne _ (List.getElem_mem hlt)
        by_cases hd : D p < (evsOf t p).length
        · have hd' : D p < t[p].evs.length := by rw [← heq]; exact hd
          have hx : (p, D p + 1) ∈ ids t := mem_ids2.2 ⟨hlt, hd⟩
          have hev := evAt_eq hlt hd'
          have hcd : decide (((D p + 1 : Nat) : Int) > (t[p].evs.length : Int)) = false := decide_eq_false (by omega)
          have hcd' : decide ((t[p].evs.length : Int) < ((D p + 1 : Nat) : Int)) = false := hcd
          have hc1 : ((D p + 1 : Nat) : Int) - 1 = (D p : Int) := by omega
          have hrw : ∀ q k, (mRow t q k).length = k := fun q k => fl_len
          have hg : ∀ q k j, j < k → (mRow t q k)[j]? = some [eMt t (q, j)] := fun q k j h => fl_get h
          have tkr : List.take (D p + 1) (mRow t p (D p + 1)) = mRow t p (D p + 1) := List.take_of_length_le (by rw [hrw]; exact Nat.le_refl _)
          have hgp := hg p (D p + 1) (D p) (by omega)
          have hsn : mRow t p (D p + 1) ++ [[eMt t (p, D p + 1)]] = mRow t p (D p + 1 + 1) := fl_next rfl
          have hprg : Prg t D0 (fUp D p (D p + 1)) true (p + 1) := by
            have hst := remT_step hlt hd
            refine ⟨fun q hq => ?_, (fun h => by cases h), fun _ => ?_⟩
            · by_cases hqp : q = p
              · subst hqp; rw [fUp_same]; omega
              · rw [fUp_ne hqp]; exact hP.1 q hq
            · cases ag with
              | true => have := hP.2.2 rfl; omega
              | false => rw [← (hP.2.1 rfl).1]; omega
          have hou := oA_up (n := t.length) (base := B.length) (p := p) (D := D)
          have hcu := cA_up (t := t) (n := t.length) (p := p) (D := D)
          by_cases hk : (evAt t (p, D p + 1)).kind = 3
          · have hkb : (t[p].evs[D p].kind != 3) = false := by rw [← hev, hk]; rfl
            obtain ⟨hpr, hsne, hsk, hsm⟩ := sndr_peer hv hx hk
            obtain ⟨hsi, hsb⟩ := sndr_in hv hx hk
            have hmr := mtx_recv hv hx hk
            have hfd : findV t 2 t[p].evs[D p].msg = sndr t (p, D p + 1) := by unfold sndr; rw [hev]
            obtain ⟨⟨sp, si⟩, hsd⟩ : ∃ y, sndr t (p, D p + 1) = y := ⟨_, rfl⟩
            rw [hsd] at hsi hmr hfd hsne
            obtain ⟨hsp, hs1, hs2⟩ := mem_ids.1 hsi
            simp only at hsp hs1 hs2 hsne hmr
            have hdp := hP.1 sp hsp
            have hfs := find_spec t hS hN 2 t[p].evs[D p].msg
            rw [hfd] at hfs
            simp only [idA, eT] at hfs
            simp (disch := (first | decide | omega)) only [hA, hg1, hg2, hg3, ePr, eEv, List.length_map, aR, fl_len, fa_at, fa_tail, fa_tail0, fa_set, fa_settail, fa_settail0, fl_get, hcd, hcd', hc1, hkb, go_sem]
            refine ACalls.nxt (hfs _ _) ?_
            by_cases hr : si ≤ D sp
            · have hlt2 : decide ((si : Int) < ((D sp + 1 : Nat) : Int)) = true := decide_eq_true (by omega)
              have hgs := hg sp (D sp + 1) si (by omega)
              have hrr : rRecvR (mtx t (p, D p)) p (mtx t (sp, si)) sp = .tup [.v (eMt t (p, D p + 1)), .v (.bool (decide (ent (recvM (mtx t (p, D p)) p (mtx t (sp, si)) sp) p p + 1 ≤ 1125899906842624)))] := by
                unfold rRecvR rTickR eMt; rw [← hmr]
              simp (disch := (first | decide | omega)) only [hA, hg1, hg2, hg3, List.length_map, fl_len, fa_at, fa_tail, fa_tail0, fa_set, fa_settail, fa_settail0, fl_get, hc1, cA, hgp, hgs, hlt2, hrw, go_sem]
              refine ACalls.nxt (rmReceive_spec (mtx t (p, D p)) (mtx t (sp, si)) (mtx_isM hv hS hv.lo _) (mtx_isM hv hS hv.lo _) (by rw [mtx_len, mtx_len]) p sp (by rw [mtx_len]; exact hlt) (by rw [mtx_len]; exact hsp) _ _) ?_
              rw [hrr]
              simp (disch := (first | decide | omega)) only [hA, hg1, hg2, hg3, List.length_map, fl_len, fa_at, fa_tail, fa_tail0, fa_set, fa_settail, fa_settail0, fl_get, hc1, cA, hrw, tkr, hsn, setFrom, cellsOf, List.replicate_succ, List.replicate_zero, reduceCtorEq, go_sem]
              rw [hou, hcu]
              refine ⟨(p + 1, fUp D p (D p + 1), true), ⟨hlt, hprg⟩, by simp only; omega, ?_⟩
              exact Weak.kround (l1 := Row.live 0 1 [[AV.v (.isl 3 (t.map ePr))]] :: Row.live t.length 1 (fl t.length fun q => [AV.sl (B.length + (q + 1 + 1)) (fUp D p (D p + 1) q) 0 (fUp D p (D p + 1) q + 1)]) :: fl t.length (cA t (fUp D p (D p + 1)))) (p := r_All2) (k := t.length + 2) (by ((repeat refine (kAny_up rfl).trans ?_); exact hEE3)) (by ((try simp (disch := decide) only [hA, go_sem]) <;> (repeat' (first | exact trivial | refine And.intro ?_ ?_)) <;> (first | rfl | (congr 2; omega)))) rfl (by (repeat (first | exact hE3.mono (by omega) | refine KLt.up ?_ (by simp (disch := omega) only [AVlt_v, AVlt_any, AVlt_sl, AVlt_ptr, AVlt_mp, AVlt_agg, AVlt_tup, AVlt_fn, RowsLt_nil, RowsLt_live, RowsLt_dead, List.mem_cons, List.not_mem_nil, List.forall_mem_cons, List.forall_mem_nil, or_false, false_or, forall_eq_or_imp, forall_eq, vs_lt, Nat.add_lt_add_iff_left, Nat.reduceLT, true_and, and_true, and_self, List.length_cons, List.length_nil, Nat.reduceAdd, Nat.zero_add, implies_true, false_imp_iff, lt_T, List.mem_map])))) (by simp [fl_len]) (by simp (disch := omega) only [KOvLt, AVlt_v, AVlt_any, AVlt_sl, AVlt_ptr, AVlt_mp, AVlt_agg, AVlt_tup, AVlt_fn, RowsLt_nil, RowsLt_live, RowsLt_dead, List.mem_cons, List.not_mem_nil, List.forall_mem_cons, List.forall_mem_nil, or_false, false_or, forall_eq_or_imp, forall_eq, vs_lt, Nat.add_lt_add_iff_left, Nat.reduceLT, true_and, and_true, and_self, List.length_cons, List.length_nil, Nat.reduceAdd, Nat.zero_add, implies_true, false_imp_iff, lt_T, List.mem_map]) hR (aR_lt0 (by simp [fl_len]))
            · have hlt2 : decide ((si : Int) < ((D sp + 1 : Nat) : Int)) = false := decide_eq_false (by omega)
              simp (disch := (first | decide | omega)) only [hA, hg1, hg2, hg3, List.length_map, fl_len, fa_at, fa_tail, fa_tail0, fa_set, fa_settail, fa_settail0, fl_get, hlt2, go_sem]
              refine ⟨(p + 1, D, ag), ⟨hlt, hP.1, fun h => ⟨(hP.2.1 h).1, fun q hq hr2 => ?_⟩, hP.2.2⟩, by simp only; omega, ?_⟩
              · by_cases hqp : q = p
                · subst hqp
                  rw [← (hP.2.1 h).1] at hr2
                  have := hr2.2 hk
                  rw [hsd] at this
                  exact hr this
                · exact (hP.2.1 h).2 q (by omega) hr2
              · exact Weak.kround (l1 := Row.live 0 1 [[AV.v (.isl 3 (t.map ePr))]] :: Row.live t.length 1 (fl t.length fun q => [AV.sl (B.length + (q + 1 + 1)) (D q) 0 (D q + 1)]) :: fl t.length (cA t D)) (p := r_All2) (k := t.length + 2) (by ((repeat refine (kAny_up rfl).trans ?_); exact hEE3)) (by ((try simp (disch := decide) only [hA, go_sem]) <;> (repeat' (first | exact trivial | refine And.intro ?_ ?_)) <;> (first | rfl | (congr 2; omega)))) rfl (by (repeat (first | exact hE3.mono (by omega) | refine KLt.up ?_ (by simp (disch := omega) only [AVlt_v, AVlt_any, AVlt_sl, AVlt_ptr, AVlt_mp, AVlt_agg, AVlt_tup, AVlt_fn, RowsLt_nil, RowsLt_live, RowsLt_dead, List.mem_cons, List.not_mem_nil, List.forall_mem_cons, List.forall_mem_nil, or_false, false_or, forall_eq_or_imp, forall_eq, vs_lt, Nat.add_lt_add_iff_left, Nat.reduceLT, true_and, and_true, and_self, List.length_cons, List.length_nil, Nat.reduceAdd, Nat.zero_add, implies_true, false_imp_iff, lt_T, List.mem_map])))) (by simp [fl_len]) (by simp (disch := omega) only [KOvLt, AVlt_v, AVlt_any, AVlt_sl, AVlt_ptr, AVlt_mp, AVlt_agg, AVlt_tup, AVlt_fn, RowsLt_nil, RowsLt_live, RowsLt_dead, List.mem_cons, List.not_mem_nil, List.forall_mem_cons, List.forall_mem_nil, or_false, false_or, forall_eq_or_imp, forall_eq, vs_lt, Nat.add_lt_add_iff_left, Nat.reduceLT, true_and, and_true, and_self, List.length_cons, List.length_nil, Nat.reduceAdd, Nat.zero_add, implies_true, false_imp_iff, lt_T, List.mem_map]) hR (aR_lt0 (by simp [fl_len]))
          · have hkb : (t[p].evs[D p].kind != 3) = true := by rw [← hev]; simpa using hk
            have hrt : rTickR (mtx t (p, D p)) p = .tup [.v (eMt t (p, D p + 1)), .v (.bool (decide (ent (mtx t (p, D p)) p p + 1 ≤ 1125899906842624)))] := by
              unfold rTickR eMt; rw [← mtx_tick hv hx hk]
            simp (disch := (first | decide | omega)) only [hA, hg1, hg2, hg3, ePr, eEv, List.length_map, aR, fl_len, fa_at, fa_tail, fa_tail0, fa_set, fa_settail, fa_settail0, fl_get, hcd, hcd', hc1, hkb, cA, hgp, go_sem]
            refine ACalls.nxt (rmTick_spec (mtx t (p, D p)) (mtx_isM hv hS hv.lo _) p (by rw [mtx_len]; exact hlt) _ _) ?_
            rw [hrt]
            simp (disch := (first | decide | omega)) only [hA, hg1, hg2, hg3, List.length_map, fl_len, fa_at, fa_tail, fa_tail0, fa_set, fa_settail, fa_settail0, fl_get, hc1, cA, hrw, tkr, hsn, setFrom, cellsOf, List.replicate_succ, List.replicate_zero, reduceCtorEq, go_sem]
            rw [hou, hcu]
            refine ⟨(p + 1, fUp D p (D p + 1), true), ⟨hlt, hprg⟩, by simp only; omega, ?_⟩
            exact Weak.kround (l1 := Row.live 0 1 [[AV.v (.isl 3 (t.map ePr))]] :: Row.live t.length 1 (fl t.length fun q => [AV.sl (B.length + (q + 1 + 1)) (fUp D p (D p + 1) q) 0 (fUp D p (D p + 1) q + 1)]) :: fl t.length (cA t (fUp D p (D p + 1)))) (p := r_All2) (k := t.length + 2) (by ((repeat refine (kAny_up rfl).trans ?_); exact hEE3)) (by ((try simp (disch := decide) only [hA, go_sem]) <;> (repeat' (first | exact trivial | refine And.intro ?_ ?_)) <;> (first | rfl | (congr 2; omega)))) rfl (by (repeat (first | exact hE3.mono (by omega) | refine KLt.up ?_ (by simp (disch := omega) only [AVlt_v, AVlt_any, AVlt_sl, AVlt_ptr, AVlt_mp, AVlt_agg, AVlt_tup, AVlt_fn, RowsLt_nil, RowsLt_live, RowsLt_dead, List.mem_cons, List.not_mem_nil, List.forall_mem_cons, List.forall_mem_nil, or_false, false_or, forall_eq_or_imp, forall_eq, vs_lt, Nat.add_lt_add_iff_left, Nat.reduceLT, true_and, and_true, and_self, List.length_cons, List.length_nil, Nat.reduceAdd, Nat.zero_add, implies_true, false_imp_iff, lt_T, List.mem_map])))) (by simp [fl_len]) (by simp (disch := omega) only [KOvLt, AVlt_v, AVlt_any, AVlt_sl, AVlt_ptr, AVlt_mp, AVlt_agg, AVlt_tup, AVlt_fn, RowsLt_nil, RowsLt_live, RowsLt_dead, List.mem_cons, List.not_mem_nil, List.forall_mem_cons, List.forall_mem_nil, or_false, false_or, forall_eq_or_imp, forall_eq, vs_lt, Nat.add_lt_add_iff_left, Nat.reduceLT, true_and, and_true, and_self, List.length_cons, List.length_nil, Nat.reduceAdd, Nat.zero_add, implies_true, false_imp_iff, lt_T, List.mem_map]) hR (aR_lt0 (by simp [fl_len]))
        · have hcd : decide (((D p + 1 : Nat) : Int) > (t[p].evs.length : Int)) = true := decide_eq_true (by rw [heq] at hd; omega)
          have hcd' : decide ((t[p].evs.length : Int) < ((D p + 1 : Nat) : Int)) = true := hcd
          simp (disch := (first | decide | omega)) only [hA, hg1, hg2, hg3, ePr, List.length_map, aR, fl_len, fa_at, fa_tail, fa_tail0, fa_set, fa_settail, fa_settail0, fl_get, hcd, hcd', go_sem]
          refine ⟨(p + 1, D, ag), ⟨hlt, hP.1, fun h => ⟨(hP.2.1 h).1, fun q hq hr => ?_⟩, hP.2.2⟩, by simp only; omega, ?_⟩
          · by_cases hqp : q = p
            · subst hqp; rw [← (hP.2.1 h).1] at hr; exact hd hr.1
            · exact (hP.2.1 h).2 q (by omega) hr
          · refine Weak.kround (p := r_All2) (k := t.length + 2) (junk := []) (by ((repeat refine (kAny_up rfl).trans ?_); exact hEE3)) (by ((try simp (disch := decide) only [hA, go_sem]) <;> (repeat' (first | exact trivial | refine And.intro ?_ ?_)) <;> (first | rfl | (congr 2; omega)))) (by simp) (by (repeat (first | exact hE3.mono (by omega) | refine KLt.up ?_ (by simp (disch := omega) only [AVlt_v, AVlt_any, AVlt_sl, AVlt_ptr, AVlt_mp, AVlt_agg, AVlt_tup, AVlt_fn, RowsLt_nil, RowsLt_live, RowsLt_dead, List.mem_cons, List.not_mem_nil, List.forall_mem_cons, List.forall_mem_nil, or_false, false_or, forall_eq_or_imp, forall_eq, vs_lt, Nat.add_lt_add_iff_left, Nat.reduceLT, true_and, and_true, and_self, List.length_cons, List.length_nil, Nat.reduceAdd, Nat.zero_add, implies_true, false_imp_iff, lt_T, List.mem_map])))) (by simp [fl_len]) (by simp (disch := omega) only [KOvLt, AVlt_v, AVlt_any, AVlt_sl, AVlt_ptr, AVlt_mp, AVlt_agg, AVlt_tup, AVlt_fn, RowsLt_nil, RowsLt_live, RowsLt_dead, List.mem_cons, List.not_mem_nil, List.forall_mem_cons, List.forall_mem_nil, or_false, false_or, forall_eq_or_imp, forall_eq, vs_lt, Nat.add_lt_add_iff_left, Nat.reduceLT, true_and, and_true, and_self, List.length_cons, List.length_nil, Nat.reduceAdd, Nat.zero_add, implies_true, false_imp_iff, lt_T, List.mem_map]) hR (aR_lt0 (by simp [fl_len]))
      · simp (disch := (first | decide | omega)) only [hA, hg1, hg2, hg3, aR, go_sem]
        obtain rfl : p = t.length := by omega
        refine ⟨(D, ag), ⟨hP.1, fun h => ?_⟩, ?_, ?_⟩
        · obtain ⟨e1, e2⟩ := hP.2.1 h
          simp only
          rw [e1]
          exact none_left hv hD0 e2
        · cases ag with
          | true => have := hP.2.2 rfl; simp only [cond]; omega
          | false => rw [(hP.2.1 rfl).1]; simp only [cond]; omega
        · refine Weak.kround (p := r_All1) (k := t.length + 2) (junk := []) (by ((repeat refine (kAny_up rfl).trans ?_); refine (kAny_sub hg3 (kIn_sub rfl)).trans ?_; (repeat refine (kAny_up rfl).trans ?_); exact hEE2)) (by ((try simp (disch := decide) only [hA, go_sem]) <;> (repeat' (first | exact trivial | refine And.intro ?_ ?_)) <;> (first | rfl | (congr 2; omega)))) (by simp) (by (repeat (first | exact hE2.mono (by omega) | refine KLt.up ?_ (by simp (disch := omega) only [AVlt_v, AVlt_any, AVlt_sl, AVlt_ptr, AVlt_mp, AVlt_agg, AVlt_tup, AVlt_fn, RowsLt_nil, RowsLt_live, RowsLt_dead, List.mem_cons, List.not_mem_nil, List.forall_mem_cons, List.forall_mem_nil, or_false, false_or, forall_eq_or_imp, forall_eq, vs_lt, Nat.add_lt_add_iff_left, Nat.reduceLT, true_and, and_true, and_self, List.length_cons, List.length_nil, Nat.reduceAdd, Nat.zero_add, implies_true, false_imp_iff, lt_T, List.mem_map])))) (by simp [fl_len]) (by simp (disch := omega) only [KOvLt, AVlt_v, AVlt_any, AVlt_sl, AVlt_ptr, AVlt_mp, AVlt_agg, AVlt_tup, AVlt_fn, RowsLt_nil, RowsLt_live, RowsLt_dead, List.mem_cons, List.not_mem_nil, List.forall_mem_cons, List.forall_mem_nil, or_false, false_or, forall_eq_or_imp, forall_eq, vs_lt, Nat.add_lt_add_iff_left, Nat.reduceLT, true_and, and_true, and_self, List.length_cons, List.length_nil, Nat.reduceAdd, Nat.zero_add, implies_true, false_imp_iff, lt_T, List.mem_map]) hR (aR_lt0 (by simp [fl_len]))
end Go.Proofs.Ytoaopldaleaijaa

namespace Go.Proofs.Ytoaopldaleaijaa
set_option linter.unusedVariables false
set_option linter.unusedSimpArgs false
attribute [local go_sem ↓] run_skip run_region run_draw run_seq run_block run_exit run_ret run_cond atN_app seqC_normal seqC_exit seqC_ret seqQ_normal seqQ_exit seqQ_ret blkQ_normal blkQ_exit blkQ_ret runOps_nil runOps_cons runD_nil runD_cons grdO_true grdO_false grdD_true grdD_false ifC_true ifC_false opS_val opS_call opS_two opK_app dS_val dS_call dS_two dK_app kUp_same kUp_ne
attribute [local go_sem] rechks_nil rechks_cons rechk gcase_true gcase_false ex_val ex_val0 gd_none gd_some ev_t ev_c evs_nil evs_cons evo_some evo_none hget_at hget_first hsetB_at hsetB_first hsetL_at hsetL_first ofOpt_some aop aload astore aslice aappend aiaddr aiaddrA afaddr alen alenS acopy amm acall alookup amupdate alenM comma keyEq apick binV binVB binVS isSh intOp strOp boolOp shOp eqC eqF and2 cellsOf setFrom fillA fillS rd rdI elems mk bounds AV.cell List.all_cons List.all_nil Bool.and_true Bool.true_and Bool.and_self List.length_cons List.length_nil List.length_append Nat.reduceAdd Nat.reduceSub Nat.reduceMul Nat.zero_add Nat.add_zero List.cons_append List.nil_append List.append_assoc List.append_nil List.getElem?_cons_zero List.getElem?_cons_succ List.getElem?_nil List.set_cons_zero List.set_cons_succ List.drop_zero List.drop_succ_cons List.take_zero List.take_succ_cons List.take_nil List.drop_nil List.map_cons List.map_nil Option.map_some if_true if_false Bool.false_eq_true and_self true_and and_true Nat.reduceLeDiff Nat.reduceLT Nat.le_refl Nat.reduceEqDiff ite_true ite_false beq_self_eq_true beq_true beq_false Bool.not_true Bool.not_false Bool.true_beq Bool.false_beq map_vs vs_len vs_get vs_take vs_drop vs_snoc1 vs_snoc2 vs_snoc3 vs_snoc5 vs_set1 vs_set2 vs_rep wrap_id le_T lt_T le_F lt_F leI_T ltI_T leI_F ltI_F geI gtI get_T decide_true decide_false room List.getElem?_map List.length_map List.length_take Int.toNat_natCast Nat.min_def Nat.min_self nth_kOf put_kOf put_kNo kOv_cons kOv_nil KHas KArgs List.getElem_cons_zero List.getElem_cons_succ
def a_MatrixTraces : AFunc := ⟨2, 133, [.tmp 4],
  (.seq (.region [⟨(some 2), .box (.t 0), none⟩, ⟨(some 3), .box (.t 1), none⟩, ⟨(some 4), .mv (.c (.v (.bool false))), none⟩])
  (.seq (.seq (.region [⟨(some 11), .call (.c (.fn 53 [])) [], none⟩, ⟨(some 12), .not (.t 11), none⟩])
  (.cond (.t 12) (.seq (.region [⟨(some 4), .mv (.c (.v (.bool false))), none⟩])
  .ret)
  .skip))
  (.seq (.seq (.region [⟨(some 13), .load (some 1) (.t 2), none⟩, ⟨(some 14), .call (.c (.fn 54 [])) [(.t 13)], none⟩, ⟨(some 15), .not (.t 14), none⟩])
  (.cond (.t 15) (.seq (.region [⟨(some 4), .mv (.c (.v (.bool true))), none⟩])
  .ret)
  .skip))
  (.seq (.region [⟨(some 17), .load (some 1) (.t 2), none⟩, ⟨(some 18), .load (some 2) (.t 3), none⟩, ⟨(some 19), .call (.c (.fn 55 [])) [(.t 17), (.t 18)], none⟩, ⟨(some 16), .mv (.t 19), none⟩, ⟨(some 20), .extract 0 (.t 16), none⟩, ⟨(some 21), .extract 1 (.t 16), none⟩, ⟨(some 5), .mv (.t 20), none⟩, ⟨(some 6), .mv (.t 21), none⟩])
  (.seq (.region [⟨(some 23), .load (some 1) (.t 2), none⟩, ⟨(some 24), .call (.c (.fn 56 [])) [(.t 23)], none⟩, ⟨(some 22), .mv (.t 24), none⟩, ⟨(some 25), .extract 0 (.t 22), none⟩, ⟨(some 26), .extract 1 (.t 22), none⟩, ⟨(some 7), .mv (.t 25), none⟩, ⟨(some 8), .mv (.t 26), none⟩])
  (.seq (.seq (.region [⟨(some 27), .load (some 1) (.t 2), none⟩, ⟨(some 28), .call (.c (.fn 17 [])) [(.t 27)], none⟩, ⟨(some 29), .not (.t 28), none⟩])
  (.cond (.t 29) (.seq (.region [⟨(some 30), .mv (.t 5), none⟩, ⟨(some 31), .len (.t 30), none⟩, ⟨(some 32), .bin .eql (.t 31) (.c (.v (.int .i64 0))), none⟩, ⟨(some 33), .mv (.t 32), none⟩, ⟨(some 34), .mv (.t 6), some (33, true)⟩, ⟨(some 35), .bin .eql (.t 34) (.c (.v (.int .i64 1))), some (33, true)⟩, ⟨(some 36), .pick (.t 33) (.t 35) (.c (.v (.bool false))), none⟩, ⟨(some 37), .mv (.t 36), none⟩, ⟨(some 38), .mv (.t 7), some (37, true)⟩, ⟨(some 39), .len (.t 38), some (37, true)⟩, ⟨(some 40), .bin .eql (.t 39) (.c (.v (.int .i64 0))), some (37, true)⟩, ⟨(some 41), .pick (.t 37) (.t 40) (.c (.v (.bool false))), none⟩, ⟨(some 42), .mv (.t 41), none⟩, ⟨(some 43), .mv (.t 8), some (42, true)⟩, ⟨(some 44), .bin .eql (.t 43) (.c (.v (.int .i64 1))), some (42, true)⟩, ⟨(some 45), .pick (.t 42) (.t 44) (.c (.v (.bool false))), none⟩, ⟨(some 4), .mv (.t 45), none⟩])
  .ret)
  .skip))
  (.seq (.region [⟨(some 46), .load (some 1) (.t 2), none⟩, ⟨(some 47), .call (.c (.fn 57 [])) [(.t 46)], none⟩, ⟨(some 9), .mv (.t 47), none⟩])
  (.seq (.seq (.region [⟨(some 48), .mv (.t 8), none⟩, ⟨(some 49), .bin .neq (.t 48) (.c (.v (.int .i64 0))), none⟩, ⟨(some 50), .mv (.t 49), none⟩, ⟨(some 51), .mv (.t 7), some (50, false)⟩, ⟨(some 52), .len (.t 51), some (50, false)⟩, ⟨(some 53), .faddr 0 (.t 2), some (50, false)⟩, ⟨(some 54), .load none (.t 53), some (50, false)⟩, ⟨(some 55), .len (.t 54), some (50, false)⟩, ⟨(some 56), .bin .neq (.t 52) (.t 55), some (50, false)⟩, ⟨(some 57), .pick (.t 50) (.c (.v (.bool true))) (.t 56), none⟩])
  (.cond (.t 57) (.seq (.region [⟨(some 4), .mv (.c (.v (.bool false))), none⟩])
  .ret)
  .skip))
  (.seq (.seq (.region [⟨(some 58), .mv (.t 7), none⟩, ⟨(some 59), .len (.t 58), none⟩, ⟨(some 60), .mv (.c (.v (.int .i64 0))), none⟩])
  (.block 0 (.loop (.seq (.region [⟨(some 61), .bin .lss (.t 60) (.t 59), none⟩])
  (.seq (.cond (.t 61) .skip
  (.exit 0))
  (.seq (.block 1 (.seq (.region [⟨(some 62), .mv (.t 60), none⟩, ⟨(some 10), .mv (.t 62), none⟩])
  (.seq (.draw [⟨0, ⟨(some 63), .mv (.t 7), none⟩, []⟩, ⟨1, ⟨(some 64), .mv (.t 10), none⟩, []⟩, ⟨2, ⟨(some 65), .iaddr 1 (.t 63) (.t 64), none⟩, []⟩, ⟨3, ⟨(some 66), .load none (.t 65), none⟩, []⟩, ⟨4, ⟨(some 67), .mv (.t 9), none⟩, []⟩, ⟨5, ⟨(some 68), .mv (.t 10), none⟩, []⟩, ⟨6, ⟨(some 69), .iaddr 1 (.t 67) (.t 68), none⟩, []⟩, ⟨7, ⟨(some 70), .load none (.t 69), none⟩, []⟩, ⟨8, ⟨(some 71), .mv (.t 9), none⟩, []⟩, ⟨9, ⟨(some 72), .mv (.t 10), none⟩, []⟩, ⟨10, ⟨(some 73), .iaddr 1 (.t 71) (.t 72), none⟩, []⟩, ⟨11, ⟨(some 74), .load none (.t 73), none⟩, []⟩, ⟨12, ⟨(some 75), .len (.t 74), none⟩, []⟩, ⟨13, ⟨(some 76), .bin .sub (.t 75) (.c (.v (.int .i64 1))), none⟩, []⟩, ⟨14, ⟨(some 77), .iaddr 1 (.t 70) (.t 76), none⟩, []⟩, ⟨15, ⟨(some 78), .load none (.t 77), none⟩, []⟩, ⟨16, ⟨(some 79), .call (.c (.fn 58 [])) [(.t 66), (.t 78)], none⟩, []⟩, ⟨17, ⟨(some 80), .not (.t 79), none⟩, []⟩])
  (.cond (.t 80) (.seq (.region [⟨(some 4), .mv (.c (.v (.bool false))), none⟩])
  .ret)
  .skip))))
  (.region [⟨(some 81), .bin .add (.t 60) (.c (.v (.int .i64 1))), none⟩, ⟨(some 60), .mv (.t 81), none⟩])))))))
  (.seq (.seq (.draw [⟨0, ⟨(some 82), .faddr 0 (.t 3), none⟩, []⟩, ⟨1, ⟨(some 83), .load none (.t 82), none⟩, []⟩, ⟨2, ⟨(some 84), .bin .lss (.t 83) (.c (.v (.int .i64 0))), none⟩, []⟩, ⟨3, ⟨(some 85), .mv (.t 84), none⟩, []⟩, ⟨4, ⟨(some 86), .faddr 0 (.t 3), some (85, false)⟩, []⟩, ⟨5, ⟨(some 87), .load none (.t 86), some (85, false)⟩, []⟩, ⟨6, ⟨(some 88), .faddr 0 (.t 2), some (85, false)⟩, []⟩, ⟨7, ⟨(some 89), .load none (.t 88), some (85, false)⟩, []⟩, ⟨8, ⟨(some 90), .len (.t 89), some (85, false)⟩, []⟩, ⟨9, ⟨(some 91), .bin .geq (.t 87) (.t 90), some (85, false)⟩, []⟩, ⟨10, ⟨(some 92), .pick (.t 85) (.c (.v (.bool true))) (.t 91), none⟩, []⟩, ⟨11, ⟨(some 93), .mv (.t 92), none⟩, []⟩, ⟨12, ⟨(some 94), .faddr 1 (.t 3), some (93, false)⟩, []⟩, ⟨13, ⟨(some 95), .load none (.t 94), some (93, false)⟩, []⟩, ⟨14, ⟨(some 96), .bin .lss (.t 95) (.c (.v (.int .i64 0))), some (93, false)⟩, []⟩, ⟨15, ⟨(some 97), .pick (.t 93) (.c (.v (.bool true))) (.t 96), none⟩, []⟩, ⟨16, ⟨(some 98), .mv (.t 97), none⟩, []⟩, ⟨17, ⟨(some 99), .faddr 1 (.t 3), some (98, false)⟩, []⟩, ⟨18, ⟨(some 100), .load none (.t 99), some (98, false)⟩, []⟩, ⟨19, ⟨(some 101), .faddr 0 (.t 2), some (98, false)⟩, []⟩, ⟨20, ⟨(some 102), .load none (.t 101), some (98, false)⟩, []⟩, ⟨21, ⟨(some 103), .faddr 0 (.t 3), some (98, false)⟩, []⟩, ⟨22, ⟨(some 104), .load none (.t 103), some (98, false)⟩, []⟩, ⟨23, ⟨(some 105), .iaddr 3 (.t 102) (.t 104), some (98, false)⟩, []⟩, ⟨24, ⟨(some 106), .faddr 2 (.t 105), some (98, false)⟩, []⟩, ⟨25, ⟨(some 107), .load none (.t 106), some (98, false)⟩, []⟩, ⟨26, ⟨(some 108), .len (.t 107), some (98, false)⟩, []⟩, ⟨27, ⟨(some 109), .bin .gtr (.t 100) (.t 108), some (98, false)⟩, []⟩, ⟨28, ⟨(some 110), .pick (.t 98) (.c (.v (.bool true))) (.t 109), none⟩, []⟩])
  (.cond (.t 110) (.seq (.region [⟨(some 111), .mv (.t 5), none⟩, ⟨(some 112), .len (.t 111), none⟩, ⟨(some 113), .bin .eql (.t 112) (.c (.v (.int .i64 0))), none⟩, ⟨(some 114), .mv (.t 113), none⟩, ⟨(some 115), .mv (.t 6), some (114, true)⟩, ⟨(some 116), .bin .eql (.t 115) (.c (.v (.int .i64 2))), some (114, true)⟩, ⟨(some 117), .pick (.t 114) (.t 116) (.c (.v (.bool false))), none⟩, ⟨(some 4), .mv (.t 117), none⟩])
  .ret)
  .skip))
  (.seq (.draw [⟨0, ⟨(some 118), .mv (.t 6), none⟩, []⟩, ⟨1, ⟨(some 119), .bin .eql (.t 118) (.c (.v (.int .i64 0))), none⟩, []⟩, ⟨2, ⟨(some 120), .mv (.t 119), none⟩, []⟩, ⟨3, ⟨(some 121), .mv (.t 5), some (120, true)⟩, []⟩, ⟨4, ⟨(some 122), .mv (.t 9), some (120, true)⟩, []⟩, ⟨5, ⟨(some 123), .faddr 0 (.t 3), some (120, true)⟩, []⟩, ⟨6, ⟨(some 124), .load none (.t 123), some (120, true)⟩, []⟩, ⟨7, ⟨(some 125), .iaddr 1 (.t 122) (.t 124), some (120, true)⟩, []⟩, ⟨8, ⟨(some 126), .load none (.t 125), some (120, true)⟩, []⟩, ⟨9, ⟨(some 127), .faddr 1 (.t 3), some (120, true)⟩, []⟩, ⟨10, ⟨(some 128), .load none (.t 127), some (120, true)⟩, []⟩, ⟨11, ⟨(some 129), .iaddr 1 (.t 126) (.t 128), some (120, true)⟩, []⟩, ⟨12, ⟨(some 130), .load none (.t 129), some (120, true)⟩, []⟩, ⟨13, ⟨(some 131), .call (.c (.fn 58 [])) [(.t 121), (.t 130)], some (120, true)⟩, []⟩, ⟨14, ⟨(some 132), .pick (.t 120) (.t 131) (.c (.v (.bool false))), none⟩, []⟩, ⟨15, ⟨(some 4), .mv (.t 132), none⟩, []⟩])
  .ret)))))))))))⟩
theorem a_MatrixTraces_ok : cFunc Try.prog 10 = some a_MatrixTraces := by kernel_rfl
def r_MatrixTraces0 : List (Nat × Nat) := [(4, 4), (10, 10), (60, 81)]

set_option maxRecDepth 20000 in
set_option maxHeartbeats 2000000 in
theorem matrixTraces_run (t : Tr) (x : Int × Int) (hg : OkTr t) (b l : List Row) :
    ACalls Try.prog 10 [.agg [.v (eT t)], idP x] b l (fun r b' l' => r = .v (.bool true) ∧ b' = b ∧ l' = l) := by
  refine calls_kept a_MatrixTraces_ok rfl (by decide) ?_
  intro B g hB hR hE hA
  simp only [KArgs] at hA
  have hN := hg.nm
  simp (disch := decide) only [a_MatrixTraces, hA, idP, go_sem]
  refine ACalls.nxt (awake16_spec _ _) ?_
  simp (disch := decide) only [hA, go_sem]
  refine ACalls.nxt (small16_spec t (okTr_len hg) _ _) ?_
  cases hf : sm16B t with
  | false =>
    simp (disch := decide) only [hA, go_sem]
    exact leave_pure (xs := [.v (.bool true)]) (.inr rfl) (by simp (disch := (first | decide | omega)) only [resVs, resV, go_sem, hA]) (by simp only [one, AVlt_v, AVlt_any, AVlt_sl, AVlt_ptr, AVlt_mp, AVlt_agg, AVlt_tup, AVlt_fn, RowsLt_nil, RowsLt_live, RowsLt_dead, List.mem_cons, List.not_mem_nil, List.forall_mem_cons, List.forall_mem_nil, or_false, false_or, forall_eq_or_imp, forall_eq, vs_lt, Nat.add_lt_add_iff_left, Nat.reduceLT, true_and, and_true, and_self, List.length_cons, List.length_nil, Nat.reduceAdd, Nat.zero_add, implies_true, false_imp_iff, lt_T, List.mem_map]) hR hB ⟨rfl, rfl, rfl⟩
  | true =>
    have hM := sm16_sm (okTr_len hg) hf
    have h00 : ((0 : Int) == 0) = true := rfl
    have h11 : ((1 : Int) == 1) = true := rfl
    have h22 : ((2 : Int) == 2) = true := rfl
    have hn0 : ((0 : Int) != 0) = false := rfl
    have hnn : ∀ n : Int, (n != n) = false := fun n => by simp
    simp (disch := decide) only [hA, go_sem]
    refine ACalls.nxt (At_spec t hM hN x _ _) ?_
    cases hval : validL t with
    | false =>
      rw [show AtR t x = .tup [.v .zsl, .v (.int .i64 1)] by unfold AtR; rw [hval]; rfl]
      simp (disch := decide) only [hA, go_sem]
      refine ACalls.nxt (Final_spec t hM hN _ _) ?_
      rw [show finR t = .tup [.v .zsl, .v (.int .i64 1)] by unfold finR; rw [hval]; rfl]
      simp (disch := decide) only [hA, go_sem]
      refine ACalls.nxt (rvalid_specS t hM hN _ _) ?_
      rw [hval]
      simp (disch := (first | decide | omega)) only [hA, h00, h11, go_sem]
      exact leave_pure (xs := [.v (.bool true)]) (.inr rfl) (by simp (disch := (first | decide | omega)) only [resVs, resV, go_sem, hA]) (by simp only [one, AVlt_v, AVlt_any, AVlt_sl, AVlt_ptr, AVlt_mp, AVlt_agg, AVlt_tup, AVlt_fn, RowsLt_nil, RowsLt_live, RowsLt_dead, List.mem_cons, List.not_mem_nil, List.forall_mem_cons, List.forall_mem_nil, or_false, false_or, forall_eq_or_imp, forall_eq, vs_lt, Nat.add_lt_add_iff_left, Nat.reduceLT, true_and, and_true, and_self, List.length_cons, List.length_nil, Nat.reduceAdd, Nat.zero_add, implies_true, false_imp_iff, lt_T, List.mem_map]) hR hB ⟨rfl, rfl, rfl⟩
    | true =>
      have hv := vok hval
      have hS := hM.small hv.head
      have h8 := hv.hi
      obtain ⟨mv, ev, hat, hin1, hin2⟩ : ∃ mv ev, AtR t x = .tup [.v mv, .v (.int .i64 ev)] ∧ (inT t x → mv = eMt t (x.1.toNat, x.2.toNat) ∧ ev = 0) ∧ (¬ inT t x → mv = .zsl ∧ ev = 2) := by
        unfold AtR
        rw [if_pos hval]
        by_cases hin : inT t x
        · rw [if_pos hin]; exact ⟨_, _, rfl, fun _ => ⟨rfl, rfl⟩, fun h => absurd hin h⟩
        · rw [if_neg hin]; exact ⟨_, _, rfl, fun h => absurd h hin, fun _ => ⟨rfl, rfl⟩⟩
      have hll : (lastM t t.length).length = t.length := fl_len
      have hal : (allV t).length = t.length := fl_len
      rw [hat]
      simp (disch := decide) only [hA, go_sem]
      refine ACalls.nxt (Final_spec t hM hN _ _) ?_
      rw [show finR t = .tup [.v (.isl 1 (lastM t t.length)), .v (.int .i64 0)] by unfold finR; rw [if_pos hval]]
      simp (disch := decide) only [hA, go_sem]
      refine ACalls.nxt (rvalid_specS t hM hN _ _) ?_
      rw [hval]
      simp (disch := decide) only [hA, go_sem]
      refine ACalls.nxt (all_spec t hv hS hN _ _) ?_
      simp (disch := (first | decide | omega)) only [hA, hn0, eT, hll, List.length_map, hnn, go_sem]
      refine loop_kept (ι := Nat) r_MatrixTraces0 (fun q => [(60, .v (.int .i64 q))]) 2 (fun q => [.live 0 1 [[.v (.isl 3 (t.map ePr))]], .live 0 2 [[.v (.int .i64 x.1), .v (.int .i64 x.2)]]])
        (fun q => q ≤ t.length) (fun q => t.length - q) 0 (Nat.zero_le _) (by (repeat (first | exact hE.mono (by omega) | refine KLt.up ?_ (by simp (disch := omega) only [AVlt_v, AVlt_any, AVlt_sl, AVlt_ptr, AVlt_mp, AVlt_agg, AVlt_tup, AVlt_fn, RowsLt_nil, RowsLt_live, RowsLt_dead, List.mem_cons, List.not_mem_nil, List.forall_mem_cons, List.forall_mem_nil, or_false, false_or, forall_eq_or_imp, forall_eq, vs_lt, Nat.add_lt_add_iff_left, Nat.reduceLT, true_and, and_true, and_self, List.length_cons, List.length_nil, Nat.reduceAdd, Nat.zero_add, implies_true, false_imp_iff, lt_T, List.mem_map])))) (by ((try simp (disch := decide) only [hA, go_sem]) <;> (repeat' (first | exact trivial | refine And.intro ?_ ?_)) <;> (first | rfl | (congr 2; omega)))) (fun e => Weak.refl _ _ _) ?_
      intro g1 hE1 hEE1 hg1 q hq
      have hmr : ∀ q k j, j < k → (mRow t q k)[j]? = some [eMt t (q, j)] := fun q k j h => fl_get h
      have hml : ∀ q k, (mRow t q k).length = k := fun q k => fl_len
      by_cases hql : q < t.length
      · have hqe := evsOf_lt hql
        have hne := hS.ne _ (List.getElem_mem hql)
        have g1 : (lastM t t.length)[q]? = some [eMt t (q, (evsOf t q).length)] := fl_get hql
        have g2 : (allV t)[q]? = some [.isl 1 (mRow t q ((evsOf t q).length + 1))] := fl_get hql
        have g3 := hmr q ((evsOf t q).length + 1) (evsOf t q).length (by omega)
        have hc : (((evsOf t q).length + 1 : Nat) : Int) - 1 = ((evsOf t q).length : Int) := by omega
        have hb : (evsOf t q).length ≤ 1000000 := by rw [hqe]; exact hne
        simp (disch := (first | decide | omega)) only [hA, hg1, g1, g2, g3, hc, hml, go_sem]
        refine ACalls.nxt (rmSame_spec (mtx t (q, (evsOf t q).length)) (mtx t (q, (evsOf t q).length)) (mtx_fit hv _) (mtx_fit hv _) _ _) ?_
        rw [decide_eq_true rfl]
        simp (disch := (first | decide | omega)) only [hA, hg1, go_sem]
        refine ⟨q + 1, hql, by simp only; omega, ?_⟩
        exact Weak.kround (p := r_MatrixTraces0) (k := 2) (by ((repeat refine (kAny_up rfl).trans ?_); exact hEE1)) (by ((try simp (disch := decide) only [hA, go_sem]) <;> (repeat' (first | exact trivial | refine And.intro ?_ ?_)) <;> (first | rfl | (congr 2; omega)))) rfl hE1 (by simp) (by simp (disch := omega) only [KOvLt, AVlt_v, AVlt_any, AVlt_sl, AVlt_ptr, AVlt_mp, AVlt_agg, AVlt_tup, AVlt_fn, RowsLt_nil, RowsLt_live, RowsLt_dead, List.mem_cons, List.not_mem_nil, List.forall_mem_cons, List.forall_mem_nil, or_false, false_or, forall_eq_or_imp, forall_eq, vs_lt, Nat.add_lt_add_iff_left, Nat.reduceLT, true_and, and_true, and_self, List.length_cons, List.length_nil, Nat.reduceAdd, Nat.zero_add, implies_true, false_imp_iff, lt_T, List.mem_map]) hR (by simp (disch := omega) only [AVlt_v, AVlt_any, AVlt_sl, AVlt_ptr, AVlt_mp, AVlt_agg, AVlt_tup, AVlt_fn, RowsLt_nil, RowsLt_live, RowsLt_dead, List.mem_cons, List.not_mem_nil, List.forall_mem_cons, List.forall_mem_nil, or_false, false_or, forall_eq_or_imp, forall_eq, vs_lt, Nat.add_lt_add_iff_left, Nat.reduceLT, true_and, and_true, and_self, List.length_cons, List.length_nil, Nat.reduceAdd, Nat.zero_add, implies_true, false_imp_iff, lt_T, List.mem_map])
      · simp (disch := (first | decide | omega)) only [hA, hg1, go_sem]
        obtain ⟨a, c⟩ := x
        by_cases h1 : a < 0
        · have d1 := decide_eq_true h1
          obtain ⟨rfl, rfl⟩ := hin2 (fun h => by have := h.1; simp only at this; omega)
          simp (disch := (first | decide | omega)) only [hA, hg1, d1, h00, h22, go_sem]
          exact leave_pure (xs := [.v (.bool true)]) (.inr rfl) (by simp (disch := (first | decide | omega)) only [resVs, resV, go_sem, hA, hg1]) (by simp only [one, AVlt_v, AVlt_any, AVlt_sl, AVlt_ptr, AVlt_mp, AVlt_agg, AVlt_tup, AVlt_fn, RowsLt_nil, RowsLt_live, RowsLt_dead, List.mem_cons, List.not_mem_nil, List.forall_mem_cons, List.forall_mem_nil, or_false, false_or, forall_eq_or_imp, forall_eq, vs_lt, Nat.add_lt_add_iff_left, Nat.reduceLT, true_and, and_true, and_self, List.length_cons, List.length_nil, Nat.reduceAdd, Nat.zero_add, implies_true, false_imp_iff, lt_T, List.mem_map]) hR hB ⟨rfl, rfl, rfl⟩
        have d1 := decide_eq_false h1
        obtain ⟨p, rfl⟩ : ∃ p : Nat, a = p := ⟨a.toNat, by omega⟩
        by_cases h2 : (p : Int) ≥ (t.length : Int)
        · have d2 := decide_eq_true h2
          have d2' : decide ((t.length : Int) ≤ (p : Int)) = true := d2
          obtain ⟨rfl, rfl⟩ := hin2 (fun h => by have := h.2.1; simp only at this; omega)
          simp (disch := (first | decide | omega)) only [hA, hg1, d1, d2, d2', h00, h22, List.length_map, go_sem]
          exact leave_pure (xs := [.v (.bool true)]) (.inr rfl) (by simp (disch := (first | decide | omega)) only [resVs, resV, go_sem, hA, hg1]) (by simp only [one, AVlt_v, AVlt_any, AVlt_sl, AVlt_ptr, AVlt_mp, AVlt_agg, AVlt_tup, AVlt_fn, RowsLt_nil, RowsLt_live, RowsLt_dead, List.mem_cons, List.not_mem_nil, List.forall_mem_cons, List.forall_mem_nil, or_false, false_or, forall_eq_or_imp, forall_eq, vs_lt, Nat.add_lt_add_iff_left, Nat.reduceLT, true_and, and_true, and_self, List.length_cons, List.length_nil, Nat.reduceAdd, Nat.zero_add, implies_true, false_imp_iff, lt_T, List.mem_map]) hR hB ⟨rfl, rfl, rfl⟩
        have d2 := decide_eq_false h2
        have d2' : decide ((t.length : Int) ≤ (p : Int)) = false := d2
        have hp : p < t.length := by omega
        have hpe := evsOf_lt hp
        have hne := hS.ne _ (List.getElem_mem hp)
        by_cases h3 : c < 0
        · have d3 := decide_eq_true h3
          obtain ⟨rfl, rfl⟩ := hin2 (fun h => by have := h.2.2.1; simp only at this; omega)
          simp (disch := (first | decide | omega)) only [hA, hg1, d1, d2, d2', d3, h00, h22, List.length_map, go_sem]
          exact leave_pure (xs := [.v (.bool true)]) (.inr rfl) (by simp (disch := (first | decide | omega)) only [resVs, resV, go_sem, hA, hg1]) (by simp only [one, AVlt_v, AVlt_any, AVlt_sl, AVlt_ptr, AVlt_mp, AVlt_agg, AVlt_tup, AVlt_fn, RowsLt_nil, RowsLt_live, RowsLt_dead, List.mem_cons, List.not_mem_nil, List.forall_mem_cons, List.forall_mem_nil, or_false, false_or, forall_eq_or_imp, forall_eq, vs_lt, Nat.add_lt_add_iff_left, Nat.reduceLT, true_and, and_true, and_self, List.length_cons, List.length_nil, Nat.reduceAdd, Nat.zero_add, implies_true, false_imp_iff, lt_T, List.mem_map]) hR hB ⟨rfl, rfl, rfl⟩
        have d3 := decide_eq_false h3
        obtain ⟨i, rfl⟩ : ∃ i : Nat, c = i := ⟨c.toNat, by omega⟩
        by_cases h4 : (i : Int) > (t[p].evs.length : Int)
        · have d4 := decide_eq_true h4
          have d4' : decide ((t[p].evs.length : Int) < (i : Int)) = true := d4
          obtain ⟨rfl, rfl⟩ := hin2 (fun h => by have := h.2.2.2; simp only [Int.toNat_natCast, hpe] at this; omega)
          simp (disch := (first | decide | omega)) only [hA, hg1, d1, d2, d2', d3, d4, d4', h00, h22, ePr, List.length_map, go_sem]
          exact leave_pure (xs := [.v (.bool true)]) (.inr rfl) (by simp (disch := (first | decide | omega)) only [resVs, resV, go_sem, hA, hg1]) (by simp only [one, AVlt_v, AVlt_any, AVlt_sl, AVlt_ptr, AVlt_mp, AVlt_agg, AVlt_tup, AVlt_fn, RowsLt_nil, RowsLt_live, RowsLt_dead, List.mem_cons, List.not_mem_nil, List.forall_mem_cons, List.forall_mem_nil, or_false, false_or, forall_eq_or_imp, forall_eq, vs_lt, Nat.add_lt_add_iff_left, Nat.reduceLT, true_and, and_true, and_self, List.length_cons, List.length_nil, Nat.reduceAdd, Nat.zero_add, implies_true, false_imp_iff, lt_T, List.mem_map]) hR hB ⟨rfl, rfl, rfl⟩
        have d4 := decide_eq_false h4
        have d4' : decide ((t[p].evs.length : Int) < (i : Int)) = false := d4
        obtain ⟨rfl, rfl⟩ := hin1 ⟨by simp only; omega, by simp only; omega, by simp only; omega, by simp only [Int.toNat_natCast, hpe]; omega⟩
        have g2 : (allV t)[p]? = some [.isl 1 (mRow t p ((evsOf t p).length + 1))] := fl_get hp
        have g3 := hmr p ((evsOf t p).length + 1) i (by rw [hpe]; omega)
        simp (disch := (first | decide | omega)) only [hA, hg1, d1, d2, d2', d3, d4, d4', h00, g2, g3, ePr, List.length_map, go_sem]
        refine ACalls.nxt (rmSame_spec (mtx t (p, i)) (mtx t (p, i)) (mtx_fit hv _) (mtx_fit hv _) _ _) ?_
        rw [decide_eq_true rfl]
        simp (disch := (first | decide | omega)) only [hA, hg1, go_sem]
        exact leave_pure (xs := [.v (.bool true)]) (.inr rfl) (by simp (disch := (first | decide | omega)) only [resVs, resV, go_sem, hA, hg1]) (by simp only [one, AVlt_v, AVlt_any, AVlt_sl, AVlt_ptr, AVlt_mp, AVlt_agg, AVlt_tup, AVlt_fn, RowsLt_nil, RowsLt_live, RowsLt_dead, List.mem_cons, List.not_mem_nil, List.forall_mem_cons, List.forall_mem_nil, or_false, false_or, forall_eq_or_imp, forall_eq, vs_lt, Nat.add_lt_add_iff_left, Nat.reduceLT, true_and, and_true, and_self, List.length_cons, List.length_nil, Nat.reduceAdd, Nat.zero_add, implies_true, false_imp_iff, lt_T, List.mem_map]) hR hB ⟨rfl, rfl, rfl⟩
end Go.Proofs.Ytoaopldaleaijaa

namespace Go.Proofs.Ytoaopldaleaijaa
set_option linter.unusedVariables false
theorem tr_eid : TR Try.prog 26 2 (fun x : Int × Int => [.int .i64 x.1, .int .i64 x.2]) (fun x => (Lit.int .i64 x.1).wf = true ∧ (Lit.int .i64 x.2).wf = true) :=
  (tr_struct Try.underlying26 (trf_cons tr_i (by kernel_rfl) rfl (trf_cons tr_i (by kernel_rfl) rfl trf_nil))).map (fun y => (y.1, y.2.1)) (fun _ => rfl) (fun _ h => ⟨h.1, h.2.1⟩)
end Go.Proofs.Ytoaopldaleaijaa
