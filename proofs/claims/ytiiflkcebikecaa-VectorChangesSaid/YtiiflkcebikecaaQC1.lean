/- Texts of one proof, laid together: V1, V2. No condition. -/
import Derived.Test.YtiiflkcebikecaaQB1
/- Functions of chapter 15 as runs: Changes, Apply, those of the reference; the law VectorChanges. No condition but on lengths. -/
namespace Go.Proofs.Ytiiflkcebikecaa
set_option linter.unusedVariables false
set_option linter.unusedSimpArgs false
attribute [local go_sem ↓] run_skip run_region run_draw run_seq run_block run_exit run_ret run_cond atN_app seqC_normal seqC_exit seqC_ret seqQ_normal seqQ_exit seqQ_ret blkQ_normal blkQ_exit blkQ_ret runOps_nil runOps_cons runD_nil runD_cons grdO_true grdO_false grdD_true grdD_false ifC_true ifC_false opS_val opS_call opS_two opK_app dS_val dS_call dS_two dK_app kUp_same kUp_ne
attribute [local go_sem] rechks_nil rechks_cons rechk gcase_true gcase_false ex_val ex_val0 gd_none gd_some ev_t ev_c evs_nil evs_cons evo_some evo_none hget_at hget_first hsetB_at hsetB_first hsetL_at hsetL_first ofOpt_some aop aload astore aslice aappend aiaddr aiaddrA afaddr alen alenS acopy amm acall alookup amupdate alenM comma keyEq apick binV binVB binVS isSh intOp strOp boolOp shOp eqC eqF and2 cellsOf setFrom fillA fillS rd rdI elems mk bounds AV.cell List.all_cons List.all_nil Bool.and_true Bool.true_and Bool.and_self List.length_cons List.length_nil List.length_append Nat.reduceAdd Nat.reduceSub Nat.reduceMul Nat.zero_add Nat.add_zero List.cons_append List.nil_append List.append_assoc List.append_nil List.getElem?_cons_zero List.getElem?_cons_succ List.getElem?_nil List.set_cons_zero List.set_cons_succ List.drop_zero List.drop_succ_cons List.take_zero List.take_succ_cons List.take_nil List.drop_nil List.map_cons List.map_nil Option.map_some if_true if_false Bool.false_eq_true and_self true_and and_true Nat.reduceLeDiff Nat.reduceLT Nat.le_refl Nat.reduceEqDiff ite_true ite_false beq_self_eq_true beq_true beq_false Bool.not_true Bool.not_false Bool.true_beq Bool.false_beq map_vs vs_len vs_get vs_take vs_drop vs_snoc1 vs_snoc2 vs_snoc3 vs_snoc5 vs_set1 vs_set2 vs_rep wrap_id le_T lt_T le_F lt_F leI_T ltI_T leI_F ltI_F geI gtI get_T decide_true decide_false room List.getElem?_map List.length_map List.length_take Int.toNat_natCast Nat.min_def Nat.min_self nth_kOf put_kOf put_kNo kOv_cons kOv_nil KHas KArgs List.getElem_cons_zero List.getElem_cons_succ
def a_Changes : AFunc := ⟨2, 34, [.tmp 4, .tmp 5],
  (.seq (.region [⟨(some 4), .mv (.c (.v .zsl)), none⟩, ⟨(some 5), .mv (.c (.v (.int .i64 0))), none⟩])
  (.seq (.seq (.region [⟨(some 9), .mv (.t 0), none⟩, ⟨(some 10), .mv (.t 1), none⟩, ⟨(some 11), .call (.c (.fn 86 [])) [(.t 9), (.t 10)], none⟩, ⟨(some 12), .not (.t 11), none⟩])
  (.cond (.t 12) (.seq (.region [⟨(some 4), .mv (.c (.v .zsl)), none⟩, ⟨(some 5), .mv (.c (.v (.int .i64 1))), none⟩])
  .ret)
  .skip))
  (.seq (.region [⟨(some 6), .mv (.c (.v .zsl)), none⟩])
  (.seq (.seq (.region [⟨(some 13), .mv (.t 1), none⟩, ⟨(some 14), .len (.t 13), none⟩, ⟨(some 15), .mv (.c (.v (.int .i64 0))), none⟩])
  (.block 0 (.loop (.seq (.region [⟨(some 16), .bin .lss (.t 15) (.t 14), none⟩])
  (.seq (.cond (.t 16) .skip
  (.exit 0))
  (.seq (.block 1 (.seq (.region [⟨(some 17), .mv (.t 15), none⟩, ⟨(some 18), .iaddr 1 (.t 13) (.t 15), none⟩, ⟨(some 19), .load none (.t 18), none⟩, ⟨(some 7), .mv (.t 17), none⟩, ⟨(some 8), .mv (.t 19), none⟩])
  (.seq (.region [⟨(some 20), .mv (.t 8), none⟩, ⟨(some 21), .mv (.t 0), none⟩, ⟨(some 22), .mv (.t 7), none⟩, ⟨(some 23), .iaddr 1 (.t 21) (.t 22), none⟩, ⟨(some 24), .load none (.t 23), none⟩, ⟨(some 25), .bin .neq (.t 20) (.t 24), none⟩])
  (.cond (.t 25) (.region [⟨(some 26), .mv (.t 6), none⟩, ⟨(some 27), .mv (.t 7), none⟩, ⟨(some 28), .mv (.t 8), none⟩, ⟨(some 29), .build [(.v (.int .i64 0)), (.v (.int .i64 0))] [(0, 1, (.t 27)), (1, 1, (.t 28))], none⟩, ⟨(some 30), .bslice 2 [(.v (.int .i64 0)), (.v (.int .i64 0))] 1 [(0, (.t 29))], none⟩, ⟨(some 31), .append 2 16 (.t 26) (.t 30), none⟩, ⟨(some 6), .mv (.t 31), none⟩])
  .skip))))
  (.region [⟨(some 32), .bin .add (.t 15) (.c (.v (.int .i64 1))), none⟩, ⟨(some 15), .mv (.t 32), none⟩])))))))
  (.seq (.region [⟨(some 33), .mv (.t 6), none⟩, ⟨(some 4), .mv (.t 33), none⟩, ⟨(some 5), .mv (.c (.v (.int .i64 0))), none⟩])
  .ret)))))⟩
theorem a_Changes_ok : cFunc Try.prog 27 = some a_Changes := by kernel_rfl
def r_Changes0 : List (Nat × Nat) := [(6, 8), (15, 32)]
def a_Apply : AFunc := ⟨2, 55, [.tmp 4, .tmp 5],
  (.seq (.region [⟨(some 2), .box (.t 0), none⟩, ⟨(some 4), .mv (.c (.v .zsl)), none⟩, ⟨(some 5), .mv (.c (.v (.int .i64 0))), none⟩])
  (.seq (.seq (.region [⟨(some 9), .load none (.t 2), none⟩, ⟨(some 10), .call (.c (.fn 81 [])) [(.t 9)], none⟩, ⟨(some 11), .not (.t 10), none⟩])
  (.cond (.t 11) (.seq (.region [⟨(some 4), .mv (.c (.v .zsl)), none⟩, ⟨(some 5), .mv (.c (.v (.int .i64 1))), none⟩])
  .ret)
  .skip))
  (.seq (.seq (.region [⟨(some 12), .mv (.t 1), none⟩, ⟨(some 13), .mkfn 83 [(.t 2)], none⟩, ⟨(some 14), .call (.c (.fn 82 [])) [(.t 12), (.t 13)], none⟩])
  (.cond (.t 14) (.seq (.region [⟨(some 4), .mv (.c (.v .zsl)), none⟩, ⟨(some 5), .mv (.c (.v (.int .i64 2))), none⟩])
  .ret)
  .skip))
  (.seq (.region [⟨(some 15), .load none (.t 2), none⟩, ⟨(some 16), .call (.c (.fn 84 [])) [(.t 15)], none⟩, ⟨(some 6), .mv (.t 16), none⟩])
  (.seq (.seq (.region [⟨(some 17), .mv (.t 1), none⟩, ⟨(some 18), .len (.t 17), none⟩, ⟨(some 19), .mv (.c (.v (.int .i64 0))), none⟩])
  (.block 0 (.loop (.seq (.region [⟨(some 20), .bin .lss (.t 19) (.t 18), none⟩])
  (.seq (.cond (.t 20) .skip
  (.exit 0))
  (.seq (.block 1 (.seq (.region [⟨(some 21), .mv (.t 19), none⟩, ⟨(some 22), .iaddr 2 (.t 17) (.t 19), none⟩, ⟨(some 23), .load (some 2) (.t 22), none⟩, ⟨(some 8), .alloc [(.v (.int .i64 0)), (.v (.int .i64 0))], none⟩, ⟨(some 7), .mv (.t 21), none⟩, ⟨none, .store 2 (.t 8) (.t 23), none⟩])
  (.seq (.seq (.draw [⟨0, ⟨(some 24), .mv (.t 7), none⟩, []⟩, ⟨1, ⟨(some 25), .bin .gtr (.t 24) (.c (.v (.int .i64 0))), none⟩, []⟩, ⟨2, ⟨(some 26), .mv (.t 25), none⟩, []⟩, ⟨3, ⟨(some 27), .mv (.t 1), some (26, true)⟩, []⟩, ⟨4, ⟨(some 28), .mv (.t 7), some (26, true)⟩, []⟩, ⟨5, ⟨(some 29), .bin .sub (.t 28) (.c (.v (.int .i64 1))), some (26, true)⟩, []⟩, ⟨6, ⟨(some 30), .iaddr 2 (.t 27) (.t 29), some (26, true)⟩, []⟩, ⟨7, ⟨(some 31), .iaddrA 2 1 (.t 30) (.c (.v (.int .i64 0))), some (26, true)⟩, []⟩, ⟨8, ⟨(some 32), .load none (.t 31), some (26, true)⟩, []⟩, ⟨9, ⟨(some 33), .iaddrA 2 1 (.t 8) (.c (.v (.int .i64 0))), some (26, true)⟩, []⟩, ⟨10, ⟨(some 34), .load none (.t 33), some (26, true)⟩, []⟩, ⟨11, ⟨(some 35), .bin .geq (.t 32) (.t 34), some (26, true)⟩, []⟩, ⟨12, ⟨(some 36), .pick (.t 26) (.t 35) (.c (.v (.bool false))), none⟩, []⟩, ⟨13, ⟨(some 37), .mv (.t 36), none⟩, []⟩, ⟨14, ⟨(some 38), .load none (.t 2), some (37, false)⟩, []⟩, ⟨15, ⟨(some 39), .iaddrA 2 1 (.t 8) (.c (.v (.int .i64 0))), some (37, false)⟩, []⟩, ⟨16, ⟨(some 40), .load none (.t 39), some (37, false)⟩, []⟩, ⟨17, ⟨(some 41), .iaddr 1 (.t 38) (.t 40), some (37, false)⟩, []⟩, ⟨18, ⟨(some 42), .load none (.t 41), some (37, false)⟩, []⟩, ⟨19, ⟨(some 43), .iaddrA 2 1 (.t 8) (.c (.v (.int .i64 1))), some (37, false)⟩, []⟩, ⟨20, ⟨(some 44), .load none (.t 43), some (37, false)⟩, []⟩, ⟨21, ⟨(some 45), .bin .eql (.t 42) (.t 44), some (37, false)⟩, []⟩, ⟨22, ⟨(some 46), .pick (.t 37) (.c (.v (.bool true))) (.t 45), none⟩, []⟩])
  (.cond (.t 46) (.seq (.region [⟨(some 4), .mv (.c (.v .zsl)), none⟩, ⟨(some 5), .mv (.c (.v (.int .i64 3))), none⟩])
  .ret)
  .skip))
  (.region [⟨(some 47), .mv (.t 6), none⟩, ⟨(some 48), .iaddrA 2 1 (.t 8) (.c (.v (.int .i64 0))), none⟩, ⟨(some 49), .load none (.t 48), none⟩, ⟨(some 50), .iaddrA 2 1 (.t 8) (.c (.v (.int .i64 1))), none⟩, ⟨(some 51), .load none (.t 50), none⟩, ⟨(some 52), .iaddr 1 (.t 47) (.t 49), none⟩, ⟨none, .store 1 (.t 52) (.t 51), none⟩]))))
  (.region [⟨(some 53), .bin .add (.t 19) (.c (.v (.int .i64 1))), none⟩, ⟨(some 19), .mv (.t 53), none⟩])))))))
  (.seq (.region [⟨(some 54), .mv (.t 6), none⟩, ⟨(some 4), .mv (.t 54), none⟩, ⟨(some 5), .mv (.c (.v (.int .i64 0))), none⟩])
  .ret))))))⟩
theorem a_Apply_ok : cFunc Try.prog 24 = some a_Apply := by kernel_rfl
def r_Apply0 : List (Nat × Nat) := [(4, 5), (7, 8), (19, 53)]
def a_appc : AFunc := ⟨2, 24, [.tmp 3],
  (.seq (.region [⟨(some 2), .box (.t 0), none⟩, ⟨(some 3), .mv (.c (.v (.bool false))), none⟩])
  (.seq (.region [⟨(some 4), .iaddrA 2 1 (.t 2) (.c (.v (.int .i64 0))), none⟩, ⟨(some 5), .load none (.t 4), none⟩, ⟨(some 6), .bin .lss (.t 5) (.c (.v (.int .i64 0))), none⟩, ⟨(some 7), .mv (.t 6), none⟩, ⟨(some 8), .iaddrA 2 1 (.t 2) (.c (.v (.int .i64 0))), some (7, false)⟩, ⟨(some 9), .load none (.t 8), some (7, false)⟩, ⟨(some 10), .load none (.t 1), some (7, false)⟩, ⟨(some 11), .len (.t 10), some (7, false)⟩, ⟨(some 12), .bin .geq (.t 9) (.t 11), some (7, false)⟩, ⟨(some 13), .pick (.t 7) (.c (.v (.bool true))) (.t 12), none⟩, ⟨(some 14), .mv (.t 13), none⟩, ⟨(some 15), .iaddrA 2 1 (.t 2) (.c (.v (.int .i64 1))), some (14, false)⟩, ⟨(some 16), .load none (.t 15), some (14, false)⟩, ⟨(some 17), .bin .lss (.t 16) (.c (.v (.int .i64 0))), some (14, false)⟩, ⟨(some 18), .pick (.t 14) (.c (.v (.bool true))) (.t 17), none⟩, ⟨(some 19), .mv (.t 18), none⟩, ⟨(some 20), .iaddrA 2 1 (.t 2) (.c (.v (.int .i64 1))), some (19, false)⟩, ⟨(some 21), .load none (.t 20), some (19, false)⟩, ⟨(some 22), .bin .gtr (.t 21) (.c (.v (.int .i64 1125899906842624))), some (19, false)⟩, ⟨(some 23), .pick (.t 19) (.c (.v (.bool true))) (.t 22), none⟩, ⟨(some 3), .mv (.t 23), none⟩])
  .ret))⟩
theorem a_appc_ok : cFunc Try.prog 83 = some a_appc := by kernel_rfl
def a_rChanges : AFunc := ⟨2, 32, [.tmp 4],
  (.seq (.region [⟨(some 4), .mv (.c (.v .zsl)), none⟩])
  (.seq (.region [⟨(some 5), .mv (.c (.v .zsl)), none⟩])
  (.seq (.seq (.region [⟨(some 6), .mv (.c (.v (.int .i64 0))), none⟩])
  (.block 0 (.loop (.seq (.seq (.region [⟨(some 7), .mv (.t 6), none⟩, ⟨(some 8), .mv (.t 1), none⟩, ⟨(some 9), .len (.t 8), none⟩, ⟨(some 10), .bin .lss (.t 7) (.t 9), none⟩])
  (.cond (.t 10) .skip
  (.exit 0)))
  (.seq (.block 1 (.seq (.draw [⟨0, ⟨(some 13), .mv (.t 0), none⟩, []⟩, ⟨1, ⟨(some 14), .mv (.t 6), none⟩, []⟩, ⟨2, ⟨(some 15), .iaddr 1 (.t 13) (.t 14), none⟩, []⟩, ⟨3, ⟨(some 16), .load none (.t 15), none⟩, []⟩, ⟨4, ⟨(some 17), .mv (.t 1), none⟩, []⟩, ⟨5, ⟨(some 18), .mv (.t 6), none⟩, []⟩, ⟨6, ⟨(some 19), .iaddr 1 (.t 17) (.t 18), none⟩, []⟩, ⟨7, ⟨(some 20), .load none (.t 19), none⟩, []⟩, ⟨8, ⟨(some 21), .bin .neq (.t 16) (.t 20), none⟩, []⟩])
  (.cond (.t 21) (.region [⟨(some 22), .mv (.t 5), none⟩, ⟨(some 23), .mv (.t 6), none⟩, ⟨(some 24), .mv (.t 1), none⟩, ⟨(some 25), .mv (.t 6), none⟩, ⟨(some 26), .iaddr 1 (.t 24) (.t 25), none⟩, ⟨(some 27), .load none (.t 26), none⟩, ⟨(some 28), .build [(.v (.int .i64 0)), (.v (.int .i64 0))] [(0, 1, (.t 23)), (1, 1, (.t 27))], none⟩, ⟨(some 29), .bslice 2 [(.v (.int .i64 0)), (.v (.int .i64 0))] 1 [(0, (.t 28))], none⟩, ⟨(some 30), .append 2 16 (.t 22) (.t 29), none⟩, ⟨(some 5), .mv (.t 30), none⟩])
  .skip)))
  (.region [⟨(some 11), .mv (.t 6), none⟩, ⟨(some 12), .bin .add (.t 11) (.c (.v (.int .i64 1))), none⟩, ⟨(some 6), .mv (.t 12), none⟩]))))))
  (.seq (.region [⟨(some 31), .mv (.t 5), none⟩, ⟨(some 4), .mv (.t 31), none⟩])
  .ret))))⟩
theorem a_rChanges_ok : cFunc Try.prog 30 = some a_rChanges := by kernel_rfl
def r_rChanges0 : List (Nat × Nat) := [(5, 30)]
def a_rApply : AFunc := ⟨2, 104, [.tmp 4, .tmp 5],
  (.seq (.region [⟨(some 4), .mv (.c (.v .zsl)), none⟩, ⟨(some 5), .mv (.c (.v (.int .i64 0))), none⟩])
  (.seq (.seq (.region [⟨(some 9), .mv (.t 0), none⟩, ⟨(some 10), .call (.c (.fn 85 [])) [(.t 9)], none⟩, ⟨(some 11), .not (.t 10), none⟩])
  (.cond (.t 11) (.seq (.region [⟨(some 4), .mv (.c (.v .zsl)), none⟩, ⟨(some 5), .mv (.c (.v (.int .i64 1))), none⟩])
  .ret)
  .skip))
  (.seq (.seq (.region [⟨(some 6), .mv (.c (.v (.int .i64 0))), none⟩])
  (.block 0 (.loop (.seq (.seq (.region [⟨(some 12), .mv (.t 6), none⟩, ⟨(some 13), .mv (.t 1), none⟩, ⟨(some 14), .len (.t 13), none⟩, ⟨(some 15), .bin .lss (.t 12) (.t 14), none⟩])
  (.cond (.t 15) .skip
  (.exit 0)))
  (.seq (.block 1 (.seq (.region [⟨(some 18), .mv (.t 1), none⟩, ⟨(some 19), .mv (.t 6), none⟩, ⟨(some 20), .iaddr 2 (.t 18) (.t 19), none⟩, ⟨(some 21), .iaddrA 2 1 (.t 20) (.c (.v (.int .i64 0))), none⟩, ⟨(some 22), .load none (.t 21), none⟩, ⟨(some 23), .bin .lss (.t 22) (.c (.v (.int .i64 0))), none⟩, ⟨(some 24), .mv (.t 23), none⟩, ⟨(some 25), .mv (.t 1), some (24, false)⟩, ⟨(some 26), .mv (.t 6), some (24, false)⟩, ⟨(some 27), .iaddr 2 (.t 25) (.t 26), some (24, false)⟩, ⟨(some 28), .iaddrA 2 1 (.t 27) (.c (.v (.int .i64 0))), some (24, false)⟩, ⟨(some 29), .load none (.t 28), some (24, false)⟩, ⟨(some 30), .mv (.t 0), some (24, false)⟩, ⟨(some 31), .len (.t 30), some (24, false)⟩, ⟨(some 32), .bin .geq (.t 29) (.t 31), some (24, false)⟩, ⟨(some 33), .pick (.t 24) (.c (.v (.bool true))) (.t 32), none⟩, ⟨(some 34), .mv (.t 33), none⟩, ⟨(some 35), .mv (.t 1), some (34, false)⟩, ⟨(some 36), .mv (.t 6), some (34, false)⟩, ⟨(some 37), .iaddr 2 (.t 35) (.t 36), some (34, false)⟩, ⟨(some 38), .iaddrA 2 1 (.t 37) (.c (.v (.int .i64 1))), some (34, false)⟩, ⟨(some 39), .load none (.t 38), some (34, false)⟩, ⟨(some 40), .bin .lss (.t 39) (.c (.v (.int .i64 0))), some (34, false)⟩, ⟨(some 41), .pick (.t 34) (.c (.v (.bool true))) (.t 40), none⟩, ⟨(some 42), .mv (.t 41), none⟩, ⟨(some 43), .mv (.t 1), some (42, false)⟩, ⟨(some 44), .mv (.t 6), some (42, false)⟩, ⟨(some 45), .iaddr 2 (.t 43) (.t 44), some (42, false)⟩, ⟨(some 46), .iaddrA 2 1 (.t 45) (.c (.v (.int .i64 1))), some (42, false)⟩, ⟨(some 47), .load none (.t 46), some (42, false)⟩, ⟨(some 48), .bin .gtr (.t 47) (.c (.v (.int .i64 1125899906842624))), some (42, false)⟩, ⟨(some 49), .pick (.t 42) (.c (.v (.bool true))) (.t 48), none⟩])
  (.cond (.t 49) (.seq (.region [⟨(some 4), .mv (.c (.v .zsl)), none⟩, ⟨(some 5), .mv (.c (.v (.int .i64 2))), none⟩])
  .ret)
  .skip)))
  (.region [⟨(some 16), .mv (.t 6), none⟩, ⟨(some 17), .bin .add (.t 16) (.c (.v (.int .i64 1))), none⟩, ⟨(some 6), .mv (.t 17), none⟩]))))))
  (.seq (.region [⟨(some 50), .bslice 1 [(.v (.int .i64 0))] 0 [], none⟩, ⟨(some 51), .mv (.t 0), none⟩, ⟨(some 52), .append 1 8 (.t 50) (.t 51), none⟩, ⟨(some 7), .mv (.t 52), none⟩])
  (.seq (.seq (.region [⟨(some 8), .mv (.c (.v (.int .i64 0))), none⟩])
  (.block 2 (.loop (.seq (.seq (.region [⟨(some 53), .mv (.t 8), none⟩, ⟨(some 54), .mv (.t 1), none⟩, ⟨(some 55), .len (.t 54), none⟩, ⟨(some 56), .bin .lss (.t 53) (.t 55), none⟩])
  (.cond (.t 56) .skip
  (.exit 2)))
  (.seq (.block 3 (.seq (.seq (.draw [⟨0, ⟨(some 59), .mv (.t 8), none⟩, []⟩, ⟨1, ⟨(some 60), .bin .gtr (.t 59) (.c (.v (.int .i64 0))), none⟩, []⟩, ⟨2, ⟨(some 61), .mv (.t 60), none⟩, []⟩, ⟨3, ⟨(some 62), .mv (.t 1), some (61, true)⟩, []⟩, ⟨4, ⟨(some 63), .mv (.t 8), some (61, true)⟩, []⟩, ⟨5, ⟨(some 64), .iaddr 2 (.t 62) (.t 63), some (61, true)⟩, []⟩, ⟨6, ⟨(some 65), .iaddrA 2 1 (.t 64) (.c (.v (.int .i64 0))), some (61, true)⟩, []⟩, ⟨7, ⟨(some 66), .load none (.t 65), some (61, true)⟩, []⟩, ⟨8, ⟨(some 67), .mv (.t 1), some (61, true)⟩, []⟩, ⟨9, ⟨(some 68), .mv (.t 8), some (61, true)⟩, []⟩, ⟨10, ⟨(some 69), .bin .sub (.t 68) (.c (.v (.int .i64 1))), some (61, true)⟩, []⟩, ⟨11, ⟨(some 70), .iaddr 2 (.t 67) (.t 69), some (61, true)⟩, []⟩, ⟨12, ⟨(some 71), .iaddrA 2 1 (.t 70) (.c (.v (.int .i64 0))), some (61, true)⟩, []⟩, ⟨13, ⟨(some 72), .load none (.t 71), some (61, true)⟩, []⟩, ⟨14, ⟨(some 73), .bin .leq (.t 66) (.t 72), some (61, true)⟩, []⟩, ⟨15, ⟨(some 74), .pick (.t 61) (.t 73) (.c (.v (.bool false))), none⟩, []⟩, ⟨16, ⟨(some 75), .mv (.t 74), none⟩, []⟩, ⟨17, ⟨(some 76), .mv (.t 0), some (75, false)⟩, []⟩, ⟨18, ⟨(some 77), .mv (.t 1), some (75, false)⟩, []⟩, ⟨19, ⟨(some 78), .mv (.t 8), some (75, false)⟩, []⟩, ⟨20, ⟨(some 79), .iaddr 2 (.t 77) (.t 78), some (75, false)⟩, []⟩, ⟨21, ⟨(some 80), .iaddrA 2 1 (.t 79) (.c (.v (.int .i64 0))), some (75, false)⟩, []⟩, ⟨22, ⟨(some 81), .load none (.t 80), some (75, false)⟩, []⟩, ⟨23, ⟨(some 82), .iaddr 1 (.t 76) (.t 81), some (75, false)⟩, []⟩, ⟨24, ⟨(some 83), .load none (.t 82), some (75, false)⟩, []⟩, ⟨25, ⟨(some 84), .mv (.t 1), some (75, false)⟩, []⟩, ⟨26, ⟨(some 85), .mv (.t 8), some (75, false)⟩, []⟩, ⟨27, ⟨(some 86), .iaddr 2 (.t 84) (.t 85), some (75, false)⟩, []⟩, ⟨28, ⟨(some 87), .iaddrA 2 1 (.t 86) (.c (.v (.int .i64 1))), some (75, false)⟩, []⟩, ⟨29, ⟨(some 88), .load none (.t 87), some (75, false)⟩, []⟩, ⟨30, ⟨(some 89), .bin .eql (.t 83) (.t 88), some (75, false)⟩, []⟩, ⟨31, ⟨(some 90), .pick (.t 75) (.c (.v (.bool true))) (.t 89), none⟩, []⟩])
  (.cond (.t 90) (.seq (.region [⟨(some 4), .mv (.c (.v .zsl)), none⟩, ⟨(some 5), .mv (.c (.v (.int .i64 3))), none⟩])
  .ret)
  .skip))
  (.draw [⟨0, ⟨(some 91), .mv (.t 7), none⟩, []⟩, ⟨1, ⟨(some 92), .mv (.t 1), none⟩, []⟩, ⟨2, ⟨(some 93), .mv (.t 8), none⟩, []⟩, ⟨3, ⟨(some 94), .iaddr 2 (.t 92) (.t 93), none⟩, []⟩, ⟨4, ⟨(some 95), .iaddrA 2 1 (.t 94) (.c (.v (.int .i64 0))), none⟩, []⟩, ⟨5, ⟨(some 96), .load none (.t 95), none⟩, []⟩, ⟨6, ⟨(some 97), .mv (.t 1), none⟩, []⟩, ⟨7, ⟨(some 98), .mv (.t 8), none⟩, []⟩, ⟨8, ⟨(some 99), .iaddr 2 (.t 97) (.t 98), none⟩, []⟩, ⟨9, ⟨(some 100), .iaddrA 2 1 (.t 99) (.c (.v (.int .i64 1))), none⟩, []⟩, ⟨10, ⟨(some 101), .load none (.t 100), none⟩, []⟩, ⟨11, ⟨(some 102), .iaddr 1 (.t 91) (.t 96), none⟩, []⟩, ⟨12, ⟨none, .store 1 (.t 102) (.t 101), none⟩, []⟩])))
  (.region [⟨(some 57), .mv (.t 8), none⟩, ⟨(some 58), .bin .add (.t 57) (.c (.v (.int .i64 1))), none⟩, ⟨(some 8), .mv (.t 58), none⟩]))))))
  (.seq (.region [⟨(some 103), .mv (.t 7), none⟩, ⟨(some 4), .mv (.t 103), none⟩, ⟨(some 5), .mv (.c (.v (.int .i64 0))), none⟩])
  .ret))))))⟩
theorem a_rApply_ok : cFunc Try.prog 25 = some a_rApply := by kernel_rfl
def r_rApply0 : List (Nat × Nat) := [(4, 6), (12, 49)]
def r_rApply1 : List (Nat × Nat) := [(4, 5), (8, 8), (53, 102)]
def a_Eq2 : AFunc := ⟨2, 26, [.tmp 4],
  (.seq (.region [⟨(some 4), .mv (.c (.v (.bool false))), none⟩])
  (.seq (.seq (.region [⟨(some 6), .mv (.t 0), none⟩, ⟨(some 7), .len (.t 6), none⟩, ⟨(some 8), .mv (.t 1), none⟩, ⟨(some 9), .len (.t 8), none⟩, ⟨(some 10), .bin .neq (.t 7) (.t 9), none⟩])
  (.cond (.t 10) (.seq (.region [⟨(some 4), .mv (.c (.v (.bool false))), none⟩])
  .ret)
  .skip))
  (.seq (.seq (.region [⟨(some 11), .mv (.t 0), none⟩, ⟨(some 12), .len (.t 11), none⟩, ⟨(some 13), .mv (.c (.v (.int .i64 0))), none⟩])
  (.block 0 (.loop (.seq (.region [⟨(some 14), .bin .lss (.t 13) (.t 12), none⟩])
  (.seq (.cond (.t 14) .skip
  (.exit 0))
  (.seq (.block 1 (.seq (.region [⟨(some 15), .mv (.t 13), none⟩, ⟨(some 5), .mv (.t 15), none⟩])
  (.seq (.draw [⟨0, ⟨(some 16), .mv (.t 0), none⟩, []⟩, ⟨1, ⟨(some 17), .mv (.t 5), none⟩, []⟩, ⟨2, ⟨(some 18), .iaddr 2 (.t 16) (.t 17), none⟩, []⟩, ⟨3, ⟨(some 19), .load (some 2) (.t 18), none⟩, []⟩, ⟨4, ⟨(some 20), .mv (.t 1), none⟩, []⟩, ⟨5, ⟨(some 21), .mv (.t 5), none⟩, []⟩, ⟨6, ⟨(some 22), .iaddr 2 (.t 20) (.t 21), none⟩, []⟩, ⟨7, ⟨(some 23), .load (some 2) (.t 22), none⟩, []⟩, ⟨8, ⟨(some 24), .eqs true [.i, .i] (.t 19) (.t 23), none⟩, []⟩])
  (.cond (.t 24) (.seq (.region [⟨(some 4), .mv (.c (.v (.bool false))), none⟩])
  .ret)
  .skip))))
  (.region [⟨(some 25), .bin .add (.t 13) (.c (.v (.int .i64 1))), none⟩, ⟨(some 13), .mv (.t 25), none⟩])))))))
  (.seq (.region [⟨(some 4), .mv (.c (.v (.bool true))), none⟩])
  .ret))))⟩
theorem a_Eq2_ok : cFunc Try.prog 28 = some a_Eq2 := by kernel_rfl
def r_Eq20 : List (Nat × Nat) := [(4, 5), (13, 25)]
def a_Ind2 : AFunc := ⟨2, 19, [.tmp 4],
  (.seq (.region [⟨(some 4), .mv (.c (.v (.int .i64 0))), none⟩])
  (.seq (.seq (.region [⟨(some 6), .mv (.t 0), none⟩, ⟨(some 7), .len (.t 6), none⟩, ⟨(some 8), .mv (.c (.v (.int .i64 0))), none⟩])
  (.block 0 (.loop (.seq (.region [⟨(some 9), .bin .lss (.t 8) (.t 7), none⟩])
  (.seq (.cond (.t 9) .skip
  (.exit 0))
  (.seq (.block 1 (.seq (.region [⟨(some 10), .mv (.t 8), none⟩, ⟨(some 5), .mv (.t 10), none⟩])
  (.seq (.region [⟨(some 11), .mv (.t 1), none⟩, ⟨(some 12), .mv (.t 0), none⟩, ⟨(some 13), .mv (.t 5), none⟩, ⟨(some 14), .iaddr 2 (.t 12) (.t 13), none⟩, ⟨(some 15), .load (some 2) (.t 14), none⟩, ⟨(some 16), .call (.t 11) [(.t 15)], none⟩])
  (.cond (.t 16) (.seq (.region [⟨(some 17), .mv (.t 5), none⟩, ⟨(some 4), .mv (.t 17), none⟩])
  .ret)
  .skip))))
  (.region [⟨(some 18), .bin .add (.t 8) (.c (.v (.int .i64 1))), none⟩, ⟨(some 8), .mv (.t 18), none⟩])))))))
  (.seq (.region [⟨(some 4), .mv (.c (.v (.int .i64 (-1)))), none⟩])
  .ret)))⟩
theorem a_Ind2_ok : cFunc Try.prog 116 = some a_Ind2 := by kernel_rfl
def r_Ind20 : List (Nat × Nat) := [(4, 5), (8, 18)]
def a_Con2 : AFunc := ⟨2, 9, [.tmp 4],
  (.seq (.region [⟨(some 4), .mv (.c (.v (.bool false))), none⟩])
  (.seq (.region [⟨(some 5), .mv (.t 0), none⟩, ⟨(some 6), .mv (.t 1), none⟩, ⟨(some 7), .call (.c (.fn 116 [])) [(.t 5), (.t 6)], none⟩, ⟨(some 8), .bin .geq (.t 7) (.c (.v (.int .i64 0))), none⟩, ⟨(some 4), .mv (.t 8), none⟩])
  .ret))⟩
theorem a_Con2_ok : cFunc Try.prog 82 = some a_Con2 := by kernel_rfl
def a_VectorChanges : AFunc := ⟨3, 110, [.tmp 6],
  (.seq (.region [⟨(some 6), .mv (.c (.v (.bool false))), none⟩])
  (.seq (.seq (.region [⟨(some 17), .call (.c (.fn 15 [])) [], none⟩, ⟨(some 18), .not (.t 17), none⟩])
  (.cond (.t 18) (.seq (.region [⟨(some 6), .mv (.c (.v (.bool false))), none⟩])
  .ret)
  .skip))
  (.seq (.seq (.region [⟨(some 19), .mv (.t 0), none⟩, ⟨(some 20), .len (.t 19), none⟩, ⟨(some 21), .bin .gtr (.t 20) (.c (.v (.int .i64 40))), none⟩, ⟨(some 22), .mv (.t 21), none⟩, ⟨(some 23), .mv (.t 1), some (22, false)⟩, ⟨(some 24), .len (.t 23), some (22, false)⟩, ⟨(some 25), .bin .gtr (.t 24) (.c (.v (.int .i64 40))), some (22, false)⟩, ⟨(some 26), .pick (.t 22) (.c (.v (.bool true))) (.t 25), none⟩, ⟨(some 27), .mv (.t 26), none⟩, ⟨(some 28), .mv (.t 2), some (27, false)⟩, ⟨(some 29), .len (.t 28), some (27, false)⟩, ⟨(some 30), .bin .gtr (.t 29) (.c (.v (.int .i64 40))), some (27, false)⟩, ⟨(some 31), .pick (.t 27) (.c (.v (.bool true))) (.t 30), none⟩])
  (.cond (.t 31) (.seq (.region [⟨(some 6), .mv (.c (.v (.bool true))), none⟩])
  .ret)
  .skip))
  (.seq (.region [⟨(some 33), .mv (.t 0), none⟩, ⟨(some 34), .mv (.t 2), none⟩, ⟨(some 35), .call (.c (.fn 24 [])) [(.t 33), (.t 34)], none⟩, ⟨(some 32), .mv (.t 35), none⟩, ⟨(some 36), .extract 0 (.t 32), none⟩, ⟨(some 37), .extract 1 (.t 32), none⟩, ⟨(some 7), .mv (.t 36), none⟩, ⟨(some 8), .mv (.t 37), none⟩])
  (.seq (.region [⟨(some 39), .mv (.t 0), none⟩, ⟨(some 40), .mv (.t 2), none⟩, ⟨(some 41), .call (.c (.fn 25 [])) [(.t 39), (.t 40)], none⟩, ⟨(some 38), .mv (.t 41), none⟩, ⟨(some 42), .extract 0 (.t 38), none⟩, ⟨(some 43), .extract 1 (.t 38), none⟩, ⟨(some 9), .mv (.t 42), none⟩, ⟨(some 10), .mv (.t 43), none⟩])
  (.seq (.seq (.region [⟨(some 44), .mv (.t 7), none⟩, ⟨(some 45), .mv (.t 9), none⟩, ⟨(some 46), .call (.c (.fn 26 [])) [(.t 44), (.t 45)], none⟩, ⟨(some 47), .not (.t 46), none⟩, ⟨(some 48), .mv (.t 47), none⟩, ⟨(some 49), .mv (.t 8), some (48, false)⟩, ⟨(some 50), .mv (.t 10), some (48, false)⟩, ⟨(some 51), .bin .neq (.t 49) (.t 50), some (48, false)⟩, ⟨(some 52), .pick (.t 48) (.c (.v (.bool true))) (.t 51), none⟩])
  (.cond (.t 52) (.seq (.region [⟨(some 6), .mv (.c (.v (.bool false))), none⟩])
  .ret)
  .skip))
  (.seq (.seq (.region [⟨(some 53), .mv (.t 8), none⟩, ⟨(some 54), .bin .eql (.t 53) (.c (.v (.int .i64 0))), none⟩])
  (.cond (.t 54) (.seq (.region [⟨(some 56), .mv (.t 0), none⟩, ⟨(some 57), .mv (.t 7), none⟩, ⟨(some 58), .call (.c (.fn 27 [])) [(.t 56), (.t 57)], none⟩, ⟨(some 55), .mv (.t 58), none⟩, ⟨(some 59), .extract 0 (.t 55), none⟩, ⟨(some 60), .extract 1 (.t 55), none⟩, ⟨(some 11), .mv (.t 59), none⟩, ⟨(some 12), .mv (.t 60), none⟩])
  (.seq (.region [⟨(some 61), .mv (.t 12), none⟩, ⟨(some 62), .bin .neq (.t 61) (.c (.v (.int .i64 0))), none⟩, ⟨(some 63), .mv (.t 62), none⟩, ⟨(some 64), .mv (.t 11), some (63, false)⟩, ⟨(some 65), .mv (.t 2), some (63, false)⟩, ⟨(some 66), .call (.c (.fn 28 [])) [(.t 64), (.t 65)], some (63, false)⟩, ⟨(some 67), .not (.t 66), some (63, false)⟩, ⟨(some 68), .pick (.t 63) (.c (.v (.bool true))) (.t 67), none⟩])
  (.cond (.t 68) (.seq (.region [⟨(some 6), .mv (.c (.v (.bool false))), none⟩])
  .ret)
  .skip)))
  .skip))
  (.seq (.region [⟨(some 70), .mv (.t 0), none⟩, ⟨(some 71), .mv (.t 1), none⟩, ⟨(some 72), .call (.c (.fn 27 [])) [(.t 70), (.t 71)], none⟩, ⟨(some 69), .mv (.t 72), none⟩, ⟨(some 73), .extract 0 (.t 69), none⟩, ⟨(some 74), .extract 1 (.t 69), none⟩, ⟨(some 13), .mv (.t 73), none⟩, ⟨(some 14), .mv (.t 74), none⟩])
  (.seq (.seq (.region [⟨(some 75), .mv (.t 0), none⟩, ⟨(some 76), .mv (.t 1), none⟩, ⟨(some 77), .call (.c (.fn 29 [])) [(.t 75), (.t 76)], none⟩, ⟨(some 78), .not (.t 77), none⟩])
  (.cond (.t 78) (.seq (.region [⟨(some 79), .mv (.t 14), none⟩, ⟨(some 80), .bin .eql (.t 79) (.c (.v (.int .i64 1))), none⟩, ⟨(some 81), .mv (.t 80), none⟩, ⟨(some 82), .mv (.t 13), some (81, true)⟩, ⟨(some 83), .len (.t 82), some (81, true)⟩, ⟨(some 84), .bin .eql (.t 83) (.c (.v (.int .i64 0))), some (81, true)⟩, ⟨(some 85), .pick (.t 81) (.t 84) (.c (.v (.bool false))), none⟩, ⟨(some 6), .mv (.t 85), none⟩])
  .ret)
  .skip))
  (.seq (.region [⟨(some 87), .mv (.t 0), none⟩, ⟨(some 88), .mv (.t 13), none⟩, ⟨(some 89), .call (.c (.fn 24 [])) [(.t 87), (.t 88)], none⟩, ⟨(some 86), .mv (.t 89), none⟩, ⟨(some 90), .extract 0 (.t 86), none⟩, ⟨(some 91), .extract 1 (.t 86), none⟩, ⟨(some 15), .mv (.t 90), none⟩, ⟨(some 16), .mv (.t 91), none⟩])
  (.seq (.region [⟨(some 92), .mv (.t 14), none⟩, ⟨(some 93), .bin .eql (.t 92) (.c (.v (.int .i64 0))), none⟩, ⟨(some 94), .mv (.t 93), none⟩, ⟨(some 95), .mv (.t 13), some (94, true)⟩, ⟨(some 96), .mv (.t 0), some (94, true)⟩, ⟨(some 97), .mv (.t 1), some (94, true)⟩, ⟨(some 98), .call (.c (.fn 30 [])) [(.t 96), (.t 97)], some (94, true)⟩, ⟨(some 99), .call (.c (.fn 28 [])) [(.t 95), (.t 98)], some (94, true)⟩, ⟨(some 100), .pick (.t 94) (.t 99) (.c (.v (.bool false))), none⟩, ⟨(some 101), .mv (.t 100), none⟩, ⟨(some 102), .mv (.t 16), some (101, true)⟩, ⟨(some 103), .bin .eql (.t 102) (.c (.v (.int .i64 0))), some (101, true)⟩, ⟨(some 104), .pick (.t 101) (.t 103) (.c (.v (.bool false))), none⟩, ⟨(some 105), .mv (.t 104), none⟩, ⟨(some 106), .mv (.t 15), some (105, true)⟩, ⟨(some 107), .mv (.t 1), some (105, true)⟩, ⟨(some 108), .call (.c (.fn 26 [])) [(.t 106), (.t 107)], some (105, true)⟩, ⟨(some 109), .pick (.t 105) (.t 108) (.c (.v (.bool false))), none⟩, ⟨(some 6), .mv (.t 109), none⟩])
  .ret)))))))))))⟩
theorem a_VectorChanges_ok : cFunc Try.prog 4 = some a_VectorChanges := by kernel_rfl

def e2 (x : Int × Int) : List IV := [.int .i64 x.1, .int .i64 x.2]
theorem eq2_spec (v w : List (Int × Int)) (hv : v.length ≤ 1000000) (b l : List Row) : ACalls Try.prog 28 [.v (.isl 2 (v.map e2)), .v (.isl 2 (w.map e2))] b l (fun r b' l' => r = .v (.bool (decide (v = w))) ∧ b' = b ∧ l' = l) := by
  refine calls_kept a_Eq2_ok rfl (by decide) ?_
  intro B g hB hR hE hA
  simp only [KArgs] at hA
  by_cases hl : v.length = w.length
  · have hd : ((v.length : Int) != (w.length : Int)) = false := by simp [hl]
    simp (disch := (first | decide | omega)) only [a_Eq2, hA, List.length_map, hd, go_sem]
    refine loop_kept (ι := Nat) r_Eq20 (fun i => [(13, .v (.int .i64 i))]) 0 (fun _ => [])
      (fun i => i ≤ v.length ∧ ∀ j, j < i → v.getD j (0, 0) = w.getD j (0, 0)) (fun i => v.length - i) 0 ⟨Nat.zero_le _, fun j hj => by omega⟩ (by (repeat (first | exact hE.mono (by omega) | refine KLt.up ?_ (by simp (disch := omega) only [AVlt_v, AVlt_any, AVlt_sl, AVlt_ptr, AVlt_mp, AVlt_agg, AVlt_tup, AVlt_fn, RowsLt_nil, RowsLt_live, RowsLt_dead, List.mem_cons, List.not_mem_nil, List.forall_mem_cons, List.forall_mem_nil, or_false, false_or, forall_eq_or_imp, forall_eq, vs_lt, Nat.add_lt_add_iff_left, Nat.reduceLT, true_and, and_true, and_self, List.length_cons, List.length_nil, Nat.reduceAdd, Nat.zero_add, implies_true, false_imp_iff, lt_T, List.mem_map])))) (by ((try simp (disch := decide) only [hA, go_sem]) <;> (repeat' (first | exact trivial | refine And.intro ?_ ?_)) <;> (first | rfl | (congr 2; omega)))) (fun e => Weak.refl _ _ _) ?_
    rintro g1 hE1 hEE1 hg1 i ⟨hi, h0⟩
    by_cases hlt : i < v.length
    · have hlw : i < w.length := by omega
      by_cases he : v[i] = w[i]
      · have hd2 : ((v[i].1 == w[i].1) && (v[i].2 == w[i].2)) = true := by simp [he]
        simp (disch := (first | decide | omega)) only [hA, hg1, e2, hd2, go_sem]
        refine ⟨i + 1, ⟨hlt, fun j hj => ?_⟩, by simp only; omega, ?_⟩
        · rcases Nat.lt_or_ge j i with hji | hji
          · exact h0 j hji
          · have : j = i := by omega
            subst this
            rw [getD_at hlt, getD_at hlw, he]
        exact Weak.kround (p := r_Eq20) (k := 0) (by ((repeat refine (kAny_up rfl).trans ?_); exact hEE1)) (by ((try simp (disch := decide) only [hA, go_sem]) <;> (repeat' (first | exact trivial | refine And.intro ?_ ?_)) <;> (first | rfl | (congr 2; omega)))) rfl hE1 (by simp) (by simp (disch := omega) only [KOvLt, AVlt_v, AVlt_any, AVlt_sl, AVlt_ptr, AVlt_mp, AVlt_agg, AVlt_tup, AVlt_fn, RowsLt_nil, RowsLt_live, RowsLt_dead, List.mem_cons, List.not_mem_nil, List.forall_mem_cons, List.forall_mem_nil, or_false, false_or, forall_eq_or_imp, forall_eq, vs_lt, Nat.add_lt_add_iff_left, Nat.reduceLT, true_and, and_true, and_self, List.length_cons, List.length_nil, Nat.reduceAdd, Nat.zero_add, implies_true, false_imp_iff, lt_T, List.mem_map]) hR (by simp (disch := omega) only [AVlt_v, AVlt_any, AVlt_sl, AVlt_ptr, AVlt_mp, AVlt_agg, AVlt_tup, AVlt_fn, RowsLt_nil, RowsLt_live, RowsLt_dead, List.mem_cons, List.not_mem_nil, List.forall_mem_cons, List.forall_mem_nil, or_false, false_or, forall_eq_or_imp, forall_eq, vs_lt, Nat.add_lt_add_iff_left, Nat.reduceLT, true_and, and_true, and_self, List.length_cons, List.length_nil, Nat.reduceAdd, Nat.zero_add, implies_true, false_imp_iff, lt_T, List.mem_map])
      · have hd2 : ((v[i].1 == w[i].1) && (v[i].2 == w[i].2)) = false := by
          rw [Bool.eq_false_iff]; intro h
          simp only [Bool.and_eq_true, beq_iff_eq] at h
          exact he (Prod.ext h.1 h.2)
        have hne : decide (v = w) = false := by
          rw [decide_eq_false_iff_not]; intro h; subst h; exact he rfl
        simp (disch := (first | decide | omega)) only [hA, hg1, e2, hd2, go_sem]
        exact leave_pure (xs := [.v (.bool false)]) (.inr rfl) (by simp (disch := (first | decide | omega)) only [resVs, resV, go_sem, hA, hg1]) (by simp only [one, AVlt_v, AVlt_any, AVlt_sl, AVlt_ptr, AVlt_mp, AVlt_agg, AVlt_tup, AVlt_fn, RowsLt_nil, RowsLt_live, RowsLt_dead, List.mem_cons, List.not_mem_nil, List.forall_mem_cons, List.forall_mem_nil, or_false, false_or, forall_eq_or_imp, forall_eq, vs_lt, Nat.add_lt_add_iff_left, Nat.reduceLT, true_and, and_true, and_self, List.length_cons, List.length_nil, Nat.reduceAdd, Nat.zero_add, implies_true, false_imp_iff, lt_T, List.mem_map]) hR hB ⟨by rw [hne]; rfl, rfl, rfl⟩
    · simp (disch := (first | decide | omega)) only [hA, hg1, go_sem]
      obtain rfl : i = v.length := by omega
      have he : decide (v = w) = true := decide_eq_true (List.ext_getElem hl (fun j h1 h2 => by have := h0 j h1; rwa [getD_at h1, getD_at h2] at this))
      exact leave_pure (xs := [.v (.bool true)]) (.inr rfl) (by simp (disch := (first | decide | omega)) only [resVs, resV, go_sem, hA, hg1]) (by simp only [one, AVlt_v, AVlt_any, AVlt_sl, AVlt_ptr, AVlt_mp, AVlt_agg, AVlt_tup, AVlt_fn, RowsLt_nil, RowsLt_live, RowsLt_dead, List.mem_cons, List.not_mem_nil, List.forall_mem_cons, List.forall_mem_nil, or_false, false_or, forall_eq_or_imp, forall_eq, vs_lt, Nat.add_lt_add_iff_left, Nat.reduceLT, true_and, and_true, and_self, List.length_cons, List.length_nil, Nat.reduceAdd, Nat.zero_add, implies_true, false_imp_iff, lt_T, List.mem_map]) hR hB ⟨by rw [he]; rfl, rfl, rfl⟩
  · have hd : ((v.length : Int) != (w.length : Int)) = true := by simp; omega
    have hne : decide (v = w) = false := by
      rw [decide_eq_false_iff_not]; intro h; subst h; exact hl rfl
    simp (disch := (first | decide | omega)) only [a_Eq2, hA, List.length_map, hd, go_sem]
    exact leave_pure (xs := [.v (.bool false)]) (.inr rfl) (by simp (disch := (first | decide | omega)) only [resVs, resV, go_sem, hA]) (by simp only [one, AVlt_v, AVlt_any, AVlt_sl, AVlt_ptr, AVlt_mp, AVlt_agg, AVlt_tup, AVlt_fn, RowsLt_nil, RowsLt_live, RowsLt_dead, List.mem_cons, List.not_mem_nil, List.forall_mem_cons, List.forall_mem_nil, or_false, false_or, forall_eq_or_imp, forall_eq, vs_lt, Nat.add_lt_add_iff_left, Nat.reduceLT, true_and, and_true, and_self, List.length_cons, List.length_nil, Nat.reduceAdd, Nat.zero_add, implies_true, false_imp_iff, lt_T, List.mem_map]) hR hB ⟨by rw [hne]; rfl, rfl, rfl⟩
theorem index2_spec (v : List (Int × Int)) (k : Nat) (caps : List AV) (p : Nat → Bool) (hn : v.length ≤ 1000000) (b l : List Row)
    (hp : ∀ (i : Nat) (h : i < v.length), ACalls Try.prog k (.agg [.v (.int .i64 v[i].1), .v (.int .i64 v[i].2)] :: caps) (b ++ l) [] (fun r b' l' => r = .v (.bool (p i)) ∧ b' = b ++ l ∧ l' = [])) :
    ACalls Try.prog 116 [.v (.isl 2 (v.map e2)), .fn k caps] b l (fun r b' l' => r = .v (.int .i64 (firstP p v.length)) ∧ b' = b ∧ l' = l) := by
  refine calls_kept a_Ind2_ok rfl (by decide) ?_
  intro B g hB hR hE hA
  simp only [KArgs] at hA
  simp (disch := decide) only [a_Ind2, hA, List.length_map, go_sem]
  refine loop_kept (ι := Nat) r_Ind20 (fun i => [(8, .v (.int .i64 i))]) 0 (fun _ => [])
    (fun i => i ≤ v.length ∧ ∀ j, j < i → p j = false) (fun i => v.length - i) 0 ⟨Nat.zero_le _, fun j hj => by omega⟩ (by (repeat (first | exact hE.mono (by omega) | refine KLt.up ?_ (by simp (disch := omega) only [AVlt_v, AVlt_any, AVlt_sl, AVlt_ptr, AVlt_mp, AVlt_agg, AVlt_tup, AVlt_fn, RowsLt_nil, RowsLt_live, RowsLt_dead, List.mem_cons, List.not_mem_nil, List.forall_mem_cons, List.forall_mem_nil, or_false, false_or, forall_eq_or_imp, forall_eq, vs_lt, Nat.add_lt_add_iff_left, Nat.reduceLT, true_and, and_true, and_self, List.length_cons, List.length_nil, Nat.reduceAdd, Nat.zero_add, implies_true, false_imp_iff, lt_T, List.mem_map])))) (by ((try simp (disch := decide) only [hA, go_sem]) <;> (repeat' (first | exact trivial | refine And.intro ?_ ?_)) <;> (first | rfl | (congr 2; omega)))) (fun e => Weak.refl _ _ _) ?_
  rintro g1 hE1 hEE1 hg1 i ⟨hi, h0⟩
  by_cases hlt : i < v.length
  · simp (disch := (first | decide | omega)) only [hA, hg1, e2, go_sem]
    refine ACalls_mono _ _ _ _ _ _ (hB ▸ hp i hlt) ?_
    rintro r b' l' ⟨rfl, rfl, rfl⟩
    cases hpi : p i
    · simp (disch := (first | decide | omega)) only [hA, hg1, hpi, go_sem]
      refine ⟨i + 1, ⟨hlt, fun j hj => ?_⟩, by simp only; omega, ?_⟩
      · rcases Nat.lt_or_ge j i with hji | hji
        · exact h0 j hji
        · have : j = i := by omega
          rw [this]; exact hpi
      exact Weak.kround (p := r_Ind20) (k := 0) (by ((repeat refine (kAny_up rfl).trans ?_); exact hEE1)) (by ((try simp (disch := decide) only [hA, go_sem]) <;> (repeat' (first | exact trivial | refine And.intro ?_ ?_)) <;> (first | rfl | (congr 2; omega)))) rfl hE1 (by simp) (by simp (disch := omega) only [KOvLt, AVlt_v, AVlt_any, AVlt_sl, AVlt_ptr, AVlt_mp, AVlt_agg, AVlt_tup, AVlt_fn, RowsLt_nil, RowsLt_live, RowsLt_dead, List.mem_cons, List.not_mem_nil, List.forall_mem_cons, List.forall_mem_nil, or_false, false_or, forall_eq_or_imp, forall_eq, vs_lt, Nat.add_lt_add_iff_left, Nat.reduceLT, true_and, and_true, and_self, List.length_cons, List.length_nil, Nat.reduceAdd, Nat.zero_add, implies_true, false_imp_iff, lt_T, List.mem_map]) hR (by simp (disch := omega) only [AVlt_v, AVlt_any, AVlt_sl, AVlt_ptr, AVlt_mp, AVlt_agg, AVlt_tup, AVlt_fn, RowsLt_nil, RowsLt_live, RowsLt_dead, List.mem_cons, List.not_mem_nil, List.forall_mem_cons, List.forall_mem_nil, or_false, false_or, forall_eq_or_imp, forall_eq, vs_lt, Nat.add_lt_add_iff_left, Nat.reduceLT, true_and, and_true, and_self, List.length_cons, List.length_nil, Nat.reduceAdd, Nat.zero_add, implies_true, false_imp_iff, lt_T, List.mem_map])
    · simp (disch := (first | decide | omega)) only [hA, hg1, hpi, go_sem]
      exact leave_pure (xs := [.v (.int .i64 i)]) (.inr rfl) (by simp (disch := (first | decide | omega)) only [resVs, resV, go_sem, hA, hg1]) (by simp only [one, AVlt_v, AVlt_any, AVlt_sl, AVlt_ptr, AVlt_mp, AVlt_agg, AVlt_tup, AVlt_fn, RowsLt_nil, RowsLt_live, RowsLt_dead, List.mem_cons, List.not_mem_nil, List.forall_mem_cons, List.forall_mem_nil, or_false, false_or, forall_eq_or_imp, forall_eq, vs_lt, Nat.add_lt_add_iff_left, Nat.reduceLT, true_and, and_true, and_self, List.length_cons, List.length_nil, Nat.reduceAdd, Nat.zero_add, implies_true, false_imp_iff, lt_T, List.mem_map]) hR hB ⟨by rw [firstP_at hlt h0 hpi]; rfl, rfl, rfl⟩
  · simp (disch := (first | decide | omega)) only [hA, hg1, go_sem]
    obtain rfl : i = v.length := by omega
    exact leave_pure (xs := [.v (.int .i64 (-1))]) (.inr rfl) (by simp (disch := (first | decide | omega)) only [resVs, resV, go_sem, hA, hg1]) (by simp only [one, AVlt_v, AVlt_any, AVlt_sl, AVlt_ptr, AVlt_mp, AVlt_agg, AVlt_tup, AVlt_fn, RowsLt_nil, RowsLt_live, RowsLt_dead, List.mem_cons, List.not_mem_nil, List.forall_mem_cons, List.forall_mem_nil, or_false, false_or, forall_eq_or_imp, forall_eq, vs_lt, Nat.add_lt_add_iff_left, Nat.reduceLT, true_and, and_true, and_self, List.length_cons, List.length_nil, Nat.reduceAdd, Nat.zero_add, implies_true, false_imp_iff, lt_T, List.mem_map]) hR hB ⟨by rw [firstP_none h0]; rfl, rfl, rfl⟩
theorem contains2_spec (v : List (Int × Int)) (k : Nat) (caps : List AV) (p : Nat → Bool) (hn : v.length ≤ 1000000) (b l : List Row)
    (hp : ∀ (i : Nat) (h : i < v.length), ACalls Try.prog k (.agg [.v (.int .i64 v[i].1), .v (.int .i64 v[i].2)] :: caps) (b ++ l) [] (fun r b' l' => r = .v (.bool (p i)) ∧ b' = b ++ l ∧ l' = [])) :
    ACalls Try.prog 82 [.v (.isl 2 (v.map e2)), .fn k caps] b l (fun r b' l' => r = .v (.bool ((List.range v.length).any p)) ∧ b' = b ∧ l' = l) := by
  refine calls_kept a_Con2_ok rfl (by decide) ?_
  intro B g hB hR hE hA
  simp only [KArgs] at hA
  simp (disch := decide) only [a_Con2, hA, go_sem]
  refine ACalls_mono _ _ _ _ _ _ (index2_spec v k caps p hn B [] (by rw [List.append_nil, hB]; exact hp)) ?_
  rintro r b' l' ⟨rfl, rfl, rfl⟩
  simp (disch := decide) only [hA, go_sem]
  exact leave_pure (xs := [.v (.bool (decide (0 ≤ firstP p v.length)))]) (.inr rfl) (by simp (disch := (first | decide | omega)) only [resVs, resV, go_sem, hA]) (by simp only [one, AVlt_v, AVlt_any, AVlt_sl, AVlt_ptr, AVlt_mp, AVlt_agg, AVlt_tup, AVlt_fn, RowsLt_nil, RowsLt_live, RowsLt_dead, List.mem_cons, List.not_mem_nil, List.forall_mem_cons, List.forall_mem_nil, or_false, false_or, forall_eq_or_imp, forall_eq, vs_lt, Nat.add_lt_add_iff_left, Nat.reduceLT, true_and, and_true, and_self, List.length_cons, List.length_nil, Nat.reduceAdd, Nat.zero_add, implies_true, false_imp_iff, lt_T, List.mem_map]) hR hB ⟨by rw [firstP_ge]; rfl, rfl, rfl⟩
theorem appc_spec (old : List Int) (x : Int × Int) (id : Nat) (b : List Row) (hid : b[id]? = some (.live 0 1 [[.v (.isl 1 (old.map eI))]])) : ACalls Try.prog 83 [.agg [.v (.int .i64 x.1), .v (.int .i64 x.2)], .ptr id 0 0 0] b [] (fun r b' l' => r = .v (.bool (oor old x)) ∧ b' = b ∧ l' = []) := by
  refine calls_kept a_appc_ok rfl (by decide) ?_
  intro B g hB hR hE hA
  simp only [KArgs] at hA
  have hBb : B = b := by rw [hB, List.append_nil]
  have hlt : id < B.length := by rw [hBb]; exact (List.getElem?_eq_some_iff.1 hid).1
  have hbase : ∀ l, hget B l id = some (.live 0 1 [[.v (.isl 1 (old.map eI))]]) := fun l => by unfold hget; rw [if_pos hlt, hBb, hid]
  cases h1 : decide (x.1 < 0)
  · cases h2 : decide (x.1 ≥ (old.length : Int))
    · cases h3 : decide (x.2 < 0)
      · simp (disch := (first | decide | omega)) only [a_appc, Int.reduceToNat, Nat.mul_one, hA, hbase, h1, h2, h3, List.length_map, go_sem]
        exact leave_pure (xs := [.v (.bool (decide (x.2 > 1125899906842624)))]) (.inr rfl) (by simp (disch := (first | decide | omega)) only [resVs, resV, go_sem, hA]) (by simp only [one, AVlt_v, AVlt_any, AVlt_sl, AVlt_ptr, AVlt_mp, AVlt_agg, AVlt_tup, AVlt_fn, RowsLt_nil, RowsLt_live, RowsLt_dead, List.mem_cons, List.not_mem_nil, List.forall_mem_cons, List.forall_mem_nil, or_false, false_or, forall_eq_or_imp, forall_eq, vs_lt, Nat.add_lt_add_iff_left, Nat.reduceLT, true_and, and_true, and_self, List.length_cons, List.length_nil, Nat.reduceAdd, Nat.zero_add, implies_true, false_imp_iff, lt_T, List.mem_map]) hR hB ⟨by simp only [oor, h1, h2, h3, Bool.false_or]; rfl, rfl, rfl⟩
      · simp (disch := (first | decide | omega)) only [a_appc, Int.reduceToNat, Nat.mul_one, hA, hbase, h1, h2, h3, List.length_map, go_sem]
        exact leave_pure (xs := [.v (.bool true)]) (.inr rfl) (by simp (disch := (first | decide | omega)) only [resVs, resV, go_sem, hA]) (by simp only [one, AVlt_v, AVlt_any, AVlt_sl, AVlt_ptr, AVlt_mp, AVlt_agg, AVlt_tup, AVlt_fn, RowsLt_nil, RowsLt_live, RowsLt_dead, List.mem_cons, List.not_mem_nil, List.forall_mem_cons, List.forall_mem_nil, or_false, false_or, forall_eq_or_imp, forall_eq, vs_lt, Nat.add_lt_add_iff_left, Nat.reduceLT, true_and, and_true, and_self, List.length_cons, List.length_nil, Nat.reduceAdd, Nat.zero_add, implies_true, false_imp_iff, lt_T, List.mem_map]) hR hB ⟨by simp only [oor, h1, h2, h3, Bool.false_or, Bool.true_or]; rfl, rfl, rfl⟩
    · simp (disch := (first | decide | omega)) only [a_appc, Int.reduceToNat, Nat.mul_one, hA, hbase, h1, h2, List.length_map, go_sem]
      exact leave_pure (xs := [.v (.bool true)]) (.inr rfl) (by simp (disch := (first | decide | omega)) only [resVs, resV, go_sem, hA]) (by simp only [one, AVlt_v, AVlt_any, AVlt_sl, AVlt_ptr, AVlt_mp, AVlt_agg, AVlt_tup, AVlt_fn, RowsLt_nil, RowsLt_live, RowsLt_dead, List.mem_cons, List.not_mem_nil, List.forall_mem_cons, List.forall_mem_nil, or_false, false_or, forall_eq_or_imp, forall_eq, vs_lt, Nat.add_lt_add_iff_left, Nat.reduceLT, true_and, and_true, and_self, List.length_cons, List.length_nil, Nat.reduceAdd, Nat.zero_add, implies_true, false_imp_iff, lt_T, List.mem_map]) hR hB ⟨by simp only [oor, h1, h2, Bool.false_or, Bool.true_or]; rfl, rfl, rfl⟩
  · simp (disch := (first | decide | omega)) only [a_appc, Int.reduceToNat, Nat.mul_one, hA, hbase, h1, go_sem]
    exact leave_pure (xs := [.v (.bool true)]) (.inr rfl) (by simp (disch := (first | decide | omega)) only [resVs, resV, go_sem, hA]) (by simp only [one, AVlt_v, AVlt_any, AVlt_sl, AVlt_ptr, AVlt_mp, AVlt_agg, AVlt_tup, AVlt_fn, RowsLt_nil, RowsLt_live, RowsLt_dead, List.mem_cons, List.not_mem_nil, List.forall_mem_cons, List.forall_mem_nil, or_false, false_or, forall_eq_or_imp, forall_eq, vs_lt, Nat.add_lt_add_iff_left, Nat.reduceLT, true_and, and_true, and_self, List.length_cons, List.length_nil, Nat.reduceAdd, Nat.zero_add, implies_true, false_imp_iff, lt_T, List.mem_map]) hR hB ⟨by simp only [oor, h1, Bool.true_or]; rfl, rfl, rfl⟩
theorem changes_spec (old v : List Int) (hb : bothV old v = true) (b l : List Row) : ACalls Try.prog 27 [.v (.isl 1 (old.map eI)), .v (.isl 1 (v.map eI))] b l (fun r b' l' => r = .tup [.v (.isl 2 ((chgV old v).map e2)), .v (.int .i64 0)] ∧ b' = b ∧ l' = l) := by
  refine calls_kept a_Changes_ok rfl (by decide) ?_
  intro B g hB hR hE hA
  simp only [KArgs] at hA
  obtain ⟨v1, v2, v3⟩ := bothV_open hb
  obtain ⟨l1, l2, _⟩ := isV_open v1
  simp (disch := decide) only [a_Changes, hA, go_sem]
  refine ACalls.nxt (both_spec old v _ _) ?_
  rw [hb]
  simp (disch := (first | decide | omega)) only [hA, List.length_map, go_sem]
  refine loop_kept_nil (ι := Nat) 6 2 r_Changes0 (fun i => [(6, .sl (B.length) (chgTo old v i).length 0 (chgTo old v i).length), (15, .v (.int .i64 i))]) 1 (fun i => [.live (chgTo old v i).length 2 (vs ((chgTo old v i).map e2))])
    (fun i => i ≤ v.length) (fun i => v.length - i) 0 (Nat.zero_le _) (by simp (disch := decide) only [hA, go_sem]) (by decide) rfl (by (repeat (first | exact hE.mono (by omega) | refine KLt.up ?_ (by simp (disch := omega) only [AVlt_v, AVlt_any, AVlt_sl, AVlt_ptr, AVlt_mp, AVlt_agg, AVlt_tup, AVlt_fn, RowsLt_nil, RowsLt_live, RowsLt_dead, List.mem_cons, List.not_mem_nil, List.forall_mem_cons, List.forall_mem_nil, or_false, false_or, forall_eq_or_imp, forall_eq, vs_lt, Nat.add_lt_add_iff_left, Nat.reduceLT, true_and, and_true, and_self, List.length_cons, List.length_nil, Nat.reduceAdd, Nat.zero_add, implies_true, false_imp_iff, lt_T, List.mem_map])))) (by ((try simp (disch := decide) only [hA, go_sem]) <;> (repeat' (first | exact trivial | refine And.intro ?_ ?_)) <;> (first | rfl | (congr 2; omega)))) (fun e => Weak.refl _ _ _) ?_
  intro g1 hE1 hEE1 hg1 i hi
  by_cases hlt : i < v.length
  · have hlw : i < old.length := by omega
    have hs := chgTo_succ old v i
    have hcl := chgTo_len old v i
    have hg := getD_at (d := 0) hlt
    have hg2 := getD_at (d := 0) hlw
    by_cases hc : v[i] = old[i]
    · have hd : (v[i] != old[i]) = false := by simp [hc]
      have hn : chgAt old v i = false := by unfold chgAt; rw [hg, hg2, hc]; simp
      rw [hn] at hs
      simp only [Bool.false_eq_true, if_false, List.append_nil] at hs
      simp (disch := (first | decide | omega)) only [hA, hg1, eI, hd, go_sem]
      refine ⟨i + 1, hlt, by simp only; omega, ?_⟩
      simp only [hs]
      exact Weak.kround (p := r_Changes0) (k := 1) (by ((repeat refine (kAny_up rfl).trans ?_); exact hEE1)) (by ((try simp (disch := decide) only [hA, go_sem]) <;> (repeat' (first | exact trivial | refine And.intro ?_ ?_)) <;> (first | rfl | (congr 2; omega)))) rfl hE1 (by simp) (by simp (disch := omega) only [KOvLt, AVlt_v, AVlt_any, AVlt_sl, AVlt_ptr, AVlt_mp, AVlt_agg, AVlt_tup, AVlt_fn, RowsLt_nil, RowsLt_live, RowsLt_dead, List.mem_cons, List.not_mem_nil, List.forall_mem_cons, List.forall_mem_nil, or_false, false_or, forall_eq_or_imp, forall_eq, vs_lt, Nat.add_lt_add_iff_left, Nat.reduceLT, true_and, and_true, and_self, List.length_cons, List.length_nil, Nat.reduceAdd, Nat.zero_add, implies_true, false_imp_iff, lt_T, List.mem_map]) hR (by simp (disch := omega) only [AVlt_v, AVlt_any, AVlt_sl, AVlt_ptr, AVlt_mp, AVlt_agg, AVlt_tup, AVlt_fn, RowsLt_nil, RowsLt_live, RowsLt_dead, List.mem_cons, List.not_mem_nil, List.forall_mem_cons, List.forall_mem_nil, or_false, false_or, forall_eq_or_imp, forall_eq, vs_lt, Nat.add_lt_add_iff_left, Nat.reduceLT, true_and, and_true, and_self, List.length_cons, List.length_nil, Nat.reduceAdd, Nat.zero_add, implies_true, false_imp_iff, lt_T, List.mem_map])
    · have hd : (v[i] != old[i]) = true := by simp [hc]
      have hn : chgAt old v i = true := by unfold chgAt; rw [hg, hg2]; simp [hc]
      rw [hn, if_pos rfl, hg] at hs
      have tl : (chgTo old v (i + 1)).length = (chgTo old v i).length + 1 := by rw [hs]; simp
      have ts : (chgTo old v i).map e2 ++ [[.int .i64 (i : Int), .int .i64 v[i]]] = (chgTo old v (i + 1)).map e2 := by rw [hs, List.map_append]; rfl
      have tt : ((chgTo old v i).map e2).take (chgTo old v i).length = (chgTo old v i).map e2 := List.take_of_length_le (by simp)
      simp (disch := (first | decide | omega)) only [hA, hg1, eI, hd, List.replicate_succ, List.replicate_zero, fillA, setFrom, cellsOf, tt, ts, ← tl, go_sem]
      refine ⟨i + 1, hlt, by simp only; omega, ?_⟩
      exact Weak.kround (p := r_Changes0) (k := 1) (by ((repeat refine (kAny_up rfl).trans ?_); exact hEE1)) (by ((try simp (disch := decide) only [hA, go_sem]) <;> (repeat' (first | exact trivial | refine And.intro ?_ ?_)) <;> (first | rfl | (congr 2; omega)))) rfl hE1 (by simp) (by simp (disch := omega) only [KOvLt, AVlt_v, AVlt_any, AVlt_sl, AVlt_ptr, AVlt_mp, AVlt_agg, AVlt_tup, AVlt_fn, RowsLt_nil, RowsLt_live, RowsLt_dead, List.mem_cons, List.not_mem_nil, List.forall_mem_cons, List.forall_mem_nil, or_false, false_or, forall_eq_or_imp, forall_eq, vs_lt, Nat.add_lt_add_iff_left, Nat.reduceLT, true_and, and_true, and_self, List.length_cons, List.length_nil, Nat.reduceAdd, Nat.zero_add, implies_true, false_imp_iff, lt_T, List.mem_map]) hR (by simp (disch := omega) only [AVlt_v, AVlt_any, AVlt_sl, AVlt_ptr, AVlt_mp, AVlt_agg, AVlt_tup, AVlt_fn, RowsLt_nil, RowsLt_live, RowsLt_dead, List.mem_cons, List.not_mem_nil, List.forall_mem_cons, List.forall_mem_nil, or_false, false_or, forall_eq_or_imp, forall_eq, vs_lt, Nat.add_lt_add_iff_left, Nat.reduceLT, true_and, and_true, and_self, List.length_cons, List.length_nil, Nat.reduceAdd, Nat.zero_add, implies_true, false_imp_iff, lt_T, List.mem_map])
  · simp (disch := (first | decide | omega)) only [hA, hg1, go_sem]
    obtain rfl : i = v.length := by omega
    exact leave_frz2 (i := 0) (n := (chgTo old v v.length).length) (rows := (chgTo old v v.length).map e2) (z := .int .i64 0) (.inr rfl) (by simp (disch := (first | decide | omega)) only [resVs, resV, hA, hg1, go_sem]) rfl (by simp) hR hB ⟨rfl, rfl, rfl⟩
theorem changes_no (old v : List Int) (hb : bothV old v = false) (b l : List Row) : ACalls Try.prog 27 [.v (.isl 1 (old.map eI)), .v (.isl 1 (v.map eI))] b l (fun r b' l' => r = .tup [.v .zsl, .v (.int .i64 1)] ∧ b' = b ∧ l' = l) := by
  refine calls_kept a_Changes_ok rfl (by decide) ?_
  intro B g hB hR hE hA
  simp only [KArgs] at hA
  simp (disch := decide) only [a_Changes, hA, go_sem]
  refine ACalls.nxt (both_spec old v _ _) ?_
  rw [hb]
  simp (disch := decide) only [hA, go_sem]
  exact leave_pure (xs := [.v .zsl, .v (.int .i64 1)]) (.inr rfl) (by simp (disch := (first | decide | omega)) only [resVs, resV, go_sem, hA]) (by simp only [one, AVlt_v, AVlt_any, AVlt_sl, AVlt_ptr, AVlt_mp, AVlt_agg, AVlt_tup, AVlt_fn, RowsLt_nil, RowsLt_live, RowsLt_dead, List.mem_cons, List.not_mem_nil, List.forall_mem_cons, List.forall_mem_nil, or_false, false_or, forall_eq_or_imp, forall_eq, vs_lt, Nat.add_lt_add_iff_left, Nat.reduceLT, true_and, and_true, and_self, List.length_cons, List.length_nil, Nat.reduceAdd, Nat.zero_add, implies_true, false_imp_iff, lt_T, List.mem_map]) hR hB ⟨rfl, rfl, rfl⟩
theorem rChanges_spec (old v : List Int) (h2 : v.length ≤ 1000000) (hl : old.length = v.length) (b l : List Row) : ACalls Try.prog 30 [.v (.isl 1 (old.map eI)), .v (.isl 1 (v.map eI))] b l (fun r b' l' => r = .v (.isl 2 ((chgV old v).map e2)) ∧ b' = b ∧ l' = l) := by
  refine calls_kept a_rChanges_ok rfl (by decide) ?_
  intro B g hB hR hE hA
  simp only [KArgs] at hA
  simp (disch := (first | decide | omega)) only [a_rChanges, hA, List.length_map, go_sem]
  refine loop_kept_nil (ι := Nat) 5 2 r_rChanges0 (fun i => [(5, .sl (B.length) (chgTo old v i).length 0 (chgTo old v i).length), (6, .v (.int .i64 i))]) 1 (fun i => [.live (chgTo old v i).length 2 (vs ((chgTo old v i).map e2))])
    (fun i => i ≤ v.length) (fun i => v.length - i) 0 (Nat.zero_le _) (by simp (disch := decide) only [hA, go_sem]) (by decide) rfl (by (repeat (first | exact hE.mono (by omega) | refine KLt.up ?_ (by simp (disch := omega) only [AVlt_v, AVlt_any, AVlt_sl, AVlt_ptr, AVlt_mp, AVlt_agg, AVlt_tup, AVlt_fn, RowsLt_nil, RowsLt_live, RowsLt_dead, List.mem_cons, List.not_mem_nil, List.forall_mem_cons, List.forall_mem_nil, or_false, false_or, forall_eq_or_imp, forall_eq, vs_lt, Nat.add_lt_add_iff_left, Nat.reduceLT, true_and, and_true, and_self, List.length_cons, List.length_nil, Nat.reduceAdd, Nat.zero_add, implies_true, false_imp_iff, lt_T, List.mem_map])))) (by ((try simp (disch := decide) only [hA, go_sem]) <;> (repeat' (first | exact trivial | refine And.intro ?_ ?_)) <;> (first | rfl | (congr 2; omega)))) (fun e => Weak.refl _ _ _) ?_
  intro g1 hE1 hEE1 hg1 i hi
  by_cases hlt : i < v.length
  · have hlw : i < old.length := by omega
    have hs := chgTo_succ old v i
    have hcl := chgTo_len old v i
    have hg := getD_at (d := 0) hlt
    have hg2 := getD_at (d := 0) hlw
    by_cases hc : v[i] = old[i]
    · have hd : (old[i] != v[i]) = false := by simp [hc]
      have hn : chgAt old v i = false := by unfold chgAt; rw [hg, hg2, hc]; simp
      rw [hn] at hs
      simp only [Bool.false_eq_true, if_false, List.append_nil] at hs
      simp (disch := (first | decide | omega)) only [hA, hg1, eI, hd, go_sem]
      refine ⟨i + 1, hlt, by simp only; omega, ?_⟩
      simp only [hs]
      exact Weak.kround (p := r_rChanges0) (k := 1) (by ((repeat refine (kAny_up rfl).trans ?_); exact hEE1)) (by ((try simp (disch := decide) only [hA, go_sem]) <;> (repeat' (first | exact trivial | refine And.intro ?_ ?_)) <;> (first | rfl | (congr 2; omega)))) rfl hE1 (by simp) (by simp (disch := omega) only [KOvLt, AVlt_v, AVlt_any, AVlt_sl, AVlt_ptr, AVlt_mp, AVlt_agg, AVlt_tup, AVlt_fn, RowsLt_nil, RowsLt_live, RowsLt_dead, List.mem_cons, List.not_mem_nil, List.forall_mem_cons, List.forall_mem_nil, or_false, false_or, forall_eq_or_imp, forall_eq, vs_lt, Nat.add_lt_add_iff_left, Nat.reduceLT, true_and, and_true, and_self, List.length_cons, List.length_nil, Nat.reduceAdd, Nat.zero_add, implies_true, false_imp_iff, lt_T, List.mem_map]) hR (by simp (disch := omega) only [AVlt_v, AVlt_any, AVlt_sl, AVlt_ptr, AVlt_mp, AVlt_agg, AVlt_tup, AVlt_fn, RowsLt_nil, RowsLt_live, RowsLt_dead, List.mem_cons, List.not_mem_nil, List.forall_mem_cons, List.forall_mem_nil, or_false, false_or, forall_eq_or_imp, forall_eq, vs_lt, Nat.add_lt_add_iff_left, Nat.reduceLT, true_and, and_true, and_self, List.length_cons, List.length_nil, Nat.reduceAdd, Nat.zero_add, implies_true, false_imp_iff, lt_T, List.mem_map])
    · have hd : (old[i] != v[i]) = true := by simp only [bne_iff_ne, ne_eq]; exact fun e => hc e.symm
      have hn : chgAt old v i = true := by unfold chgAt; rw [hg, hg2]; simp [hc]
      rw [hn, if_pos rfl, hg] at hs
      have tl : (chgTo old v (i + 1)).length = (chgTo old v i).length + 1 := by rw [hs]; simp
      have ts : (chgTo old v i).map e2 ++ [[.int .i64 (i : Int), .int .i64 v[i]]] = (chgTo old v (i + 1)).map e2 := by rw [hs, List.map_append]; rfl
      have tt : ((chgTo old v i).map e2).take (chgTo old v i).length = (chgTo old v i).map e2 := List.take_of_length_le (by simp)
      simp (disch := (first | decide | omega)) only [hA, hg1, eI, hd, List.replicate_succ, List.replicate_zero, fillA, setFrom, cellsOf, tt, ts, ← tl, go_sem]
      refine ⟨i + 1, hlt, by simp only; omega, ?_⟩
      exact Weak.kround (p := r_rChanges0) (k := 1) (by ((repeat refine (kAny_up rfl).trans ?_); exact hEE1)) (by ((try simp (disch := decide) only [hA, go_sem]) <;> (repeat' (first | exact trivial | refine And.intro ?_ ?_)) <;> (first | rfl | (congr 2; omega)))) rfl hE1 (by simp) (by simp (disch := omega) only [KOvLt, AVlt_v, AVlt_any, AVlt_sl, AVlt_ptr, AVlt_mp, AVlt_agg, AVlt_tup, AVlt_fn, RowsLt_nil, RowsLt_live, RowsLt_dead, List.mem_cons, List.not_mem_nil, List.forall_mem_cons, List.forall_mem_nil, or_false, false_or, forall_eq_or_imp, forall_eq, vs_lt, Nat.add_lt_add_iff_left, Nat.reduceLT, true_and, and_true, and_self, List.length_cons, List.length_nil, Nat.reduceAdd, Nat.zero_add, implies_true, false_imp_iff, lt_T, List.mem_map]) hR (by simp (disch := omega) only [AVlt_v, AVlt_any, AVlt_sl, AVlt_ptr, AVlt_mp, AVlt_agg, AVlt_tup, AVlt_fn, RowsLt_nil, RowsLt_live, RowsLt_dead, List.mem_cons, List.not_mem_nil, List.forall_mem_cons, List.forall_mem_nil, or_false, false_or, forall_eq_or_imp, forall_eq, vs_lt, Nat.add_lt_add_iff_left, Nat.reduceLT, true_and, and_true, and_self, List.length_cons, List.length_nil, Nat.reduceAdd, Nat.zero_add, implies_true, false_imp_iff, lt_T, List.mem_map])
  · simp (disch := (first | decide | omega)) only [hA, hg1, go_sem]
    obtain rfl : i = v.length := by omega
    exact leave_frz (i := 0) (n := (chgTo old v v.length).length) (rows := (chgTo old v v.length).map e2) (.inr rfl) (by simp (disch := (first | decide | omega)) only [resVs, resV, hA, hg1, go_sem]) rfl (by simp) hR hB ⟨rfl, rfl, rfl⟩
/-- What Apply answers. -/
def appR (old : List Int) (l : List (Int × Int)) : AV := if appE old l = 0 then .tup [.v (.isl 1 ((appTo old l l.length).map eI)), .v (.int .i64 0)] else .tup [.v .zsl, .v (.int .i64 (appE old l))]
theorem appE_1 {old : List Int} {l : List (Int × Int)} (h : isV old = false) : appE old l = 1 := by simp [appE, h]
theorem appE_2 {old : List Int} {l : List (Int × Int)} (h : isV old = true) {i : Nat} (hi : i < l.length) (ho : oorAt old l i = true) : appE old l = 2 := by
  unfold appE
  rw [if_neg (by simp [h]), if_pos (List.any_eq_true.2 ⟨i, List.mem_range.2 hi, ho⟩)]
theorem appE_3 {old : List Int} {l : List (Int × Int)} (h : isV old = true) (h2 : ∀ i, i < l.length → oorAt old l i = false) {i : Nat} (hi : i < l.length) (ho : badC old l i = true) : appE old l = 3 := by
  unfold appE
  rw [if_neg (by simp [h]), if_neg (by simpa using h2), if_pos (List.any_eq_true.2 ⟨i, List.mem_range.2 hi, ho⟩)]
theorem appTo_set {old : List Int} {l : List (Int × Int)} {i m : Nat} (hi : i < l.length) (hm : l[i].1 = (m : Int)) : ((appTo old l i).map eI).set m [.int .i64 l[i].2] = (appTo old l (i + 1)).map eI := by
  have : appTo old l (i + 1) = (appTo old l i).set m l[i].2 := by
    show (appTo old l i).set (l.getD i (0, 0)).1.toNat (l.getD i (0, 0)).2 = _
    rw [getD_at hi, hm, Int.toNat_natCast]
  rw [this, List.map_set]; rfl
set_option maxRecDepth 20000 in
theorem apply_spec (old : List Int) (x : List (Int × Int)) (hx : x.length ≤ 1000000) (b l : List Row) : ACalls Try.prog 24 [.v (.isl 1 (old.map eI)), .v (.isl 2 (x.map e2))] b l (fun r b' l' => r = appR old x ∧ b' = b ∧ l' = l) := by
  refine calls_kept a_Apply_ok rfl (by decide) ?_
  intro B g hB hR hE hA
  simp only [KArgs] at hA
  simp (disch := decide) only [a_Apply, hA, go_sem]
  refine ACalls.nxt (is_spec old _ _) ?_
  cases h1 : isV old
  · simp (disch := decide) only [hA, go_sem]
    exact leave_pure (xs := [.v .zsl, .v (.int .i64 1)]) (.inr rfl) (by simp (disch := (first | decide | omega)) only [resVs, resV, go_sem, hA]) (by simp only [one, AVlt_v, AVlt_any, AVlt_sl, AVlt_ptr, AVlt_mp, AVlt_agg, AVlt_tup, AVlt_fn, RowsLt_nil, RowsLt_live, RowsLt_dead, List.mem_cons, List.not_mem_nil, List.forall_mem_cons, List.forall_mem_nil, or_false, false_or, forall_eq_or_imp, forall_eq, vs_lt, Nat.add_lt_add_iff_left, Nat.reduceLT, true_and, and_true, and_self, List.length_cons, List.length_nil, Nat.reduceAdd, Nat.zero_add, implies_true, false_imp_iff, lt_T, List.mem_map]) hR hB ⟨by simp [appR, appE_1 h1, one], rfl, rfl⟩
  obtain ⟨l1, l2, l3⟩ := isV_open h1
  simp (disch := decide) only [hA, go_sem]
  refine ACalls.nxt (contains2_spec x _ [.ptr B.length 0 0 0] (oorAt old x) hx _ _ (fun i hi => by
    unfold oorAt; rw [getD_at hi]
    exact appc_spec old x[i] B.length _ (by rw [List.getElem?_append_right (Nat.le_refl _)]; simp))) ?_
  cases h2 : (List.range x.length).any (oorAt old x)
  case true =>
    obtain ⟨i, hi, ho⟩ := List.any_eq_true.1 h2
    simp (disch := decide) only [hA, go_sem]
    exact leave_pure (xs := [.v .zsl, .v (.int .i64 2)]) (.inr rfl) (by simp (disch := (first | decide | omega)) only [resVs, resV, go_sem, hA]) (by simp only [one, AVlt_v, AVlt_any, AVlt_sl, AVlt_ptr, AVlt_mp, AVlt_agg, AVlt_tup, AVlt_fn, RowsLt_nil, RowsLt_live, RowsLt_dead, List.mem_cons, List.not_mem_nil, List.forall_mem_cons, List.forall_mem_nil, or_false, false_or, forall_eq_or_imp, forall_eq, vs_lt, Nat.add_lt_add_iff_left, Nat.reduceLT, true_and, and_true, and_self, List.length_cons, List.length_nil, Nat.reduceAdd, Nat.zero_add, implies_true, false_imp_iff, lt_T, List.mem_map]) hR hB ⟨by simp [appR, appE_2 h1 (List.mem_range.1 hi) ho, one], rfl, rfl⟩
  have h2 : ∀ i, i < x.length → oorAt old x i = false := by simpa using h2
  simp (disch := decide) only [hA, go_sem]
  refine ACalls.nxt (clo1_spec old l1 (by omega) _ _) ?_
  simp (disch := (first | decide | omega)) only [hA, List.length_map, go_sem]
  refine loop_kept (ι := Nat) r_Apply0 (fun i => [(19, .v (.int .i64 i))]) 2 (fun i => [.live 0 1 [[.v (.isl 1 (old.map eI))]], .live 1 1 (vs ((appTo old x i).map eI))])
    (fun i => i ≤ x.length ∧ ∀ j, j < i → badC old x j = false) (fun i => x.length - i) 0 ⟨Nat.zero_le _, fun j hj => by omega⟩ (by (repeat (first | exact hE.mono (by omega) | refine KLt.up ?_ (by simp (disch := omega) only [AVlt_v, AVlt_any, AVlt_sl, AVlt_ptr, AVlt_mp, AVlt_agg, AVlt_tup, AVlt_fn, RowsLt_nil, RowsLt_live, RowsLt_dead, List.mem_cons, List.not_mem_nil, List.forall_mem_cons, List.forall_mem_nil, or_false, false_or, forall_eq_or_imp, forall_eq, vs_lt, Nat.add_lt_add_iff_left, Nat.reduceLT, true_and, and_true, and_self, List.length_cons, List.length_nil, Nat.reduceAdd, Nat.zero_add, implies_true, false_imp_iff, lt_T, List.mem_map])))) (by ((try simp (disch := decide) only [hA, go_sem]) <;> (repeat' (first | exact trivial | refine And.intro ?_ ?_)) <;> (first | rfl | (congr 2; omega)))) (fun e => Weak.refl _ _ _) ?_
  rintro g1 hE1 hEE1 hg1 i ⟨hi, h0⟩
  have al := appTo_len old x i
  by_cases hlt : i < x.length
  · have hb := oor_open (h2 i hlt)
    rw [getD_at hlt] at hb
    obtain ⟨m, hm⟩ : ∃ m : Nat, x[i].1 = m := ⟨x[i].1.toNat, by omega⟩
    have hml : m < old.length := by omega
    have hst := appTo_set (old := old) hlt hm
    have next : badC old x i = false → ∀ j, j < i + 1 → badC old x j = false := by
      intro hq j hj
      rcases Nat.lt_or_ge j i with hji | hji
      · exact h0 j hji
      · have : j = i := by omega
        subst this; exact hq
    have hq : badC old x i = ((decide (0 < i) && decide ((x.getD (i - 1) (0, 0)).1 ≥ (m : Int))) || (old[m] == x[i].2)) := by
      unfold badC
      rw [getD_at hlt, hm, Int.toNat_natCast, getD_at hml]
    by_cases hpos : 0 < i
    · obtain ⟨j, rfl⟩ : ∃ j, i = j + 1 := ⟨i - 1, by omega⟩
      have hjl : j < x.length := by omega
      have hc : ((j + 1 : Nat) : Int) - 1 = (j : Int) := by omega
      have hp : decide (0 < ((j + 1 : Nat) : Int)) = true := decide_eq_true (by omega)
      rw [Nat.add_sub_cancel, getD_at hjl, decide_eq_true hpos, Bool.true_and] at hq
      cases h3 : decide ((m : Int) ≤ x[j].1)
      · have h3' : decide (x[j].1 ≥ (m : Int)) = false := h3
        rw [h3', Bool.false_or] at hq
        cases h4 : (old[m] == x[j + 1].2)
        · simp (disch := (first | decide | omega)) only [hA, hg1, e2, eI, hm, hc, hp, h3, h4, setFrom, cellsOf, Int.reduceToNat, Nat.mul_one, hst, al, go_sem]
          refine ⟨j + 1 + 1, ⟨hlt, next (hq.trans h4)⟩, by simp only; omega, ?_⟩
          exact Weak.kround (p := r_Apply0) (k := 2) (by ((repeat refine (kAny_up rfl).trans ?_); exact hEE1)) (by ((try simp (disch := decide) only [hA, go_sem]) <;> (repeat' (first | exact trivial | refine And.intro ?_ ?_)) <;> (first | rfl | (congr 2; omega)))) rfl hE1 (by simp) (by simp (disch := omega) only [KOvLt, AVlt_v, AVlt_any, AVlt_sl, AVlt_ptr, AVlt_mp, AVlt_agg, AVlt_tup, AVlt_fn, RowsLt_nil, RowsLt_live, RowsLt_dead, List.mem_cons, List.not_mem_nil, List.forall_mem_cons, List.forall_mem_nil, or_false, false_or, forall_eq_or_imp, forall_eq, vs_lt, Nat.add_lt_add_iff_left, Nat.reduceLT, true_and, and_true, and_self, List.length_cons, List.length_nil, Nat.reduceAdd, Nat.zero_add, implies_true, false_imp_iff, lt_T, List.mem_map]) hR (by simp (disch := omega) only [AVlt_v, AVlt_any, AVlt_sl, AVlt_ptr, AVlt_mp, AVlt_agg, AVlt_tup, AVlt_fn, RowsLt_nil, RowsLt_live, RowsLt_dead, List.mem_cons, List.not_mem_nil, List.forall_mem_cons, List.forall_mem_nil, or_false, false_or, forall_eq_or_imp, forall_eq, vs_lt, Nat.add_lt_add_iff_left, Nat.reduceLT, true_and, and_true, and_self, List.length_cons, List.length_nil, Nat.reduceAdd, Nat.zero_add, implies_true, false_imp_iff, lt_T, List.mem_map])
        · simp (disch := (first | decide | omega)) only [hA, hg1, e2, eI, hm, hc, hp, h3, h4, setFrom, cellsOf, Int.reduceToNat, Nat.mul_one, hst, al, go_sem]
          exact leave_pure (xs := [.v .zsl, .v (.int .i64 3)]) (.inr rfl) (by simp (disch := (first | decide | omega)) only [resVs, resV, go_sem, hA]) (by simp only [one, AVlt_v, AVlt_any, AVlt_sl, AVlt_ptr, AVlt_mp, AVlt_agg, AVlt_tup, AVlt_fn, RowsLt_nil, RowsLt_live, RowsLt_dead, List.mem_cons, List.not_mem_nil, List.forall_mem_cons, List.forall_mem_nil, or_false, false_or, forall_eq_or_imp, forall_eq, vs_lt, Nat.add_lt_add_iff_left, Nat.reduceLT, true_and, and_true, and_self, List.length_cons, List.length_nil, Nat.reduceAdd, Nat.zero_add, implies_true, false_imp_iff, lt_T, List.mem_map]) hR hB ⟨by simp [appR, appE_3 h1 h2 hlt (hq.trans h4), one], rfl, rfl⟩
      · have h3' : decide (x[j].1 ≥ (m : Int)) = true := h3
        rw [h3', Bool.true_or] at hq
        simp (disch := (first | decide | omega)) only [hA, hg1, e2, eI, hm, hc, hp, h3, setFrom, cellsOf, Int.reduceToNat, Nat.mul_one, hst, al, go_sem]
        exact leave_pure (xs := [.v .zsl, .v (.int .i64 3)]) (.inr rfl) (by simp (disch := (first | decide | omega)) only [resVs, resV, go_sem, hA]) (by simp only [one, AVlt_v, AVlt_any, AVlt_sl, AVlt_ptr, AVlt_mp, AVlt_agg, AVlt_tup, AVlt_fn, RowsLt_nil, RowsLt_live, RowsLt_dead, List.mem_cons, List.not_mem_nil, List.forall_mem_cons, List.forall_mem_nil, or_false, false_or, forall_eq_or_imp, forall_eq, vs_lt, Nat.add_lt_add_iff_left, Nat.reduceLT, true_and, and_true, and_self, List.length_cons, List.length_nil, Nat.reduceAdd, Nat.zero_add, implies_true, false_imp_iff, lt_T, List.mem_map]) hR hB ⟨by simp [appR, appE_3 h1 h2 hlt hq, one], rfl, rfl⟩
    · obtain rfl : i = 0 := by omega
      have hp : decide (0 < ((0 : Nat) : Int)) = false := decide_eq_false (by omega)
      rw [decide_eq_false hpos, Bool.false_and, Bool.false_or] at hq
      cases h4 : (old[m] == x[0].2)
      · simp (disch := (first | decide | omega)) only [hA, hg1, e2, eI, hm, hp, h4, setFrom, cellsOf, Int.reduceToNat, Nat.mul_one, hst, al, go_sem]
        refine ⟨0 + 1, ⟨hlt, next (hq.trans h4)⟩, by simp only; omega, ?_⟩
        exact Weak.kround (p := r_Apply0) (k := 2) (by ((repeat refine (kAny_up rfl).trans ?_); exact hEE1)) (by ((try simp (disch := decide) only [hA, go_sem]) <;> (repeat' (first | exact trivial | refine And.intro ?_ ?_)) <;> (first | rfl | (congr 2; omega)))) rfl hE1 (by simp) (by simp (disch := omega) only [KOvLt, AVlt_v, AVlt_any, AVlt_sl, AVlt_ptr, AVlt_mp, AVlt_agg, AVlt_tup, AVlt_fn, RowsLt_nil, RowsLt_live, RowsLt_dead, List.mem_cons, List.not_mem_nil, List.forall_mem_cons, List.forall_mem_nil, or_false, false_or, forall_eq_or_imp, forall_eq, vs_lt, Nat.add_lt_add_iff_left, Nat.reduceLT, true_and, and_true, and_self, List.length_cons, List.length_nil, Nat.reduceAdd, Nat.zero_add, implies_true, false_imp_iff, lt_T, List.mem_map]) hR (by simp (disch := omega) only [AVlt_v, AVlt_any, AVlt_sl, AVlt_ptr, AVlt_mp, AVlt_agg, AVlt_tup, AVlt_fn, RowsLt_nil, RowsLt_live, RowsLt_dead, List.mem_cons, List.not_mem_nil, List.forall_mem_cons, List.forall_mem_nil, or_false, false_or, forall_eq_or_imp, forall_eq, vs_lt, Nat.add_lt_add_iff_left, Nat.reduceLT, true_and, and_true, and_self, List.length_cons, List.length_nil, Nat.reduceAdd, Nat.zero_add, implies_true, false_imp_iff, lt_T, List.mem_map])
      · simp (disch := (first | decide | omega)) only [hA, hg1, e2, eI, hm, hp, h4, setFrom, cellsOf, Int.reduceToNat, Nat.mul_one, hst, al, go_sem]
        exact leave_pure (xs := [.v .zsl, .v (.int .i64 3)]) (.inr rfl) (by simp (disch := (first | decide | omega)) only [resVs, resV, go_sem, hA]) (by simp only [one, AVlt_v, AVlt_any, AVlt_sl, AVlt_ptr, AVlt_mp, AVlt_agg, AVlt_tup, AVlt_fn, RowsLt_nil, RowsLt_live, RowsLt_dead, List.mem_cons, List.not_mem_nil, List.forall_mem_cons, List.forall_mem_nil, or_false, false_or, forall_eq_or_imp, forall_eq, vs_lt, Nat.add_lt_add_iff_left, Nat.reduceLT, true_and, and_true, and_self, List.length_cons, List.length_nil, Nat.reduceAdd, Nat.zero_add, implies_true, false_imp_iff, lt_T, List.mem_map]) hR hB ⟨by simp [appR, appE_3 h1 h2 hlt (hq.trans h4), one], rfl, rfl⟩
  · simp (disch := (first | decide | omega)) only [hA, hg1, go_sem]
    obtain rfl : i = x.length := by omega
    have hz : appE old x = 0 := appE_ok h1 h2 h0
    exact leave_frz2 (i := 1) (n := old.length) (rows := (appTo old x x.length).map eI) (z := .int .i64 0) (.inr rfl) (by simp (disch := (first | decide | omega)) only [resVs, resV, hA, hg1, go_sem]) rfl (by simp [al]) hR hB ⟨by rw [appR, if_pos hz], rfl, rfl⟩
set_option maxRecDepth 20000 in
theorem rApply_spec (old : List Int) (x : List (Int × Int)) (hx : x.length ≤ 1000000) (b l : List Row) : ACalls Try.prog 25 [.v (.isl 1 (old.map eI)), .v (.isl 2 (x.map e2))] b l (fun r b' l' => r = appR old x ∧ b' = b ∧ l' = l) := by
  refine calls_kept a_rApply_ok rfl (by decide) ?_
  intro B g hB hR hE hA
  simp only [KArgs] at hA
  simp (disch := decide) only [a_rApply, hA, go_sem]
  refine ACalls.nxt (rValid_spec old _ _) ?_
  cases h1 : isV old
  · simp (disch := decide) only [hA, go_sem]
    exact leave_pure (xs := [.v .zsl, .v (.int .i64 1)]) (.inr rfl) (by simp (disch := (first | decide | omega)) only [resVs, resV, go_sem, hA]) (by simp only [one, AVlt_v, AVlt_any, AVlt_sl, AVlt_ptr, AVlt_mp, AVlt_agg, AVlt_tup, AVlt_fn, RowsLt_nil, RowsLt_live, RowsLt_dead, List.mem_cons, List.not_mem_nil, List.forall_mem_cons, List.forall_mem_nil, or_false, false_or, forall_eq_or_imp, forall_eq, vs_lt, Nat.add_lt_add_iff_left, Nat.reduceLT, true_and, and_true, and_self, List.length_cons, List.length_nil, Nat.reduceAdd, Nat.zero_add, implies_true, false_imp_iff, lt_T, List.mem_map]) hR hB ⟨by simp [appR, appE_1 h1, one], rfl, rfl⟩
  obtain ⟨l1, l2, l3⟩ := isV_open h1
  simp (disch := decide) only [hA, go_sem]
  refine loop_kept (ι := Nat) r_rApply0 (fun i => [(6, .v (.int .i64 i))]) 0 (fun i => [])
    (fun i => i ≤ x.length ∧ ∀ j, j < i → oorAt old x j = false) (fun i => x.length - i) 0 ⟨Nat.zero_le _, fun j hj => by omega⟩ (by (repeat (first | exact hE.mono (by omega) | refine KLt.up ?_ (by simp (disch := omega) only [AVlt_v, AVlt_any, AVlt_sl, AVlt_ptr, AVlt_mp, AVlt_agg, AVlt_tup, AVlt_fn, RowsLt_nil, RowsLt_live, RowsLt_dead, List.mem_cons, List.not_mem_nil, List.forall_mem_cons, List.forall_mem_nil, or_false, false_or, forall_eq_or_imp, forall_eq, vs_lt, Nat.add_lt_add_iff_left, Nat.reduceLT, true_and, and_true, and_self, List.length_cons, List.length_nil, Nat.reduceAdd, Nat.zero_add, implies_true, false_imp_iff, lt_T, List.mem_map])))) (by ((try simp (disch := decide) only [hA, go_sem]) <;> (repeat' (first | exact trivial | refine And.intro ?_ ?_)) <;> (first | rfl | (congr 2; omega)))) (fun e => Weak.refl _ _ _) ?_
  rintro g1 hE1 hEE1 hg1 i ⟨hi, h0⟩
  by_cases hlt : i < x.length
  · have hq : oorAt old x i = oor old x[i] := by unfold oorAt; rw [getD_at hlt]
    cases q1 : decide (x[i].1 < 0)
    · cases q2 : decide ((old.length : Int) ≤ x[i].1)
      · have q2' : decide (x[i].1 ≥ (old.length : Int)) = false := q2
        cases q3 : decide (x[i].2 < 0)
        · cases q4 : decide (1125899906842624 < x[i].2)
          · have q4' : decide (x[i].2 > 1125899906842624) = false := q4
            simp only [oor, q1, q2', q3, q4', Bool.false_or] at hq
            simp (disch := (first | decide | omega)) only [hA, hg1, e2, q1, q2, q3, q4, Int.reduceToNat, Nat.mul_one, List.length_map, go_sem]
            refine ⟨i + 1, ⟨hlt, fun j hj => ?_⟩, by simp only; omega, ?_⟩
            · rcases Nat.lt_or_ge j i with hji | hji
              · exact h0 j hji
              · have : j = i := by omega
                subst this; exact hq
            exact Weak.kround (p := r_rApply0) (k := 0) (by ((repeat refine (kAny_up rfl).trans ?_); exact hEE1)) (by ((try simp (disch := decide) only [hA, go_sem]) <;> (repeat' (first | exact trivial | refine And.intro ?_ ?_)) <;> (first | rfl | (congr 2; omega)))) rfl hE1 (by simp) (by simp (disch := omega) only [KOvLt, AVlt_v, AVlt_any, AVlt_sl, AVlt_ptr, AVlt_mp, AVlt_agg, AVlt_tup, AVlt_fn, RowsLt_nil, RowsLt_live, RowsLt_dead, List.mem_cons, List.not_mem_nil, List.forall_mem_cons, List.forall_mem_nil, or_false, false_or, forall_eq_or_imp, forall_eq, vs_lt, Nat.add_lt_add_iff_left, Nat.reduceLT, true_and, and_true, and_self, List.length_cons, List.length_nil, Nat.reduceAdd, Nat.zero_add, implies_true, false_imp_iff, lt_T, List.mem_map]) hR (by simp (disch := omega) only [AVlt_v, AVlt_any, AVlt_sl, AVlt_ptr, AVlt_mp, AVlt_agg, AVlt_tup, AVlt_fn, RowsLt_nil, RowsLt_live, RowsLt_dead, List.mem_cons, List.not_mem_nil, List.forall_mem_cons, List.forall_mem_nil, or_false, false_or, forall_eq_or_imp, forall_eq, vs_lt, Nat.add_lt_add_iff_left, Nat.reduceLT, true_and, and_true, and_self, List.length_cons, List.length_nil, Nat.reduceAdd, Nat.zero_add, implies_true, false_imp_iff, lt_T, List.mem_map])
          · have q4' : decide (x[i].2 > 1125899906842624) = true := q4
            simp only [oor, q1, q2', q3, q4', Bool.false_or] at hq
            simp (disch := (first | decide | omega)) only [hA, hg1, e2, q1, q2, q3, q4, Int.reduceToNat, Nat.mul_one, List.length_map, go_sem]
            exact leave_pure (xs := [.v .zsl, .v (.int .i64 2)]) (.inr rfl) (by simp (disch := (first | decide | omega)) only [resVs, resV, go_sem, hA]) (by simp only [one, AVlt_v, AVlt_any, AVlt_sl, AVlt_ptr, AVlt_mp, AVlt_agg, AVlt_tup, AVlt_fn, RowsLt_nil, RowsLt_live, RowsLt_dead, List.mem_cons, List.not_mem_nil, List.forall_mem_cons, List.forall_mem_nil, or_false, false_or, forall_eq_or_imp, forall_eq, vs_lt, Nat.add_lt_add_iff_left, Nat.reduceLT, true_and, and_true, and_self, List.length_cons, List.length_nil, Nat.reduceAdd, Nat.zero_add, implies_true, false_imp_iff, lt_T, List.mem_map]) hR hB ⟨by simp [appR, appE_2 h1 hlt hq, one], rfl, rfl⟩
        · simp only [oor, q1, q2', q3, Bool.false_or, Bool.true_or] at hq
          simp (disch := (first | decide | omega)) only [hA, hg1, e2, q1, q2, q3, Int.reduceToNat, Nat.mul_one, List.length_map, go_sem]
          exact leave_pure (xs := [.v .zsl, .v (.int .i64 2)]) (.inr rfl) (by simp (disch := (first | decide | omega)) only [resVs, resV, go_sem, hA]) (by simp only [one, AVlt_v, AVlt_any, AVlt_sl, AVlt_ptr, AVlt_mp, AVlt_agg, AVlt_tup, AVlt_fn, RowsLt_nil, RowsLt_live, RowsLt_dead, List.mem_cons, List.not_mem_nil, List.forall_mem_cons, List.forall_mem_nil, or_false, false_or, forall_eq_or_imp, forall_eq, vs_lt, Nat.add_lt_add_iff_left, Nat.reduceLT, true_and, and_true, and_self, List.length_cons, List.length_nil, Nat.reduceAdd, Nat.zero_add, implies_true, false_imp_iff, lt_T, List.mem_map]) hR hB ⟨by simp [appR, appE_2 h1 hlt hq, one], rfl, rfl⟩
      · have q2' : decide (x[i].1 ≥ (old.length : Int)) = true := q2
        simp only [oor, q1, q2', Bool.false_or, Bool.true_or] at hq
        simp (disch := (first | decide | omega)) only [hA, hg1, e2, q1, q2, Int.reduceToNat, Nat.mul_one, List.length_map, go_sem]
        exact leave_pure (xs := [.v .zsl, .v (.int .i64 2)]) (.inr rfl) (by simp (disch := (first | decide | omega)) only [resVs, resV, go_sem, hA]) (by simp only [one, AVlt_v, AVlt_any, AVlt_sl, AVlt_ptr, AVlt_mp, AVlt_agg, AVlt_tup, AVlt_fn, RowsLt_nil, RowsLt_live, RowsLt_dead, List.mem_cons, List.not_mem_nil, List.forall_mem_cons, List.forall_mem_nil, or_false, false_or, forall_eq_or_imp, forall_eq, vs_lt, Nat.add_lt_add_iff_left, Nat.reduceLT, true_and, and_true, and_self, List.length_cons, List.length_nil, Nat.reduceAdd, Nat.zero_add, implies_true, false_imp_iff, lt_T, List.mem_map]) hR hB ⟨by simp [appR, appE_2 h1 hlt hq, one], rfl, rfl⟩
    · simp only [oor, q1, Bool.true_or] at hq
      simp (disch := (first | decide | omega)) only [hA, hg1, e2, q1, Int.reduceToNat, Nat.mul_one, List.length_map, go_sem]
      exact leave_pure (xs := [.v .zsl, .v (.int .i64 2)]) (.inr rfl) (by simp (disch := (first | decide | omega)) only [resVs, resV, go_sem, hA]) (by simp only [one, AVlt_v, AVlt_any, AVlt_sl, AVlt_ptr, AVlt_mp, AVlt_agg, AVlt_tup, AVlt_fn, RowsLt_nil, RowsLt_live, RowsLt_dead, List.mem_cons, List.not_mem_nil, List.forall_mem_cons, List.forall_mem_nil, or_false, false_or, forall_eq_or_imp, forall_eq, vs_lt, Nat.add_lt_add_iff_left, Nat.reduceLT, true_and, and_true, and_self, List.length_cons, List.length_nil, Nat.reduceAdd, Nat.zero_add, implies_true, false_imp_iff, lt_T, List.mem_map]) hR hB ⟨by simp [appR, appE_2 h1 hlt hq, one], rfl, rfl⟩
  obtain rfl : i = x.length := by omega
  have h2 := h0
  clear h0
  have hx2 : old.length ≤ 1000000 := by omega
  simp (disch := (first | decide | omega)) only [hA, hg1, List.length_map, go_sem]
  refine loop_kept (ι := Nat) r_rApply1 (fun i => [(8, .v (.int .i64 i))]) 1 (fun i => [.live 1 1 (vs ((appTo old x i).map eI))])
    (fun i => i ≤ x.length ∧ ∀ j, j < i → badC old x j = false) (fun i => x.length - i) 0 ⟨Nat.zero_le _, fun j hj => by omega⟩ (by (repeat (first | exact hE1.mono (by omega) | refine KLt.up ?_ (by simp (disch := omega) only [AVlt_v, AVlt_any, AVlt_sl, AVlt_ptr, AVlt_mp, AVlt_agg, AVlt_tup, AVlt_fn, RowsLt_nil, RowsLt_live, RowsLt_dead, List.mem_cons, List.not_mem_nil, List.forall_mem_cons, List.forall_mem_nil, or_false, false_or, forall_eq_or_imp, forall_eq, vs_lt, Nat.add_lt_add_iff_left, Nat.reduceLT, true_and, and_true, and_self, List.length_cons, List.length_nil, Nat.reduceAdd, Nat.zero_add, implies_true, false_imp_iff, lt_T, List.mem_map])))) (by ((try simp (disch := decide) only [hA, hg1, go_sem]) <;> (repeat' (first | exact trivial | refine And.intro ?_ ?_)) <;> (first | rfl | (congr 2; omega)))) (fun e => Weak.refl _ _ _) ?_
  rintro g2 hE2 hEE2 hg2 i ⟨hi, h0⟩
  have al := appTo_len old x i
  by_cases hlt : i < x.length
  · have hb := oor_open (h2 i hlt)
    rw [getD_at hlt] at hb
    obtain ⟨m, hm⟩ : ∃ m : Nat, x[i].1 = m := ⟨x[i].1.toNat, by omega⟩
    have hml : m < old.length := by omega
    have hst := appTo_set (old := old) hlt hm
    have next : badC old x i = false → ∀ j, j < i + 1 → badC old x j = false := by
      intro hq j hj
      rcases Nat.lt_or_ge j i with hji | hji
      · exact h0 j hji
      · have : j = i := by omega
        subst this; exact hq
    have hq : badC old x i = ((decide (0 < i) && decide ((x.getD (i - 1) (0, 0)).1 ≥ (m : Int))) || (old[m] == x[i].2)) := by
      unfold badC
      rw [getD_at hlt, hm, Int.toNat_natCast, getD_at hml]
    by_cases hpos : 0 < i
    · obtain ⟨j, rfl⟩ : ∃ j, i = j + 1 := ⟨i - 1, by omega⟩
      have hjl : j < x.length := by omega
      have hc : ((j + 1 : Nat) : Int) - 1 = (j : Int) := by omega
      have hp : decide (0 < ((j + 1 : Nat) : Int)) = true := decide_eq_true (by omega)
      rw [Nat.add_sub_cancel, getD_at hjl, decide_eq_true hpos, Bool.true_and] at hq
      cases h3 : decide ((m : Int) ≤ x[j].1)
      · have h3' : decide (x[j].1 ≥ (m : Int)) = false := h3
        rw [h3', Bool.false_or] at hq
        cases h4 : (old[m] == x[j + 1].2)
        · simp (disch := (first | decide | omega)) only [hA, hg1, hg2, e2, eI, hm, hc, hp, h3, h4, setFrom, cellsOf, Int.reduceToNat, Nat.mul_one, hst, al, go_sem]
          refine ⟨j + 1 + 1, ⟨hlt, next (hq.trans h4)⟩, by simp only; omega, ?_⟩
          exact Weak.kround (p := r_rApply1) (k := 1) (by ((repeat refine (kAny_up rfl).trans ?_); exact hEE2)) (by ((try simp (disch := decide) only [hA, go_sem]) <;> (repeat' (first | exact trivial | refine And.intro ?_ ?_)) <;> (first | rfl | (congr 2; omega)))) rfl hE2 (by simp) (by simp (disch := omega) only [KOvLt, AVlt_v, AVlt_any, AVlt_sl, AVlt_ptr, AVlt_mp, AVlt_agg, AVlt_tup, AVlt_fn, RowsLt_nil, RowsLt_live, RowsLt_dead, List.mem_cons, List.not_mem_nil, List.forall_mem_cons, List.forall_mem_nil, or_false, false_or, forall_eq_or_imp, forall_eq, vs_lt, Nat.add_lt_add_iff_left, Nat.reduceLT, true_and, and_true, and_self, List.length_cons, List.length_nil, Nat.reduceAdd, Nat.zero_add, implies_true, false_imp_iff, lt_T, List.mem_map]) hR (by simp (disch := omega) only [AVlt_v, AVlt_any, AVlt_sl, AVlt_ptr, AVlt_mp, AVlt_agg, AVlt_tup, AVlt_fn, RowsLt_nil, RowsLt_live, RowsLt_dead, List.mem_cons, List.not_mem_nil, List.forall_mem_cons, List.forall_mem_nil, or_false, false_or, forall_eq_or_imp, forall_eq, vs_lt, Nat.add_lt_add_iff_left, Nat.reduceLT, true_and, and_true, and_self, List.length_cons, List.length_nil, Nat.reduceAdd, Nat.zero_add, implies_true, false_imp_iff, lt_T, List.mem_map])
        · simp (disch := (first | decide | omega)) only [hA, hg1, hg2, e2, eI, hm, hc, hp, h3, h4, setFrom, cellsOf, Int.reduceToNat, Nat.mul_one, hst, al, go_sem]
          exact leave_pure (xs := [.v .zsl, .v (.int .i64 3)]) (.inr rfl) (by simp (disch := (first | decide | omega)) only [resVs, resV, go_sem, hA]) (by simp only [one, AVlt_v, AVlt_any, AVlt_sl, AVlt_ptr, AVlt_mp, AVlt_agg, AVlt_tup, AVlt_fn, RowsLt_nil, RowsLt_live, RowsLt_dead, List.mem_cons, List.not_mem_nil, List.forall_mem_cons, List.forall_mem_nil, or_false, false_or, forall_eq_or_imp, forall_eq, vs_lt, Nat.add_lt_add_iff_left, Nat.reduceLT, true_and, and_true, and_self, List.length_cons, List.length_nil, Nat.reduceAdd, Nat.zero_add, implies_true, false_imp_iff, lt_T, List.mem_map]) hR hB ⟨by simp [appR, appE_3 h1 h2 hlt (hq.trans h4), one], rfl, rfl⟩
      · have h3' : decide (x[j].1 ≥ (m : Int)) = true := h3
        rw [h3', Bool.true_or] at hq
        simp (disch := (first | decide | omega)) only [hA, hg1, hg2, e2, eI, hm, hc, hp, h3, setFrom, cellsOf, Int.reduceToNat, Nat.mul_one, hst, al, go_sem]
        exact leave_pure (xs := [.v .zsl, .v (.int .i64 3)]) (.inr rfl) (by simp (disch := (first | decide | omega)) only [resVs, resV, go_sem, hA]) (by simp only [one, AVlt_v, AVlt_any, AVlt_sl, AVlt_ptr, AVlt_mp, AVlt_agg, AVlt_tup, AVlt_fn, RowsLt_nil, RowsLt_live, RowsLt_dead, List.mem_cons, List.not_mem_nil, List.forall_mem_cons, List.forall_mem_nil, or_false, false_or, forall_eq_or_imp, forall_eq, vs_lt, Nat.add_lt_add_iff_left, Nat.reduceLT, true_and, and_true, and_self, List.length_cons, List.length_nil, Nat.reduceAdd, Nat.zero_add, implies_true, false_imp_iff, lt_T, List.mem_map]) hR hB ⟨by simp [appR, appE_3 h1 h2 hlt hq, one], rfl, rfl⟩
    · obtain rfl : i = 0 := by omega
      have hp : decide (0 < ((0 : Nat) : Int)) = false := decide_eq_false (by omega)
      rw [decide_eq_false hpos, Bool.false_and, Bool.false_or] at hq
      cases h4 : (old[m] == x[0].2)
      · simp (disch := (first | decide | omega)) only [hA, hg1, hg2, e2, eI, hm, hp, h4, setFrom, cellsOf, Int.reduceToNat, Nat.mul_one, hst, al, go_sem]
        refine ⟨0 + 1, ⟨hlt, next (hq.trans h4)⟩, by simp only; omega, ?_⟩
        exact Weak.kround (p := r_rApply1) (k := 1) (by ((repeat refine (kAny_up rfl).trans ?_); exact hEE2)) (by ((try simp (disch := decide) only [hA, go_sem]) <;> (repeat' (first | exact trivial | refine And.intro ?_ ?_)) <;> (first | rfl | (congr 2; omega)))) rfl hE2 (by simp) (by simp (disch := omega) only [KOvLt, AVlt_v, AVlt_any, AVlt_sl, AVlt_ptr, AVlt_mp, AVlt_agg, AVlt_tup, AVlt_fn, RowsLt_nil, RowsLt_live, RowsLt_dead, List.mem_cons, List.not_mem_nil, List.forall_mem_cons, List.forall_mem_nil, or_false, false_or, forall_eq_or_imp, forall_eq, vs_lt, Nat.add_lt_add_iff_left, Nat.reduceLT, true_and, and_true, and_self, List.length_cons, List.length_nil, Nat.reduceAdd, Nat.zero_add, implies_true, false_imp_iff, lt_T, List.mem_map]) hR (by simp (disch := omega) only [AVlt_v, AVlt_any, AVlt_sl, AVlt_ptr, AVlt_mp, AVlt_agg, AVlt_tup, AVlt_fn, RowsLt_nil, RowsLt_live, RowsLt_dead, List.mem_cons, List.not_mem_nil, List.forall_mem_cons, List.forall_mem_nil, or_false, false_or, forall_eq_or_imp, forall_eq, vs_lt, Nat.add_lt_add_iff_left, Nat.reduceLT, true_and, and_true, and_self, List.length_cons, List.length_nil, Nat.reduceAdd, Nat.zero_add, implies_true, false_imp_iff, lt_T, List.mem_map])
      · simp (disch := (first | decide | omega)) only [hA, hg1, hg2, e2, eI, hm, hp, h4, setFrom, cellsOf, Int.reduceToNat, Nat.mul_one, hst, al, go_sem]
        exact leave_pure (xs := [.v .zsl, .v (.int .i64 3)]) (.inr rfl) (by simp (disch := (first | decide | omega)) only [resVs, resV, go_sem, hA]) (by simp only [one, AVlt_v, AVlt_any, AVlt_sl, AVlt_ptr, AVlt_mp, AVlt_agg, AVlt_tup, AVlt_fn, RowsLt_nil, RowsLt_live, RowsLt_dead, List.mem_cons, List.not_mem_nil, List.forall_mem_cons, List.forall_mem_nil, or_false, false_or, forall_eq_or_imp, forall_eq, vs_lt, Nat.add_lt_add_iff_left, Nat.reduceLT, true_and, and_true, and_self, List.length_cons, List.length_nil, Nat.reduceAdd, Nat.zero_add, implies_true, false_imp_iff, lt_T, List.mem_map]) hR hB ⟨by simp [appR, appE_3 h1 h2 hlt (hq.trans h4), one], rfl, rfl⟩
  · simp (disch := (first | decide | omega)) only [hA, hg1, hg2, go_sem]
    obtain rfl : i = x.length := by omega
    have hz : appE old x = 0 := appE_ok h1 h2 h0
    exact leave_frz2 (i := 0) (n := old.length) (rows := (appTo old x x.length).map eI) (z := .int .i64 0) (.inr rfl) (by simp (disch := (first | decide | omega)) only [resVs, resV, hA, hg1, hg2, go_sem]) rfl (by simp [al]) hR hB ⟨by rw [appR, if_pos hz], rfl, rfl⟩
theorem appR_wk {v : List Int} {p : List (Int × Int)} {w : World} {F : Nat → Prop} {L : LMap} {x : Value} (h : RepA w F L (appR v p) x) : RepA w F L (.tup [.v (.isl 1 ((appV v p).map eI)), .v (.int .i64 (appE v p))]) x := by
  unfold appR at h
  unfold appV
  by_cases ht : appE v p = 0
  · rw [if_pos ht] at h; rw [if_pos ht, ht]; exact h
  · rw [if_neg ht] at h; rw [if_neg ht]
    exact zwT_rep (szs := [1, 0]) rfl h
theorem apply_spec2 (v : List Int) (p : List (Int × Int)) (hp : p.length ≤ 1000000) (b l : List Row) : ACalls Try.prog 24 [.v (.isl 1 (v.map eI)), .v (.isl 2 (p.map e2))] b l (fun r b' l' => r = .tup [.v (.isl 1 ((appV v p).map eI)), .v (.int .i64 (appE v p))] ∧ b' = b ∧ l' = l) :=
  (apply_spec v p hp b l).wk (fun r b' l' ⟨h1, h2⟩ => ⟨_, fun _ _ _ _ h => appR_wk (h1 ▸ h), rfl, h2⟩)
theorem rApply_spec2 (v : List Int) (p : List (Int × Int)) (hp : p.length ≤ 1000000) (b l : List Row) : ACalls Try.prog 25 [.v (.isl 1 (v.map eI)), .v (.isl 2 (p.map e2))] b l (fun r b' l' => r = .tup [.v (.isl 1 ((appV v p).map eI)), .v (.int .i64 (appE v p))] ∧ b' = b ∧ l' = l) :=
  (rApply_spec v p hp b l).wk (fun r b' l' ⟨h1, h2⟩ => ⟨_, fun _ _ _ _ h => appR_wk (h1 ▸ h), rfl, h2⟩)
set_option maxRecDepth 20000 in
set_option maxHeartbeats 1000000 in
theorem vectorChanges_run (old v : List Int) (x : List (Int × Int)) (b l : List Row)
    (hw : ∀ b l, ACalls Try.prog 15 [] b l (fun r b' l' => r = .v (.bool true) ∧ b' = b ∧ l' = l)) :
    ACalls Try.prog 4 [.v (.isl 1 (old.map eI)), .v (.isl 1 (v.map eI)), .v (.isl 2 (x.map e2))] b l (fun r b' l' => r = .v (.bool true) ∧ b' = b ∧ l' = l) := by
  refine calls_kept a_VectorChanges_ok rfl (by decide) ?_
  intro B g hB hR hE hA
  simp only [KArgs] at hA
  simp (disch := decide) only [a_VectorChanges, hA, go_sem]
  refine ACalls.nxt (hw _ _) ?_
  by_cases h1 : old.length > 40
  · have hd : decide ((old.length : Int) > 40) = true := decide_eq_true (by omega)
    simp (disch := decide) only [hA, List.length_map, hd, go_sem]
    exact leave_pure (xs := [.v (.bool true)]) (.inr rfl) (by simp (disch := (first | decide | omega)) only [resVs, resV, go_sem, hA]) (by simp only [one, AVlt_v, AVlt_any, AVlt_sl, AVlt_ptr, AVlt_mp, AVlt_agg, AVlt_tup, AVlt_fn, RowsLt_nil, RowsLt_live, RowsLt_dead, List.mem_cons, List.not_mem_nil, List.forall_mem_cons, List.forall_mem_nil, or_false, false_or, forall_eq_or_imp, forall_eq, vs_lt, Nat.add_lt_add_iff_left, Nat.reduceLT, true_and, and_true, and_self, List.length_cons, List.length_nil, Nat.reduceAdd, Nat.zero_add, implies_true, false_imp_iff, lt_T, List.mem_map]) hR hB ⟨rfl, rfl, rfl⟩
  have hd1 : decide ((old.length : Int) > 40) = false := decide_eq_false (by omega)
  by_cases h2 : v.length > 40
  · have hd : decide ((v.length : Int) > 40) = true := decide_eq_true (by omega)
    simp (disch := decide) only [hA, List.length_map, hd1, hd, go_sem]
    exact leave_pure (xs := [.v (.bool true)]) (.inr rfl) (by simp (disch := (first | decide | omega)) only [resVs, resV, go_sem, hA]) (by simp only [one, AVlt_v, AVlt_any, AVlt_sl, AVlt_ptr, AVlt_mp, AVlt_agg, AVlt_tup, AVlt_fn, RowsLt_nil, RowsLt_live, RowsLt_dead, List.mem_cons, List.not_mem_nil, List.forall_mem_cons, List.forall_mem_nil, or_false, false_or, forall_eq_or_imp, forall_eq, vs_lt, Nat.add_lt_add_iff_left, Nat.reduceLT, true_and, and_true, and_self, List.length_cons, List.length_nil, Nat.reduceAdd, Nat.zero_add, implies_true, false_imp_iff, lt_T, List.mem_map]) hR hB ⟨rfl, rfl, rfl⟩
  have hd2 : decide ((v.length : Int) > 40) = false := decide_eq_false (by omega)
  by_cases h3 : x.length > 40
  · have hd : decide ((x.length : Int) > 40) = true := decide_eq_true (by omega)
    simp (disch := decide) only [hA, List.length_map, hd1, hd2, hd, go_sem]
    exact leave_pure (xs := [.v (.bool true)]) (.inr rfl) (by simp (disch := (first | decide | omega)) only [resVs, resV, go_sem, hA]) (by simp only [one, AVlt_v, AVlt_any, AVlt_sl, AVlt_ptr, AVlt_mp, AVlt_agg, AVlt_tup, AVlt_fn, RowsLt_nil, RowsLt_live, RowsLt_dead, List.mem_cons, List.not_mem_nil, List.forall_mem_cons, List.forall_mem_nil, or_false, false_or, forall_eq_or_imp, forall_eq, vs_lt, Nat.add_lt_add_iff_left, Nat.reduceLT, true_and, and_true, and_self, List.length_cons, List.length_nil, Nat.reduceAdd, Nat.zero_add, implies_true, false_imp_iff, lt_T, List.mem_map]) hR hB ⟨rfl, rfl, rfl⟩
  have hd3 : decide ((x.length : Int) > 40) = false := decide_eq_false (by omega)
  simp (disch := decide) only [hA, List.length_map, hd1, hd2, hd3, go_sem]
  have nes : ∀ n : Int, (n != n) = false := by intro n; simp
  have beqs : ∀ n : Int, (n == n) = true := by intro n; simp
  have tl : (appV old x).length ≤ 1000000 := by
    unfold appV; split
    · rw [appTo_len]; omega
    · simp
  refine ACalls.nxt (apply_spec2 old x (by omega) _ _) ?_
  simp (disch := decide) only [hA, go_sem]
  refine ACalls.nxt (rApply_spec2 old x (by omega) _ _) ?_
  simp (disch := decide) only [hA, go_sem]
  refine ACalls.nxt (eq1_spec (appV old x) (appV old x) tl _ _) ?_
  rw [decide_eq_true rfl]
  cases hz : (appE old x == 0)
  case' false =>
    simp (disch := decide) only [hA, nes, hz, go_sem]
  case' true =>
    have hz0 : appE old x = 0 := by simpa using hz
    have hav : appV old x = appTo old x x.length := by unfold appV; rw [if_pos hz0]
    have hba := isV_app hz0
    have hca := chg_app hz0
    simp (disch := decide) only [hA, nes, hz, go_sem]
    rw [hav]
    refine ACalls.nxt (changes_spec old (appTo old x x.length) hba _ _) ?_
    rw [hca]
    simp (disch := decide) only [hA, nes, go_sem]
    refine ACalls.nxt (eq2_spec x x (by omega) _ _) ?_
    rw [decide_eq_true rfl]
    simp (disch := decide) only [hA, go_sem]
  all_goals
    cases hb : bothV old v
    case' false =>
      refine ACalls.nxt (changes_no old v hb _ _) ?_
      simp (disch := decide) only [hA, go_sem]
      refine ACalls.nxt (rPair_spec old v _ _) ?_
      rw [hb]
      simp (disch := decide) only [hA, beqs, go_sem]
    case' true =>
      obtain ⟨v1, v2, v3⟩ := bothV_open hb
      have cl := chgTo_len old v v.length
      have hcl : (chgV old v).length ≤ 1000000 := by show (chgTo old v v.length).length ≤ _; omega
      obtain ⟨k1, k2⟩ := app_chg hb
      have hav2 : appV old (chgV old v) = v := by unfold appV; rw [if_pos k1, k2]
      refine ACalls.nxt (changes_spec old v hb _ _) ?_
      simp (disch := decide) only [hA, go_sem]
      refine ACalls.nxt (rPair_spec old v _ _) ?_
      rw [hb]
      simp (disch := decide) only [hA, go_sem]
      refine ACalls.nxt (apply_spec2 old (chgV old v) hcl _ _) ?_
      rw [k1, hav2]
      simp (disch := decide) only [hA, beqs, go_sem]
      refine ACalls.nxt (rChanges_spec old v (by omega) v3 _ _) ?_
      simp (disch := decide) only [hA, go_sem]
      refine ACalls.nxt (eq2_spec (chgV old v) (chgV old v) hcl _ _) ?_
      rw [decide_eq_true rfl]
      simp (disch := decide) only [hA, beqs, go_sem]
      refine ACalls.nxt (eq1_spec v v (by omega) _ _) ?_
      rw [decide_eq_true rfl]
      simp (disch := decide) only [hA, beqs, go_sem]
  all_goals
    exact leave_pure (xs := [.v (.bool true)]) (.inr rfl) (by simp (disch := (first | decide | omega)) only [resVs, resV, go_sem, hA]) (by simp only [one, AVlt_v, AVlt_any, AVlt_sl, AVlt_ptr, AVlt_mp, AVlt_agg, AVlt_tup, AVlt_fn, RowsLt_nil, RowsLt_live, RowsLt_dead, List.mem_cons, List.not_mem_nil, List.forall_mem_cons, List.forall_mem_nil, or_false, false_or, forall_eq_or_imp, forall_eq, vs_lt, Nat.add_lt_add_iff_left, Nat.reduceLT, true_and, and_true, and_self, List.length_cons, List.length_nil, Nat.reduceAdd, Nat.zero_add, implies_true, false_imp_iff, lt_T, List.mem_map]) hR hB ⟨rfl, rfl, rfl⟩
end Go.Proofs.Ytiiflkcebikecaa

/- Lists of pairs of numbers, read as they come in. No condition. -/
namespace Go.Proofs.Ytiiflkcebikecaa
open Go.ChangeShapes Go.WideShapes Go.ChangeAt Go.RowKit
set_option linter.unusedVariables false
theorem TR.mapg {P : Program} {α β : Type} {t : TypeId} {n : Nat} {enc : α → List IV} {good : α → Prop} (h : TR P t n enc good) {enc' : β → List IV} {good' : β → Prop} (f : α → β) (he : ∀ y, good y → enc' (f y) = enc y) (hg : ∀ y, good y → good' (f y)) : TR P t n enc' good' := by
  intro H en w base spare held fuel cs x hl hx
  obtain ⟨y, g, r⟩ := h H en w base spare held fuel cs x hl hx
  exact ⟨f y, hg y g, by rw [he y g]; exact r⟩
theorem tr_pair : TR Try.prog 47 2 e2 (fun _ => True) :=
  (tr_array (k := 2) tr_i Try.underlying47 (by kernel_rfl)).mapg (fun ys => (ys.getD 0 0, ys.getD 1 0)) (fun ys h => by
    match ys, h.1 with
    | [a, c], _ => rfl) (fun _ _ => trivial)
theorem tr_pairs : TR Try.prog 38 1 (fun l : List (Int × Int) => [.isl 2 (l.map e2)]) (fun l => l.length ≤ maxLen ∧ ∀ y ∈ l, True) := tr_slice tr_pair Try.underlying38 (by kernel_rfl) (by decide)
end Go.Proofs.Ytiiflkcebikecaa
