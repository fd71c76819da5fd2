/- Texts of one proof, laid together: PA, PD, PE. No condition. -/
import Derived.Test.YtnnnccibhhnbaaaST8
import Derived.Test.YtnnnccibhhnbaaaST2
namespace Go.Proofs.Ytnnnccibhhnbaaa
set_option linter.unusedVariables false
set_option linter.unusedSimpArgs false
attribute [local go_sem ↓] run_skip run_region run_draw run_seq run_block run_exit run_ret run_cond atN_app seqC_normal seqC_exit seqC_ret seqQ_normal seqQ_exit seqQ_ret blkQ_normal blkQ_exit blkQ_ret runOps_nil runOps_cons runD_nil runD_cons grdO_true grdO_false grdD_true grdD_false ifC_true ifC_false opS_val opS_call opS_two opK_app dS_val dS_call dS_two dK_app
attribute [local go_sem] rechks_nil rechks_cons rechk gcase_true gcase_false ex_val ex_val0 gd_none gd_some nth_zero nth_succ upd_zero upd_succ put_some put_none ev_t ev_c evs_nil evs_cons evo_some evo_none hget_at hget_first hsetB_at hsetB_first hsetL_at hsetL_first ofOpt_some aop aload astore aslice aappend aiaddr aiaddrA afaddr alen alenS acopy amm acall alookup amupdate alenM comma keyEq apick binV binVB binVS isSh intOp strOp boolOp shOp eqC eqF and2 cellsOf setFrom fillA fillS rd rdI elems mk bounds AV.cell List.all_cons List.all_nil Bool.and_true Bool.true_and Bool.and_self List.length_cons List.length_nil List.length_append Nat.reduceAdd Nat.reduceSub Nat.reduceMul Nat.zero_add Nat.add_zero List.replicate_succ List.replicate_zero List.cons_append List.nil_append List.append_assoc List.append_nil List.getElem?_cons_zero List.getElem?_cons_succ List.getElem?_nil List.set_cons_zero List.set_cons_succ List.drop_zero List.drop_succ_cons List.take_zero List.take_succ_cons List.take_nil List.drop_nil List.map_cons List.map_nil Option.map_some if_true if_false Bool.false_eq_true and_self true_and and_true Nat.reduceLeDiff Nat.reduceLT Nat.le_refl Nat.reduceEqDiff ite_true ite_false beq_self_eq_true beq_true beq_false Bool.not_true Bool.not_false Bool.true_beq Bool.false_beq map_vs vs_len vs_get vs_take vs_drop vs_snoc1 vs_snoc2 vs_snoc3 vs_snoc5 vs_set1 vs_set2 vs_rep wrap_id le_T lt_T le_F lt_F leI_T ltI_T leI_F ltI_F geI gtI get_T decide_true decide_false room List.getElem?_map List.length_map List.length_take Int.toNat_natCast Nat.min_def Nat.min_self List.getElem_cons_zero List.getElem_cons_succ
theorem evAt_at {t : Tr} {i j : Nat} (hi : i < t.length) (hj : j < t[i].evs.length) : evAt t (i, j + 1) = t[i].evs[j] := by
  unfold evAt evsOf; simp [List.getD, hi, hj]
structure CutIn (t : Tr) (cs : List Int) : Prop where
  len : cs.length = t.length
  le : ∀ (k : Nat) (h : k < t.length) (h2 : k < cs.length), 0 ≤ cs[k] ∧ cs[k] ≤ t[k].evs.length

end Go.Proofs.Ytnnnccibhhnbaaa

namespace Go.Proofs.Ytnnnccibhhnbaaa
set_option linter.unusedVariables false
set_option linter.unusedSimpArgs false
attribute [local go_sem ↓] run_skip run_region run_draw run_seq run_block run_exit run_ret run_cond atN_app seqC_normal seqC_exit seqC_ret seqQ_normal seqQ_exit seqQ_ret blkQ_normal blkQ_exit blkQ_ret runOps_nil runOps_cons runD_nil runD_cons grdO_true grdO_false grdD_true grdD_false ifC_true ifC_false opS_val opS_call opS_two opK_app dS_val dS_call dS_two dK_app
attribute [local go_sem] rechks_nil rechks_cons rechk gcase_true gcase_false ex_val ex_val0 gd_none gd_some nth_zero nth_succ upd_zero upd_succ put_some put_none ev_t ev_c evs_nil evs_cons evo_some evo_none hget_at hget_first hsetB_at hsetB_first hsetL_at hsetL_first ofOpt_some aop aload astore aslice aappend aiaddr aiaddrA afaddr alen alenS acopy amm acall alookup amupdate alenM comma keyEq apick binV binVB binVS isSh intOp strOp boolOp shOp eqC eqF and2 cellsOf setFrom fillA fillS rd rdI elems mk bounds AV.cell List.all_cons List.all_nil Bool.and_true Bool.true_and Bool.and_self List.length_cons List.length_nil List.length_append Nat.reduceAdd Nat.reduceSub Nat.reduceMul Nat.zero_add Nat.add_zero List.replicate_succ List.replicate_zero List.cons_append List.nil_append List.append_assoc List.append_nil List.getElem?_cons_zero List.getElem?_cons_succ List.getElem?_nil List.set_cons_zero List.set_cons_succ List.drop_zero List.drop_succ_cons List.take_zero List.take_succ_cons List.take_nil List.drop_nil List.map_cons List.map_nil Option.map_some if_true if_false Bool.false_eq_true and_self true_and and_true Nat.reduceLeDiff Nat.reduceLT Nat.le_refl Nat.reduceEqDiff ite_true ite_false beq_self_eq_true beq_true beq_false Bool.not_true Bool.not_false Bool.true_beq Bool.false_beq map_vs vs_len vs_get vs_take vs_drop vs_snoc1 vs_snoc2 vs_snoc3 vs_snoc5 vs_set1 vs_set2 vs_rep wrap_id le_T lt_T le_F lt_F leI_T ltI_T leI_F ltI_F geI gtI get_T decide_true decide_false room List.getElem?_map List.length_map List.length_take Int.toNat_natCast Nat.min_def Nat.min_self List.getElem_cons_zero List.getElem_cons_succ
def a_rSame : AFunc := ⟨2, 94, [.tmp 4],
  (.seq (.region [⟨(some 2), .box (.t 0), none⟩, ⟨(some 3), .box (.t 1), none⟩, ⟨(some 4), .mv (.c (.v (.bool false))), none⟩])
  (.seq (.seq (.region [⟨(some 10), .faddr 0 (.t 2), none⟩, ⟨(some 11), .load none (.t 10), none⟩, ⟨(some 12), .len (.t 11), none⟩, ⟨(some 13), .faddr 0 (.t 3), none⟩, ⟨(some 14), .load none (.t 13), none⟩, ⟨(some 15), .len (.t 14), none⟩, ⟨(some 16), .bin .neq (.t 12) (.t 15), none⟩])
  (.cond (.t 16) (.seq (.region [⟨(some 4), .mv (.c (.v (.bool false))), none⟩])
  .ret)
  .skip))
  (.seq (.seq (.region [⟨(some 5), .mv (.c (.v (.int .i64 0))), none⟩])
  (.block 0 (.loop (.seq (.seq (.region [⟨(some 17), .mv (.t 5), none⟩, ⟨(some 18), .faddr 0 (.t 2), none⟩, ⟨(some 19), .load none (.t 18), none⟩, ⟨(some 20), .len (.t 19), none⟩, ⟨(some 21), .bin .lss (.t 17) (.t 20), none⟩])
  (.cond (.t 21) .skip
  (.exit 0)))
  (.seq (.block 1 (.seq (.draw [⟨0, ⟨(some 24), .faddr 0 (.t 2), none⟩, []⟩, ⟨1, ⟨(some 25), .load none (.t 24), none⟩, []⟩, ⟨2, ⟨(some 26), .mv (.t 5), none⟩, []⟩, ⟨3, ⟨(some 27), .iaddr 3 (.t 25) (.t 26), none⟩, []⟩, ⟨4, ⟨(some 28), .load (some 3) (.t 27), none⟩, []⟩, ⟨5, ⟨(some 29), .faddr 0 (.t 3), none⟩, []⟩, ⟨6, ⟨(some 30), .load none (.t 29), none⟩, []⟩, ⟨7, ⟨(some 31), .mv (.t 5), none⟩, []⟩, ⟨8, ⟨(some 32), .iaddr 3 (.t 30) (.t 31), none⟩, []⟩, ⟨9, ⟨(some 33), .load (some 3) (.t 32), none⟩, []⟩, ⟨10, ⟨(some 6), .alloc [(.v (.str ⟨#[]⟩)), (.v .zsl), (.v .zsl)], none⟩, [⟨(some 24), .faddr 0 (.t 2), none⟩, ⟨(some 25), .load none (.t 24), none⟩, ⟨(some 26), .mv (.t 5), none⟩, ⟨(some 27), .iaddr 3 (.t 25) (.t 26), none⟩, ⟨(some 28), .load (some 3) (.t 27), none⟩, ⟨(some 29), .faddr 0 (.t 3), none⟩, ⟨(some 30), .load none (.t 29), none⟩, ⟨(some 31), .mv (.t 5), none⟩, ⟨(some 32), .iaddr 3 (.t 30) (.t 31), none⟩, ⟨(some 33), .load (some 3) (.t 32), none⟩]⟩, ⟨11, ⟨(some 7), .alloc [(.v (.str ⟨#[]⟩)), (.v .zsl), (.v .zsl)], none⟩, [⟨(some 24), .faddr 0 (.t 2), none⟩, ⟨(some 25), .load none (.t 24), none⟩, ⟨(some 26), .mv (.t 5), none⟩, ⟨(some 27), .iaddr 3 (.t 25) (.t 26), none⟩, ⟨(some 28), .load (some 3) (.t 27), none⟩, ⟨(some 29), .faddr 0 (.t 3), none⟩, ⟨(some 30), .load none (.t 29), none⟩, ⟨(some 31), .mv (.t 5), none⟩, ⟨(some 32), .iaddr 3 (.t 30) (.t 31), none⟩, ⟨(some 33), .load (some 3) (.t 32), none⟩]⟩, ⟨12, ⟨none, .store 3 (.t 6) (.t 28), none⟩, [⟨(some 29), .faddr 0 (.t 3), none⟩, ⟨(some 30), .load none (.t 29), none⟩, ⟨(some 31), .mv (.t 5), none⟩, ⟨(some 32), .iaddr 3 (.t 30) (.t 31), none⟩, ⟨(some 33), .load (some 3) (.t 32), none⟩]⟩, ⟨13, ⟨none, .store 3 (.t 7) (.t 33), none⟩, []⟩])
  (.seq (.seq (.region [⟨(some 34), .faddr 0 (.t 6), none⟩, ⟨(some 35), .load none (.t 34), none⟩, ⟨(some 36), .faddr 0 (.t 7), none⟩, ⟨(some 37), .load none (.t 36), none⟩, ⟨(some 38), .binS .neq (.t 35) (.t 37), none⟩, ⟨(some 39), .mv (.t 38), none⟩, ⟨(some 40), .faddr 1 (.t 6), some (39, false)⟩, ⟨(some 41), .load none (.t 40), some (39, false)⟩, ⟨(some 42), .len (.t 41), some (39, false)⟩, ⟨(some 43), .faddr 1 (.t 7), some (39, false)⟩, ⟨(some 44), .load none (.t 43), some (39, false)⟩, ⟨(some 45), .len (.t 44), some (39, false)⟩, ⟨(some 46), .bin .neq (.t 42) (.t 45), some (39, false)⟩, ⟨(some 47), .pick (.t 39) (.c (.v (.bool true))) (.t 46), none⟩, ⟨(some 48), .mv (.t 47), none⟩, ⟨(some 49), .faddr 2 (.t 6), some (48, false)⟩, ⟨(some 50), .load none (.t 49), some (48, false)⟩, ⟨(some 51), .len (.t 50), some (48, false)⟩, ⟨(some 52), .faddr 2 (.t 7), some (48, false)⟩, ⟨(some 53), .load none (.t 52), some (48, false)⟩, ⟨(some 54), .len (.t 53), some (48, false)⟩, ⟨(some 55), .bin .neq (.t 51) (.t 54), some (48, false)⟩, ⟨(some 56), .pick (.t 48) (.c (.v (.bool true))) (.t 55), none⟩])
  (.cond (.t 56) (.seq (.region [⟨(some 4), .mv (.c (.v (.bool false))), none⟩])
  .ret)
  .skip))
  (.seq (.seq (.region [⟨(some 8), .mv (.c (.v (.int .i64 0))), none⟩])
  (.block 2 (.loop (.seq (.seq (.region [⟨(some 57), .mv (.t 8), none⟩, ⟨(some 58), .faddr 1 (.t 6), none⟩, ⟨(some 59), .load none (.t 58), none⟩, ⟨(some 60), .len (.t 59), none⟩, ⟨(some 61), .bin .lss (.t 57) (.t 60), none⟩])
  (.cond (.t 61) .skip
  (.exit 2)))
  (.seq (.block 3 (.seq (.draw [⟨0, ⟨(some 64), .faddr 1 (.t 6), none⟩, []⟩, ⟨1, ⟨(some 65), .load none (.t 64), none⟩, []⟩, ⟨2, ⟨(some 66), .mv (.t 8), none⟩, []⟩, ⟨3, ⟨(some 67), .iaddr 2 (.t 65) (.t 66), none⟩, []⟩, ⟨4, ⟨(some 68), .load (some 2) (.t 67), none⟩, []⟩, ⟨5, ⟨(some 69), .faddr 1 (.t 7), none⟩, []⟩, ⟨6, ⟨(some 70), .load none (.t 69), none⟩, []⟩, ⟨7, ⟨(some 71), .mv (.t 8), none⟩, []⟩, ⟨8, ⟨(some 72), .iaddr 2 (.t 70) (.t 71), none⟩, []⟩, ⟨9, ⟨(some 73), .load (some 2) (.t 72), none⟩, []⟩, ⟨10, ⟨(some 74), .eqs true [.s, .i] (.t 68) (.t 73), none⟩, []⟩])
  (.cond (.t 74) (.seq (.region [⟨(some 4), .mv (.c (.v (.bool false))), none⟩])
  .ret)
  .skip)))
  (.region [⟨(some 62), .mv (.t 8), none⟩, ⟨(some 63), .bin .add (.t 62) (.c (.v (.int .i64 1))), none⟩, ⟨(some 8), .mv (.t 63), none⟩]))))))
  (.seq (.region [⟨(some 9), .mv (.c (.v (.int .i64 0))), none⟩])
  (.block 4 (.loop (.seq (.seq (.region [⟨(some 75), .mv (.t 9), none⟩, ⟨(some 76), .faddr 2 (.t 6), none⟩, ⟨(some 77), .load none (.t 76), none⟩, ⟨(some 78), .len (.t 77), none⟩, ⟨(some 79), .bin .lss (.t 75) (.t 78), none⟩])
  (.cond (.t 79) .skip
  (.exit 4)))
  (.seq (.block 5 (.seq (.draw [⟨0, ⟨(some 82), .faddr 2 (.t 6), none⟩, []⟩, ⟨1, ⟨(some 83), .load none (.t 82), none⟩, []⟩, ⟨2, ⟨(some 84), .mv (.t 9), none⟩, []⟩, ⟨3, ⟨(some 85), .iaddr 5 (.t 83) (.t 84), none⟩, []⟩, ⟨4, ⟨(some 86), .load (some 5) (.t 85), none⟩, []⟩, ⟨5, ⟨(some 87), .faddr 2 (.t 7), none⟩, []⟩, ⟨6, ⟨(some 88), .load none (.t 87), none⟩, []⟩, ⟨7, ⟨(some 89), .mv (.t 9), none⟩, []⟩, ⟨8, ⟨(some 90), .iaddr 5 (.t 88) (.t 89), none⟩, []⟩, ⟨9, ⟨(some 91), .load (some 5) (.t 90), none⟩, []⟩, ⟨10, ⟨(some 92), .call (.c (.fn 102 [])) [(.t 86), (.t 91)], none⟩, []⟩, ⟨11, ⟨(some 93), .not (.t 92), none⟩, []⟩])
  (.cond (.t 93) (.seq (.region [⟨(some 4), .mv (.c (.v (.bool false))), none⟩])
  .ret)
  .skip)))
  (.region [⟨(some 80), .mv (.t 9), none⟩, ⟨(some 81), .bin .add (.t 80) (.c (.v (.int .i64 1))), none⟩, ⟨(some 9), .mv (.t 81), none⟩]))))))))))
  (.region [⟨(some 22), .mv (.t 5), none⟩, ⟨(some 23), .bin .add (.t 22) (.c (.v (.int .i64 1))), none⟩, ⟨(some 5), .mv (.t 23), none⟩]))))))
  (.seq (.region [⟨(some 4), .mv (.c (.v (.bool true))), none⟩])
  .ret))))⟩
theorem a_rSame_ok : cFunc Try.prog 49 = some a_rSame := by kernel_rfl
def m_rSame0 : List Bool := [false, false, false, false, true, true, true, true, true, true, false, false, false, false, false, false, false, true, true, true, true, true, true, true, true, true, true, true, true, true, true, true, true, true, true, true, true, true, true, true, true, true, true, true, true, true, true, true, true, true, true, true, true, true, true, true, true, true, true, true, true, true, true, true, true, true, true, true, true, true, true, true, true, true, true, true, true, true, true, true, true, true, true, true, true, true, true, true, true, true, true, true, true, true]
def m_rSame1 : List Bool := [false, false, false, false, true, false, false, false, true, false, false, false, false, false, false, false, false, false, false, false, false, false, false, false, false, false, false, false, false, false, false, false, false, false, false, false, false, false, false, false, false, false, false, false, false, false, false, false, false, false, false, false, false, false, false, false, false, true, true, true, true, true, true, true, true, true, true, true, true, true, true, true, true, true, true, false, false, false, false, false, false, false, false, false, false, false, false, false, false, false, false, false, false, false]
def m_rSame2 : List Bool := [false, false, false, false, true, false, false, false, false, true, false, false, false, false, false, false, false, false, false, false, false, false, false, false, false, false, false, false, false, false, false, false, false, false, false, false, false, false, false, false, false, false, false, false, false, false, false, false, false, false, false, false, false, false, false, false, false, false, false, false, false, false, false, false, false, false, false, false, false, false, false, false, false, false, false, true, true, true, true, true, true, true, true, true, true, true, true, true, true, true, true, true, true, true]
def a_rSameEvent : AFunc := ⟨2, 59, [.tmp 4],
  (.seq (.region [⟨(some 2), .box (.t 0), none⟩, ⟨(some 3), .box (.t 1), none⟩, ⟨(some 4), .mv (.c (.v (.bool false))), none⟩])
  (.seq (.seq (.region [⟨(some 6), .faddr 0 (.t 2), none⟩, ⟨(some 7), .load none (.t 6), none⟩, ⟨(some 8), .faddr 0 (.t 3), none⟩, ⟨(some 9), .load none (.t 8), none⟩, ⟨(some 10), .bin .neq (.t 7) (.t 9), none⟩, ⟨(some 11), .mv (.t 10), none⟩, ⟨(some 12), .faddr 1 (.t 2), some (11, false)⟩, ⟨(some 13), .load none (.t 12), some (11, false)⟩, ⟨(some 14), .faddr 1 (.t 3), some (11, false)⟩, ⟨(some 15), .load none (.t 14), some (11, false)⟩, ⟨(some 16), .bin .neq (.t 13) (.t 15), some (11, false)⟩, ⟨(some 17), .pick (.t 11) (.c (.v (.bool true))) (.t 16), none⟩, ⟨(some 18), .mv (.t 17), none⟩, ⟨(some 19), .faddr 2 (.t 2), some (18, false)⟩, ⟨(some 20), .load none (.t 19), some (18, false)⟩, ⟨(some 21), .faddr 2 (.t 3), some (18, false)⟩, ⟨(some 22), .load none (.t 21), some (18, false)⟩, ⟨(some 23), .bin .neq (.t 20) (.t 22), some (18, false)⟩, ⟨(some 24), .pick (.t 18) (.c (.v (.bool true))) (.t 23), none⟩, ⟨(some 25), .mv (.t 24), none⟩, ⟨(some 26), .faddr 3 (.t 2), some (25, false)⟩, ⟨(some 27), .load none (.t 26), some (25, false)⟩, ⟨(some 28), .faddr 3 (.t 3), some (25, false)⟩, ⟨(some 29), .load none (.t 28), some (25, false)⟩, ⟨(some 30), .bin .neq (.t 27) (.t 29), some (25, false)⟩, ⟨(some 31), .pick (.t 25) (.c (.v (.bool true))) (.t 30), none⟩, ⟨(some 32), .mv (.t 31), none⟩, ⟨(some 33), .faddr 4 (.t 2), some (32, false)⟩, ⟨(some 34), .load none (.t 33), some (32, false)⟩, ⟨(some 35), .len (.t 34), some (32, false)⟩, ⟨(some 36), .faddr 4 (.t 3), some (32, false)⟩, ⟨(some 37), .load none (.t 36), some (32, false)⟩, ⟨(some 38), .len (.t 37), some (32, false)⟩, ⟨(some 39), .bin .neq (.t 35) (.t 38), some (32, false)⟩, ⟨(some 40), .pick (.t 32) (.c (.v (.bool true))) (.t 39), none⟩])
  (.cond (.t 40) (.seq (.region [⟨(some 4), .mv (.c (.v (.bool false))), none⟩])
  .ret)
  .skip))
  (.seq (.seq (.region [⟨(some 5), .mv (.c (.v (.int .i64 0))), none⟩])
  (.block 0 (.loop (.seq (.seq (.region [⟨(some 41), .mv (.t 5), none⟩, ⟨(some 42), .faddr 4 (.t 2), none⟩, ⟨(some 43), .load none (.t 42), none⟩, ⟨(some 44), .len (.t 43), none⟩, ⟨(some 45), .bin .lss (.t 41) (.t 44), none⟩])
  (.cond (.t 45) .skip
  (.exit 0)))
  (.seq (.block 1 (.seq (.draw [⟨0, ⟨(some 48), .faddr 4 (.t 2), none⟩, []⟩, ⟨1, ⟨(some 49), .load none (.t 48), none⟩, []⟩, ⟨2, ⟨(some 50), .mv (.t 5), none⟩, []⟩, ⟨3, ⟨(some 51), .iaddr 2 (.t 49) (.t 50), none⟩, []⟩, ⟨4, ⟨(some 52), .load (some 2) (.t 51), none⟩, []⟩, ⟨5, ⟨(some 53), .faddr 4 (.t 3), none⟩, []⟩, ⟨6, ⟨(some 54), .load none (.t 53), none⟩, []⟩, ⟨7, ⟨(some 55), .mv (.t 5), none⟩, []⟩, ⟨8, ⟨(some 56), .iaddr 2 (.t 54) (.t 55), none⟩, []⟩, ⟨9, ⟨(some 57), .load (some 2) (.t 56), none⟩, []⟩, ⟨10, ⟨(some 58), .eqs true [.i, .i] (.t 52) (.t 57), none⟩, []⟩])
  (.cond (.t 58) (.seq (.region [⟨(some 4), .mv (.c (.v (.bool false))), none⟩])
  .ret)
  .skip)))
  (.region [⟨(some 46), .mv (.t 5), none⟩, ⟨(some 47), .bin .add (.t 46) (.c (.v (.int .i64 1))), none⟩, ⟨(some 5), .mv (.t 47), none⟩]))))))
  (.seq (.region [⟨(some 4), .mv (.c (.v (.bool true))), none⟩])
  .ret))))⟩
theorem a_rSameEvent_ok : cFunc Try.prog 102 = some a_rSameEvent := by kernel_rfl
def m_rSameEvent0 : List Bool := [false, false, false, false, true, true, false, false, false, false, false, false, false, false, false, false, false, false, false, false, false, false, false, false, false, false, false, false, false, false, false, false, false, false, false, false, false, false, false, false, false, true, true, true, true, true, true, true, true, true, true, true, true, true, true, true, true, true, true]

theorem pref_code (t : Tr) (cs : List Int) : prefC t cs = if validL t = false ∨ cs.length ≠ t.length then 1 else if (List.range cs.length).all (rangeB t cs) = false then 2 else if (ids t).any (badL t cs) = true then 18 else 0 := rfl
theorem CutIn.ok {t : Tr} {cs : List Int} (h : CutIn t cs) (hS : Small t) : CutOk t cs := ⟨h.len, hS.np, hS.nv, hS.ne, hS.na, h.le⟩

theorem rSameEvent_refl (x : Ev) (hx : x.asg.length ≤ 1000000) (b l : List Row) : ACalls Try.prog 102 [.agg ((eEv x).map .v), .agg ((eEv x).map .v)] b l (fun r b' l' => r = .v (.bool true) ∧ b' = b ∧ l' = l) := by
  refine calls_of a_rSameEvent_ok rfl ?_
  intro B hB hR _
  have ne : ∀ n : Int, (n != n) = false := by simp
  simp only [a_rSameEvent, eEv, ne, List.length_map, go_sem]
  refine loop_auto (ι := Nat) m_rSameEvent0 (fun i => [(5, .v (.int .i64 i))]) (fun _ => [.live 0 5 [[.v (.int .i64 x.kind), .v (.int .i64 x.peer), .v (.int .i64 x.msg), .v (.int .i64 x.time), .v (.isl 2 (x.asg.map eAsg))]], .live 0 5 [[.v (.int .i64 x.kind), .v (.int .i64 x.peer), .v (.int .i64 x.msg), .v (.int .i64 x.time), .v (.isl 2 (x.asg.map eAsg))]]])
    (fun i => i ≤ x.asg.length) (fun i => x.asg.length - i) 0 (Nat.zero_le _) ?_ ?_
  · simp only [m_rSameEvent0, ovr_cons, ovr_nil, anyM_t, anyM_f, anyM_nil, upd_zero, upd_succ]
    exact Weak.forget (by simp [Fgt])
  intro i hi
  simp only [m_rSameEvent0, ovr_cons, ovr_nil, anyM_t, anyM_f, anyM_nil, upd_zero, upd_succ]
  by_cases hlt : i < x.asg.length
  · simp (disch := omega) only [eAsg, go_sem]
    refine ⟨i + 1, hlt, by simp only; omega, ?_⟩
    simp only [m_rSameEvent0, ovr_cons, ovr_nil, anyM_t, anyM_f, anyM_nil, upd_zero, upd_succ]
    exact Weak.forget (by simp [Fgt])
  · simp (disch := omega) only [go_sem]
    exact leave_pure (.inr rfl) rfl (.v _) hR hB ⟨rfl, rfl, rfl⟩

theorem bytes_beq (s : ByteArray) : (s == s) = true := by
  cases s with
  | mk d => show (d == d) = true; exact beq_self_eq_true d
theorem rSame_refl (t : Tr) (hS : Small t) (b l : List Row) : ACalls Try.prog 49 [.agg [.v (eT t)], .agg [.v (eT t)]] b l (fun r b' l' => r = .v (.bool true) ∧ b' = b ∧ l' = l) := by
  refine calls_of a_rSame_ok rfl ?_
  intro B hB hR _
  have hnp := hS.np
  have ne : ∀ n : Int, (n != n) = false := by simp
  simp only [a_rSame, eT, ne, List.length_map, go_sem]
  refine loop_auto (ι := Nat) m_rSame0 (fun i => [(5, .v (.int .i64 i))]) (fun _ => [.live 0 1 [[.v (.isl 3 (t.map ePr))]], .live 0 1 [[.v (.isl 3 (t.map ePr))]]])
    (fun i => i ≤ t.length) (fun i => t.length - i) 0 (Nat.zero_le _) ?_ ?_
  · simp only [m_rSame0, ovr_cons, ovr_nil, anyM_t, anyM_f, anyM_nil, upd_zero, upd_succ]
    exact Weak.forget (by simp [Fgt])
  intro i hi
  simp only [m_rSame0, ovr_cons, ovr_nil, anyM_t, anyM_f, anyM_nil, upd_zero, upd_succ]
  by_cases hlt : i < t.length
  · have hnv := hS.nv _ (List.getElem_mem hlt)
    have hne := hS.ne _ (List.getElem_mem hlt)
    have hna := hS.na _ (List.getElem_mem hlt)
    simp (disch := omega) only [ePr, ne, bytes_beq, go_sem]
    refine loop_auto (ι := Nat) m_rSame1 (fun i => [(8, .v (.int .i64 i))]) (fun _ => [.live 0 1 [[.v (.isl 3 (t.map ePr))]], .live 0 1 [[.v (.isl 3 (t.map ePr))]], .live 0 3 [[.v (.str t[i].name), .v (.isl 2 (t[i].vars.map eVr)), .v (.isl 5 (t[i].evs.map eEv))]], .live 0 3 [[.v (.str t[i].name), .v (.isl 2 (t[i].vars.map eVr)), .v (.isl 5 (t[i].evs.map eEv))]]])
      (fun j => j ≤ t[i].vars.length) (fun j => t[i].vars.length - j) 0 (Nat.zero_le _) ?_ ?_
    · simp only [m_rSame1, ovr_cons, ovr_nil, anyM_t, anyM_f, anyM_nil, upd_zero, upd_succ]
      exact Weak.forget (by simp [Fgt])
    intro j hj
    simp only [m_rSame1, ovr_cons, ovr_nil, anyM_t, anyM_f, anyM_nil, upd_zero, upd_succ]
    by_cases hjv : j < t[i].vars.length
    · simp (disch := omega) only [eVr, bytes_beq, go_sem]
      refine ⟨j + 1, hjv, by simp only; omega, ?_⟩
      simp only [m_rSame1, ovr_cons, ovr_nil, anyM_t, anyM_f, anyM_nil, upd_zero, upd_succ]
      exact Weak.forget (by simp [Fgt])
    simp (disch := omega) only [go_sem]
    refine loop_auto (ι := Nat) m_rSame2 (fun i => [(9, .v (.int .i64 i))]) (fun _ => [.live 0 1 [[.v (.isl 3 (t.map ePr))]], .live 0 1 [[.v (.isl 3 (t.map ePr))]], .live 0 3 [[.v (.str t[i].name), .v (.isl 2 (t[i].vars.map eVr)), .v (.isl 5 (t[i].evs.map eEv))]], .live 0 3 [[.v (.str t[i].name), .v (.isl 2 (t[i].vars.map eVr)), .v (.isl 5 (t[i].evs.map eEv))]]])
      (fun j => j ≤ t[i].evs.length) (fun j => t[i].evs.length - j) 0 (Nat.zero_le _) ?_ ?_
    · simp only [m_rSame2, ovr_cons, ovr_nil, anyM_t, anyM_f, anyM_nil, upd_zero, upd_succ]
      exact Weak.forget (by simp [Fgt])
    intro j hj
    simp only [m_rSame2, ovr_cons, ovr_nil, anyM_t, anyM_f, anyM_nil, upd_zero, upd_succ]
    by_cases hjv : j < t[i].evs.length
    · simp (disch := omega) only [eEv, go_sem]
      refine ACalls_mono _ _ _ _ _ _ (rSameEvent_refl t[i].evs[j] (hna _ (List.getElem_mem hjv)) _ _) ?_
      rintro r b' l' ⟨rfl, rfl, rfl⟩
      simp (disch := omega) only [go_sem]
      refine ⟨j + 1, hjv, by simp only; omega, ?_⟩
      simp only [m_rSame2, ovr_cons, ovr_nil, anyM_t, anyM_f, anyM_nil, upd_zero, upd_succ]
      exact Weak.forget (by simp [Fgt])
    · simp (disch := omega) only [go_sem]
      refine ⟨i + 1, hlt, by simp only; omega, ?_⟩
      simp only [m_rSame0, ovr_cons, ovr_nil, anyM_t, anyM_f, anyM_nil, upd_zero, upd_succ]
      exact Weak.round (by simp [Fgt]) rfl (by simp (disch := omega) only [AVlt_v, AVlt_any, AVlt_sl, AVlt_ptr, AVlt_mp, AVlt_agg, AVlt_tup, AVlt_fn, RowsLt_nil, RowsLt_live, RowsLt_dead, List.mem_cons, List.not_mem_nil, List.forall_mem_cons, List.forall_mem_nil, or_false, false_or, forall_eq_or_imp, forall_eq, vs_lt, Nat.add_lt_add_iff_left, Nat.reduceLT, true_and, and_true, and_self, List.length_cons, List.length_nil, Nat.reduceAdd, Nat.zero_add, implies_true, false_imp_iff, lt_T, List.mem_map]) hR (by simp (disch := omega) only [AVlt_v, AVlt_any, AVlt_sl, AVlt_ptr, AVlt_mp, AVlt_agg, AVlt_tup, AVlt_fn, RowsLt_nil, RowsLt_live, RowsLt_dead, List.mem_cons, List.not_mem_nil, List.forall_mem_cons, List.forall_mem_nil, or_false, false_or, forall_eq_or_imp, forall_eq, vs_lt, Nat.add_lt_add_iff_left, Nat.reduceLT, true_and, and_true, and_self, List.length_cons, List.length_nil, Nat.reduceAdd, Nat.zero_add, implies_true, false_imp_iff, lt_T, List.mem_map])
  · simp (disch := omega) only [go_sem]
    exact leave_pure (.inr rfl) rfl (.v _) hR hB ⟨rfl, rfl, rfl⟩
theorem first_small {t : Tr} {cs : List Int} (hS : Small t) (hl : cs.length = t.length) : Small (firstL t cs) := by
  have key : ∀ x ∈ firstL t cs, ∃ p ∈ t, x.vars = p.vars ∧ ∃ n, x.evs = p.evs.take n := by
    intro x hx
    obtain ⟨i, hi⟩ := List.mem_iff_getElem?.1 hx
    unfold firstL at hi
    rw [List.getElem?_zipWith] at hi
    cases h1 : t[i]? with
    | none => rw [h1] at hi; cases hi
    | some p =>
      cases h2 : cs[i]? with
      | none => rw [h1, h2] at hi; cases hi
      | some n => rw [h1, h2] at hi; cases hi; exact ⟨p, List.mem_of_getElem? h1, rfl, _, rfl⟩
  refine ⟨by have := hS.np; simp [firstL]; omega, fun x hx => ?_, fun x hx => ?_, fun x hx e he => ?_⟩
  · obtain ⟨p, hp, h1, _⟩ := key x hx; rw [h1]; exact hS.nv p hp
  · obtain ⟨p, hp, _, n, h2⟩ := key x hx; rw [h2]; have := hS.ne p hp; simp; omega
  · obtain ⟨p, hp, _, n, h2⟩ := key x hx; rw [h2] at he; exact hS.na p hp e (List.mem_of_mem_take he)

theorem pref_len {t : Tr} {cs : List Int} (h : prefC t cs = 0) : cs.length = t.length := by
  rw [pref_code] at h
  split at h
  · simp at h
  · rename_i hn; rw [not_or] at hn; exact Decidable.of_not_not hn.2

end Go.Proofs.Ytnnnccibhhnbaaa

namespace Go.Proofs.Ytnnnccibhhnbaaa
set_option linter.unusedVariables false
set_option linter.unusedSimpArgs false
attribute [local go_sem ↓] run_skip run_region run_draw run_seq run_block run_exit run_ret run_cond atN_app seqC_normal seqC_exit seqC_ret seqQ_normal seqQ_exit seqQ_ret blkQ_normal blkQ_exit blkQ_ret runOps_nil runOps_cons runD_nil runD_cons grdO_true grdO_false grdD_true grdD_false ifC_true ifC_false opS_val opS_call opS_two opK_app dS_val dS_call dS_two dK_app
attribute [local go_sem] rechks_nil rechks_cons rechk gcase_true gcase_false ex_val ex_val0 gd_none gd_some nth_zero nth_succ upd_zero upd_succ put_some put_none ev_t ev_c evs_nil evs_cons evo_some evo_none hget_at hget_first hsetB_at hsetB_first hsetL_at hsetL_first ofOpt_some aop aload astore aslice aappend aiaddr aiaddrA afaddr alen alenS acopy amm acall alookup amupdate alenM comma keyEq apick binV binVB binVS isSh intOp strOp boolOp shOp eqC eqF and2 cellsOf setFrom fillA fillS rd rdI elems mk bounds AV.cell List.all_cons List.all_nil Bool.and_true Bool.true_and Bool.and_self List.length_cons List.length_nil List.length_append Nat.reduceAdd Nat.reduceSub Nat.reduceMul Nat.zero_add Nat.add_zero List.replicate_succ List.replicate_zero List.cons_append List.nil_append List.append_assoc List.append_nil List.getElem?_cons_zero List.getElem?_cons_succ List.getElem?_nil List.set_cons_zero List.set_cons_succ List.drop_zero List.drop_succ_cons List.take_zero List.take_succ_cons List.take_nil List.drop_nil List.map_cons List.map_nil Option.map_some if_true if_false Bool.false_eq_true and_self true_and and_true Nat.reduceLeDiff Nat.reduceLT Nat.le_refl Nat.reduceEqDiff ite_true ite_false beq_self_eq_true beq_true beq_false Bool.not_true Bool.not_false Bool.true_beq Bool.false_beq map_vs vs_len vs_get vs_take vs_drop vs_snoc1 vs_snoc2 vs_snoc3 vs_snoc5 vs_set1 vs_set2 vs_rep wrap_id le_T lt_T le_F lt_F leI_T ltI_T leI_F ltI_F geI gtI get_T decide_true decide_false room List.getElem?_map List.length_map List.length_take Int.toNat_natCast Nat.min_def Nat.min_self List.getElem_cons_zero List.getElem_cons_succ
def a_Fifo : AFunc := ⟨1, 74, [.tmp 2],
  (.seq (.region [⟨(some 1), .box (.t 0), none⟩, ⟨(some 2), .mv (.c (.v (.bool false))), none⟩])
  (.seq (.seq (.region [⟨(some 13), .load (some 1) (.t 1), none⟩, ⟨(some 14), .call (.c (.fn 45 [])) [(.t 13)], none⟩, ⟨(some 15), .not (.t 14), none⟩])
  (.cond (.t 15) (.seq (.region [⟨(some 2), .mv (.c (.v (.bool false))), none⟩])
  .ret)
  .skip))
  (.seq (.region [⟨(some 17), .load (some 1) (.t 1), none⟩, ⟨(some 18), .call (.c (.fn 99 [])) [(.t 17)], none⟩, ⟨(some 16), .mv (.t 18), none⟩, ⟨(some 19), .extract 0 (.t 16), none⟩, ⟨(some 20), .extract 1 (.t 16), none⟩, ⟨(some 21), .extract 2 (.t 16), none⟩, ⟨(some 4), .alloc [(.v (.int .i64 0)), (.v (.int .i64 0))], none⟩, ⟨(some 3), .mv (.t 19), none⟩, ⟨none, .store 2 (.t 4) (.t 20), none⟩, ⟨(some 5), .mv (.t 21), none⟩])
  (.seq (.seq (.region [⟨(some 22), .faddr 0 (.t 1), none⟩, ⟨(some 23), .load none (.t 22), none⟩, ⟨(some 24), .len (.t 23), none⟩, ⟨(some 25), .mv (.c (.v (.int .i64 0))), none⟩])
  (.block 0 (.loop (.seq (.region [⟨(some 26), .bin .lss (.t 25) (.t 24), none⟩])
  (.seq (.cond (.t 26) .skip
  (.exit 0))
  (.seq (.block 1 (.seq (.region [⟨(some 27), .mv (.t 25), none⟩, ⟨(some 6), .mv (.t 27), none⟩])
  (.seq (.region [⟨(some 28), .faddr 0 (.t 1), none⟩, ⟨(some 29), .load none (.t 28), none⟩, ⟨(some 30), .len (.t 29), none⟩, ⟨(some 31), .mv (.c (.v (.int .i64 0))), none⟩])
  (.block 2 (.loop (.seq (.region [⟨(some 32), .bin .lss (.t 31) (.t 30), none⟩])
  (.seq (.cond (.t 32) .skip
  (.exit 2))
  (.seq (.block 3 (.seq (.region [⟨(some 33), .mv (.t 31), none⟩, ⟨(some 7), .mv (.t 33), none⟩])
  (.seq (.region [⟨(some 8), .mv (.c (.v (.int .i64 0))), none⟩, ⟨(some 9), .mv (.c (.v (.bool false))), none⟩])
  (.seq (.region [⟨(some 34), .faddr 0 (.t 1), none⟩, ⟨(some 35), .load none (.t 34), none⟩, ⟨(some 36), .mv (.t 6), none⟩, ⟨(some 37), .iaddr 3 (.t 35) (.t 36), none⟩, ⟨(some 38), .faddr 2 (.t 37), none⟩, ⟨(some 39), .load none (.t 38), none⟩, ⟨(some 40), .len (.t 39), none⟩, ⟨(some 41), .mv (.c (.v (.int .i64 0))), none⟩])
  (.block 4 (.loop (.seq (.region [⟨(some 42), .bin .lss (.t 41) (.t 40), none⟩])
  (.seq (.cond (.t 42) .skip
  (.exit 4))
  (.seq (.block 5 (.seq (.region [⟨(some 43), .iaddr 5 (.t 39) (.t 41), none⟩, ⟨(some 44), .load (some 5) (.t 43), none⟩, ⟨(some 11), .alloc [(.v (.int .i64 0)), (.v (.int .i64 0)), (.v (.int .i64 0)), (.v (.int .i64 0)), (.v .zsl)], none⟩, ⟨none, .store 5 (.t 11) (.t 44), none⟩])
  (.seq (.seq (.region [⟨(some 45), .faddr 0 (.t 11), none⟩, ⟨(some 46), .load none (.t 45), none⟩, ⟨(some 47), .bin .neq (.t 46) (.c (.v (.int .i64 2))), none⟩, ⟨(some 48), .mv (.t 47), none⟩, ⟨(some 49), .faddr 1 (.t 11), some (48, false)⟩, ⟨(some 50), .load none (.t 49), some (48, false)⟩, ⟨(some 51), .mv (.t 7), some (48, false)⟩, ⟨(some 52), .bin .neq (.t 50) (.t 51), some (48, false)⟩, ⟨(some 53), .pick (.t 48) (.c (.v (.bool true))) (.t 52), none⟩])
  (.cond (.t 53) (.exit 5)
  .skip))
  (.seq (.draw [⟨0, ⟨(some 54), .mv (.t 3), none⟩, []⟩, ⟨1, ⟨(some 55), .faddr 2 (.t 11), none⟩, []⟩, ⟨2, ⟨(some 56), .load none (.t 55), none⟩, []⟩, ⟨3, ⟨(some 57), .nilck (.t 54), none⟩, []⟩, ⟨4, ⟨(some 58), .iaddrA 200 4 (.t 57) (.t 56), none⟩, []⟩, ⟨5, ⟨(some 59), .faddr 2 (.t 58), none⟩, []⟩, ⟨6, ⟨(some 60), .faddr 1 (.t 59), none⟩, []⟩, ⟨7, ⟨(some 61), .load none (.t 60), none⟩, []⟩, ⟨8, ⟨(some 12), .mv (.t 61), none⟩, []⟩])
  (.seq (.seq (.region [⟨(some 62), .mv (.t 12), none⟩, ⟨(some 63), .bin .eql (.t 62) (.c (.v (.int .i64 0))), none⟩])
  (.cond (.t 63) (.seq (.region [⟨(some 9), .mv (.c (.v (.bool true))), none⟩])
  (.exit 5))
  .skip))
  (.seq (.seq (.region [⟨(some 64), .mv (.t 9), none⟩, ⟨(some 65), .mv (.t 64), none⟩, ⟨(some 66), .mv (.t 12), some (65, false)⟩, ⟨(some 67), .mv (.t 8), some (65, false)⟩, ⟨(some 68), .bin .lss (.t 66) (.t 67), some (65, false)⟩, ⟨(some 69), .pick (.t 65) (.c (.v (.bool true))) (.t 68), none⟩])
  (.cond (.t 69) (.seq (.region [⟨(some 2), .mv (.c (.v (.bool false))), none⟩])
  .ret)
  .skip))
  (.region [⟨(some 70), .mv (.t 12), none⟩, ⟨(some 8), .mv (.t 70), none⟩])))))))
  (.region [⟨(some 71), .bin .add (.t 41) (.c (.v (.int .i64 1))), none⟩, ⟨(some 41), .mv (.t 71), none⟩]))))))))))
  (.region [⟨(some 72), .bin .add (.t 31) (.c (.v (.int .i64 1))), none⟩, ⟨(some 31), .mv (.t 72), none⟩])))))))))
  (.region [⟨(some 73), .bin .add (.t 25) (.c (.v (.int .i64 1))), none⟩, ⟨(some 25), .mv (.t 73), none⟩])))))))
  (.seq (.region [⟨(some 2), .mv (.c (.v (.bool true))), none⟩])
  .ret)))))⟩
theorem a_Fifo_ok : cFunc Try.prog 48 = some a_Fifo := by kernel_rfl
def m_Fifo0 : List Bool := [false, false, true, false, false, false, true, true, true, true, false, true, true, false, false, false, false, false, false, false, false, false, false, false, false, true, true, true, true, true, true, true, true, true, true, true, true, true, true, true, true, true, true, true, true, true, true, true, true, true, true, true, true, true, true, true, true, true, true, true, true, true, true, true, true, true, true, true, true, true, true, true, true, true]
def m_Fifo1 : List Bool := [false, false, true, false, false, false, false, true, true, true, false, true, true, false, false, false, false, false, false, false, false, false, false, false, false, false, false, false, false, false, false, true, true, true, true, true, true, true, true, true, true, true, true, true, true, true, true, true, true, true, true, true, true, true, true, true, true, true, true, true, true, true, true, true, true, true, true, true, true, true, true, true, true, false]
def m_Fifo2 : List Bool := [false, false, true, false, false, false, false, false, true, true, false, true, true, false, false, false, false, false, false, false, false, false, false, false, false, false, false, false, false, false, false, false, false, false, false, false, false, false, false, false, false, true, true, true, true, true, true, true, true, true, true, true, true, true, true, true, true, true, true, true, true, true, true, true, true, true, true, true, true, true, true, true, false, false]

theorem mf_spec (t : Tr) (hS : Small t) (hN : Nm t) (hv : validL t = true) (b l : List Row) :
    ACalls Try.prog 99 [.agg [.v (eT t)]] b l (fun r b' l' => r = .tup [.v (.iptr (letRow t) 0), idA (0, 0), .v (.int .i64 0)] ∧ b' = b ∧ l' = l) := by
  refine ACalls.of_new ⟨_, Try.func99, by kernel_rfl, by kernel_rfl⟩ (fun F L w vs hF hr => ?_)
  obtain ⟨u, us, rfl, hs, hr2⟩ := repL_tr hN hr
  obtain rfl := repL_nil hr2
  refine (messageFault_any u t w hS.np hS.ne hs (valid_form hv)).mono ?_
  rintro e w' ⟨he, hcase⟩
  rcases hcase with ⟨x, hx, _⟩ | ⟨_, bL, ls, hbL, hL, hA, rfl⟩
  · rw [valid_pairs hv] at hx; cases hx
  refine ⟨he, _, _, fun b => F b ∨ b = bL, rfl, fun _ h => .inl h, fun b hb h => h.elim id (fun h => absurd h (by omega)), fun b h => ?_, RepL.tup (RepL.cons (.v _ _ (letRow_rep hL hA (.inr rfl))) (RepL.cons (idA_rep _ _ _ _) (RepL.cons (.v _ _ (.int _ _)) RepL.nil))), rfl, rfl, rfl⟩
  rcases h with h | rfl
  · exact Nat.lt_of_lt_of_le (hF b h) he.size
  · exact hL.lt

def evp (t : Tr) (p j : Nat) : Ev := evAt t (p, j + 1)
def toI (t : Tr) (p j : Nat) : Nat := (findV t 3 (evp t p j).msg).2
/-- Of two sends over one channel the second one is received, and the first one later, or not at all. -/
def pairBad (t : Tr) (p j i : Nat) : Bool :=
  (evp t p j).kind == 2 && ((evp t p i).kind == 2 && ((evp t p j).peer == (evp t p i).peer && (toI t p i != 0 && (toI t p j == 0 || decide (toI t p i < toI t p j)))))
def fifoB (t : Tr) : Bool := (List.range t.length).all fun p => (List.range (evsOf t p).length).all fun i => (List.range i).all fun j => !pairBad t p j i
theorem evsOf_at {t : Tr} {p : Nat} (h : p < t.length) : evsOf t p = t[p].evs := by unfold evsOf; simp [List.getD, h]
theorem fifo_false {t : Tr} {p i j : Nat} (hp : p < t.length) (hi : i < t[p].evs.length) (hj : j < i) (h : pairBad t p j i = true) : fifoB t = false := by
  unfold fifoB
  rw [List.all_eq_false]
  refine ⟨p, List.mem_range.2 hp, ?_⟩
  rw [Bool.not_eq_true, List.all_eq_false]
  refine ⟨i, List.mem_range.2 (by rw [evsOf_at hp]; exact hi), ?_⟩
  rw [Bool.not_eq_true, List.all_eq_false]
  exact ⟨j, List.mem_range.2 hj, by rw [h]; simp⟩
theorem fifo_true {t : Tr} (h : ∀ p (hp : p < t.length), ∀ i, i < t[p].evs.length → ∀ j, j < i → pairBad t p j i = false) : fifoB t = true := by
  unfold fifoB
  rw [List.all_eq_true]
  intro p hp
  have hp := List.mem_range.1 hp
  rw [List.all_eq_true]
  intro i hi
  rw [evsOf_at hp] at hi
  rw [List.all_eq_true]
  intro j hj
  rw [h p hp i (List.mem_range.1 hi) j (List.mem_range.1 hj)]; rfl
theorem evp_at {t : Tr} {p j : Nat} (hp : p < t.length) (hj : j < t[p].evs.length) : evp t p j = t[p].evs[j] := evAt_at hp hj

structure FfI (t : Tr) (p q k last : Nat) (mis : Bool) : Prop where
  m1 : ∀ j, j < k → (evp t p j).kind = 2 → (evp t p j).peer = q → toI t p j = 0 → mis = true
  m2 : mis = true → ∃ j, j < k ∧ (evp t p j).kind = 2 ∧ (evp t p j).peer = q ∧ toI t p j = 0
  l1 : ∀ j, j < k → (evp t p j).kind = 2 → (evp t p j).peer = q → toI t p j ≤ last
  l2 : 0 < last → ∃ j, j < k ∧ (evp t p j).kind = 2 ∧ (evp t p j).peer = q ∧ toI t p j = last
  g : ∀ i, i < k → ∀ j, j < i → (evp t p i).peer = q → pairBad t p j i = false
theorem FfI.start (t : Tr) (p q : Nat) : FfI t p q 0 0 false := ⟨fun j h => by omega, fun h => (by cases h), fun j h => by omega, fun h => by omega, fun j h => by omega⟩
theorem FfI.skip {t : Tr} {p q k last : Nat} {mis : Bool} (h : FfI t p q k last mis) (hk : ¬ ((evp t p k).kind = 2 ∧ (evp t p k).peer = q)) : FfI t p q (k + 1) last mis := by
  have up : ∀ j, j < k + 1 → j < k ∨ j = k := fun j hj => by omega
  refine ⟨fun j hj a b c => ?_, fun hm => ?_, fun j hj a b => ?_, fun hl => ?_, fun i hi j hj hp => ?_⟩
  · rcases up j hj with h1 | rfl
    · exact h.m1 j h1 a b c
    · exact absurd ⟨a, b⟩ hk
  · obtain ⟨j, h1, h2⟩ := h.m2 hm; exact ⟨j, by omega, h2⟩
  · rcases up j hj with h1 | rfl
    · exact h.l1 j h1 a b
    · exact absurd ⟨a, b⟩ hk
  · obtain ⟨j, h1, h2⟩ := h.l2 hl; exact ⟨j, by omega, h2⟩
  · rcases up i hi with h1 | rfl
    · exact h.g i h1 j hj hp
    · have : ((evp t p i).kind == 2) = false := by
        cases hh : (evp t p i).kind == 2 with
        | false => rfl
        | true => exact absurd ⟨by simpa using hh, hp⟩ hk
      unfold pairBad; rw [this]; simp
theorem FfI.miss {t : Tr} {p q k last : Nat} {mis : Bool} (h : FfI t p q k last mis) (h1 : (evp t p k).kind = 2) (h2 : (evp t p k).peer = q) (h3 : toI t p k = 0) : FfI t p q (k + 1) last true := by
  have up : ∀ j, j < k + 1 → j < k ∨ j = k := fun j hj => by omega
  refine ⟨fun _ _ _ _ _ => rfl, fun _ => ⟨k, by omega, h1, h2, h3⟩, fun j hj a b => ?_, fun hl => ?_, fun i hi j hj hp => ?_⟩
  · rcases up j hj with g | rfl
    · exact h.l1 j g a b
    · omega
  · obtain ⟨j, g1, g2⟩ := h.l2 hl; exact ⟨j, by omega, g2⟩
  · rcases up i hi with g | rfl
    · exact h.g i g j hj hp
    · unfold pairBad; rw [h3]; simp
theorem FfI.next {t : Tr} {p q k last : Nat} (h : FfI t p q k last false) (h1 : (evp t p k).kind = 2) (h2 : (evp t p k).peer = q) (h3 : toI t p k ≠ 0) (h4 : last ≤ toI t p k) : FfI t p q (k + 1) (toI t p k) false := by
  have up : ∀ j, j < k + 1 → j < k ∨ j = k := fun j hj => by omega
  refine ⟨fun j hj a b c => ?_, fun hm => (by cases hm), fun j hj a b => ?_, fun hl => ⟨k, by omega, h1, h2, rfl⟩, fun i hi j hj hp => ?_⟩
  · rcases up j hj with g | rfl
    · exact h.m1 j g a b c
    · exact absurd c h3
  · rcases up j hj with g | rfl
    · have := h.l1 j g a b; omega
    · exact Nat.le_refl _
  · rcases up i hi with g | rfl
    · exact h.g i g j hj hp
    · unfold pairBad
      cases hk : (evp t p j).kind == 2
      · simp
      cases he : (evp t p j).peer == (evp t p i).peer
      · simp
      have hk : (evp t p j).kind = 2 := by simpa using hk
      have he : (evp t p j).peer = q := by rw [← h2]; simpa using he
      have hz : (toI t p j == 0) = false := by
        cases hq : toI t p j == 0 with
        | false => rfl
        | true => exact absurd (h.m1 j hj hk he (by simpa using hq)) (by simp)
      have := h.l1 j hj hk he
      rw [hz, decide_eq_false (by omega)]; simp
theorem FfI.bad {t : Tr} {p q k last : Nat} {mis : Bool} (h : FfI t p q k last mis) (h1 : (evp t p k).kind = 2) (h2 : (evp t p k).peer = q) (h3 : toI t p k ≠ 0) (h4 : mis = true ∨ toI t p k < last) : ∃ j, j < k ∧ pairBad t p j k = true := by
  rcases h4 with h4 | h4
  · obtain ⟨j, g1, g2, g3, g4⟩ := h.m2 h4
    refine ⟨j, g1, ?_⟩
    unfold pairBad; rw [g2, g3, h1, h2, g4]; simp [h3]
  · obtain ⟨j, g1, g2, g3, g4⟩ := h.l2 (by omega)
    refine ⟨j, g1, ?_⟩
    unfold pairBad; rw [g2, g3, h1, h2, g4]; simp [h3, h4]
theorem letRow_to {t : Tr} {m : Nat} (h : m < 200) : (letRow t)[m * 4 + 2 + 1]? = some (.int .i64 ((findV t 3 m).2 : Int)) := by
  rw [letRow_get (by omega)]
  have : letV t (m * 4 + 2 + 1) = (findV t 3 m).2 := by
    unfold letV; rw [show (m * 4 + 2 + 1) % 4 = 3 by omega, show (m * 4 + 2 + 1) / 4 = m by omega]; rfl
  rw [this]

set_option maxHeartbeats 1000000 in
theorem fifo_spec (t : Tr) (hS : Small t) (hN : Nm t) (b l : List Row) : ACalls Try.prog 48 [.agg [.v (eT t)]] b l (fun r b' l' => r = .v (.bool (validL t && fifoB t)) ∧ b' = b ∧ l' = l) := by
  refine calls_of a_Fifo_ok rfl ?_
  intro B hB hR _
  have hnp := hS.np
  simp only [a_Fifo, eT, go_sem]
  refine ACalls_mono _ _ _ _ _ _ (valid_spec t hS hN _ _) ?_
  rintro r b' l' ⟨rfl, rfl, rfl⟩
  cases hv : validL t
  · simp only [go_sem]
    exact leave_pure (.inr rfl) rfl (.v _) hR hB ⟨rfl, rfl, rfl⟩
  simp only [go_sem]
  refine ACalls_mono _ _ _ _ _ _ (mf_spec t hS hN hv _ _) ?_
  rintro r b' l' ⟨rfl, rfl, rfl⟩
  obtain ⟨lr, hlr⟩ : ∃ lr, letRow t = lr := ⟨_, rfl⟩
  have hll : lr.length = 800 := by rw [← hlr]; exact letRow_len t
  simp only [idA, hlr]
  simp only [go_sem]
  refine loop_auto (ι := Nat) m_Fifo0 (fun i => [(25, .v (.int .i64 i))]) (fun _ => [.live 0 1 [[.v (.isl 3 (t.map ePr))]], .live 0 2 [[.v (.int .i64 0), .v (.int .i64 0)]]])
    (fun p => p ≤ t.length ∧ ∀ p', p' < p → ∀ (h : p' < t.length), ∀ i, i < t[p'].evs.length → ∀ j, j < i → pairBad t p' j i = false) (fun i => t.length - i) 0 ⟨Nat.zero_le _, fun p h => by omega⟩ ?_ ?_
  · simp only [m_Fifo0, ovr_cons, ovr_nil, anyM_t, anyM_f, anyM_nil, upd_zero, upd_succ, List.length_map, go_sem]
    exact Weak.forget (by simp [Fgt])
  rintro p ⟨hp, h0⟩
  simp only [m_Fifo0, ovr_cons, ovr_nil, anyM_t, anyM_f, anyM_nil, upd_zero, upd_succ, List.length_map]
  by_cases hpl : p < t.length
  · have hne := hS.ne _ (List.getElem_mem hpl)
    simp (disch := omega) only [go_sem]
    refine loop_auto (ι := Nat) m_Fifo1 (fun i => [(31, .v (.int .i64 i))]) (fun _ => [.live 0 1 [[.v (.isl 3 (t.map ePr))]], .live 0 2 [[.v (.int .i64 0), .v (.int .i64 0)]]])
      (fun q => q ≤ t.length ∧ ∀ i, i < t[p].evs.length → ∀ j, j < i → ∀ q' : Nat, q' < q → (evp t p i).peer = q' → pairBad t p j i = false) (fun i => t.length - i) 0 ⟨Nat.zero_le _, fun i _ j _ q' h => by omega⟩ ?_ ?_
    · simp only [m_Fifo1, ovr_cons, ovr_nil, anyM_t, anyM_f, anyM_nil, upd_zero, upd_succ]
      exact Weak.forget (by simp [Fgt])
    rintro q ⟨hq, h1⟩
    simp only [m_Fifo1, ovr_cons, ovr_nil, anyM_t, anyM_f, anyM_nil, upd_zero, upd_succ]
    by_cases hql : q < t.length
    · simp (disch := omega) only [ePr, go_sem]
      refine loop_auto (ι := Nat × Nat × Bool) m_Fifo2 (fun i => [(8, .v (.int .i64 i.2.1)), (9, .v (.bool i.2.2)), (41, .v (.int .i64 i.1))]) (fun _ => [.live 0 1 [[.v (.isl 3 (t.map ePr))]], .live 0 2 [[.v (.int .i64 0), .v (.int .i64 0)]]])
        (fun i => i.1 ≤ t[p].evs.length ∧ FfI t p q i.1 i.2.1 i.2.2) (fun i => t[p].evs.length - i.1) (0, 0, false) ⟨Nat.zero_le _, FfI.start t p q⟩ ?_ ?_
      · simp only [m_Fifo2, ovr_cons, ovr_nil, anyM_t, anyM_f, anyM_nil, upd_zero, upd_succ]
        exact Weak.forget (by simp [Fgt])
      rintro ⟨k, last, mis⟩ ⟨hk, hI⟩
      dsimp only at hk hI ⊢
      simp only [m_Fifo2, ovr_cons, ovr_nil, anyM_t, anyM_f, anyM_nil, upd_zero, upd_succ]
      by_cases hkl : k < t[p].evs.length
      · have hev := evp_at hpl hkl
        have hstep : ∀ last' mis', FfI t p q (k + 1) last' mis' → (k + 1) ≤ t[p].evs.length ∧ FfI t p q (k + 1) last' mis' := fun _ _ h => ⟨hkl, h⟩
        cases hk2 : t[p].evs[k].kind != 2
        case true =>
          simp (disch := omega) only [eEv, hk2, go_sem]
          refine ⟨(k + 1, last, mis), hstep _ _ (hI.skip (by rw [hev]; rintro ⟨h, _⟩; rw [h] at hk2; simp at hk2)), by simp only; omega, ?_⟩
          simp only [m_Fifo2, ovr_cons, ovr_nil, anyM_t, anyM_f, anyM_nil, upd_zero, upd_succ]
          exact Weak.round (by simp [Fgt]) rfl (by simp (disch := omega) only [AVlt_v, AVlt_any, AVlt_sl, AVlt_ptr, AVlt_mp, AVlt_agg, AVlt_tup, AVlt_fn, RowsLt_nil, RowsLt_live, RowsLt_dead, List.mem_cons, List.not_mem_nil, List.forall_mem_cons, List.forall_mem_nil, or_false, false_or, forall_eq_or_imp, forall_eq, vs_lt, Nat.add_lt_add_iff_left, Nat.reduceLT, true_and, and_true, and_self, List.length_cons, List.length_nil, Nat.reduceAdd, Nat.zero_add, implies_true, false_imp_iff, lt_T, List.mem_map]) hR (by simp (disch := omega) only [AVlt_v, AVlt_any, AVlt_sl, AVlt_ptr, AVlt_mp, AVlt_agg, AVlt_tup, AVlt_fn, RowsLt_nil, RowsLt_live, RowsLt_dead, List.mem_cons, List.not_mem_nil, List.forall_mem_cons, List.forall_mem_nil, or_false, false_or, forall_eq_or_imp, forall_eq, vs_lt, Nat.add_lt_add_iff_left, Nat.reduceLT, true_and, and_true, and_self, List.length_cons, List.length_nil, Nat.reduceAdd, Nat.zero_add, implies_true, false_imp_iff, lt_T, List.mem_map])
        cases hp2 : t[p].evs[k].peer != (q : Int)
        case true =>
          simp (disch := omega) only [eEv, hk2, hp2, go_sem]
          refine ⟨(k + 1, last, mis), hstep _ _ (hI.skip (by rw [hev]; rintro ⟨_, h⟩; rw [h] at hp2; simp at hp2)), by simp only; omega, ?_⟩
          simp only [m_Fifo2, ovr_cons, ovr_nil, anyM_t, anyM_f, anyM_nil, upd_zero, upd_succ]
          exact Weak.round (by simp [Fgt]) rfl (by simp (disch := omega) only [AVlt_v, AVlt_any, AVlt_sl, AVlt_ptr, AVlt_mp, AVlt_agg, AVlt_tup, AVlt_fn, RowsLt_nil, RowsLt_live, RowsLt_dead, List.mem_cons, List.not_mem_nil, List.forall_mem_cons, List.forall_mem_nil, or_false, false_or, forall_eq_or_imp, forall_eq, vs_lt, Nat.add_lt_add_iff_left, Nat.reduceLT, true_and, and_true, and_self, List.length_cons, List.length_nil, Nat.reduceAdd, Nat.zero_add, implies_true, false_imp_iff, lt_T, List.mem_map]) hR (by simp (disch := omega) only [AVlt_v, AVlt_any, AVlt_sl, AVlt_ptr, AVlt_mp, AVlt_agg, AVlt_tup, AVlt_fn, RowsLt_nil, RowsLt_live, RowsLt_dead, List.mem_cons, List.not_mem_nil, List.forall_mem_cons, List.forall_mem_nil, or_false, false_or, forall_eq_or_imp, forall_eq, vs_lt, Nat.add_lt_add_iff_left, Nat.reduceLT, true_and, and_true, and_self, List.length_cons, List.length_nil, Nat.reduceAdd, Nat.zero_add, implies_true, false_imp_iff, lt_T, List.mem_map])
        have hkd : t[p].evs[k].kind = 2 := by simpa using hk2
        have hpd : t[p].evs[k].peer = q := by simpa using hp2
        obtain ⟨m, q2, hm, hm2, _, _, _⟩ := formed_open (valid_form hv (p, k + 1) (mem_ids.2 ⟨hpl, by simp, by simp; omega⟩)) (by rw [evAt_at hpl hkl, hkd]; rfl)
        rw [evAt_at hpl hkl] at hm
        have hto : toI t p k = (findV t 3 (m : Int)).2 := by unfold toI; rw [hev, hm]
        have hlt := letRow_to (t := t) hm2
        rw [hlr] at hlt
        by_cases hz : toI t p k = 0
        · have hz2 : ((findV t 3 (m : Int)).2 : Int) = 0 := by omega
          simp (disch := omega) only [eEv, hk2, hp2, hm, hlt, hz2, go_sem]
          refine ⟨(k + 1, last, true), hstep _ _ (hI.miss (by rw [hev]; exact hkd) (by rw [hev]; exact hpd) hz), by simp only; omega, ?_⟩
          simp only [m_Fifo2, ovr_cons, ovr_nil, anyM_t, anyM_f, anyM_nil, upd_zero, upd_succ]
          exact Weak.round (by simp [Fgt]) rfl (by simp (disch := omega) only [AVlt_v, AVlt_any, AVlt_sl, AVlt_ptr, AVlt_mp, AVlt_agg, AVlt_tup, AVlt_fn, RowsLt_nil, RowsLt_live, RowsLt_dead, List.mem_cons, List.not_mem_nil, List.forall_mem_cons, List.forall_mem_nil, or_false, false_or, forall_eq_or_imp, forall_eq, vs_lt, Nat.add_lt_add_iff_left, Nat.reduceLT, true_and, and_true, and_self, List.length_cons, List.length_nil, Nat.reduceAdd, Nat.zero_add, implies_true, false_imp_iff, lt_T, List.mem_map]) hR (by simp (disch := omega) only [AVlt_v, AVlt_any, AVlt_sl, AVlt_ptr, AVlt_mp, AVlt_agg, AVlt_tup, AVlt_fn, RowsLt_nil, RowsLt_live, RowsLt_dead, List.mem_cons, List.not_mem_nil, List.forall_mem_cons, List.forall_mem_nil, or_false, false_or, forall_eq_or_imp, forall_eq, vs_lt, Nat.add_lt_add_iff_left, Nat.reduceLT, true_and, and_true, and_self, List.length_cons, List.length_nil, Nat.reduceAdd, Nat.zero_add, implies_true, false_imp_iff, lt_T, List.mem_map])
        · have hz2 : (((findV t 3 (m : Int)).2 : Int) == 0) = false := by simp; omega
          cases hmi : mis
          case true =>
            simp (disch := omega) only [eEv, hk2, hp2, hm, hlt, hz2, go_sem]
            obtain ⟨j, g1, g2⟩ := hI.bad (by rw [hev]; exact hkd) (by rw [hev]; exact hpd) hz (.inl hmi)
            exact leave_pure (.inr rfl) rfl (.v _) hR hB ⟨by rw [fifo_false hpl hkl g1 g2]; rfl, rfl, rfl⟩
          subst hmi
          by_cases hl : toI t p k < last
          · have hl2 : decide (((findV t 3 (m : Int)).2 : Int) < (last : Int)) = true := by simp; omega
            simp (disch := omega) only [eEv, hk2, hp2, hm, hlt, hz2, hl2, go_sem]
            obtain ⟨j, g1, g2⟩ := hI.bad (by rw [hev]; exact hkd) (by rw [hev]; exact hpd) hz (.inr hl)
            exact leave_pure (.inr rfl) rfl (.v _) hR hB ⟨by rw [fifo_false hpl hkl g1 g2]; rfl, rfl, rfl⟩
          · have hl2 : decide (((findV t 3 (m : Int)).2 : Int) < (last : Int)) = false := by simp; omega
            simp (disch := omega) only [eEv, hk2, hp2, hm, hlt, hz2, hl2, go_sem]
            refine ⟨(k + 1, toI t p k, false), hstep _ _ (hI.next (by rw [hev]; exact hkd) (by rw [hev]; exact hpd) hz (by omega)), by simp only; omega, ?_⟩
            simp only [m_Fifo2, hto, ovr_cons, ovr_nil, anyM_t, anyM_f, anyM_nil, upd_zero, upd_succ]
            exact Weak.round (by simp [Fgt]) rfl (by simp (disch := omega) only [AVlt_v, AVlt_any, AVlt_sl, AVlt_ptr, AVlt_mp, AVlt_agg, AVlt_tup, AVlt_fn, RowsLt_nil, RowsLt_live, RowsLt_dead, List.mem_cons, List.not_mem_nil, List.forall_mem_cons, List.forall_mem_nil, or_false, false_or, forall_eq_or_imp, forall_eq, vs_lt, Nat.add_lt_add_iff_left, Nat.reduceLT, true_and, and_true, and_self, List.length_cons, List.length_nil, Nat.reduceAdd, Nat.zero_add, implies_true, false_imp_iff, lt_T, List.mem_map]) hR (by simp (disch := omega) only [AVlt_v, AVlt_any, AVlt_sl, AVlt_ptr, AVlt_mp, AVlt_agg, AVlt_tup, AVlt_fn, RowsLt_nil, RowsLt_live, RowsLt_dead, List.mem_cons, List.not_mem_nil, List.forall_mem_cons, List.forall_mem_nil, or_false, false_or, forall_eq_or_imp, forall_eq, vs_lt, Nat.add_lt_add_iff_left, Nat.reduceLT, true_and, and_true, and_self, List.length_cons, List.length_nil, Nat.reduceAdd, Nat.zero_add, implies_true, false_imp_iff, lt_T, List.mem_map])
      · simp (disch := omega) only [go_sem]
        obtain rfl : k = t[p].evs.length := by omega
        refine ⟨q + 1, ⟨hql, fun i hi j hj q' hq' he => ?_⟩, by simp only; omega, ?_⟩
        · rcases Nat.lt_or_ge q' q with h | h
          · exact h1 i hi j hj q' h he
          · obtain rfl : q' = q := by omega
            exact hI.g i hi j hj he
        · simp only [m_Fifo1, ovr_cons, ovr_nil, anyM_t, anyM_f, anyM_nil, upd_zero, upd_succ]
          exact Weak.forget (by simp [Fgt])
    · simp (disch := omega) only [go_sem]
      refine ⟨p + 1, ⟨hpl, fun p' hp' h i hi j hj => ?_⟩, by simp only; omega, ?_⟩
      · rcases Nat.lt_or_ge p' p with hh | hh
        · exact h0 p' hh h i hi j hj
        · obtain rfl : p' = p := by omega
          cases hb : pairBad t p' j i with
          | false => rfl
          | true =>
            have hb2 := hb
            unfold pairBad at hb2
            simp only [Bool.and_eq_true, beq_iff_eq] at hb2
            obtain ⟨_, q2, _, _, hq2, hq3, _⟩ := formed_open (valid_form hv (p', i + 1) (mem_ids.2 ⟨hpl, by simp, by simp; omega⟩)) (by have := hb2.2.1; unfold evp at this; rw [this]; rfl)
            rw [h1 i hi j hj q2 (by omega) (by unfold evp; exact hq2)] at hb; cases hb
      · simp only [m_Fifo0, ovr_cons, ovr_nil, anyM_t, anyM_f, anyM_nil, upd_zero, upd_succ, List.length_map]
        exact Weak.forget (by simp [Fgt])
  · simp (disch := omega) only [go_sem]
    exact leave_pure (.inr rfl) rfl (.v _) hR hB ⟨by rw [fifo_true (fun p' hp' i hi j hj => h0 p' (by omega) hp' i hi j hj)]; rfl, rfl, rfl⟩

end Go.Proofs.Ytnnnccibhhnbaaa
