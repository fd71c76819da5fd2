/- Texts of one proof, laid together: H3. No condition. -/
import Derived.Test.YtoaopldaleaijaaSD1
import Derived.Test.YtoaopldaleaijaaSD2
namespace Go.Proofs.Ytoaopldaleaijaa
set_option linter.unusedVariables false
set_option linter.unusedSimpArgs false
attribute [local go_sem ↓] run_skip run_region run_draw run_seq run_block run_exit run_ret run_cond atN_app seqC_normal seqC_exit seqC_ret seqQ_normal seqQ_exit seqQ_ret blkQ_normal blkQ_exit blkQ_ret runOps_nil runOps_cons runD_nil runD_cons grdO_true grdO_false grdD_true grdD_false ifC_true ifC_false opS_val opS_call opS_two opK_app dS_val dS_call dS_two dK_app kUp_same kUp_ne
attribute [local go_sem] rechks_nil rechks_cons rechk gcase_true gcase_false ex_val ex_val0 gd_none gd_some ev_t ev_c evs_nil evs_cons evo_some evo_none hget_at hget_first hsetB_at hsetB_first hsetL_at hsetL_first ofOpt_some aop aload astore aslice aappend aiaddr aiaddrA afaddr alen alenS acopy amm acall alookup amupdate alenM comma keyEq apick binV binVB binVS isSh intOp strOp boolOp shOp eqC eqF and2 cellsOf setFrom fillA fillS rd rdI elems mk bounds AV.cell List.all_cons List.all_nil Bool.and_true Bool.true_and Bool.and_self List.length_cons List.length_nil List.length_append Nat.reduceAdd Nat.reduceSub Nat.reduceMul Nat.zero_add Nat.add_zero List.cons_append List.nil_append List.append_assoc List.append_nil List.getElem?_cons_zero List.getElem?_cons_succ List.getElem?_nil List.set_cons_zero List.set_cons_succ List.drop_zero List.drop_succ_cons List.take_zero List.take_succ_cons List.take_nil List.drop_nil List.map_cons List.map_nil Option.map_some if_true if_false Bool.false_eq_true and_self true_and and_true Nat.reduceLeDiff Nat.reduceLT Nat.le_refl Nat.reduceEqDiff ite_true ite_false beq_self_eq_true beq_true beq_false Bool.not_true Bool.not_false Bool.true_beq Bool.false_beq map_vs vs_len vs_get vs_take vs_drop vs_snoc1 vs_snoc2 vs_snoc3 vs_snoc5 vs_set1 vs_set2 vs_rep wrap_id le_T lt_T le_F lt_F leI_T ltI_T leI_F ltI_F geI gtI get_T decide_true decide_false room List.getElem?_map List.length_map List.length_take Int.toNat_natCast Nat.min_def Nat.min_self nth_kOf put_kOf put_kNo kOv_cons kOv_nil KHas KArgs List.getElem_cons_zero List.getElem_cons_succ
def a_Halves : AFunc := ⟨2, 196, [.tmp 4],
  (.seq (.region [⟨(some 2), .box (.t 0), none⟩, ⟨(some 3), .box (.t 1), none⟩, ⟨(some 4), .mv (.c (.v (.bool false))), none⟩])
  (.seq (.seq (.region [⟨(some 17), .call (.c (.fn 15 [])) [], none⟩, ⟨(some 18), .not (.t 17), none⟩])
  (.cond (.t 18) (.seq (.region [⟨(some 4), .mv (.c (.v (.bool false))), none⟩])
  .ret)
  .skip))
  (.seq (.seq (.region [⟨(some 19), .load (some 1) (.t 2), none⟩, ⟨(some 20), .call (.c (.fn 16 [])) [(.t 19)], none⟩, ⟨(some 21), .mv (.t 20), none⟩, ⟨(some 22), .load (some 1) (.t 2), some (21, false)⟩, ⟨(some 23), .call (.c (.fn 17 [])) [(.t 22)], some (21, false)⟩, ⟨(some 24), .not (.t 23), some (21, false)⟩, ⟨(some 25), .pick (.t 21) (.c (.v (.bool true))) (.t 24), none⟩, ⟨(some 26), .mv (.t 25), none⟩, ⟨(some 27), .load (some 1) (.t 2), some (26, false)⟩, ⟨(some 28), .call (.c (.fn 18 [])) [(.t 27)], some (26, false)⟩, ⟨(some 29), .bin .gtr (.t 28) (.c (.v (.int .i64 30))), some (26, false)⟩, ⟨(some 30), .pick (.t 26) (.c (.v (.bool true))) (.t 29), none⟩, ⟨(some 31), .mv (.t 30), none⟩, ⟨(some 32), .load (some 1) (.t 2), some (31, false)⟩, ⟨(some 33), .load (some 2) (.t 3), some (31, false)⟩, ⟨(some 34), .call (.c (.fn 19 [])) [(.t 32), (.t 33)], some (31, false)⟩, ⟨(some 35), .not (.t 34), some (31, false)⟩, ⟨(some 36), .pick (.t 31) (.c (.v (.bool true))) (.t 35), none⟩])
  (.cond (.t 36) (.seq (.region [⟨(some 4), .mv (.c (.v (.bool true))), none⟩])
  .ret)
  .skip))
  (.seq (.region [⟨(some 38), .load (some 1) (.t 2), none⟩, ⟨(some 39), .load (some 2) (.t 3), none⟩, ⟨(some 40), .call (.c (.fn 20 [])) [(.t 38), (.t 39)], none⟩, ⟨(some 37), .mv (.t 40), none⟩, ⟨(some 41), .extract 0 (.t 37), none⟩, ⟨(some 42), .extract 1 (.t 37), none⟩, ⟨(some 5), .mv (.t 41), none⟩, ⟨(some 6), .mv (.t 42), none⟩])
  (.seq (.region [⟨(some 44), .load (some 1) (.t 2), none⟩, ⟨(some 45), .load (some 2) (.t 3), none⟩, ⟨(some 46), .call (.c (.fn 21 [])) [(.t 44), (.t 45)], none⟩, ⟨(some 43), .mv (.t 46), none⟩, ⟨(some 47), .extract 0 (.t 43), none⟩, ⟨(some 48), .extract 1 (.t 43), none⟩, ⟨(some 7), .mv (.t 47), none⟩, ⟨(some 8), .mv (.t 48), none⟩])
  (.seq (.seq (.region [⟨(some 49), .mv (.t 6), none⟩, ⟨(some 50), .bin .neq (.t 49) (.c (.v (.int .i64 0))), none⟩, ⟨(some 51), .mv (.t 50), none⟩, ⟨(some 52), .mv (.t 8), some (51, false)⟩, ⟨(some 53), .bin .neq (.t 52) (.c (.v (.int .i64 0))), some (51, false)⟩, ⟨(some 54), .pick (.t 51) (.c (.v (.bool true))) (.t 53), none⟩, ⟨(some 55), .mv (.t 54), none⟩, ⟨(some 56), .mv (.t 5), some (55, false)⟩, ⟨(some 57), .len (.t 56), some (55, false)⟩, ⟨(some 58), .faddr 0 (.t 2), some (55, false)⟩, ⟨(some 59), .load none (.t 58), some (55, false)⟩, ⟨(some 60), .len (.t 59), some (55, false)⟩, ⟨(some 61), .bin .neq (.t 57) (.t 60), some (55, false)⟩, ⟨(some 62), .pick (.t 55) (.c (.v (.bool true))) (.t 61), none⟩, ⟨(some 63), .mv (.t 62), none⟩, ⟨(some 64), .mv (.t 7), some (63, false)⟩, ⟨(some 65), .len (.t 64), some (63, false)⟩, ⟨(some 66), .faddr 0 (.t 2), some (63, false)⟩, ⟨(some 67), .load none (.t 66), some (63, false)⟩, ⟨(some 68), .len (.t 67), some (63, false)⟩, ⟨(some 69), .bin .neq (.t 65) (.t 68), some (63, false)⟩, ⟨(some 70), .pick (.t 63) (.c (.v (.bool true))) (.t 69), none⟩])
  (.cond (.t 70) (.seq (.region [⟨(some 4), .mv (.c (.v (.bool false))), none⟩])
  .ret)
  .skip))
  (.seq (.seq (.region [⟨(some 71), .load (some 1) (.t 2), none⟩, ⟨(some 72), .call (.c (.fn 18 [])) [(.t 71)], none⟩, ⟨(some 73), .mv (.c (.v (.int .i64 0))), none⟩])
  (.block 0 (.loop (.seq (.region [⟨(some 74), .bin .lss (.t 73) (.t 72), none⟩])
  (.seq (.cond (.t 74) .skip
  (.exit 0))
  (.seq (.block 1 (.seq (.region [⟨(some 75), .mv (.t 73), none⟩, ⟨(some 9), .mv (.t 75), none⟩])
  (.seq (.region [⟨(some 76), .load (some 1) (.t 2), none⟩, ⟨(some 77), .mv (.t 9), none⟩, ⟨(some 78), .call (.c (.fn 22 [])) [(.t 76), (.t 77)], none⟩, ⟨(some 10), .alloc [(.v (.int .i64 0)), (.v (.int .i64 0))], none⟩, ⟨none, .store 2 (.t 10) (.t 78), none⟩])
  (.seq (.region [⟨(some 80), .load (some 1) (.t 2), none⟩, ⟨(some 81), .load (some 2) (.t 10), none⟩, ⟨(some 82), .load (some 2) (.t 3), none⟩, ⟨(some 83), .call (.c (.fn 23 [])) [(.t 80), (.t 81), (.t 82)], none⟩, ⟨(some 79), .mv (.t 83), none⟩, ⟨(some 84), .extract 0 (.t 79), none⟩, ⟨(some 85), .extract 1 (.t 79), none⟩, ⟨(some 11), .mv (.t 84), none⟩, ⟨(some 12), .mv (.t 85), none⟩])
  (.seq (.region [⟨(some 87), .load (some 1) (.t 2), none⟩, ⟨(some 88), .load (some 2) (.t 3), none⟩, ⟨(some 89), .load (some 2) (.t 10), none⟩, ⟨(some 90), .call (.c (.fn 23 [])) [(.t 87), (.t 88), (.t 89)], none⟩, ⟨(some 86), .mv (.t 90), none⟩, ⟨(some 91), .extract 0 (.t 86), none⟩, ⟨(some 92), .extract 1 (.t 86), none⟩, ⟨(some 13), .mv (.t 91), none⟩, ⟨(some 14), .mv (.t 92), none⟩])
  (.seq (.seq (.draw [⟨0, ⟨(some 93), .mv (.t 12), none⟩, []⟩, ⟨1, ⟨(some 94), .bin .neq (.t 93) (.c (.v (.int .i64 0))), none⟩, []⟩, ⟨2, ⟨(some 95), .mv (.t 94), none⟩, []⟩, ⟨3, ⟨(some 96), .mv (.t 14), some (95, false)⟩, []⟩, ⟨4, ⟨(some 97), .bin .neq (.t 96) (.c (.v (.int .i64 0))), some (95, false)⟩, []⟩, ⟨5, ⟨(some 98), .pick (.t 95) (.c (.v (.bool true))) (.t 97), none⟩, []⟩, ⟨6, ⟨(some 99), .mv (.t 98), none⟩, []⟩, ⟨7, ⟨(some 100), .faddr 1 (.t 10), some (99, false)⟩, []⟩, ⟨8, ⟨(some 101), .load none (.t 100), some (99, false)⟩, []⟩, ⟨9, ⟨(some 102), .mv (.t 5), some (99, false)⟩, []⟩, ⟨10, ⟨(some 103), .faddr 0 (.t 10), some (99, false)⟩, []⟩, ⟨11, ⟨(some 104), .load none (.t 103), some (99, false)⟩, []⟩, ⟨12, ⟨(some 105), .iaddr 1 (.t 102) (.t 104), some (99, false)⟩, []⟩, ⟨13, ⟨(some 106), .load none (.t 105), some (99, false)⟩, []⟩, ⟨14, ⟨(some 107), .bin .leq (.t 101) (.t 106), some (99, false)⟩, []⟩, ⟨15, ⟨(some 108), .mv (.t 11), some (99, false)⟩, []⟩, ⟨16, ⟨(some 109), .mv (.t 108), some (99, false)⟩, []⟩, ⟨17, ⟨(some 110), .load (some 2) (.t 10), some (109, false)⟩, []⟩, ⟨18, ⟨(some 111), .load (some 2) (.t 3), some (109, false)⟩, []⟩, ⟨19, ⟨(some 112), .eqs false [.i, .i] (.t 110) (.t 111), some (109, false)⟩, []⟩, ⟨20, ⟨(some 113), .pick (.t 109) (.c (.v (.bool true))) (.t 112), some (99, false)⟩, []⟩, ⟨21, ⟨(some 114), .binB .neq (.t 107) (.t 113), some (99, false)⟩, []⟩, ⟨22, ⟨(some 115), .pick (.t 99) (.c (.v (.bool true))) (.t 114), none⟩, []⟩, ⟨23, ⟨(some 116), .mv (.t 115), none⟩, []⟩, ⟨24, ⟨(some 117), .faddr 1 (.t 10), some (116, false)⟩, []⟩, ⟨25, ⟨(some 118), .load none (.t 117), some (116, false)⟩, []⟩, ⟨26, ⟨(some 119), .mv (.t 7), some (116, false)⟩, []⟩, ⟨27, ⟨(some 120), .faddr 0 (.t 10), some (116, false)⟩, []⟩, ⟨28, ⟨(some 121), .load none (.t 120), some (116, false)⟩, []⟩, ⟨29, ⟨(some 122), .iaddr 1 (.t 119) (.t 121), some (116, false)⟩, []⟩, ⟨30, ⟨(some 123), .load none (.t 122), some (116, false)⟩, []⟩, ⟨31, ⟨(some 124), .bin .leq (.t 118) (.t 123), some (116, false)⟩, []⟩, ⟨32, ⟨(some 125), .mv (.t 13), some (116, false)⟩, []⟩, ⟨33, ⟨(some 126), .not (.t 125), some (116, false)⟩, []⟩, ⟨34, ⟨(some 127), .mv (.t 126), some (116, false)⟩, []⟩, ⟨35, ⟨(some 128), .load (some 2) (.t 10), some (127, true)⟩, []⟩, ⟨36, ⟨(some 129), .load (some 2) (.t 3), some (127, true)⟩, []⟩, ⟨37, ⟨(some 130), .eqs true [.i, .i] (.t 128) (.t 129), some (127, true)⟩, []⟩, ⟨38, ⟨(some 131), .pick (.t 127) (.t 130) (.c (.v (.bool false))), some (116, false)⟩, []⟩, ⟨39, ⟨(some 132), .binB .neq (.t 124) (.t 131), some (116, false)⟩, []⟩, ⟨40, ⟨(some 133), .pick (.t 116) (.c (.v (.bool true))) (.t 132), none⟩, []⟩])
  (.cond (.t 133) (.seq (.region [⟨(some 4), .mv (.c (.v (.bool false))), none⟩])
  .ret)
  .skip))
  (.seq (.draw [⟨0, ⟨(some 134), .faddr 0 (.t 2), none⟩, []⟩, ⟨1, ⟨(some 135), .load none (.t 134), none⟩, []⟩, ⟨2, ⟨(some 136), .faddr 0 (.t 10), none⟩, []⟩, ⟨3, ⟨(some 137), .load none (.t 136), none⟩, []⟩, ⟨4, ⟨(some 138), .iaddr 3 (.t 135) (.t 137), none⟩, []⟩, ⟨5, ⟨(some 139), .faddr 2 (.t 138), none⟩, []⟩, ⟨6, ⟨(some 140), .load none (.t 139), none⟩, []⟩, ⟨7, ⟨(some 141), .faddr 1 (.t 10), none⟩, []⟩, ⟨8, ⟨(some 142), .load none (.t 141), none⟩, []⟩, ⟨9, ⟨(some 143), .bin .sub (.t 142) (.c (.v (.int .i64 1))), none⟩, []⟩, ⟨10, ⟨(some 144), .iaddr 5 (.t 140) (.t 143), none⟩, []⟩, ⟨11, ⟨(some 145), .load (some 5) (.t 144), none⟩, []⟩, ⟨12, ⟨(some 15), .alloc [(.v (.int .i64 0)), (.v (.int .i64 0)), (.v (.int .i64 0)), (.v (.int .i64 0)), (.v .zsl)], none⟩, [⟨(some 134), .faddr 0 (.t 2), none⟩, ⟨(some 135), .load none (.t 134), none⟩, ⟨(some 136), .faddr 0 (.t 10), none⟩, ⟨(some 137), .load none (.t 136), none⟩, ⟨(some 138), .iaddr 3 (.t 135) (.t 137), none⟩, ⟨(some 139), .faddr 2 (.t 138), none⟩, ⟨(some 140), .load none (.t 139), none⟩, ⟨(some 141), .faddr 1 (.t 10), none⟩, ⟨(some 142), .load none (.t 141), none⟩, ⟨(some 143), .bin .sub (.t 142) (.c (.v (.int .i64 1))), none⟩, ⟨(some 144), .iaddr 5 (.t 140) (.t 143), none⟩, ⟨(some 145), .load (some 5) (.t 144), none⟩]⟩, ⟨13, ⟨none, .store 5 (.t 15) (.t 145), none⟩, []⟩])
  (.seq (.seq (.region [⟨(some 146), .faddr 0 (.t 15), none⟩, ⟨(some 147), .load none (.t 146), none⟩, ⟨(some 148), .bin .neq (.t 147) (.c (.v (.int .i64 3))), none⟩])
  (.cond (.t 148) (.exit 1)
  .skip))
  (.seq (.region [⟨(some 149), .faddr 0 (.t 2), none⟩, ⟨(some 150), .load none (.t 149), none⟩, ⟨(some 151), .faddr 1 (.t 15), none⟩, ⟨(some 152), .load none (.t 151), none⟩, ⟨(some 153), .iaddr 3 (.t 150) (.t 152), none⟩, ⟨(some 154), .faddr 2 (.t 153), none⟩, ⟨(some 155), .load none (.t 154), none⟩, ⟨(some 156), .mkfn 25 [(.t 15)], none⟩, ⟨(some 157), .call (.c (.fn 24 [])) [(.t 155), (.t 156)], none⟩, ⟨(some 158), .bin .add (.t 157) (.c (.v (.int .i64 1))), none⟩, ⟨(some 16), .mv (.t 158), none⟩])
  (.seq (.draw [⟨0, ⟨(some 159), .faddr 1 (.t 10), none⟩, []⟩, ⟨1, ⟨(some 160), .load none (.t 159), none⟩, []⟩, ⟨2, ⟨(some 161), .mv (.t 5), none⟩, []⟩, ⟨3, ⟨(some 162), .faddr 0 (.t 10), none⟩, []⟩, ⟨4, ⟨(some 163), .load none (.t 162), none⟩, []⟩, ⟨5, ⟨(some 164), .iaddr 1 (.t 161) (.t 163), none⟩, []⟩, ⟨6, ⟨(some 165), .load none (.t 164), none⟩, []⟩, ⟨7, ⟨(some 166), .bin .leq (.t 160) (.t 165), none⟩, []⟩, ⟨8, ⟨(some 167), .mv (.t 166), none⟩, []⟩, ⟨9, ⟨(some 168), .mv (.t 16), some (167, true)⟩, []⟩, ⟨10, ⟨(some 169), .mv (.t 5), some (167, true)⟩, []⟩, ⟨11, ⟨(some 170), .faddr 1 (.t 15), some (167, true)⟩, []⟩, ⟨12, ⟨(some 171), .load none (.t 170), some (167, true)⟩, []⟩, ⟨13, ⟨(some 172), .iaddr 1 (.t 169) (.t 171), some (167, true)⟩, []⟩, ⟨14, ⟨(some 173), .load none (.t 172), some (167, true)⟩, []⟩, ⟨15, ⟨(some 174), .bin .gtr (.t 168) (.t 173), some (167, true)⟩, []⟩, ⟨16, ⟨(some 175), .pick (.t 167) (.t 174) (.c (.v (.bool false))), none⟩, []⟩, ⟨17, ⟨(some 176), .mv (.t 175), none⟩, []⟩, ⟨18, ⟨(some 177), .faddr 1 (.t 10), some (176, false)⟩, []⟩, ⟨19, ⟨(some 178), .load none (.t 177), some (176, false)⟩, []⟩, ⟨20, ⟨(some 179), .mv (.t 7), some (176, false)⟩, []⟩, ⟨21, ⟨(some 180), .faddr 0 (.t 10), some (176, false)⟩, []⟩, ⟨22, ⟨(some 181), .load none (.t 180), some (176, false)⟩, []⟩, ⟨23, ⟨(some 182), .iaddr 1 (.t 179) (.t 181), some (176, false)⟩, []⟩, ⟨24, ⟨(some 183), .load none (.t 182), some (176, false)⟩, []⟩, ⟨25, ⟨(some 184), .bin .leq (.t 178) (.t 183), some (176, false)⟩, []⟩, ⟨26, ⟨(some 185), .mv (.t 184), some (176, false)⟩, []⟩, ⟨27, ⟨(some 186), .mv (.t 16), some (185, true)⟩, []⟩, ⟨28, ⟨(some 187), .mv (.t 7), some (185, true)⟩, []⟩, ⟨29, ⟨(some 188), .faddr 1 (.t 15), some (185, true)⟩, []⟩, ⟨30, ⟨(some 189), .load none (.t 188), some (185, true)⟩, []⟩, ⟨31, ⟨(some 190), .iaddr 1 (.t 187) (.t 189), some (185, true)⟩, []⟩, ⟨32, ⟨(some 191), .load none (.t 190), some (185, true)⟩, []⟩, ⟨33, ⟨(some 192), .bin .gtr (.t 186) (.t 191), some (185, true)⟩, []⟩, ⟨34, ⟨(some 193), .pick (.t 185) (.t 192) (.c (.v (.bool false))), some (176, false)⟩, []⟩, ⟨35, ⟨(some 194), .pick (.t 176) (.c (.v (.bool true))) (.t 193), none⟩, []⟩])
  (.cond (.t 194) (.seq (.region [⟨(some 4), .mv (.c (.v (.bool false))), none⟩])
  .ret)
  .skip)))))))))))
  (.region [⟨(some 195), .bin .add (.t 73) (.c (.v (.int .i64 1))), none⟩, ⟨(some 73), .mv (.t 195), none⟩])))))))
  (.seq (.region [⟨(some 4), .mv (.c (.v (.bool true))), none⟩])
  .ret))))))))⟩
theorem a_Halves_ok : cFunc Try.prog 3 = some a_Halves := by kernel_rfl
def r_Halves0 : List (Nat × Nat) := [(4, 4), (9, 16), (73, 195)]
def a_Halves1 : AFunc := ⟨2, 14, [.tmp 3],
  (.seq (.region [⟨(some 2), .box (.t 0), none⟩, ⟨(some 3), .mv (.c (.v (.bool false))), none⟩])
  (.seq (.region [⟨(some 4), .faddr 0 (.t 2), none⟩, ⟨(some 5), .load none (.t 4), none⟩, ⟨(some 6), .bin .eql (.t 5) (.c (.v (.int .i64 2))), none⟩, ⟨(some 7), .mv (.t 6), none⟩, ⟨(some 8), .faddr 2 (.t 2), some (7, true)⟩, ⟨(some 9), .load none (.t 8), some (7, true)⟩, ⟨(some 10), .faddr 2 (.t 1), some (7, true)⟩, ⟨(some 11), .load none (.t 10), some (7, true)⟩, ⟨(some 12), .bin .eql (.t 9) (.t 11), some (7, true)⟩, ⟨(some 13), .pick (.t 7) (.t 12) (.c (.v (.bool false))), none⟩, ⟨(some 3), .mv (.t 13), none⟩])
  .ret))⟩
theorem a_Halves1_ok : cFunc Try.prog 25 = some a_Halves1 := by kernel_rfl

theorem Halves1_spec (t : Tr) (e f : Ev) (id : Nat) (b : List Row) (hid : b[id]? = some (.live 0 5 [(eEv e).map .v])) : ACalls Try.prog 25 [.agg ((eEv f).map .v), .ptr id 0 0 0] b [] (fun r b' l' => r = .v (.bool ((f.kind == 2) && (f.msg == e.msg))) ∧ b' = b ∧ l' = []) := by
  refine calls_kept a_Halves1_ok rfl (by decide) ?_
  intro B g hB hR hE hA
  simp only [KArgs] at hA
  have hBb : B = b := by rw [hB, List.append_nil]
  have hbase := hget_low (B := B) (hBb.symm ▸ hid)
  cases hk : f.kind == 2 with
  | false =>
    simp (disch := (first | decide | omega)) only [a_Halves1, hA, hbase, eEv, hk, go_sem]
    exact leave_pure (xs := [.v (.bool false)]) (.inr rfl) (by simp (disch := (first | decide | omega)) only [resVs, resV, go_sem, hA]) (by simp only [one, AVlt_v, AVlt_any, AVlt_sl, AVlt_ptr, AVlt_mp, AVlt_agg, AVlt_tup, AVlt_fn, RowsLt_nil, RowsLt_live, RowsLt_dead, List.mem_cons, List.not_mem_nil, List.forall_mem_cons, List.forall_mem_nil, or_false, false_or, forall_eq_or_imp, forall_eq, vs_lt, Nat.add_lt_add_iff_left, Nat.reduceLT, true_and, and_true, and_self, List.length_cons, List.length_nil, Nat.reduceAdd, Nat.zero_add, implies_true, false_imp_iff, lt_T, List.mem_map]) hR hB ⟨rfl, rfl, rfl⟩
  | true =>
    simp (disch := (first | decide | omega)) only [a_Halves1, hA, hbase, eEv, hk, go_sem]
    exact leave_pure (xs := [.v (.bool (f.msg == e.msg))]) (.inr rfl) (by simp (disch := (first | decide | omega)) only [resVs, resV, go_sem, hA]) (by simp only [one, AVlt_v, AVlt_any, AVlt_sl, AVlt_ptr, AVlt_mp, AVlt_agg, AVlt_tup, AVlt_fn, RowsLt_nil, RowsLt_live, RowsLt_dead, List.mem_cons, List.not_mem_nil, List.forall_mem_cons, List.forall_mem_nil, or_false, false_or, forall_eq_or_imp, forall_eq, vs_lt, Nat.add_lt_add_iff_left, Nat.reduceLT, true_and, and_true, and_self, List.length_cons, List.length_nil, Nat.reduceAdd, Nat.zero_add, implies_true, false_imp_iff, lt_T, List.mem_map]) hR hB ⟨rfl, rfl, rfl⟩
theorem fus_len {t : Tr} {x : Nat × Nat} : (fus t x).length = t.length := fl_len
theorem fus_at {t : Tr} {x : Nat × Nat} {q : Nat} : ∀ h, (fus t x)[q]'h = (fu t x q : Int) := fun h => fl_getE h
/-- How an event stands to another one, by past and future. -/
theorem halves {t : Tr} (hv : Vok t) {p i q j : Nat} (hx : (p, i + 1) ∈ ids t) (hy : (q, j + 1) ∈ ids t) :
    ∃ b1 b2 b3 : Bool, befB t (q, j + 1) (p, i + 1) = b1 ∧ befB t (p, i + 1) (q, j + 1) = b2 ∧ (((q : Int) == (p : Int)) && (((j + 1 : Nat) : Int) == ((i + 1 : Nat) : Int))) = b3 ∧
      decide (((j + 1 : Nat) : Int) ≤ (vc t (p, i + 1) q : Int)) = (b1 || b3) ∧ decide (((j + 1 : Nat) : Int) ≤ (fu t (p, i + 1) q : Int)) = (!b2 && !b3) ∧ (b1 || b3) = decide (j + 1 ≤ vc t (p, i + 1) q) ∧ (!b2 && !b3) = decide (j + 1 ≤ fu t (p, i + 1) q) ∧ ((b1, b2, b3) = (true, false, false) ∨ (b1, b2, b3) = (false, true, false) ∨ (b1, b2, b3) = (false, false, true) ∨ (b1, b2, b3) = (false, false, false)) := by
  have e3 : (((q : Int) == (p : Int)) && (((j + 1 : Nat) : Int) == ((i + 1 : Nat) : Int))) = decide ((q, j + 1) = (p, i + 1)) := by
    rw [Bool.eq_iff_iff]; simp; omega
  obtain ⟨hq, hj⟩ := mem_ids2.1 hy
  have hf := fu_iff (t := t) (x := (p, i + 1)) (q := q) (i := j) hj
  have hl := le_vc (y := (p, i + 1)) hv hy
  have d1 : decide (((j + 1 : Nat) : Int) ≤ (vc t (p, i + 1) q : Int)) = decide (j + 1 ≤ vc t (p, i + 1) q) := by rw [decide_eq_decide]; omega
  have d2 : decide (((j + 1 : Nat) : Int) ≤ (fu t (p, i + 1) q : Int)) = decide (j + 1 ≤ fu t (p, i + 1) q) := by rw [decide_eq_decide]; omega
  refine ⟨_, _, _, rfl, rfl, rfl, ?_, ?_, ?_, ?_, ?_⟩
  all_goals rw [e3]
  · rw [d1, Bool.eq_iff_iff, decide_eq_true_eq]
    rw [show (j + 1 ≤ vc t (p, i + 1) q) ↔ Le t (q, j + 1) (p, i + 1) from hl.symm]
    simp only [Bool.or_eq_true, decide_eq_true_eq, befB_iff hv hy hx]
    constructor
    · rintro (h | h)
      · exact .inr h
      · exact .inl h
    · rintro (h | h)
      · exact .inr h
      · exact .inl h
  · rw [d2, Bool.eq_iff_iff, decide_eq_true_eq]
    rw [show (j + 1 ≤ fu t (p, i + 1) q) ↔ ¬ Le t (p, i + 1) (q, j + 1) from hf]
    simp only [Bool.and_eq_true, Bool.not_eq_true', decide_eq_false_iff_not]
    rw [Bool.eq_false_iff, ne_eq, befB_iff hv hx hy]
    constructor
    · intro h; exact ⟨fun h2 => h (.inr h2), fun h2 => h (.inl h2.symm)⟩
    · rintro ⟨h1, h2⟩ (h | h)
      · exact h2 h.symm
      · exact h1 h
  · rw [Bool.eq_iff_iff, decide_eq_true_eq]
    rw [show (j + 1 ≤ vc t (p, i + 1) q) ↔ Le t (q, j + 1) (p, i + 1) from hl.symm]
    simp only [Bool.or_eq_true, decide_eq_true_eq, befB_iff hv hy hx]
    constructor
    · rintro (h | h)
      · exact .inr h
      · exact .inl h
    · rintro (h | h)
      · exact .inr h
      · exact .inl h
  · rw [Bool.eq_iff_iff, decide_eq_true_eq]
    rw [show (j + 1 ≤ fu t (p, i + 1) q) ↔ ¬ Le t (p, i + 1) (q, j + 1) from hf]
    simp only [Bool.and_eq_true, Bool.not_eq_true', decide_eq_false_iff_not]
    rw [Bool.eq_false_iff, ne_eq, befB_iff hv hx hy]
    constructor
    · rintro ⟨h1, h2⟩ (h | h)
      · exact h2 h.symm
      · exact h1 h
    · intro h; exact ⟨fun h2 => h (.inr h2), fun h2 => h (.inl h2.symm)⟩
  · by_cases heq : (q, j + 1) = (p, i + 1)
    · have c := (exact_eq hv hx).2
      rw [heq, c]; simp
    · rw [decide_eq_false heq]
      cases h1 : befB t (q, j + 1) (p, i + 1) with
      | true => cases h2 : befB t (p, i + 1) (q, j + 1) with
        | true => exact absurd (le_anti hv hy hx (.inr ((befB_iff hv hy hx).1 h1)) (.inr ((befB_iff hv hx hy).1 h2))) heq
        | false => simp
      | false => cases h2 : befB t (p, i + 1) (q, j + 1) <;> simp
set_option maxRecDepth 20000 in
set_option maxHeartbeats 4000000 in
theorem causalityHalves_run (t : Tr) (x : Int × Int) (hN : Nm t) (b l : List Row) :
    ACalls Try.prog 3 [.agg [.v (eT t)], idP x] b l (fun r b' l' => r = .v (.bool true) ∧ b' = b ∧ l' = l) := by
  refine calls_kept a_Halves_ok rfl (by decide) ?_
  intro B g hB hR hE hA
  simp only [KArgs] at hA
  simp (disch := decide) only [a_Halves, hA, idP, go_sem]
  refine ACalls.nxt (awake13_spec _ _) ?_
  simp (disch := decide) only [hA, go_sem]
  refine ACalls.nxt (great_spec t hN _ _) ?_
  cases hgr : grB t with
  | true =>
    simp (disch := decide) only [hA, go_sem]
    exact leave_pure (xs := [.v (.bool true)]) (.inr rfl) (by simp (disch := (first | decide | omega)) only [resVs, resV, go_sem, hA]) (by simp only [one, AVlt_v, AVlt_any, AVlt_sl, AVlt_ptr, AVlt_mp, AVlt_agg, AVlt_tup, AVlt_fn, RowsLt_nil, RowsLt_live, RowsLt_dead, List.mem_cons, List.not_mem_nil, List.forall_mem_cons, List.forall_mem_nil, or_false, false_or, forall_eq_or_imp, forall_eq, vs_lt, Nat.add_lt_add_iff_left, Nat.reduceLT, true_and, and_true, and_self, List.length_cons, List.length_nil, Nat.reduceAdd, Nat.zero_add, implies_true, false_imp_iff, lt_T, List.mem_map]) hR hB ⟨rfl, rfl, rfl⟩
  | false =>
    obtain ⟨g1, g2, hS, g3⟩ := gr_in hgr
    simp (disch := decide) only [hA, go_sem]
    refine ACalls.nxt (rvalid_spec t hS hN _ _) ?_
    cases hval : validL t with
    | false =>
      simp (disch := decide) only [hA, go_sem]
      exact leave_pure (xs := [.v (.bool true)]) (.inr rfl) (by simp (disch := (first | decide | omega)) only [resVs, resV, go_sem, hA]) (by simp only [one, AVlt_v, AVlt_any, AVlt_sl, AVlt_ptr, AVlt_mp, AVlt_agg, AVlt_tup, AVlt_fn, RowsLt_nil, RowsLt_live, RowsLt_dead, List.mem_cons, List.not_mem_nil, List.forall_mem_cons, List.forall_mem_nil, or_false, false_or, forall_eq_or_imp, forall_eq, vs_lt, Nat.add_lt_add_iff_left, Nat.reduceLT, true_and, and_true, and_self, List.length_cons, List.length_nil, Nat.reduceAdd, Nat.zero_add, implies_true, false_imp_iff, lt_T, List.mem_map]) hR hB ⟨rfl, rfl, rfl⟩
    | true =>
      have hv := vok hval
      have hC : (ids t).length ≤ 1000000 := by have := g3 hval; omega
      simp (disch := decide) only [hA, go_sem]
      refine ACalls.nxt (rEvents_spec t g1 g2 _ _) ?_
      by_cases h30 : 30 < (ids t).length
      · have hd : decide ((30 : Int) < (((ids t).length : Nat) : Int)) = true := decide_eq_true (by omega)
        simp (disch := (first | decide | omega)) only [hA, hd, go_sem]
        exact leave_pure (xs := [.v (.bool true)]) (.inr rfl) (by simp (disch := (first | decide | omega)) only [resVs, resV, go_sem, hA]) (by simp only [one, AVlt_v, AVlt_any, AVlt_sl, AVlt_ptr, AVlt_mp, AVlt_agg, AVlt_tup, AVlt_fn, RowsLt_nil, RowsLt_live, RowsLt_dead, List.mem_cons, List.not_mem_nil, List.forall_mem_cons, List.forall_mem_nil, or_false, false_or, forall_eq_or_imp, forall_eq, vs_lt, Nat.add_lt_add_iff_left, Nat.reduceLT, true_and, and_true, and_self, List.length_cons, List.length_nil, Nat.reduceAdd, Nat.zero_add, implies_true, false_imp_iff, lt_T, List.mem_map]) hR hB ⟨rfl, rfl, rfl⟩
      have hd : decide ((30 : Int) < (((ids t).length : Nat) : Int)) = false := decide_eq_false (by omega)
      simp (disch := (first | decide | omega)) only [hA, hd, go_sem]
      refine ACalls.nxt (rIs_spec t hS x _ _) ?_
      cases hex : existsB t x.1 x.2 with
      | false =>
        simp (disch := decide) only [hA, go_sem]
        exact leave_pure (xs := [.v (.bool true)]) (.inr rfl) (by simp (disch := (first | decide | omega)) only [resVs, resV, go_sem, hA]) (by simp only [one, AVlt_v, AVlt_any, AVlt_sl, AVlt_ptr, AVlt_mp, AVlt_agg, AVlt_tup, AVlt_fn, RowsLt_nil, RowsLt_live, RowsLt_dead, List.mem_cons, List.not_mem_nil, List.forall_mem_cons, List.forall_mem_nil, or_false, false_or, forall_eq_or_imp, forall_eq, vs_lt, Nat.add_lt_add_iff_left, Nat.reduceLT, true_and, and_true, and_self, List.length_cons, List.length_nil, Nat.reduceAdd, Nat.zero_add, implies_true, false_imp_iff, lt_T, List.mem_map]) hR hB ⟨rfl, rfl, rfl⟩
      | true =>
        obtain ⟨p, i, e1, e2, hx⟩ := existsB_in hex
        obtain ⟨x1, x2⟩ := x
        simp only at e1 e2
        subst e1; subst e2
        obtain ⟨hp, hpi⟩ := mem_ids2.1 hx
        have hck1 : chkE t [((p : Int), ((i + 1 : Nat) : Int))] = 0 := chkE_zero.2 ⟨hval, fun z hz => by
          simp only [List.mem_cons, List.not_mem_nil, or_false] at hz
          subst hz; exact hex⟩
        have hpr : pastR t ((p : Int), ((i + 1 : Nat) : Int)) = .tup [.v (.isl 1 ((vcs t (p, i + 1)).map eI)), .v (.int .i64 0)] := by
          unfold pastR; rw [if_pos hck1]; rfl
        have hfr : futR t ((p : Int), ((i + 1 : Nat) : Int)) = .tup [.v (.isl 1 ((fus t (p, i + 1)).map eI)), .v (.int .i64 0)] := by
          unfold futR; rw [if_pos hck1]; rfl
        have hn0 : ((0 : Int) != 0) = false := rfl
        have hnn : ∀ n : Int, (n != n) = false := fun n => by simp
        have hvl := vcs_len (t := t) (x := (p, i + 1))
        have hfl := fus_len (t := t) (x := (p, i + 1))
        simp (disch := (first | decide | omega)) only [hA, go_sem]
        refine ACalls.nxt (PastC_spec t hS hN (fun _ => hC) ((p : Int), ((i + 1 : Nat) : Int)) _ _) ?_
        rw [hpr]
        simp (disch := (first | decide | omega)) only [hA, go_sem]
        refine ACalls.nxt (FutureC_spec t hS hN (fun _ => hC) ((p : Int), ((i + 1 : Nat) : Int)) _ _) ?_
        rw [hfr]
        simp (disch := (first | decide | omega)) only [hA, hn0, eT, hvl, hfl, List.length_map, hnn, go_sem]
        refine ACalls.nxt (rEvents_spec t g1 g2 _ _) ?_
        simp (disch := (first | decide | omega)) only [hA, go_sem]
        refine loop_kept (ι := Nat) r_Halves0 (fun n => [(73, .v (.int .i64 n))]) 2 (fun n => [.live 0 1 [[.v (.isl 3 (t.map ePr))]], .live 0 2 [[.v (.int .i64 p), .v (.int .i64 ((i + 1 : Nat) : Int))]]])
          (fun n => n ≤ (ids t).length) (fun n => (ids t).length - n) 0 (Nat.zero_le _) (by (repeat (first | exact hE.mono (by omega) | refine KLt.up ?_ (by simp (disch := omega) only [AVlt_v, AVlt_any, AVlt_sl, AVlt_ptr, AVlt_mp, AVlt_agg, AVlt_tup, AVlt_fn, RowsLt_nil, RowsLt_live, RowsLt_dead, List.mem_cons, List.not_mem_nil, List.forall_mem_cons, List.forall_mem_nil, or_false, false_or, forall_eq_or_imp, forall_eq, vs_lt, Nat.add_lt_add_iff_left, Nat.reduceLT, true_and, and_true, and_self, List.length_cons, List.length_nil, Nat.reduceAdd, Nat.zero_add, implies_true, false_imp_iff, lt_T, List.mem_map])))) (by ((try simp (disch := decide) only [hA, go_sem]) <;> (repeat' (first | exact trivial | refine And.intro ?_ ?_)) <;> (first | rfl | (congr 2; omega)))) (fun e => Weak.refl _ _ _) ?_
        intro g1 hE1 hEE1 hg1 n hn
        by_cases hnl : n < (ids t).length
        · obtain ⟨⟨q, j⟩, hyn⟩ : ∃ y, (ids t)[n] = y := ⟨_, rfl⟩
          have hy : (q, j) ∈ ids t := by rw [← hyn]; exact List.getElem_mem hnl
          obtain ⟨j, rfl⟩ : ∃ k, j = k + 1 := ⟨j - 1, by have := mem_pos hy; simp only at this; omega⟩
          obtain ⟨hq, hqj⟩ := mem_ids2.1 hy
          have hjl : j < t[q].evs.length := by rw [evsOf_lt hq] at hqj; exact hqj
          have hev := evAt_eq hq hjl
          have hqne := hS.ne _ (List.getElem_mem hq)
          have hEv := rEvent_spec t hS n hnl hC
          simp only [hyn, idA] at hEv
          have hb1 := befR_ids hval hy hx
          have hb2 := befR_ids hval hx hy
          simp only at hb1 hb2
          have hcj : ((j + 1 : Nat) : Int) - 1 = (j : Int) := by omega
          have m1 : q < (vcs t (p, i + 1)).length := by rw [hvl]; exact hq
          have m2 : q < (fus t (p, i + 1)).length := by rw [hfl]; exact hq
          have r1 : ∀ h, (vcs t (p, i + 1))[q]'h = (vc t (p, i + 1) q : Int) := fun h => fl_getE h
          have r2 : ∀ h, (fus t (p, i + 1))[q]'h = (fu t (p, i + 1) q : Int) := fus_at
          obtain ⟨c1, c2, c3, f1, f2, f3, f4, f5, f6, f7, f8⟩ := halves hv hx hy
          simp (disch := (first | decide | omega)) only [hA, hg1, go_sem]
          refine ACalls.nxt (hEv _ _) ?_
          simp (disch := (first | decide | omega)) only [hA, hg1, go_sem]
          refine ACalls.nxt (Before_spec t hS hN (fun _ => hC) ((q : Int), ((j + 1 : Nat) : Int)) ((p : Int), ((i + 1 : Nat) : Int)) _ _) ?_
          rw [hb1, f1]
          simp (disch := (first | decide | omega)) only [hA, hg1, go_sem]
          refine ACalls.nxt (Before_spec t hS hN (fun _ => hC) ((p : Int), ((i + 1 : Nat) : Int)) ((q : Int), ((j + 1 : Nat) : Int)) _ _) ?_
          rw [hb2, f2]
          by_cases hk : (evAt t (q, j + 1)).kind = 3
          case neg =>
            have hkb : (t[q].evs[j].kind != 3) = true := by rw [← hev]; simpa using hk
            rcases f8 with h | h | h | h <;>
            · simp only [Prod.mk.injEq] at h
              obtain ⟨rfl, rfl, rfl⟩ := h
              simp only [Bool.or_false, Bool.or_true, Bool.false_or, Bool.true_or, Bool.not_true, Bool.not_false, Bool.and_true, Bool.and_false, Bool.true_and, Bool.false_and] at f4 f5
              simp (disch := (first | decide | omega)) only [hA, hg1, hn0, f3, f4, f5, r1, r2, eI, eT, ePr, eEv, hcj, hkb, go_sem]
              refine ⟨n + 1, hnl, by simp only; omega, ?_⟩
              exact Weak.kround (p := r_Halves0) (k := 2) (by ((repeat refine (kAny_up rfl).trans ?_); exact hEE1)) (by ((try simp (disch := decide) only [hA, go_sem]) <;> (repeat' (first | exact trivial | refine And.intro ?_ ?_)) <;> (first | rfl | (congr 2; omega)))) rfl hE1 (by simp) (by simp (disch := omega) only [KOvLt, AVlt_v, AVlt_any, AVlt_sl, AVlt_ptr, AVlt_mp, AVlt_agg, AVlt_tup, AVlt_fn, RowsLt_nil, RowsLt_live, RowsLt_dead, List.mem_cons, List.not_mem_nil, List.forall_mem_cons, List.forall_mem_nil, or_false, false_or, forall_eq_or_imp, forall_eq, vs_lt, Nat.add_lt_add_iff_left, Nat.reduceLT, true_and, and_true, and_self, List.length_cons, List.length_nil, Nat.reduceAdd, Nat.zero_add, implies_true, false_imp_iff, lt_T, List.mem_map]) hR (by simp (disch := omega) only [AVlt_v, AVlt_any, AVlt_sl, AVlt_ptr, AVlt_mp, AVlt_agg, AVlt_tup, AVlt_fn, RowsLt_nil, RowsLt_live, RowsLt_dead, List.mem_cons, List.not_mem_nil, List.forall_mem_cons, List.forall_mem_nil, or_false, false_or, forall_eq_or_imp, forall_eq, vs_lt, Nat.add_lt_add_iff_left, Nat.reduceLT, true_and, and_true, and_self, List.length_cons, List.length_nil, Nat.reduceAdd, Nat.zero_add, implies_true, false_imp_iff, lt_T, List.mem_map])
          obtain ⟨hpe, hsne, hsk, hsm⟩ := sndr_peer hv hy hk
          obtain ⟨hsi, hsb⟩ := sndr_in hv hy hk
          obtain ⟨⟨sp, sj⟩, hsd⟩ : ∃ y, sndr t (q, j + 1) = y := ⟨_, rfl⟩
          have hfst := fun (k : Nat) (hk2 : sj = k + 1) h1 h2 => sndr_first hv hy hk (q := sp) (j := k) (by rw [hsd, hk2]) h1 h2
          rw [hsd] at hpe hsi hsb
          simp only at hpe
          obtain ⟨sj, rfl⟩ : ∃ k, sj = k + 1 := ⟨sj - 1, by have := mem_pos hsi; simp only at this; omega⟩
          obtain ⟨hsp, hsl⟩ := mem_ids2.1 hsi
          have hsl2 : sj < t[sp].evs.length := by rw [evsOf_lt hsp] at hsl; exact hsl
          have hfp := hfst sj rfl hsp hsl2
          have hsne2 := hS.ne _ (List.getElem_mem hsp)
          rw [hev] at hpe hfp
          have hkb : (t[q].evs[j].kind != 3) = false := by rw [← hev, hk]; rfl
          have hcs : (sj : Int) + 1 = ((sj + 1 : Nat) : Int) := by omega
          have w1 : sp < (vcs t (p, i + 1)).length := by rw [hvl]; exact hsp
          have w2 : sp < (fus t (p, i + 1)).length := by rw [hfl]; exact hsp
          have u1 : ∀ h, (vcs t (p, i + 1))[sp]'h = (vc t (p, i + 1) sp : Int) := fun h => fl_getE h
          have u2 : ∀ h, (fus t (p, i + 1))[sp]'h = (fu t (p, i + 1) sp : Int) := fus_at
          have k1 : (c1 || c3) = true → decide (((sj + 1 : Nat) : Int) > (vc t (p, i + 1) sp : Int)) = false := fun h => by
            rw [f6, decide_eq_true_eq] at h
            have h1 : Le t (q, j + 1) (p, i + 1) := (le_vc (y := (p, i + 1)) hv hy).2 h
            have h2 : Le t (sp, sj + 1) (p, i + 1) := (Le.trans (.inr hsb) h1)
            have h3 : sj + 1 ≤ vc t (p, i + 1) sp := (le_vc (y := (p, i + 1)) hv hsi).1 h2
            exact decide_eq_false (by omega)
          have k2 : (!c2 && !c3) = true → decide (((sj + 1 : Nat) : Int) > (fu t (p, i + 1) sp : Int)) = false := fun h => by
            rw [f7, decide_eq_true_eq] at h
            have h1 : ¬ Le t (p, i + 1) (q, j + 1) := (fu_iff hqj).1 h
            have h2 : ¬ Le t (p, i + 1) (sp, sj + 1) := fun h3 => h1 (h3.trans (.inr hsb))
            have h3 := (fu_iff (x := (p, i + 1)) hsl).2 h2
            exact decide_eq_false (by omega)
          rcases f8 with h | h | h | h <;>
          · simp only [Prod.mk.injEq] at h
            obtain ⟨rfl, rfl, rfl⟩ := h
            simp only [Bool.or_false, Bool.or_true, Bool.false_or, Bool.true_or, Bool.not_true, Bool.not_false, Bool.and_true, Bool.and_false, Bool.true_and, Bool.false_and] at f4 f5
            try have k1' := k1 rfl
            try have k2' := k2 rfl
            try have k1'' : decide ((vc t (p, i + 1) sp : Int) < ((sj + 1 : Nat) : Int)) = false := k1'
            try have k2'' : decide ((fu t (p, i + 1) sp : Int) < ((sj + 1 : Nat) : Int)) = false := k2'
            simp (disch := (first | decide | omega)) only [hA, hg1, hn0, f3, f4, f5, r1, r2, eI, eT, ePr, eEv, hcj, hkb, hpe, go_sem]
            refine ACalls.nxt (indexE_spec t[sp].evs _ [.ptr (B.length + 3) 0 0 0] (fun k => ((t[sp].evs.getD k dfEv).kind == 2) && ((t[sp].evs.getD k dfEv).msg == t[q].evs[j].msg)) hsne2 _ _ (fun k hk => by
              rw [getD_at hk]
              exact Halves1_spec t t[q].evs[j] t[sp].evs[k] (B.length + 3) _ (by rw [List.getElem?_append_right (by omega), Nat.add_sub_cancel_left]; simp only [eEv, hpe, List.map_cons, List.map_nil, List.getElem?_cons_succ, List.getElem?_cons_zero]))) ?_
            rw [hfp]
            first
              | (simp (disch := (first | decide | omega)) only [hA, hg1, hn0, f3, f4, f5, r1, r2, u1, u2, eI, hcs, hpe, k1', k1'', k2', k2'', go_sem]; refine ⟨n + 1, hnl, by simp only; omega, ?_⟩; exact Weak.kround (p := r_Halves0) (k := 2) (by ((repeat refine (kAny_up rfl).trans ?_); exact hEE1)) (by ((try simp (disch := decide) only [hA, go_sem]) <;> (repeat' (first | exact trivial | refine And.intro ?_ ?_)) <;> (first | rfl | (congr 2; omega)))) rfl hE1 (by simp) (by simp (disch := omega) only [KOvLt, AVlt_v, AVlt_any, AVlt_sl, AVlt_ptr, AVlt_mp, AVlt_agg, AVlt_tup, AVlt_fn, RowsLt_nil, RowsLt_live, RowsLt_dead, List.mem_cons, List.not_mem_nil, List.forall_mem_cons, List.forall_mem_nil, or_false, false_or, forall_eq_or_imp, forall_eq, vs_lt, Nat.add_lt_add_iff_left, Nat.reduceLT, true_and, and_true, and_self, List.length_cons, List.length_nil, Nat.reduceAdd, Nat.zero_add, implies_true, false_imp_iff, lt_T, List.mem_map]) hR (by simp (disch := omega) only [AVlt_v, AVlt_any, AVlt_sl, AVlt_ptr, AVlt_mp, AVlt_agg, AVlt_tup, AVlt_fn, RowsLt_nil, RowsLt_live, RowsLt_dead, List.mem_cons, List.not_mem_nil, List.forall_mem_cons, List.forall_mem_nil, or_false, false_or, forall_eq_or_imp, forall_eq, vs_lt, Nat.add_lt_add_iff_left, Nat.reduceLT, true_and, and_true, and_self, List.length_cons, List.length_nil, Nat.reduceAdd, Nat.zero_add, implies_true, false_imp_iff, lt_T, List.mem_map]))
              | (simp (disch := (first | decide | omega)) only [hA, hg1, hn0, f3, f4, f5, r1, r2, u1, u2, eI, hcs, hpe, k1', k1'', go_sem]; refine ⟨n + 1, hnl, by simp only; omega, ?_⟩; exact Weak.kround (p := r_Halves0) (k := 2) (by ((repeat refine (kAny_up rfl).trans ?_); exact hEE1)) (by ((try simp (disch := decide) only [hA, go_sem]) <;> (repeat' (first | exact trivial | refine And.intro ?_ ?_)) <;> (first | rfl | (congr 2; omega)))) rfl hE1 (by simp) (by simp (disch := omega) only [KOvLt, AVlt_v, AVlt_any, AVlt_sl, AVlt_ptr, AVlt_mp, AVlt_agg, AVlt_tup, AVlt_fn, RowsLt_nil, RowsLt_live, RowsLt_dead, List.mem_cons, List.not_mem_nil, List.forall_mem_cons, List.forall_mem_nil, or_false, false_or, forall_eq_or_imp, forall_eq, vs_lt, Nat.add_lt_add_iff_left, Nat.reduceLT, true_and, and_true, and_self, List.length_cons, List.length_nil, Nat.reduceAdd, Nat.zero_add, implies_true, false_imp_iff, lt_T, List.mem_map]) hR (by simp (disch := omega) only [AVlt_v, AVlt_any, AVlt_sl, AVlt_ptr, AVlt_mp, AVlt_agg, AVlt_tup, AVlt_fn, RowsLt_nil, RowsLt_live, RowsLt_dead, List.mem_cons, List.not_mem_nil, List.forall_mem_cons, List.forall_mem_nil, or_false, false_or, forall_eq_or_imp, forall_eq, vs_lt, Nat.add_lt_add_iff_left, Nat.reduceLT, true_and, and_true, and_self, List.length_cons, List.length_nil, Nat.reduceAdd, Nat.zero_add, implies_true, false_imp_iff, lt_T, List.mem_map]))
              | (simp (disch := (first | decide | omega)) only [hA, hg1, hn0, f3, f4, f5, r1, r2, u1, u2, eI, hcs, hpe, k2', k2'', go_sem]; refine ⟨n + 1, hnl, by simp only; omega, ?_⟩; exact Weak.kround (p := r_Halves0) (k := 2) (by ((repeat refine (kAny_up rfl).trans ?_); exact hEE1)) (by ((try simp (disch := decide) only [hA, go_sem]) <;> (repeat' (first | exact trivial | refine And.intro ?_ ?_)) <;> (first | rfl | (congr 2; omega)))) rfl hE1 (by simp) (by simp (disch := omega) only [KOvLt, AVlt_v, AVlt_any, AVlt_sl, AVlt_ptr, AVlt_mp, AVlt_agg, AVlt_tup, AVlt_fn, RowsLt_nil, RowsLt_live, RowsLt_dead, List.mem_cons, List.not_mem_nil, List.forall_mem_cons, List.forall_mem_nil, or_false, false_or, forall_eq_or_imp, forall_eq, vs_lt, Nat.add_lt_add_iff_left, Nat.reduceLT, true_and, and_true, and_self, List.length_cons, List.length_nil, Nat.reduceAdd, Nat.zero_add, implies_true, false_imp_iff, lt_T, List.mem_map]) hR (by simp (disch := omega) only [AVlt_v, AVlt_any, AVlt_sl, AVlt_ptr, AVlt_mp, AVlt_agg, AVlt_tup, AVlt_fn, RowsLt_nil, RowsLt_live, RowsLt_dead, List.mem_cons, List.not_mem_nil, List.forall_mem_cons, List.forall_mem_nil, or_false, false_or, forall_eq_or_imp, forall_eq, vs_lt, Nat.add_lt_add_iff_left, Nat.reduceLT, true_and, and_true, and_self, List.length_cons, List.length_nil, Nat.reduceAdd, Nat.zero_add, implies_true, false_imp_iff, lt_T, List.mem_map]))
              | (simp (disch := (first | decide | omega)) only [hA, hg1, hn0, f3, f4, f5, r1, r2, u1, u2, eI, hcs, hpe, go_sem]; refine ⟨n + 1, hnl, by simp only; omega, ?_⟩; exact Weak.kround (p := r_Halves0) (k := 2) (by ((repeat refine (kAny_up rfl).trans ?_); exact hEE1)) (by ((try simp (disch := decide) only [hA, go_sem]) <;> (repeat' (first | exact trivial | refine And.intro ?_ ?_)) <;> (first | rfl | (congr 2; omega)))) rfl hE1 (by simp) (by simp (disch := omega) only [KOvLt, AVlt_v, AVlt_any, AVlt_sl, AVlt_ptr, AVlt_mp, AVlt_agg, AVlt_tup, AVlt_fn, RowsLt_nil, RowsLt_live, RowsLt_dead, List.mem_cons, List.not_mem_nil, List.forall_mem_cons, List.forall_mem_nil, or_false, false_or, forall_eq_or_imp, forall_eq, vs_lt, Nat.add_lt_add_iff_left, Nat.reduceLT, true_and, and_true, and_self, List.length_cons, List.length_nil, Nat.reduceAdd, Nat.zero_add, implies_true, false_imp_iff, lt_T, List.mem_map]) hR (by simp (disch := omega) only [AVlt_v, AVlt_any, AVlt_sl, AVlt_ptr, AVlt_mp, AVlt_agg, AVlt_tup, AVlt_fn, RowsLt_nil, RowsLt_live, RowsLt_dead, List.mem_cons, List.not_mem_nil, List.forall_mem_cons, List.forall_mem_nil, or_false, false_or, forall_eq_or_imp, forall_eq, vs_lt, Nat.add_lt_add_iff_left, Nat.reduceLT, true_and, and_true, and_self, List.length_cons, List.length_nil, Nat.reduceAdd, Nat.zero_add, implies_true, false_imp_iff, lt_T, List.mem_map]))
        · simp (disch := (first | decide | omega)) only [hA, hg1, go_sem]
          exact leave_pure (xs := [.v (.bool true)]) (.inr rfl) (by simp (disch := (first | decide | omega)) only [resVs, resV, go_sem, hA, hg1]) (by simp only [one, AVlt_v, AVlt_any, AVlt_sl, AVlt_ptr, AVlt_mp, AVlt_agg, AVlt_tup, AVlt_fn, RowsLt_nil, RowsLt_live, RowsLt_dead, List.mem_cons, List.not_mem_nil, List.forall_mem_cons, List.forall_mem_nil, or_false, false_or, forall_eq_or_imp, forall_eq, vs_lt, Nat.add_lt_add_iff_left, Nat.reduceLT, true_and, and_true, and_self, List.length_cons, List.length_nil, Nat.reduceAdd, Nat.zero_add, implies_true, false_imp_iff, lt_T, List.mem_map]) hR hB ⟨rfl, rfl, rfl⟩
end Go.Proofs.Ytoaopldaleaijaa
