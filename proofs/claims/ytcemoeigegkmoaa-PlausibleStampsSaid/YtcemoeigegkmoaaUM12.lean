/- Texts of one proof, laid together: K8, K9, KA. No condition. -/
import Derived.Test.YtcemoeigegkmoaaUM11
import Derived.Test.YtcemoeigegkmoaaUM8
import Derived.Test.YtcemoeigegkmoaaUM10
import Derived.Test.YtcemoeigegkmoaaUM9
namespace Go.Proofs.Ytcemoeigegkmoaa
set_option linter.unusedVariables false
set_option linter.unusedSimpArgs false
attribute [local go_sem ↓] run_skip run_region run_draw run_seq run_block run_exit run_ret run_cond atN_app seqC_normal seqC_exit seqC_ret seqQ_normal seqQ_exit seqQ_ret blkQ_normal blkQ_exit blkQ_ret runOps_nil runOps_cons runD_nil runD_cons grdO_true grdO_false grdD_true grdD_false ifC_true ifC_false opS_val opS_call opS_two opK_app dS_val dS_call dS_two dK_app kUp_same kUp_ne
attribute [local go_sem] rechks_nil rechks_cons rechk gcase_true gcase_false ex_val ex_val0 gd_none gd_some ev_t ev_c evs_nil evs_cons evo_some evo_none hget_at hget_first hsetB_at hsetB_first hsetL_at hsetL_first ofOpt_some aop aload astore aslice aappend aiaddr aiaddrA afaddr alen alenS acopy amm acall alookup amupdate alenM comma keyEq apick binV binVB binVS isSh intOp strOp boolOp shOp eqC eqF and2 cellsOf setFrom fillA fillS rd rdI elems mk bounds AV.cell List.all_cons List.all_nil Bool.and_true Bool.true_and Bool.and_self List.length_cons List.length_nil List.length_append Nat.reduceAdd Nat.reduceSub Nat.reduceMul Nat.zero_add Nat.add_zero List.cons_append List.nil_append List.append_assoc List.append_nil List.getElem?_cons_zero List.getElem?_cons_succ List.getElem?_nil List.set_cons_zero List.set_cons_succ List.drop_zero List.drop_succ_cons List.take_zero List.take_succ_cons List.take_nil List.drop_nil List.map_cons List.map_nil Option.map_some if_true if_false Bool.false_eq_true and_self true_and and_true Nat.reduceLeDiff Nat.reduceLT Nat.le_refl Nat.reduceEqDiff ite_true ite_false beq_self_eq_true beq_true beq_false Bool.not_true Bool.not_false Bool.true_beq Bool.false_beq map_vs vs_len vs_get vs_take vs_drop vs_snoc1 vs_snoc2 vs_snoc3 vs_snoc5 vs_set1 vs_set2 vs_rep wrap_id le_T lt_T le_F lt_F leI_T ltI_T leI_F ltI_F geI gtI get_T decide_true decide_false room List.getElem?_map List.length_map List.length_take Int.toNat_natCast Nat.min_def Nat.min_self nth_kOf put_kOf put_kNo kOv_cons kOv_nil KHas KArgs List.getElem_cons_zero List.getElem_cons_succ
def a_rErr18 : AFunc := ⟨2,138,[.tmp 4,.cell 5 (some 2),.cell 6 (some 2)],(.seq (.region [⟨some 2,.box (.t 0),none⟩,⟨some 4,.mv (.c (.v (.int .i64 0))),none⟩,⟨some 5,.alloc [(.v (.int .i64 0)),(.v (.int .i64 0))],none⟩,⟨some 6,.alloc [(.v (.int .i64 0)),(.v (.int .i64 0))],none⟩]) (.seq (.region [⟨some 20,.load (some 1) (.t 2),none⟩,⟨some 21,.mv (.t 1),none⟩,⟨some 22,.call (.c (.fn 21 [])) [(.t 20),(.t 21)],none⟩,⟨some 7,.mv (.t 22),none⟩]) (.seq (.region [⟨some 23,.load (some 1) (.t 2),none⟩,⟨some 24,.call (.c (.fn 93 [])) [(.t 23)],none⟩,⟨some 8,.mv (.t 24),none⟩]) (.seq (.region [⟨some 25,.load (some 1) (.t 2),none⟩,⟨some 26,.call (.c (.fn 92 [])) [(.t 25)],none⟩,⟨some 9,.mv (.t 26),none⟩]) (.seq (.region [⟨some 10,.mv (.c (.v (.int .i64 0))),none⟩,⟨some 11,.mv (.c (.v (.int .i64 (-1)))),none⟩]) (.seq (.region [⟨some 12,.alloc [(.v (.int .i64 0)),(.v (.int .i64 0))],none⟩,⟨some 13,.alloc [(.v (.int .i64 0)),(.v (.int .i64 0))],none⟩]) (.seq (.seq (.region [⟨some 14,.mv (.c (.v (.int .i64 0))),none⟩]) (.block 0 (.loop (.seq (.seq (.region [⟨some 27,.mv (.t 14),none⟩,⟨some 28,.mv (.t 8),none⟩,⟨some 29,.len (.t 28),none⟩,⟨some 30,.bin .lss (.t 27) (.t 29),none⟩]) (.cond (.t 30) .skip (.exit 0))) (.seq (.block 1 (.seq (.region [⟨some 33,.mv (.t 14),none⟩,⟨some 34,.bin .add (.t 33) (.c (.v (.int .i64 1))),none⟩,⟨some 15,.mv (.t 34),none⟩]) (.block 2 (.loop (.seq (.seq (.region [⟨some 35,.mv (.t 15),none⟩,⟨some 36,.mv (.t 8),none⟩,⟨some 37,.len (.t 36),none⟩,⟨some 38,.bin .lss (.t 35) (.t 37),none⟩]) (.cond (.t 38) .skip (.exit 2))) (.seq (.block 3 (.seq (.draw [⟨0,⟨some 41,.mv (.t 7),none⟩,[]⟩,⟨1,⟨some 42,.mv (.t 8),none⟩,[]⟩,⟨2,⟨some 43,.mv (.t 14),none⟩,[]⟩,⟨3,⟨some 44,.iaddr 2 (.t 42) (.t 43),none⟩,[]⟩,⟨4,⟨some 45,.faddr 0 (.t 44),none⟩,[]⟩,⟨5,⟨some 46,.load none (.t 45),none⟩,[]⟩,⟨6,⟨some 47,.iaddr 1 (.t 41) (.t 46),none⟩,[]⟩,⟨7,⟨some 48,.load none (.t 47),none⟩,[]⟩,⟨8,⟨some 49,.mv (.t 8),none⟩,[]⟩,⟨9,⟨some 50,.mv (.t 14),none⟩,[]⟩,⟨10,⟨some 51,.iaddr 2 (.t 49) (.t 50),none⟩,[]⟩,⟨11,⟨some 52,.faddr 1 (.t 51),none⟩,[]⟩,⟨12,⟨some 53,.load none (.t 52),none⟩,[]⟩,⟨13,⟨some 54,.bin .sub (.t 53) (.c (.v (.int .i64 1))),none⟩,[]⟩,⟨14,⟨some 55,.iaddr 1 (.t 48) (.t 54),none⟩,[]⟩,⟨15,⟨some 56,.load none (.t 55),none⟩,[]⟩,⟨16,⟨some 57,.mv (.t 7),none⟩,[]⟩,⟨17,⟨some 58,.mv (.t 8),none⟩,[]⟩,⟨18,⟨some 59,.mv (.t 15),none⟩,[]⟩,⟨19,⟨some 60,.iaddr 2 (.t 58) (.t 59),none⟩,[]⟩,⟨20,⟨some 61,.faddr 0 (.t 60),none⟩,[]⟩,⟨21,⟨some 62,.load none (.t 61),none⟩,[]⟩,⟨22,⟨some 63,.iaddr 1 (.t 57) (.t 62),none⟩,[]⟩,⟨23,⟨some 64,.load none (.t 63),none⟩,[]⟩,⟨24,⟨some 65,.mv (.t 8),none⟩,[]⟩,⟨25,⟨some 66,.mv (.t 15),none⟩,[]⟩,⟨26,⟨some 67,.iaddr 2 (.t 65) (.t 66),none⟩,[]⟩,⟨27,⟨some 68,.faddr 1 (.t 67),none⟩,[]⟩,⟨28,⟨some 69,.load none (.t 68),none⟩,[]⟩,⟨29,⟨some 70,.bin .sub (.t 69) (.c (.v (.int .i64 1))),none⟩,[]⟩,⟨30,⟨some 71,.iaddr 1 (.t 64) (.t 70),none⟩,[]⟩,⟨31,⟨some 72,.load none (.t 71),none⟩,[]⟩,⟨32,⟨some 16,.mv (.t 56),none⟩,[]⟩,⟨33,⟨some 17,.mv (.t 72),none⟩,[]⟩]) (.seq (.seq (.region [⟨some 73,.mv (.t 9),none⟩,⟨some 74,.mv (.t 14),none⟩,⟨some 75,.iaddr 1 (.t 73) (.t 74),none⟩,⟨some 76,.load none (.t 75),none⟩,⟨some 77,.mv (.t 15),none⟩,⟨some 78,.iaddr 1 (.t 76) (.t 77),none⟩,⟨some 79,.load none (.t 78),none⟩,⟨some 80,.mv (.t 79),none⟩,⟨some 81,.mv (.t 9),some (80,false)⟩,⟨some 82,.mv (.t 15),some (80,false)⟩,⟨some 83,.iaddr 1 (.t 81) (.t 82),some (80,false)⟩,⟨some 84,.load none (.t 83),some (80,false)⟩,⟨some 85,.mv (.t 14),some (80,false)⟩,⟨some 86,.iaddr 1 (.t 84) (.t 85),some (80,false)⟩,⟨some 87,.load none (.t 86),some (80,false)⟩,⟨some 88,.pick (.t 80) (.c (.v (.bool true))) (.t 87),none⟩,⟨some 89,.mv (.t 88),none⟩,⟨some 90,.mv (.t 16),some (89,false)⟩,⟨some 91,.mv (.t 17),some (89,false)⟩,⟨some 92,.call (.c (.fn 94 [])) [(.t 90),(.t 91)],some (89,false)⟩,⟨some 93,.bin .eql (.t 92) (.c (.v (.int .i64 2))),some (89,false)⟩,⟨some 94,.pick (.t 89) (.c (.v (.bool true))) (.t 93),none⟩]) (.cond (.t 94) (.exit 3) .skip)) (.seq (.region [⟨some 95,.mv (.t 10),none⟩,⟨some 96,.bin .add (.t 95) (.c (.v (.int .i64 1))),none⟩,⟨some 10,.mv (.t 96),none⟩]) (.seq (.region [⟨some 18,.mv (.c (.v (.int .i64 0))),none⟩]) (.seq (.seq (.region [⟨some 19,.mv (.c (.v (.int .i64 0))),none⟩]) (.block 4 (.loop (.seq (.seq (.region [⟨some 97,.mv (.t 19),none⟩,⟨some 98,.mv (.t 1),none⟩,⟨some 99,.bin .lss (.t 97) (.t 98),none⟩]) (.cond (.t 99) .skip (.exit 4))) (.seq (.block 5 (.draw [⟨0,⟨some 102,.mv (.t 18),none⟩,[]⟩,⟨1,⟨some 103,.mv (.t 16),none⟩,[]⟩,⟨2,⟨some 104,.mv (.t 19),none⟩,[]⟩,⟨3,⟨some 105,.iaddr 1 (.t 103) (.t 104),none⟩,[]⟩,⟨4,⟨some 106,.load none (.t 105),none⟩,[]⟩,⟨5,⟨some 107,.mv (.t 17),none⟩,[]⟩,⟨6,⟨some 108,.mv (.t 19),none⟩,[]⟩,⟨7,⟨some 109,.iaddr 1 (.t 107) (.t 108),none⟩,[]⟩,⟨8,⟨some 110,.load none (.t 109),none⟩,[]⟩,⟨9,⟨some 111,.bin .sub (.t 106) (.t 110),none⟩,[]⟩,⟨10,⟨some 112,.mv (.t 17),none⟩,[]⟩,⟨11,⟨some 113,.mv (.t 19),none⟩,[]⟩,⟨12,⟨some 114,.iaddr 1 (.t 112) (.t 113),none⟩,[]⟩,⟨13,⟨some 115,.load none (.t 114),none⟩,[]⟩,⟨14,⟨some 116,.mv (.t 16),none⟩,[]⟩,⟨15,⟨some 117,.mv (.t 19),none⟩,[]⟩,⟨16,⟨some 118,.iaddr 1 (.t 116) (.t 117),none⟩,[]⟩,⟨17,⟨some 119,.load none (.t 118),none⟩,[]⟩,⟨18,⟨some 120,.bin .sub (.t 115) (.t 119),none⟩,[]⟩,⟨19,⟨some 121,.mm true (.t 111) (.t 120),none⟩,[]⟩,⟨20,⟨some 122,.bin .add (.t 102) (.t 121),none⟩,[]⟩,⟨21,⟨some 18,.mv (.t 122),none⟩,[]⟩])) (.region [⟨some 100,.mv (.t 19),none⟩,⟨some 101,.bin .add (.t 100) (.c (.v (.int .i64 1))),none⟩,⟨some 19,.mv (.t 101),none⟩])))))) (.seq (.region [⟨some 123,.mv (.t 18),none⟩,⟨some 124,.mv (.t 11),none⟩,⟨some 125,.bin .gtr (.t 123) (.t 124),none⟩]) (.cond (.t 125) (.draw [⟨0,⟨some 126,.mv (.t 18),none⟩,[]⟩,⟨1,⟨some 127,.mv (.t 8),none⟩,[]⟩,⟨2,⟨some 128,.mv (.t 14),none⟩,[]⟩,⟨3,⟨some 129,.iaddr 2 (.t 127) (.t 128),none⟩,[]⟩,⟨4,⟨some 130,.load (some 2) (.t 129),none⟩,[]⟩,⟨5,⟨some 131,.mv (.t 8),none⟩,[]⟩,⟨6,⟨some 132,.mv (.t 15),none⟩,[]⟩,⟨7,⟨some 133,.iaddr 2 (.t 131) (.t 132),none⟩,[]⟩,⟨8,⟨some 134,.load (some 2) (.t 133),none⟩,[]⟩,⟨9,⟨some 11,.mv (.t 126),none⟩,[]⟩,⟨10,⟨none,.store 2 (.t 12) (.t 130),none⟩,[⟨some 131,.mv (.t 8),none⟩,⟨some 132,.mv (.t 15),none⟩,⟨some 133,.iaddr 2 (.t 131) (.t 132),none⟩,⟨some 134,.load (some 2) (.t 133),none⟩]⟩,⟨11,⟨none,.store 2 (.t 13) (.t 134),none⟩,[]⟩]) .skip)))))))) (.region [⟨some 39,.mv (.t 15),none⟩,⟨some 40,.bin .add (.t 39) (.c (.v (.int .i64 1))),none⟩,⟨some 15,.mv (.t 40),none⟩]))))))) (.region [⟨some 31,.mv (.t 14),none⟩,⟨some 32,.bin .add (.t 31) (.c (.v (.int .i64 1))),none⟩,⟨some 14,.mv (.t 32),none⟩])))))) (.seq (.draw [⟨0,⟨some 135,.mv (.t 10),none⟩,[]⟩,⟨1,⟨some 136,.load (some 2) (.t 12),none⟩,[]⟩,⟨2,⟨some 137,.load (some 2) (.t 13),none⟩,[]⟩,⟨3,⟨some 4,.mv (.t 135),none⟩,[]⟩,⟨4,⟨none,.store 2 (.t 5) (.t 136),none⟩,[⟨some 137,.load (some 2) (.t 13),none⟩]⟩,⟨5,⟨none,.store 2 (.t 6) (.t 137),none⟩,[]⟩]) .ret))))))))⟩
theorem a_rErr18_ok : cFunc Try.prog 26 = some a_rErr18 := by kernel_rfl
def r_rErr180 : List (Nat × Nat) := [(10, 11), (14, 19), (27, 134)]
def r_rErr181 : List (Nat × Nat) := [(10, 11), (15, 19), (35, 134)]
def r_rErr182 : List (Nat × Nat) := [(18, 19), (97, 122)]
def a_rPairs18 : AFunc := ⟨1,47,[.tmp 2,.tmp 3],(.seq (.region [⟨some 1,.box (.t 0),none⟩,⟨some 2,.mv (.c (.v (.int .i64 0))),none⟩,⟨some 3,.mv (.c (.v (.int .i64 0))),none⟩]) (.seq (.region [⟨some 9,.load (some 1) (.t 1),none⟩,⟨some 10,.call (.c (.fn 92 [])) [(.t 9)],none⟩,⟨some 4,.mv (.t 10),none⟩]) (.seq (.region [⟨some 5,.mv (.c (.v (.int .i64 0))),none⟩,⟨some 6,.mv (.c (.v (.int .i64 0))),none⟩]) (.seq (.seq (.region [⟨some 7,.mv (.c (.v (.int .i64 0))),none⟩]) (.block 0 (.loop (.seq (.seq (.region [⟨some 11,.mv (.t 7),none⟩,⟨some 12,.mv (.t 4),none⟩,⟨some 13,.len (.t 12),none⟩,⟨some 14,.bin .lss (.t 11) (.t 13),none⟩]) (.cond (.t 14) .skip (.exit 0))) (.seq (.block 1 (.seq (.region [⟨some 17,.mv (.t 7),none⟩,⟨some 18,.bin .add (.t 17) (.c (.v (.int .i64 1))),none⟩,⟨some 8,.mv (.t 18),none⟩]) (.block 2 (.loop (.seq (.seq (.region [⟨some 19,.mv (.t 8),none⟩,⟨some 20,.mv (.t 4),none⟩,⟨some 21,.len (.t 20),none⟩,⟨some 22,.bin .lss (.t 19) (.t 21),none⟩]) (.cond (.t 22) .skip (.exit 2))) (.seq (.block 3 (.seq (.region [⟨some 25,.mv (.t 4),none⟩,⟨some 26,.mv (.t 7),none⟩,⟨some 27,.iaddr 1 (.t 25) (.t 26),none⟩,⟨some 28,.load none (.t 27),none⟩,⟨some 29,.mv (.t 8),none⟩,⟨some 30,.iaddr 1 (.t 28) (.t 29),none⟩,⟨some 31,.load none (.t 30),none⟩,⟨some 32,.mv (.t 31),none⟩,⟨some 33,.mv (.t 4),some (32,false)⟩,⟨some 34,.mv (.t 8),some (32,false)⟩,⟨some 35,.iaddr 1 (.t 33) (.t 34),some (32,false)⟩,⟨some 36,.load none (.t 35),some (32,false)⟩,⟨some 37,.mv (.t 7),some (32,false)⟩,⟨some 38,.iaddr 1 (.t 36) (.t 37),some (32,false)⟩,⟨some 39,.load none (.t 38),some (32,false)⟩,⟨some 40,.pick (.t 32) (.c (.v (.bool true))) (.t 39),none⟩]) (.cond (.t 40) (.region [⟨some 41,.mv (.t 5),none⟩,⟨some 42,.bin .add (.t 41) (.c (.v (.int .i64 1))),none⟩,⟨some 5,.mv (.t 42),none⟩]) (.region [⟨some 43,.mv (.t 6),none⟩,⟨some 44,.bin .add (.t 43) (.c (.v (.int .i64 1))),none⟩,⟨some 6,.mv (.t 44),none⟩])))) (.region [⟨some 23,.mv (.t 8),none⟩,⟨some 24,.bin .add (.t 23) (.c (.v (.int .i64 1))),none⟩,⟨some 8,.mv (.t 24),none⟩]))))))) (.region [⟨some 15,.mv (.t 7),none⟩,⟨some 16,.bin .add (.t 15) (.c (.v (.int .i64 1))),none⟩,⟨some 7,.mv (.t 16),none⟩])))))) (.seq (.region [⟨some 45,.mv (.t 5),none⟩,⟨some 46,.mv (.t 6),none⟩,⟨some 2,.mv (.t 45),none⟩,⟨some 3,.mv (.t 46),none⟩]) .ret)))))⟩
theorem a_rPairs18_ok : cFunc Try.prog 25 = some a_rPairs18 := by kernel_rfl
def r_rPairs180 : List (Nat × Nat) := [(5, 8), (11, 44)]
def r_rPairs181 : List (Nat × Nat) := [(5, 6), (8, 8), (19, 44)]

def cEi (e : Nat → Nat → Nat) (N i m : Nat) : Nat := sumTo (fun i => sumTo (fun m => e i (i + 1 + m)) (N - (i + 1))) i + sumTo (fun m => e i (i + 1 + m)) m
theorem cEi_step {e : Nat → Nat → Nat} {N i m : Nat} : cEi e N i (m + 1) = cEi e N i m + e i (i + 1 + m) := by unfold cEi; rw [sumTo]; omega
theorem cEi_next {e : Nat → Nat → Nat} {N i : Nat} : cEi e N i (N - (i + 1)) = cEi e N (i + 1) 0 := by unfold cEi; rw [sumTo]; rfl
theorem cEi_all {e : Nat → Nat → Nat} {N : Nat} : cEi e N N 0 = cLat e N := by rw [← cEar_eq]; unfold cEi cEar; rw [sumTo, Nat.add_zero]
theorem cEi_le {e : Nat → Nat → Nat} (h : ∀ i j, e i j ≤ 1) {N i m : Nat} (hN : N ≤ 512) (hi : i ≤ N) (hm : m ≤ N) : cEi e N i m ≤ 300000 := by
 unfold cEi
 have h1 := sumTo_le (f := fun i => sumTo (fun m => e i (i + 1 + m)) (N - (i + 1))) (m := N) (n := i) (fun i _ => by
  have := sumTo_le (f := fun m => e i (i + 1 + m)) (m := 1) (n := N - (i + 1)) (fun m _ => h i (i + 1 + m))
  omega)
 have h2 := sumTo_le (f := fun m => e i (i + 1 + m)) (m := 1) (n := m) (fun m _ => h i (i + 1 + m))
 have h3 : i * N ≤ 512 * 512 := Nat.mul_le_mul oM oM
 omega
noncomputable def orN (t : Tr) (i j : Nat) : Nat := if (hpB t i j || hpB t j i) = true then 1 else 0
noncomputable def cnN (t : Tr) (i j : Nat) : Nat := if (hpB t i j || hpB t j i) = true then 0 else 1
theorem orN_le {t : Tr} (i j : Nat) : orN t i j ≤ 1 := by unfold orN; split <;> omega
theorem cnN_le {t : Tr} (i j : Nat) : cnN t i j ≤ 1 := by unfold cnN; split <;> omega
theorem erN_le {t : Tr} {k : Nat} (i j : Nat) : erN t k i j ≤ 1 := by unfold erN; split <;> omega
theorem cnN_eq {t : Tr} : cLat (cnN t) (ids t).length = cLat (coN t) (ids t).length := cLat_congr (fun j i hji hi => by
 unfold cnN coN
 rw [unB_hpB hi oM]
 cases hpB t j i <;> cases hpB t i j <;> rfl)
theorem hbV_get {t : Tr} {i : Nat} (h : i < (ids t).length) : (hbV t)[i]? = some [.isl 1 (bR (ids t).length (hpB t i))] := fl_get h
noncomputable def prR18 (t : Tr) : AV := .tup [.v (.int .i64 (cLat (orN t) (ids t).length : Nat)), .v (.int .i64 (cLat (coN t) (ids t).length : Nat))]
set_option maxRecDepth 20000 in
set_option maxHeartbeats 4000000 in
theorem rPairs18_spec (t : Tr) (hv : Vok t) (hS : Small t) (hN : Nm t) (hC : (ids t).length ≤ 512) (b l : List Row) :
  ACalls Try.prog 25 [.agg [.v (eT t)]] b l (fun r b' l' => r = prR18 t ∧ b' = b ∧ l' = l) := by
 refine calls_kept a_rPairs18_ok rfl (by decide) ?_
 intro B g hB hR hE hA
 simp only [KArgs] at hA
 have hor := fun b l => rOrd18_spec t hv hS hN oM b l
 have hgH := fun i (hi : i < (ids t).length) => hbV_get (t := t) hi
 have hHl : (hbV t).length = (ids t).length := fl_len
 obtain ⟨HV, hHV⟩ : ∃ HV, hbV t = HV := ⟨_, rfl⟩
 rw [hHV] at hor hHl
 rw [hHV] at hgH
 have z1 : ((cEi (orN t) (ids t).length 0 0 : Nat) : Int) = 0 := rfl
 have z2 : ((cEi (cnN t) (ids t).length 0 0 : Nat) : Int) = 0 := rfl
 unfold prR18
 rw [← cnN_eq, ← cEi_all, ← cEi_all]
 simp (disch := (first | decide | omega)) only [a_rPairs18, hA, go_sem]
 refine ACalls.nxt (hor _ _) ?_
 simp (disch := (first | decide | omega)) only [hA, go_sem]
 refine loop_kept (ι := Nat) r_rPairs180 (fun i => [(7, .v (.int .i64 i)), (5, .v (.int .i64 (cEi (orN t) (ids t).length i 0 : Nat))), (6, .v (.int .i64 (cEi (cnN t) (ids t).length i 0 : Nat)))]) 1 (fun _ => [.live 0 1 [[.v (eT t)]]])
  (fun i => i ≤ (ids t).length) (fun i => (ids t).length - i) 0 (Nat.zero_le _) (by (repeat (first | exact hE.mono oM | refine KLt.up ?_ kL))) (by ((try simp (disch := decide) only [hA, z1, z2, go_sem]) <;> exact kH)) (fun e => Weak.refl _ _ _) ?_
 intro g1 hE1 hEE1 hg1 i hi
 by_cases hil : i < (ids t).length
 ·have hc0 : (i : Int) + 1 = ((i + 1 + 0 : Nat) : Int) := by omega
  have hgi := hgH i hil
  simp (disch := (first | decide | omega)) only [hA, hg1, hHl, hc0, go_sem]
  refine loop_kept (ι := Nat) r_rPairs181 (fun m => [(8, .v (.int .i64 (i + 1 + m : Nat))), (5, .v (.int .i64 (cEi (orN t) (ids t).length i m : Nat))), (6, .v (.int .i64 (cEi (cnN t) (ids t).length i m : Nat)))]) 1 (fun _ => [.live 0 1 [[.v (eT t)]]])
   (fun m => i + 1 + m ≤ (ids t).length) (fun m => (ids t).length - m) 0 oM (by (repeat (first | exact hE1.mono oM | refine KLt.up ?_ kL))) (by ((try simp (disch := decide) only [hA, hg1, go_sem]) <;> exact kH)) (fun e => Weak.refl _ _ _) ?_
  intro g2 hE2 hEE2 hg2 m hm
  by_cases hml : i + 1 + m < (ids t).length
  ·have hgj := hgH (i + 1 + m) hml
   have b1 := cEi_le (e := orN t) orN_le (N := (ids t).length) (i := i) (m := m) hC oM oM
   have b2 := cEi_le (e := cnN t) cnN_le (N := (ids t).length) (i := i) (m := m) hC oM oM
   have s1 := cEi_step (e := orN t) (N := (ids t).length) (i := i) (m := m)
   have s2 := cEi_step (e := cnN t) (N := (ids t).length) (i := i) (m := m)
   have hci : ((i + 1 + m : Nat) : Int) + 1 = ((i + 1 + (m + 1) : Nat) : Int) := by omega
   have hgij := bR_get (n := (ids t).length) (f := hpB t i) hml
   have hgji := bR_get (n := (ids t).length) (f := hpB t (i + 1 + m)) hil
   have yes : (hpB t i (i + 1 + m) || hpB t (i + 1 + m) i) = true → cEi (orN t) (ids t).length i (m + 1) = cEi (orN t) (ids t).length i m + 1 ∧ cEi (cnN t) (ids t).length i (m + 1) = cEi (cnN t) (ids t).length i m := fun h => by
    rw [s1, s2]; unfold orN cnN; rw [if_pos h, if_pos h]; exact ⟨rfl, rfl⟩
   cases c1 : hpB t i (i + 1 + m) with
   | true =>
     rw [c1] at hgij
     obtain ⟨y1, y2⟩ := yes (by rw [c1]; rfl)
     have hinc : ((cEi (orN t) (ids t).length i m : Nat) : Int) + 1 = ((cEi (orN t) (ids t).length i (m + 1) : Nat) : Int) := by omega
     simp (disch := (first | decide | omega)) only [hA, hg1, hg2, hHl, hgi, hgj, hgij, hgji, bR_len, go_sem]
     refine ⟨m + 1, by omega, by simp only; omega, ?_⟩
     simp only [y2]
     exact Weak.kround (p := r_rPairs181) (k := 1) (by ((repeat refine (kAny_up rfl).trans ?_); exact hEE2)) (by ((try simp (disch := decide) only [hA, hinc, hci, go_sem]) <;> exact kH)) rfl hE2 (by simp) kV hR kL
   | false =>
     cases c2 : hpB t (i + 1 + m) i with
     | true =>
       rw [c1] at hgij
       rw [c2] at hgji
       obtain ⟨y1, y2⟩ := yes (by rw [c2]; simp)
       have hinc : ((cEi (orN t) (ids t).length i m : Nat) : Int) + 1 = ((cEi (orN t) (ids t).length i (m + 1) : Nat) : Int) := by omega
       simp (disch := (first | decide | omega)) only [hA, hg1, hg2, hHl, hgi, hgj, hgij, hgji, bR_len, go_sem]
       refine ⟨m + 1, by omega, by simp only; omega, ?_⟩
       simp only [y2]
       exact Weak.kround (p := r_rPairs181) (k := 1) (by ((repeat refine (kAny_up rfl).trans ?_); exact hEE2)) (by ((try simp (disch := decide) only [hA, hinc, hci, go_sem]) <;> exact kH)) rfl hE2 (by simp) kV hR kL
     | false =>
       rw [c1] at hgij
       rw [c2] at hgji
       have y1 : cEi (orN t) (ids t).length i (m + 1) = cEi (orN t) (ids t).length i m := by rw [s1]; unfold orN; rw [c1, c2]; rfl
       have y2 : cEi (cnN t) (ids t).length i (m + 1) = cEi (cnN t) (ids t).length i m + 1 := by rw [s2]; unfold cnN; rw [c1, c2]; rfl
       have hinc : ((cEi (cnN t) (ids t).length i m : Nat) : Int) + 1 = ((cEi (cnN t) (ids t).length i (m + 1) : Nat) : Int) := by omega
       simp (disch := (first | decide | omega)) only [hA, hg1, hg2, hHl, hgi, hgj, hgij, hgji, bR_len, go_sem]
       refine ⟨m + 1, by omega, by simp only; omega, ?_⟩
       simp only [y1]
       exact Weak.kround (p := r_rPairs181) (k := 1) (by ((repeat refine (kAny_up rfl).trans ?_); exact hEE2)) (by ((try simp (disch := decide) only [hA, hinc, hci, go_sem]) <;> exact kH)) rfl hE2 (by simp) kV hR kL
  ·have hme : m = (ids t).length - (i + 1) := by omega
   have n1 := cEi_next (e := orN t) (N := (ids t).length) (i := i)
   have n2 := cEi_next (e := cnN t) (N := (ids t).length) (i := i)
   rw [← hme] at n1 n2
   simp (disch := (first | decide | omega)) only [hA, hg1, hg2, hHl, go_sem]
   refine ⟨i + 1, hil, by simp only; omega, ?_⟩
   simp only [← n1, ← n2]
   exact Weak.kround (p := r_rPairs180) (k := 1) (by ((repeat refine (kAny_up rfl).trans ?_); refine (kAny_sub hg2 (kIn_sub rfl)).trans ?_; (repeat refine (kAny_up rfl).trans ?_); exact hEE1)) (by ((try simp (disch := decide) only [hA, go_sem]) <;> exact kH)) rfl hE1 (by simp) kV hR kL
 ·obtain rfl : i = (ids t).length := by omega
  simp (disch := (first | decide | omega)) only [hA, hg1, hHl, go_sem]
  exact leave_pure (xs := [.v (.int .i64 (cEi (orN t) (ids t).length (ids t).length 0 : Nat)), .v (.int .i64 (cEi (cnN t) (ids t).length (ids t).length 0 : Nat))]) (.inr rfl) (by simp (disch := (first | decide | omega)) only [resVs, resV, go_sem, hA, hg1]) kO hR hB ⟨rfl, rfl, rfl⟩
noncomputable def exX (t : Tr) (s : Int × Nat × Nat) : Nat × Nat := if s.1 = -1 then (0, 0) else idN t s.2.1
noncomputable def exY (t : Tr) (s : Int × Nat × Nat) : Nat × Nat := if s.1 = -1 then (0, 0) else idN t s.2.2
def eRow (x : Nat × Nat) : Row := .live 0 2 [[.v (.int .i64 x.1), .v (.int .i64 x.2)]]
noncomputable def erRows (t : Tr) (s : Int × Nat × Nat) : List Row := [.live 0 1 [[.v (eT t)]], .live 0 2 [[.v (.int .i64 0), .v (.int .i64 0)]], .live 0 2 [[.v (.int .i64 0), .v (.int .i64 0)]], eRow (exX t s), eRow (exY t s)]
noncomputable def rErrR (t : Tr) (k : Nat) : AV := .tup [.v (.int .i64 (cLat (erN t k) (ids t).length : Nat)), idQ (exX t (wE t k)), idQ (exY t (wE t k))]
set_option maxRecDepth 20000 in
set_option maxHeartbeats 8000000 in
theorem rErr18_spec (t : Tr) (hv : Vok t) (hval : validL t = true) (hS : Small t) (hN : Nm t) (hC : (ids t).length ≤ 512) (k : Nat) (h1k : 1 ≤ k) (hk8 : k ≤ 8) (b l : List Row) :
  ACalls Try.prog 26 [.agg [.v (eT t)], .v (.int .i64 k)] b l (fun r b' l' => r = rErrR t k ∧ b' = b ∧ l' = l) := by
 refine calls_kept a_rErr18_ok rfl (by decide) ?_
 intro B g hB hR hE hA
 simp only [KArgs] at hA
 have hst := fun b l => rSt18_spec t hv hval hS hN oM k h1k hk8 b l
 have hev := fun b l => rEv18_spec t hS oM b l
 have hor := fun b l => rOrd18_spec t hv hS hN oM b l
 have hgH := fun i (hi : i < (ids t).length) => hbV_get (t := t) hi
 have hHl : (hbV t).length = (ids t).length := fl_len
 obtain ⟨HV, hHV⟩ : ∃ HV, hbV t = HV := ⟨_, rfl⟩
 rw [hHV] at hor hHl
 rw [hHV] at hgH
 obtain ⟨LV, hLV⟩ : ∃ LV, (ids t).map eId = LV := ⟨_, rfl⟩
 have hll : LV.length = (ids t).length := by rw [← hLV, List.length_map]
 rw [hLV] at hev
 have hFl : (fsAll t k).length = t.length := fl_len
 have hgF : ∀ q, q < t.length → (fsAll t k)[q]? = some [.isl 1 (fsRow t k q (evsOf t q).length)] := fun q hq => fl_get hq
 obtain ⟨FA, hFA⟩ : ∃ FA, fsAll t k = FA := ⟨_, rfl⟩
 rw [hFA] at hst hFl
 rw [hFA] at hgF
 have h0 := szN_nn (t := t) (k := k) oM oM
 have hfin := reO_eq (t := t) (k := k) h0
 have z1 : ((cEi (erN t k) (ids t).length 0 0 : Nat) : Int) = 0 := rfl
 have hid : ∀ i, i < (ids t).length → ∃ p j, idN t i = (p, j + 1) ∧ (p, j + 1) ∈ ids t ∧ p < t.length ∧ j < (evsOf t p).length ∧ LV[i]? = some [.int .i64 p, .int .i64 ((j + 1 : Nat) : Int)] := by
  intro i hi
  have hx := List.getElem_mem hi
  have hxi : idN t i = (ids t)[i] := by unfold idN; rw [getD_at hi]
  obtain ⟨⟨p, j⟩, hpj⟩ : ∃ y, (ids t)[i] = y := ⟨_, rfl⟩
  rw [hpj] at hx hxi
  obtain ⟨j, rfl⟩ : ∃ k, j = k + 1 := ⟨j - 1, by have := mem_pos hx; simp only at this; omega⟩
  obtain ⟨hp, hj⟩ := mem_ids2.1 hx
  exact ⟨p, j, hxi, hx, hp, hj, by rw [← hLV, List.getElem?_map, List.getElem?_eq_getElem hi, hpj]; rfl⟩
 unfold rErrR
 rw [← cEi_all, ← hfin]
 have e0 : erRows t (reO t k (ids t).length 0) = [.live 0 1 [[.v (eT t)]], .live 0 2 [[.v (.int .i64 0), .v (.int .i64 0)]], .live 0 2 [[.v (.int .i64 0), .v (.int .i64 0)]], .live 0 2 [[.v (.int .i64 0), .v (.int .i64 0)]], .live 0 2 [[.v (.int .i64 0), .v (.int .i64 0)]]] := rfl
 have w0 : (reO t k (ids t).length 0).1 = -1 := rfl
 simp (disch := (first | decide | omega)) only [a_rErr18, hA, go_sem]
 refine ACalls.nxt (hst _ _) ?_
 simp (disch := (first | decide | omega)) only [hA, go_sem]
 refine ACalls.nxt (hev _ _) ?_
 simp (disch := (first | decide | omega)) only [hA, go_sem]
 refine ACalls.nxt (hor _ _) ?_
 simp (disch := (first | decide | omega)) only [hA, go_sem]
 refine loop_kept (ι := Nat) r_rErr180 (fun i => [(14, .v (.int .i64 i)), (10, .v (.int .i64 (cEi (erN t k) (ids t).length i 0 : Nat))), (11, .v (.int .i64 (reO t k (ids t).length i).1))]) 5 (fun i => erRows t (reO t k (ids t).length i))
  (fun i => i ≤ (ids t).length) (fun i => (ids t).length - i) 0 (Nat.zero_le _) (by (repeat (first | exact hE.mono oM | refine KLt.up ?_ kL))) (by ((try simp (disch := decide) only [hA, z1, w0, go_sem]) <;> exact kH)) (fun e => by rw [e0]; exact Weak.refl _ _ _) ?_
 intro g1 hE1 hEE1 hg1 i hi
 by_cases hil : i < (ids t).length
 ·have hc0 : (i : Int) + 1 = ((i + 1 + 0 : Nat) : Int) := by omega
  obtain ⟨s0, hs0⟩ : ∃ s, reO t k (ids t).length i = s := ⟨_, rfl⟩
  simp only [hs0]
  simp (disch := (first | decide | omega)) only [hA, hg1, hll, hc0, go_sem]
  refine loop_kept (ι := Nat) r_rErr181 (fun m => [(15, .v (.int .i64 (i + 1 + m : Nat))), (10, .v (.int .i64 (cEi (erN t k) (ids t).length i m : Nat))), (11, .v (.int .i64 (reI t k s0 i m).1))]) 5 (fun m => erRows t (reI t k s0 i m))
   (fun m => i + 1 + m ≤ (ids t).length) (fun m => (ids t).length - m) 0 oM (by (repeat (first | exact hE1.mono oM | refine KLt.up ?_ kL))) (by ((try simp (disch := decide) only [hA, hg1, go_sem]) <;> exact kH)) (fun e => Weak.refl _ _ _) ?_
  intro g2 hE2 hEE2 hg2 m hm
  by_cases hml : i + 1 + m < (ids t).length
  ·obtain ⟨p, pj, hip, hpm, hpl, hpe, hgL⟩ := hid i hil
   obtain ⟨q, qj, hjq, hqm, hql, hqe, hgM⟩ := hid (i + 1 + m) hml
   have hcp : ((pj + 1 : Nat) : Int) - 1 = (pj : Int) := by omega
   have hcq : ((qj + 1 : Nat) : Int) - 1 = (qj : Int) := by omega
   have gFp := hgF p hpl
   have gFq := hgF q hql
   have hne1 := hS.ne _ (List.getElem_mem hpl)
   rw [← evsOf_lt hpl] at hne1
   have hne2 := hS.ne _ (List.getElem_mem hql)
   rw [← evsOf_lt hql] at hne2
   have hnp := hS.np
   have lRp : (fsRow t k p (evsOf t p).length).length = (evsOf t p).length := fl_len
   have lRq : (fsRow t k q (evsOf t q).length).length = (evsOf t q).length := fl_len
   have gRp : (fsRow t k p (evsOf t p).length)[pj]? = some [.isl 1 ((fcs t k (p, pj + 1)).map eI)] := fl_get hpe
   have gRq : (fsRow t k q (evsOf t q).length)[qj]? = some [.isl 1 ((fcs t k (q, qj + 1)).map eI)] := fl_get hqe
   have hgi := hgH i hil
   have hgj := hgH (i + 1 + m) hml
   have b1 := cEi_le (e := erN t k) erN_le (N := (ids t).length) (i := i) (m := m) hC oM oM
   have s1 := cEi_step (e := erN t k) (N := (ids t).length) (i := i) (m := m)
   have hci : ((i + 1 + m : Nat) : Int) + 1 = ((i + 1 + (m + 1) : Nat) : Int) := by omega
   have hgij := bR_get (n := (ids t).length) (f := hpB t i) hml
   have hgji := bR_get (n := (ids t).length) (f := hpB t (i + 1 + m)) hil
   have hun := unB_hpB (t := t) (i := i + 1 + m) (j := i) hml hil
   obtain ⟨s, hs⟩ : ∃ s, reI t k s0 i m = s := ⟨_, rfl⟩
   have hsn : reI t k s0 i (m + 1) = reS t k s i (i + 1 + m) := by rw [reI, hs]
   have hcm := fun b l => rCompare18_spec (fcs t k (p, pj + 1)) (fcs t k (q, qj + 1)) (by rw [fcs_len]; omega) (by rw [fcs_len, fcs_len]) b l
   have hcmn : cmN t k i (i + 1 + m) = cmpV (fcs t k (p, pj + 1)) (fcs t k (q, qj + 1)) := by unfold cmN; rw [hip, hjq]
   have hszn : szN t k i (i + 1 + m) = szW (fcs t k (p, pj + 1)) (fcs t k (q, qj + 1)) k := by unfold szN; rw [hip, hjq]
   obtain ⟨z, hz⟩ : ∃ z, cmpV (fcs t k (p, pj + 1)) (fcs t k (q, qj + 1)) = z := ⟨_, rfl⟩
   simp only [hz] at hcm
   rw [hz] at hcmn
   have skip : ((hpB t i (i + 1 + m) || hpB t (i + 1 + m) i) = true ∨ z = 2) → cEi (erN t k) (ids t).length i (m + 1) = cEi (erN t k) (ids t).length i m ∧ reI t k s0 i (m + 1) = s := fun h => by
    refine ⟨?_, by rw [hsn]; unfold reS; rw [hcmn, if_pos h]⟩
    rw [s1]
    unfold erN
    rw [hun, hcmn]
    rcases h with h | h
    ·cases c1 : hpB t i (i + 1 + m) with
     | true => simp
     | false => rw [c1] at h; simp at h; rw [h]; simp
    ·rw [h]; simp
   simp only [hs]
   have close : ∀ (f : Nat → AV), True := fun _ => trivial
   cases c1 : hpB t i (i + 1 + m) with
   | true =>
     rw [c1] at hgij
     obtain ⟨y1, y2⟩ := skip (.inl (by rw [c1]; rfl))
     simp (disch := (first | decide | omega)) only [hA, hg1, hg2, hHl, hll, hgL, hgM, hcp, hcq, hFl, gFp, gFq, lRp, lRq, gRp, gRq, hgi, hgj, hgij, hgji, bR_len, go_sem]
     refine ⟨m + 1, by omega, by simp only; omega, ?_⟩
     simp only [y1, y2]
     exact Weak.kround (l1 := erRows t s) (junk := []) (p := r_rErr181) (k := 5) (by ((repeat refine (kAny_up rfl).trans ?_); exact hEE2)) (by ((try simp (disch := decide) only [hA, hci, go_sem]) <;> exact kH)) (List.append_nil _).symm hE2 (by simp [erRows]) (by simp (disch := omega) only [KOvLt, erRows, lts.down, Nat.reduceLT, Nat.reduceAdd]) hR (by simp (disch := omega) only [erRows, eRow, lts.down, Nat.reduceLT, Nat.reduceAdd])
   | false =>
     rw [c1] at hgij
     cases c2 : hpB t (i + 1 + m) i with
     | true =>
       rw [c2] at hgji
       obtain ⟨y1, y2⟩ := skip (.inl (by rw [c2]; simp))
       simp (disch := (first | decide | omega)) only [hA, hg1, hg2, hHl, hll, hgL, hgM, hcp, hcq, hFl, gFp, gFq, lRp, lRq, gRp, gRq, hgi, hgj, hgij, hgji, bR_len, go_sem]
       refine ⟨m + 1, by omega, by simp only; omega, ?_⟩
       simp only [y1, y2]
       exact Weak.kround (l1 := erRows t s) (junk := []) (p := r_rErr181) (k := 5) (by ((repeat refine (kAny_up rfl).trans ?_); exact hEE2)) (by ((try simp (disch := decide) only [hA, hci, go_sem]) <;> exact kH)) (List.append_nil _).symm hE2 (by simp [erRows]) (by simp (disch := omega) only [KOvLt, erRows, lts.down, Nat.reduceLT, Nat.reduceAdd]) hR (by simp (disch := omega) only [erRows, eRow, lts.down, Nat.reduceLT, Nat.reduceAdd])
     | false =>
       rw [c2] at hgji
       simp (disch := (first | decide | omega)) only [hA, hg1, hg2, hHl, hll, hgL, hgM, hcp, hcq, hFl, gFp, gFq, lRp, lRq, gRp, gRq, hgi, hgj, hgij, hgji, bR_len, go_sem]
       refine ACalls.nxt (hcm _ _) ?_
       by_cases h2 : z = 2
       ·have hzb : (z == 2) = true := by simpa using h2
        obtain ⟨y1, y2⟩ := skip (.inr h2)
        simp (disch := (first | decide | omega)) only [hA, hg1, hg2, hzb, go_sem]
        refine ⟨m + 1, by omega, by simp only; omega, ?_⟩
        simp only [y1, y2]
        exact Weak.kround (l1 := erRows t s) (junk := []) (p := r_rErr181) (k := 5) (by ((repeat refine (kAny_up rfl).trans ?_); exact hEE2)) (by ((try simp (disch := decide) only [hA, hci, go_sem]) <;> exact kH)) (List.append_nil _).symm hE2 (by simp [erRows]) (by simp (disch := omega) only [KOvLt, erRows, lts.down, Nat.reduceLT, Nat.reduceAdd]) hR (by simp (disch := omega) only [erRows, eRow, lts.down, Nat.reduceLT, Nat.reduceAdd])
       ·have hzb : (z == 2) = false := by simpa using h2
        have y1 : cEi (erN t k) (ids t).length i (m + 1) = cEi (erN t k) (ids t).length i m + 1 := by
         rw [s1]; unfold erN; rw [hun, hcmn, c1, c2]; simp [h2]
        have y2 : reI t k s0 i (m + 1) = if szN t k i (i + 1 + m) > s.1 then (szN t k i (i + 1 + m), i, i + 1 + m) else s := by
         rw [hsn]; unfold reS; rw [hcmn, c1, c2, if_neg (by simp [h2])]
        have hinc : ((cEi (erN t k) (ids t).length i m : Nat) : Int) + 1 = ((cEi (erN t k) (ids t).length i (m + 1) : Nat) : Int) := by omega
        have lv : (fcs t k (p, pj + 1)).length = k := fcs_len
        have lw : (fcs t k (q, qj + 1)).length = k := fcs_len
        obtain ⟨V, hV⟩ : ∃ V, fcs t k (p, pj + 1) = V := ⟨_, rfl⟩
        obtain ⟨W, hW⟩ : ∃ W, fcs t k (q, qj + 1) = W := ⟨_, rfl⟩
        rw [hV] at lv
        rw [hW] at lw
        rw [hV, hW] at hszn
        rw [hV, hW]
        have z3 : szW V W 0 = 0 := rfl
        simp (disch := (first | decide | omega)) only [hA, hg1, hg2, hzb, hinc, go_sem]
        refine loop_kept (ι := Nat) r_rErr182 (fun c => [(19, .v (.int .i64 c)), (18, .v (.int .i64 (szW V W c)))]) 5 (fun _ => erRows t s)
         (fun c => c ≤ k) (fun c => k - c) 0 (Nat.zero_le _) (by (repeat (first | exact hE2.mono oM | refine KLt.up ?_ kL))) (by ((try simp (disch := decide) only [hA, hg1, hg2, z3, go_sem]) <;> exact kH)) (fun e => Weak.refl _ _ _) ?_
        intro g3 hE3 hEE3 hg3 c hc
        by_cases hck : c < k
        ·have hcv : c < V.length := by omega
         have hcw : c < W.length := by omega
         have s3 : IntKind.i64.wrap (szW V W c + (if IntKind.i64.wrap (W[c] - V[c]) > IntKind.i64.wrap (V[c] - W[c]) then IntKind.i64.wrap (W[c] - V[c]) else IntKind.i64.wrap (V[c] - W[c]))) = szW V W (c + 1) := by
          rw [szW, getD_at hcv, getD_at hcw]; rfl
         obtain ⟨y, hy⟩ : ∃ y, szW V W (c + 1) = y := ⟨_, rfl⟩
         rw [hy] at s3
         simp (disch := (first | decide | omega)) only [hA, hg1, hg2, hg3, eI, s3, lv, lw, List.length_map, go_sem]
         refine ⟨c + 1, hck, by simp only; omega, ?_⟩
         simp only [hy]
         exact Weak.kround (l1 := erRows t s) (junk := []) (p := r_rErr182) (k := 5) (by ((repeat refine (kAny_up rfl).trans ?_); exact hEE3)) (by ((try simp (disch := decide) only [hA, go_sem]) <;> exact kH)) (List.append_nil _).symm hE3 (by simp [erRows]) (by simp (disch := omega) only [KOvLt, erRows, lts.down, Nat.reduceLT, Nat.reduceAdd]) hR (by simp (disch := omega) only [erRows, eRow, lts.down, Nat.reduceLT, Nat.reduceAdd])
        ·obtain rfl : c = k := by omega
         rw [hszn] at y2
         have hnn := h0 i (i + 1 + m)
         rw [hszn] at hnn
         by_cases hgt : szW V W c > s.1
         ·have hd : decide (szW V W c > s.1) = true := decide_eq_true hgt
          have hd' : decide (s.1 < szW V W c) = true := hd
          rw [if_pos hgt] at y2
          have hx1 : exX t (szW V W c, i, i + 1 + m) = (p, pj + 1) := by
           unfold exX; rw [if_neg (by simp only; omega)]; exact hip
          have hy1 : exY t (szW V W c, i, i + 1 + m) = (q, qj + 1) := by
           unfold exY; rw [if_neg (by simp only; omega)]; exact hjq
          simp (disch := (first | decide | omega)) only [hA, hg1, hg2, hg3, hd, hd', erRows, eRow, hll, hgL, hgM, setFrom, cellsOf, go_sem]
          refine ⟨m + 1, by omega, by simp only; omega, ?_⟩
          simp only [y2, hx1, hy1]
          exact Weak.kround (junk := []) (p := r_rErr181) (k := 5) (by ((repeat refine (kAny_up rfl).trans ?_); refine (kAny_sub hg3 (kIn_sub rfl)).trans ?_; (repeat refine (kAny_up rfl).trans ?_); exact hEE2)) (by ((try simp (disch := decide) only [hA, hg1, hg2, hg3, hci, go_sem]) <;> exact kH)) (List.append_nil _).symm hE2 (by simp) kV hR kL
         ·have hd : decide (szW V W c > s.1) = false := decide_eq_false hgt
          have hd' : decide (s.1 < szW V W c) = false := hd
          rw [if_neg hgt] at y2
          simp (disch := (first | decide | omega)) only [hA, hg1, hg2, hg3, hd, hd', go_sem]
          refine ⟨m + 1, by omega, by simp only; omega, ?_⟩
          simp only [y2]
          exact Weak.kround (l1 := erRows t s) (junk := []) (p := r_rErr181) (k := 5) (by ((repeat refine (kAny_up rfl).trans ?_); refine (kAny_sub hg3 (kIn_sub rfl)).trans ?_; (repeat refine (kAny_up rfl).trans ?_); exact hEE2)) (by ((try simp (disch := decide) only [hA, hg1, hg2, hg3, hci, go_sem]) <;> exact kH)) (List.append_nil _).symm hE2 (by simp [erRows]) (by simp (disch := omega) only [KOvLt, erRows, lts.down, Nat.reduceLT, Nat.reduceAdd]) hR (by simp (disch := omega) only [erRows, eRow, lts.down, Nat.reduceLT, Nat.reduceAdd])
  ·have hme : m = (ids t).length - (i + 1) := by omega
   have n1 := cEi_next (e := erN t k) (N := (ids t).length) (i := i)
   have n2 : reO t k (ids t).length (i + 1) = reI t k s0 i m := by rw [reO, hs0, hme]
   rw [← hme] at n1
   simp (disch := (first | decide | omega)) only [hA, hg1, hg2, hll, go_sem]
   refine ⟨i + 1, hil, by simp only; omega, ?_⟩
   simp only [← n1, n2]
   exact Weak.kround (l1 := erRows t (reI t k s0 i m)) (junk := []) (p := r_rErr180) (k := 5) (by ((repeat refine (kAny_up rfl).trans ?_); refine (kAny_sub hg2 (kIn_sub rfl)).trans ?_; (repeat refine (kAny_up rfl).trans ?_); exact hEE1)) (by ((try simp (disch := decide) only [hA, go_sem]) <;> exact kH)) (List.append_nil _).symm hE1 (by simp [erRows]) (by simp (disch := omega) only [KOvLt, erRows, lts.down, Nat.reduceLT, Nat.reduceAdd]) hR (by simp (disch := omega) only [erRows, eRow, lts.down, Nat.reduceLT, Nat.reduceAdd])
 ·obtain rfl : i = (ids t).length := by omega
  obtain ⟨s, hs⟩ : ∃ s, reO t k (ids t).length (ids t).length = s := ⟨_, rfl⟩
  obtain ⟨⟨x1, x2⟩, hx⟩ : ∃ x, exX t s = x := ⟨_, rfl⟩
  obtain ⟨⟨y1, y2⟩, hy⟩ : ∃ y, exY t s = y := ⟨_, rfl⟩
  rw [hs, hx, hy]
  unfold idQ
  simp (disch := (first | decide | omega)) only [hA, hg1, hll, erRows, eRow, hx, hy, setFrom, cellsOf, go_sem]
  exact leave_pure (xs := [.v (.int .i64 (cEi (erN t k) (ids t).length (ids t).length 0 : Nat)), .agg [.v (.int .i64 x1), .v (.int .i64 x2)], .agg [.v (.int .i64 y1), .v (.int .i64 y2)]]) (.inr rfl) (by simp (disch := (first | decide | omega)) only [resVs, resV, go_sem, hA, hg1]) kO hR hB ⟨rfl, rfl, rfl⟩
theorem indexE_18L (v : List (Ev)) (k : Nat) (caps : List AV) (p : Nat → Bool) (hn : v.length ≤ 9223372036854775807) (b l : List Row)
  (hp : ∀ (i : Nat) (h : i < v.length), ACalls Try.prog k (.agg ((eEv v[i]).map .v) :: caps) (b ++ l) [] (fun r b' l' => r = .v (.bool (p i)) ∧ b' = b ++ l ∧ l' = [])) :
  ACalls Try.prog 130 [.v (.isl 5 (v.map eEv)), .fn k caps] b l (fun r b' l' => r = .v (.int .i64 (firstP p v.length)) ∧ b' = b ∧ l' = l) := by
 refine calls_kept a_IndE_ok rfl (by decide) ?_
 intro B g hB hR hE hA
 simp only [KArgs] at hA
 simp (disch := decide) only [a_IndE, hA, List.length_map, go_sem]
 refine loop_kept (ι := Nat) r_IndE0 (fun i => [(8, .v (.int .i64 i))]) 0 (fun _ => [])
  (fun i => i ≤ v.length ∧ ∀ j, j < i → p j = false) (fun i => v.length - i) 0 ⟨Nat.zero_le _, fun j hj => by omega⟩ (by (repeat (first | exact hE.mono oM | refine KLt.up ?_ kL))) (by ((try simp (disch := decide) only [hA, go_sem]) <;> exact kH)) (fun e => Weak.refl _ _ _) ?_
 rintro g1 hE1 hEE1 hg1 i ⟨hi, h0⟩
 by_cases hlt : i < v.length
 ·have hpi0 := hp i hlt
  try simp only [eEv, List.map_cons, List.map_nil] at hpi0
  simp (disch := (first | decide | omega)) only [hA, hg1, eEv, List.length_map, go_sem]
  refine ACalls_mono _ _ _ _ _ _ (hB ▸ hpi0) ?_
  rintro r b' l' ⟨rfl, rfl, rfl⟩
  cases hpi : p i
  ·simp (disch := (first | decide | omega)) only [hA, hg1, hpi, go_sem]
   refine ⟨i + 1, ⟨hlt, fun j hj => ?_⟩, by simp only; omega, ?_⟩
   ·rcases Nat.lt_or_ge j i with hji | hji
    ·exact h0 j hji
    ·have : j = i := by omega
     rw [this]; exact hpi
   exact Weak.kround (p := r_IndE0) (k := 0) (by ((repeat refine (kAny_up rfl).trans ?_); exact hEE1)) (by ((try simp (disch := decide) only [hA, go_sem]) <;> exact kH)) rfl hE1 (by simp) kV hR kL
  ·simp (disch := (first | decide | omega)) only [hA, hg1, hpi, go_sem]
   exact leave_pure (xs := [.v (.int .i64 i)]) (.inr rfl) (by simp (disch := (first | decide | omega)) only [resVs, resV, go_sem, hA, hg1]) kO hR hB ⟨by rw [firstP_at hlt h0 hpi]; rfl, rfl, rfl⟩
 ·simp (disch := (first | decide | omega)) only [hA, hg1, List.length_map, go_sem]
  obtain rfl : i = v.length := by omega
  exact leave_pure (xs := [.v (.int .i64 (-1))]) (.inr rfl) (by simp (disch := (first | decide | omega)) only [resVs, resV, go_sem, hA, hg1]) kO hR hB ⟨by rw [firstP_none h0]; rfl, rfl, rfl⟩
theorem containsE_18L (v : List (Ev)) (k : Nat) (caps : List AV) (p : Nat → Bool) (hn : v.length ≤ 9223372036854775807) (b l : List Row)
  (hp : ∀ (i : Nat) (h : i < v.length), ACalls Try.prog k (.agg ((eEv v[i]).map .v) :: caps) (b ++ l) [] (fun r b' l' => r = .v (.bool (p i)) ∧ b' = b ++ l ∧ l' = [])) :
  ACalls Try.prog 74 [.v (.isl 5 (v.map eEv)), .fn k caps] b l (fun r b' l' => r = .v (.bool ((List.range v.length).any p)) ∧ b' = b ∧ l' = l) := by
 refine calls_kept a_ConE_ok rfl (by decide) ?_
 intro B g hB hR hE hA
 simp only [KArgs] at hA
 simp (disch := decide) only [a_ConE, hA, go_sem]
 refine ACalls.nxt (indexE_18L v k caps p hn B [] (by rw [List.append_nil, hB]; exact hp)) ?_
 simp (disch := decide) only [hA, go_sem]
 exact leave_pure (xs := [.v (.bool (decide (0 ≤ firstP p v.length)))]) (.inr rfl) (by simp (disch := (first | decide | omega)) only [resVs, resV, go_sem, hA]) kO hR hB ⟨by rw [firstP_ge]; rfl, rfl, rfl⟩
def wct (t : Tr) : Nat → Int
 | 0 => 0
 | i + 1 => IntKind.i64.wrap (wct t i + ((evsOf t i).length : Int))
def bad18W (t : Tr) (i : Nat) : Bool := decide (40 < wct t (i + 1)) || (decide (12 < (t.getD i dfPr).vars.length) || (decide (40 < (t.getD i dfPr).name.size) || ((List.range (t.getD i dfPr).evs.length).any (fun j => l12E ((t.getD i dfPr).evs.getD j dfEv)) || (List.range (t.getD i dfPr).vars.length).any (fun j => l40V ((t.getD i dfPr).vars.getD j dfVr)))))
def few18W (t : Tr) : Bool := !(List.range t.length).any (bad18W t) && decide (t.length ≤ 10)
theorem few181L_spec (e : Ev) (b l : List Row) : ACalls Try.prog 75 [.agg ((eEv e).map .v)] b l (fun r b' l' => r = .v (.bool (l12E e)) ∧ b' = b ∧ l' = l) := few181_spec e b l
theorem few18W_spec (t : Tr) (hT : t.length ≤ 9223372036854775807) (hM : ∀ x ∈ t, x.evs.length ≤ 9223372036854775807) (b l : List Row) : ACalls Try.prog 16 [.agg [.v (eT t)]] b l (fun r b' l' => r = .v (.bool (few18W t)) ∧ b' = b ∧ l' = l) := by
 refine calls_kept a_few18_ok rfl (by decide) ?_
 intro B g hB hR hE hA
 simp only [KArgs] at hA
 have hw0 : wct t 0 = 0 := rfl
 simp (disch := (first | decide | omega)) only [a_few18, hA, eT, List.length_map, go_sem]
 refine loop_kept (ι := Nat) r_few180 (fun i => [(9, .v (.int .i64 i)), (3, .v (.int .i64 (wct t i)))]) 1 (fun i => [.live 0 1 [[.v (.isl 3 (t.map ePr))]]])
  (fun i => i ≤ t.length ∧ wct t i ≤ 40 ∧ ∀ j, j < i → bad18W t j = false) (fun i => t.length - i) 0 ⟨Nat.zero_le _, by rw [wct]; omega, fun j h => by omega⟩ (by (repeat (first | exact hE.mono oM | refine KLt.up ?_ kL))) (by ((try simp (disch := decide) only [hA, hw0, go_sem]) <;> exact kH)) (fun e => Weak.refl _ _ _) ?_
 rintro g1 hE1 hEE1 hg1 i ⟨hi, h40, hbef⟩
 by_cases hil : i < t.length
 ·have m1 := hM _ (List.getElem_mem hil)
  have hinc : IntKind.i64.wrap (wct t i + (t[i].evs.length : Int)) = wct t (i + 1) := by
   show _ = IntKind.i64.wrap (wct t i + ((evsOf t i).length : Int)); rw [evsOf_lt hil]
  have hgd : t.getD i dfPr = t[i] := getD_at hil
  have bad : bad18W t i = true → few18W t = false := fun h => by
   unfold few18W
   rw [List.any_eq_true.2 ⟨i, List.mem_range.2 hil, h⟩]; rfl
  by_cases c1 : 40 < wct t (i + 1)
  ·have d1 : decide (wct t (i + 1) > 40) = true := decide_eq_true oM
   have d1' : decide ((40 : Int) < wct t (i + 1)) = true := d1
   have hb := bad (by unfold bad18W; rw [decide_eq_true c1]; rfl)
   simp (disch := (first | decide | omega)) only [hA, hg1, ePr, hinc, d1, d1', List.length_map, go_sem]
   exact leave_pure (xs := [.v (.bool false)]) (.inr rfl) (by simp (disch := (first | decide | omega)) only [resVs, resV, go_sem, hA, hg1]) kO hR hB ⟨by rw [hb]; rfl, rfl, rfl⟩
  have d1 : decide (wct t (i + 1) > 40) = false := decide_eq_false oM
  have d1' : decide ((40 : Int) < wct t (i + 1)) = false := d1
  by_cases c2 : 12 < t[i].vars.length
  ·have d2 : decide ((t[i].vars.length : Int) > 12) = true := decide_eq_true oM
   have d2' : decide ((12 : Int) < (t[i].vars.length : Int)) = true := d2
   have hb := bad (by unfold bad18W; rw [hgd, decide_eq_true c2]; simp)
   simp (disch := (first | decide | omega)) only [hA, hg1, ePr, hinc, d1, d1', d2, d2', List.length_map, go_sem]
   exact leave_pure (xs := [.v (.bool false)]) (.inr rfl) (by simp (disch := (first | decide | omega)) only [resVs, resV, go_sem, hA, hg1]) kO hR hB ⟨by rw [hb]; rfl, rfl, rfl⟩
  have d2 : decide ((t[i].vars.length : Int) > 12) = false := decide_eq_false oM
  have d2' : decide ((12 : Int) < (t[i].vars.length : Int)) = false := d2
  by_cases c3 : 40 < t[i].name.size
  ·have d3 : decide ((t[i].name.size : Int) > 40) = true := decide_eq_true oM
   have d3' : decide ((40 : Int) < (t[i].name.size : Int)) = true := d3
   have hb := bad (by unfold bad18W; rw [hgd, decide_eq_true c3]; simp)
   simp (disch := (first | decide | omega)) only [hA, hg1, ePr, hinc, d1, d1', d2, d2', d3, d3', List.length_map, go_sem]
   exact leave_pure (xs := [.v (.bool false)]) (.inr rfl) (by simp (disch := (first | decide | omega)) only [resVs, resV, go_sem, hA, hg1]) kO hR hB ⟨by rw [hb]; rfl, rfl, rfl⟩
  have d3 : decide ((t[i].name.size : Int) > 40) = false := decide_eq_false oM
  have d3' : decide ((40 : Int) < (t[i].name.size : Int)) = false := d3
  have ce := fun b l => containsE_18L t[i].evs 75 [] (fun j => l12E (t[i].evs.getD j dfEv)) m1 b l (fun j hj => by simp only [getD_at hj]; exact few181L_spec _ _ _)
  have cv := fun b l => contains_spec (f := 76) (g := 131) (sz := 2) (by kernel_rfl) (by kernel_rfl) (t[i].vars.map eVr) 77 [] (fun j => l40V (t[i].vars.getD j dfVr)) (by simp [eVr]) (by simp; omega) b l (fun j row hj => by
   rw [List.getElem?_map] at hj
   obtain ⟨x, hx, rfl⟩ := Option.map_eq_some_iff.1 hj
   obtain ⟨q1, q2⟩ := List.getElem?_eq_some_iff.1 hx
   simp only [getD_at q1, q2]
   exact few182_spec x _ _)
  rw [List.length_map] at cv
  simp (disch := (first | decide | omega)) only [hA, hg1, ePr, hinc, d1, d1', d2, d2', d3, d3', List.length_map, go_sem]
  refine ACalls.nxt (ce _ _) ?_
  cases c4 : (List.range t[i].evs.length).any fun j => l12E (t[i].evs.getD j dfEv) with
  | true =>
    have hb := bad (by unfold bad18W; rw [hgd, c4]; simp)
    simp (disch := (first | decide | omega)) only [hA, hg1, go_sem]
    exact leave_pure (xs := [.v (.bool false)]) (.inr rfl) (by simp (disch := (first | decide | omega)) only [resVs, resV, go_sem, hA, hg1]) kO hR hB ⟨by rw [hb]; rfl, rfl, rfl⟩
  | false =>
    simp (disch := (first | decide | omega)) only [hA, hg1, go_sem]
    refine ACalls.nxt (cv _ _) ?_
    cases c5 : (List.range t[i].vars.length).any fun j => l40V (t[i].vars.getD j dfVr) with
    | true =>
      have hb := bad (by unfold bad18W; rw [hgd, c5]; simp)
      simp (disch := (first | decide | omega)) only [hA, hg1, go_sem]
      exact leave_pure (xs := [.v (.bool false)]) (.inr rfl) (by simp (disch := (first | decide | omega)) only [resVs, resV, go_sem, hA, hg1]) kO hR hB ⟨by rw [hb]; rfl, rfl, rfl⟩
    | false =>
      simp (disch := (first | decide | omega)) only [hA, hg1, go_sem]
      refine ⟨i + 1, ⟨hil, by omega, fun j hj => ?_⟩, by simp only; omega, ?_⟩
      ·by_cases hji : j = i
       ·subst hji
        unfold bad18W
        rw [hgd, c4, c5, decide_eq_false c1, decide_eq_false c2, decide_eq_false c3]; rfl
       ·exact hbef j oM
      ·exact Weak.kround (p := r_few180) (k := 1) (by ((repeat refine (kAny_up rfl).trans ?_); exact hEE1)) (by ((try simp (disch := decide) only [hA, hinc, go_sem]) <;> exact kH)) rfl hE1 (by simp) kV hR kL
 ·obtain rfl : i = t.length := by omega
  have hno : (List.range t.length).any (bad18W t) = false := by
   rw [List.any_eq_false]; intro j hj; rw [hbef j (List.mem_range.1 hj)]; simp
  have hq : few18W t = decide (t.length ≤ 10) := by unfold few18W; rw [hno]; rfl
  have hd : decide ((t.length : Int) ≤ 10) = decide (t.length ≤ 10) := by rw [decide_eq_decide]; omega
  rw [hq]
  simp (disch := (first | decide | omega)) only [hA, hg1, List.length_map, hd, go_sem]
  exact leave_pure (xs := [.v (.bool (decide (t.length ≤ 10)))]) (.inr rfl) (by simp (disch := (first | decide | omega)) only [resVs, resV, go_sem, hA, hg1]) kO hR hB ⟨rfl, rfl, rfl⟩
theorem few18W_sm {t : Tr} (hM : ∀ x ∈ t, x.evs.length ≤ 9223372036854775807) (h : few18W t = true) : Sm t := by
 simp only [few18W, Bool.and_eq_true, Bool.not_eq_true', List.any_eq_false, List.mem_range, decide_eq_true_eq] at h
 obtain ⟨h1, h2⟩ := h
 have key : ∀ x ∈ t, x.vars.length ≤ 12 ∧ ∀ e ∈ x.evs, e.asg.length ≤ 12 := by
  intro x hx
  obtain ⟨i, hi, rfl⟩ := List.getElem_of_mem hx
  have := h1 i hi
  simp only [bad18W, getD_at hi, Bool.or_eq_true, decide_eq_true_eq, List.any_eq_true, List.mem_range, not_or, not_exists, not_and] at this
  refine ⟨by omega, fun e he => ?_⟩
  obtain ⟨j, hj, rfl⟩ := List.getElem_of_mem he
  have h3 := this.2.2.2.1 j hj
  rw [getD_at hj] at h3
  simp only [l12E, decide_eq_true_eq] at h3
  omega
 exact ⟨by omega, fun x hx => by have := (key x hx).1; omega, hM, fun x hx e he => by have := (key x hx).2 e he; omega⟩
theorem wct_eq {t : Tr} (h : ∀ p, p < t.length → (evsOf t p).length ≤ 64) (h10 : t.length ≤ 10) : ∀ i, i ≤ t.length → wct t i = (evN t i : Nat) ∧ evN t i ≤ 64 * i
 | 0, _ => ⟨rfl, Nat.le_refl _⟩
 | i + 1, hi => by
   obtain ⟨h1, h2⟩ := wct_eq h h10 i oM
   have h3 := h i oM
   have h4 := evN_succ (show i < t.length by omega)
   rw [← evsOf_lt] at h4
   rw [wct, h1, IntKind.wrap_i64]
   omega
theorem few18W_in {t : Tr} (hM : ∀ x ∈ t, x.evs.length ≤ 9223372036854775807) (h : few18W t = true) (hval : validL t = true) : t.length ≤ 10 ∧ Small t ∧ (ids t).length ≤ 40 := by
 have hS := (few18W_sm hM h).small (vok hval).head
 simp only [few18W, Bool.and_eq_true, Bool.not_eq_true', List.any_eq_false, List.mem_range, decide_eq_true_eq] at h
 obtain ⟨h1, h2⟩ := h
 have h64 : ∀ p, p < t.length → (evsOf t p).length ≤ 64 := fun p hp => by rw [evsOf_lt hp]; exact head_evs hp ((vok hval).head p hp)
 refine ⟨h2, hS, ?_⟩
 rw [← evN_all]
 cases hn : t.length with
 | zero => rw [evN_zero]; omega
 | succ n =>
   have := h1 n oM
   simp only [bad18W, Bool.or_eq_true, decide_eq_true_eq, not_or] at this
   have h5 := (wct_eq h64 h2 (n + 1) oM).1
   omega
theorem pgiven_inv (t : Tr) (hS : Sm t) (hN : Nm t) (hval : validL t = false) (k : Int) (b l : List Row) : ACalls Try.prog 78 [.agg [.v (eT t)], .v (.int .i64 k)] b l (fun r b' l' => r = .v (.int .i64 1) ∧ b' = b ∧ l' = l) := by
 refine calls_kept a_pgiven_ok rfl (by decide) ?_
 intro B g hB hR hE hA
 simp only [KArgs] at hA
 simp (disch := (first | decide | omega)) only [a_pgiven, hA, go_sem]
 refine ACalls.nxt (valid_specS t hS hN _ _) ?_
 rw [hval]
 simp (disch := (first | decide | omega)) only [hA, go_sem]
 exact leave_pure (xs := [.v (.int .i64 1)]) (.inr rfl) (by simp (disch := (first | decide | omega)) only [resVs, resV, go_sem, hA]) kO hR hB ⟨rfl, rfl, rfl⟩
theorem pStamps_inv (t : Tr) (hS : Sm t) (hN : Nm t) (hval : validL t = false) (k : Int) (b l : List Row) : ACalls Try.prog 17 [.agg [.v (eT t)], .v (.int .i64 k)] b l (fun r b' l' => r = .tup [.v .zsl, .v (.int .i64 1)] ∧ b' = b ∧ l' = l) := by
 refine calls_kept a_pStamps_ok rfl (by decide) ?_
 intro B g hB hR hE hA
 simp only [KArgs] at hA
 have hn0 : ((1 : Int) != 0) = true := rfl
 simp (disch := (first | decide | omega)) only [a_pStamps, hA, go_sem]
 refine ACalls.nxt (pgiven_inv t hS hN hval k _ _) ?_
 simp (disch := (first | decide | omega)) only [hA, hn0, go_sem]
 exact leave_pure (xs := [.v .zsl, .v (.int .i64 1)]) (.inr rfl) (by simp (disch := (first | decide | omega)) only [resVs, resV, go_sem, hA]) kO hR hB ⟨rfl, rfl, rfl⟩
theorem pErrors_inv (t : Tr) (hS : Sm t) (hN : Nm t) (hval : validL t = false) (k : Int) (b l : List Row) : ACalls Try.prog 22 [.agg [.v (eT t)], .v (.int .i64 k)] b l (fun r b' l' => r = .tup [.v (.int .i64 0), .v (.int .i64 1)] ∧ b' = b ∧ l' = l) := by
 refine calls_kept a_perr_ok rfl (by decide) ?_
 intro B g hB hR hE hA
 simp only [KArgs] at hA
 have hn0 : ((1 : Int) != 0) = true := rfl
 simp (disch := (first | decide | omega)) only [a_perr, hA, go_sem]
 refine ACalls.nxt (pgiven_inv t hS hN hval k _ _) ?_
 simp (disch := (first | decide | omega)) only [hA, hn0, go_sem]
 exact leave_pure (xs := [.v (.int .i64 0), .v (.int .i64 1)]) (.inr rfl) (by simp (disch := (first | decide | omega)) only [resVs, resV, go_sem, hA]) kO hR hB ⟨rfl, rfl, rfl⟩
theorem ppairs_inv (t : Tr) (hS : Sm t) (hN : Nm t) (hval : validL t = false) (b l : List Row) : ACalls Try.prog 23 [.agg [.v (eT t)]] b l (fun r b' l' => r = .tup [.v (.int .i64 0), .v (.int .i64 0), .v (.int .i64 1)] ∧ b' = b ∧ l' = l) := by
 refine calls_kept a_ppairs_ok rfl (by decide) ?_
 intro B g hB hR hE hA
 simp only [KArgs] at hA
 simp (disch := (first | decide | omega)) only [a_ppairs, hA, go_sem]
 refine ACalls.nxt (valid_specS t hS hN _ _) ?_
 rw [hval]
 simp (disch := (first | decide | omega)) only [hA, go_sem]
 exact leave_pure (xs := [.v (.int .i64 0), .v (.int .i64 0), .v (.int .i64 1)]) (.inr rfl) (by simp (disch := (first | decide | omega)) only [resVs, resV, go_sem, hA]) kO hR hB ⟨rfl, rfl, rfl⟩
theorem pWorst_inv (t : Tr) (hS : Sm t) (hN : Nm t) (hval : validL t = false) (k : Int) (b l : List Row) : ACalls Try.prog 24 [.agg [.v (eT t)], .v (.int .i64 k)] b l (fun r b' l' => r = .tup [idQ0, idQ0, .v (.int .i64 1)] ∧ b' = b ∧ l' = l) := by
 refine calls_kept a_pwo_ok rfl (by decide) ?_
 intro B g hB hR hE hA
 simp only [KArgs] at hA
 have hn0 : ((1 : Int) != 0) = true := rfl
 unfold idQ0
 simp (disch := (first | decide | omega)) only [a_pwo, hA, go_sem]
 refine ACalls.nxt (pgiven_inv t hS hN hval k _ _) ?_
 simp (disch := (first | decide | omega)) only [hA, hn0, setFrom, cellsOf, go_sem]
 exact leave_pure (xs := [.agg [.v (.int .i64 0), .v (.int .i64 0)], .agg [.v (.int .i64 0), .v (.int .i64 0)], .v (.int .i64 1)]) (.inr rfl) (by simp (disch := (first | decide | omega)) only [resVs, resV, go_sem, hA]) kO hR hB ⟨rfl, rfl, rfl⟩
def a_StampsL : AFunc := ⟨2,52,[.tmp 4],(.seq (.region [⟨some 2,.box (.t 0),none⟩,⟨some 4,.mv (.c (.v (.bool false))),none⟩]) (.seq (.seq (.region [⟨some 7,.call (.c (.fn 15 [])) [],none⟩,⟨some 8,.not (.t 7),none⟩,⟨some 9,.mv (.t 8),none⟩,⟨some 10,.load (some 1) (.t 2),some (9,false)⟩,⟨some 11,.call (.c (.fn 16 [])) [(.t 10)],some (9,false)⟩,⟨some 12,.not (.t 11),some (9,false)⟩,⟨some 13,.pick (.t 9) (.c (.v (.bool true))) (.t 12),none⟩]) (.cond (.t 13) (.seq (.region [⟨some 14,.call (.c (.fn 15 [])) [],none⟩,⟨some 4,.mv (.t 14),none⟩]) .ret) .skip)) (.seq (.region [⟨some 16,.load (some 1) (.t 2),none⟩,⟨some 17,.mv (.t 1),none⟩,⟨some 18,.call (.c (.fn 17 [])) [(.t 16),(.t 17)],none⟩,⟨some 15,.mv (.t 18),none⟩,⟨some 19,.extract 0 (.t 15),none⟩,⟨some 20,.extract 1 (.t 15),none⟩,⟨some 5,.mv (.t 19),none⟩,⟨some 6,.mv (.t 20),none⟩]) (.seq (.block 0 (.seq (.region [⟨some 22,.load (some 1) (.t 2),none⟩,⟨some 23,.call (.c (.fn 18 [])) [(.t 22)],none⟩,⟨some 24,.not (.t 23),none⟩,⟨some 21,.mv (.t 24),none⟩]) (.cond (.t 21) (.seq (.region [⟨some 25,.mv (.t 5),none⟩,⟨some 26,.len (.t 25),none⟩,⟨some 27,.bin .eql (.t 26) (.c (.v (.int .i64 0))),none⟩,⟨some 28,.mv (.t 27),none⟩,⟨some 29,.mv (.t 6),some (28,true)⟩,⟨some 30,.bin .eql (.t 29) (.c (.v (.int .i64 1))),some (28,true)⟩,⟨some 31,.pick (.t 28) (.t 30) (.c (.v (.bool false))),none⟩,⟨some 4,.mv (.t 31),none⟩]) .ret) (.seq (.region [⟨some 33,.mv (.t 1),none⟩,⟨some 34,.call (.c (.fn 19 [])) [(.t 33)],none⟩,⟨some 35,.not (.t 34),none⟩,⟨some 32,.mv (.t 35),none⟩]) (.cond (.t 32) (.seq (.region [⟨some 36,.mv (.t 5),none⟩,⟨some 37,.len (.t 36),none⟩,⟨some 38,.bin .eql (.t 37) (.c (.v (.int .i64 0))),none⟩,⟨some 39,.mv (.t 38),none⟩,⟨some 40,.mv (.t 6),some (39,true)⟩,⟨some 41,.bin .eql (.t 40) (.c (.v (.int .i64 2))),some (39,true)⟩,⟨some 42,.pick (.t 39) (.t 41) (.c (.v (.bool false))),none⟩,⟨some 4,.mv (.t 42),none⟩]) .ret) .skip))))) (.seq (.region [⟨some 43,.mv (.t 5),none⟩,⟨some 44,.load (some 1) (.t 2),none⟩,⟨some 45,.mv (.t 1),none⟩,⟨some 46,.call (.c (.fn 21 [])) [(.t 44),(.t 45)],none⟩,⟨some 47,.call (.c (.fn 20 [])) [(.t 43),(.t 46)],none⟩,⟨some 48,.mv (.t 47),none⟩,⟨some 49,.mv (.t 6),some (48,true)⟩,⟨some 50,.bin .eql (.t 49) (.c (.v (.int .i64 0))),some (48,true)⟩,⟨some 51,.pick (.t 48) (.t 50) (.c (.v (.bool false))),none⟩,⟨some 4,.mv (.t 51),none⟩]) .ret)))))⟩
theorem a_StampsL_ok : cFunc Try.prog 3 = some a_StampsL := by kernel_rfl
def a_ErrorsL : AFunc := ⟨2,162,[.tmp 4],(.seq (.region [⟨some 2,.box (.t 0),none⟩,⟨some 4,.mv (.c (.v (.bool false))),none⟩]) (.seq (.seq (.region [⟨some 19,.call (.c (.fn 15 [])) [],none⟩,⟨some 20,.not (.t 19),none⟩,⟨some 21,.mv (.t 20),none⟩,⟨some 22,.load (some 1) (.t 2),some (21,false)⟩,⟨some 23,.call (.c (.fn 16 [])) [(.t 22)],some (21,false)⟩,⟨some 24,.not (.t 23),some (21,false)⟩,⟨some 25,.pick (.t 21) (.c (.v (.bool true))) (.t 24),none⟩]) (.cond (.t 25) (.seq (.region [⟨some 26,.call (.c (.fn 15 [])) [],none⟩,⟨some 4,.mv (.t 26),none⟩]) .ret) .skip)) (.seq (.region [⟨some 28,.load (some 1) (.t 2),none⟩,⟨some 29,.mv (.t 1),none⟩,⟨some 30,.call (.c (.fn 22 [])) [(.t 28),(.t 29)],none⟩,⟨some 27,.mv (.t 30),none⟩,⟨some 31,.extract 0 (.t 27),none⟩,⟨some 32,.extract 1 (.t 27),none⟩,⟨some 5,.mv (.t 31),none⟩,⟨some 6,.mv (.t 32),none⟩]) (.seq (.region [⟨some 34,.load (some 1) (.t 2),none⟩,⟨some 35,.call (.c (.fn 23 [])) [(.t 34)],none⟩,⟨some 33,.mv (.t 35),none⟩,⟨some 36,.extract 0 (.t 33),none⟩,⟨some 37,.extract 1 (.t 33),none⟩,⟨some 38,.extract 2 (.t 33),none⟩,⟨some 7,.mv (.t 36),none⟩,⟨some 8,.mv (.t 37),none⟩,⟨some 9,.mv (.t 38),none⟩]) (.seq (.region [⟨some 40,.load (some 1) (.t 2),none⟩,⟨some 41,.mv (.t 1),none⟩,⟨some 42,.call (.c (.fn 24 [])) [(.t 40),(.t 41)],none⟩,⟨some 39,.mv (.t 42),none⟩,⟨some 43,.extract 0 (.t 39),none⟩,⟨some 44,.extract 1 (.t 39),none⟩,⟨some 45,.extract 2 (.t 39),none⟩,⟨some 10,.alloc [(.v (.int .i64 0)),(.v (.int .i64 0))],none⟩,⟨some 11,.alloc [(.v (.int .i64 0)),(.v (.int .i64 0))],none⟩,⟨none,.store 2 (.t 10) (.t 43),none⟩,⟨none,.store 2 (.t 11) (.t 44),none⟩,⟨some 12,.mv (.t 45),none⟩]) (.seq (.region [⟨some 46,.build [(.v (.int .i64 0)),(.v (.int .i64 0))] [],none⟩,⟨some 13,.alloc [(.v (.int .i64 0)),(.v (.int .i64 0))],none⟩,⟨none,.store 2 (.t 13) (.t 46),none⟩]) (.seq (.seq (.region [⟨some 47,.load (some 1) (.t 2),none⟩,⟨some 48,.call (.c (.fn 18 [])) [(.t 47)],none⟩,⟨some 49,.not (.t 48),none⟩]) (.cond (.t 49) (.seq (.region [⟨some 50,.mv (.t 5),none⟩,⟨some 51,.bin .eql (.t 50) (.c (.v (.int .i64 0))),none⟩,⟨some 52,.mv (.t 51),none⟩,⟨some 53,.mv (.t 6),some (52,true)⟩,⟨some 54,.bin .eql (.t 53) (.c (.v (.int .i64 1))),some (52,true)⟩,⟨some 55,.pick (.t 52) (.t 54) (.c (.v (.bool false))),none⟩,⟨some 56,.mv (.t 55),none⟩,⟨some 57,.mv (.t 7),some (56,true)⟩,⟨some 58,.bin .eql (.t 57) (.c (.v (.int .i64 0))),some (56,true)⟩,⟨some 59,.pick (.t 56) (.t 58) (.c (.v (.bool false))),none⟩,⟨some 60,.mv (.t 59),none⟩,⟨some 61,.mv (.t 8),some (60,true)⟩,⟨some 62,.bin .eql (.t 61) (.c (.v (.int .i64 0))),some (60,true)⟩,⟨some 63,.pick (.t 60) (.t 62) (.c (.v (.bool false))),none⟩,⟨some 64,.mv (.t 63),none⟩,⟨some 65,.mv (.t 9),some (64,true)⟩,⟨some 66,.bin .eql (.t 65) (.c (.v (.int .i64 1))),some (64,true)⟩,⟨some 67,.pick (.t 64) (.t 66) (.c (.v (.bool false))),none⟩,⟨some 68,.mv (.t 67),none⟩,⟨some 69,.load (some 2) (.t 10),some (68,true)⟩,⟨some 70,.load (some 2) (.t 13),some (68,true)⟩,⟨some 71,.eqs false [.i,.i] (.t 69) (.t 70),some (68,true)⟩,⟨some 72,.pick (.t 68) (.t 71) (.c (.v (.bool false))),none⟩,⟨some 73,.mv (.t 72),none⟩,⟨some 74,.load (some 2) (.t 11),some (73,true)⟩,⟨some 75,.load (some 2) (.t 13),some (73,true)⟩,⟨some 76,.eqs false [.i,.i] (.t 74) (.t 75),some (73,true)⟩,⟨some 77,.pick (.t 73) (.t 76) (.c (.v (.bool false))),none⟩,⟨some 78,.mv (.t 77),none⟩,⟨some 79,.mv (.t 12),some (78,true)⟩,⟨some 80,.bin .eql (.t 79) (.c (.v (.int .i64 1))),some (78,true)⟩,⟨some 81,.pick (.t 78) (.t 80) (.c (.v (.bool false))),none⟩,⟨some 4,.mv (.t 81),none⟩]) .ret) .skip)) (.seq (.seq (.region [⟨some 83,.load (some 1) (.t 2),none⟩,⟨some 84,.call (.c (.fn 25 [])) [(.t 83)],none⟩,⟨some 82,.mv (.t 84),none⟩,⟨some 85,.extract 0 (.t 82),none⟩,⟨some 86,.extract 1 (.t 82),none⟩,⟨some 14,.mv (.t 85),none⟩,⟨some 15,.mv (.t 86),none⟩]) (.seq (.region [⟨some 87,.mv (.t 7),none⟩,⟨some 88,.mv (.t 14),none⟩,⟨some 89,.bin .neq (.t 87) (.t 88),none⟩,⟨some 90,.mv (.t 89),none⟩,⟨some 91,.mv (.t 8),some (90,false)⟩,⟨some 92,.mv (.t 15),some (90,false)⟩,⟨some 93,.bin .neq (.t 91) (.t 92),some (90,false)⟩,⟨some 94,.pick (.t 90) (.c (.v (.bool true))) (.t 93),none⟩,⟨some 95,.mv (.t 94),none⟩,⟨some 96,.mv (.t 9),some (95,false)⟩,⟨some 97,.bin .neq (.t 96) (.c (.v (.int .i64 0))),some (95,false)⟩,⟨some 98,.pick (.t 95) (.c (.v (.bool true))) (.t 97),none⟩]) (.cond (.t 98) (.seq (.region [⟨some 4,.mv (.c (.v (.bool false))),none⟩]) .ret) .skip))) (.seq (.seq (.region [⟨some 99,.mv (.t 1),none⟩,⟨some 100,.call (.c (.fn 19 [])) [(.t 99)],none⟩,⟨some 101,.not (.t 100),none⟩]) (.cond (.t 101) (.seq (.region [⟨some 102,.mv (.t 5),none⟩,⟨some 103,.bin .eql (.t 102) (.c (.v (.int .i64 0))),none⟩,⟨some 104,.mv (.t 103),none⟩,⟨some 105,.mv (.t 6),some (104,true)⟩,⟨some 106,.bin .eql (.t 105) (.c (.v (.int .i64 2))),some (104,true)⟩,⟨some 107,.pick (.t 104) (.t 106) (.c (.v (.bool false))),none⟩,⟨some 108,.mv (.t 107),none⟩,⟨some 109,.load (some 2) (.t 10),some (108,true)⟩,⟨some 110,.load (some 2) (.t 13),some (108,true)⟩,⟨some 111,.eqs false [.i,.i] (.t 109) (.t 110),some (108,true)⟩,⟨some 112,.pick (.t 108) (.t 111) (.c (.v (.bool false))),none⟩,⟨some 113,.mv (.t 112),none⟩,⟨some 114,.load (some 2) (.t 11),some (113,true)⟩,⟨some 115,.load (some 2) (.t 13),some (113,true)⟩,⟨some 116,.eqs false [.i,.i] (.t 114) (.t 115),some (113,true)⟩,⟨some 117,.pick (.t 113) (.t 116) (.c (.v (.bool false))),none⟩,⟨some 118,.mv (.t 117),none⟩,⟨some 119,.mv (.t 12),some (118,true)⟩,⟨some 120,.bin .eql (.t 119) (.c (.v (.int .i64 2))),some (118,true)⟩,⟨some 121,.pick (.t 118) (.t 120) (.c (.v (.bool false))),none⟩,⟨some 4,.mv (.t 121),none⟩]) .ret) .skip)) (.seq (.region [⟨some 123,.load (some 1) (.t 2),none⟩,⟨some 124,.mv (.t 1),none⟩,⟨some 125,.call (.c (.fn 26 [])) [(.t 123),(.t 124)],none⟩,⟨some 122,.mv (.t 125),none⟩,⟨some 126,.extract 0 (.t 122),none⟩,⟨some 127,.extract 1 (.t 122),none⟩,⟨some 128,.extract 2 (.t 122),none⟩,⟨some 17,.alloc [(.v (.int .i64 0)),(.v (.int .i64 0))],none⟩,⟨some 18,.alloc [(.v (.int .i64 0)),(.v (.int .i64 0))],none⟩,⟨some 16,.mv (.t 126),none⟩,⟨none,.store 2 (.t 17) (.t 127),none⟩,⟨none,.store 2 (.t 18) (.t 128),none⟩]) (.seq (.seq (.region [⟨some 129,.mv (.t 5),none⟩,⟨some 130,.mv (.t 16),none⟩,⟨some 131,.bin .neq (.t 129) (.t 130),none⟩,⟨some 132,.mv (.t 131),none⟩,⟨some 133,.mv (.t 6),some (132,false)⟩,⟨some 134,.bin .neq (.t 133) (.c (.v (.int .i64 0))),some (132,false)⟩,⟨some 135,.pick (.t 132) (.c (.v (.bool true))) (.t 134),none⟩]) (.cond (.t 135) (.seq (.region [⟨some 4,.mv (.c (.v (.bool false))),none⟩]) .ret) .skip)) (.seq (.seq (.region [⟨some 136,.mv (.t 16),none⟩,⟨some 137,.bin .eql (.t 136) (.c (.v (.int .i64 0))),none⟩]) (.cond (.t 137) (.seq (.region [⟨some 138,.load (some 2) (.t 10),none⟩,⟨some 139,.load (some 2) (.t 13),none⟩,⟨some 140,.eqs false [.i,.i] (.t 138) (.t 139),none⟩,⟨some 141,.mv (.t 140),none⟩,⟨some 142,.load (some 2) (.t 11),some (141,true)⟩,⟨some 143,.load (some 2) (.t 13),some (141,true)⟩,⟨some 144,.eqs false [.i,.i] (.t 142) (.t 143),some (141,true)⟩,⟨some 145,.pick (.t 141) (.t 144) (.c (.v (.bool false))),none⟩,⟨some 146,.mv (.t 145),none⟩,⟨some 147,.mv (.t 12),some (146,true)⟩,⟨some 148,.bin .eql (.t 147) (.c (.v (.int .i64 7))),some (146,true)⟩,⟨some 149,.pick (.t 146) (.t 148) (.c (.v (.bool false))),none⟩,⟨some 4,.mv (.t 149),none⟩]) .ret) .skip)) (.seq (.region [⟨some 150,.load (some 2) (.t 10),none⟩,⟨some 151,.load (some 2) (.t 17),none⟩,⟨some 152,.eqs false [.i,.i] (.t 150) (.t 151),none⟩,⟨some 153,.mv (.t 152),none⟩,⟨some 154,.load (some 2) (.t 11),some (153,true)⟩,⟨some 155,.load (some 2) (.t 18),some (153,true)⟩,⟨some 156,.eqs false [.i,.i] (.t 154) (.t 155),some (153,true)⟩,⟨some 157,.pick (.t 153) (.t 156) (.c (.v (.bool false))),none⟩,⟨some 158,.mv (.t 157),none⟩,⟨some 159,.mv (.t 12),some (158,true)⟩,⟨some 160,.bin .eql (.t 159) (.c (.v (.int .i64 0))),some (158,true)⟩,⟨some 161,.pick (.t 158) (.t 160) (.c (.v (.bool false))),none⟩,⟨some 4,.mv (.t 161),none⟩]) .ret)))))))))))))⟩
theorem a_ErrorsL_ok : cFunc Try.prog 4 = some a_ErrorsL := by kernel_rfl

theorem fsL_fit {t : Tr} (hv : Vok t) (hS : Small t) (k : Nat) (hk : k ≤ 1000000) : (fsL t k).length = (fsL t k).length → (fsL t k).length ≤ 1000000 ∧ ∀ i (h : i < (fsL t k).length) (h' : i < (fsL t k).length), C2 (fsL t k)[i] (fsL t k)[i] := by
 intro hl
 have h8 := hv.hi
 have hln : (fsL t k).length = t.length := fl_len
 refine ⟨by omega, fun i h h' => ?_⟩
 have hi : i < t.length := by omega
 have e : (fsL t k)[i] = fl (evsOf t i).length fun j => fcs t k (i, j + 1) := fl_getE h'
 rw [e]
 intro h2
 rw [fl_len] at h2
 have hne := hS.ne _ (List.getElem_mem hi)
 rw [← evsOf_lt hi] at hne
 refine ⟨by rw [fl_len]; omega, fun j k1 k2 => ?_⟩
 rw [fl_getE k2]
 intro h3
 rw [fcs_len] at h3
 exact ⟨by rw [fcs_len]; omega, fun _ _ _ => trivial⟩
theorem giv_in {t : Tr} (hval : validL t = true) {k : Int} (h : 1 ≤ k ∧ k ≤ 8) : givE t k = 0 := by unfold givE; rw [if_pos hval, if_pos h]
theorem giv_out {t : Tr} (hval : validL t = true) {k : Int} (h : ¬ (1 ≤ k ∧ k ≤ 8)) : givE t k = 2 := by unfold givE; rw [if_pos hval, if_neg h]
set_option maxRecDepth 20000 in
set_option maxHeartbeats 4000000 in
theorem plausibleStamps_run (t : Tr) (k : Int) (hT : t.length ≤ 9223372036854775807) (hM : ∀ x ∈ t, x.evs.length ≤ 9223372036854775807) (hN : Nm t) (b l : List Row) :
  ACalls Try.prog 3 [.agg [.v (eT t)], .v (.int .i64 k)] b l (fun r b' l' => r = .v (.bool true) ∧ b' = b ∧ l' = l) := by
 refine calls_kept a_StampsL_ok rfl (by decide) ?_
 intro B g hB hR hE hA
 simp only [KArgs] at hA
 simp (disch := (first | decide | omega)) only [a_StampsL, hA, go_sem]
 refine ACalls.nxt (awake18_spec _ _) ?_
 simp (disch := (first | decide | omega)) only [hA, go_sem]
 refine ACalls.nxt (few18W_spec t hT hM _ _) ?_
 cases hf : few18W t with
 | false =>
   simp (disch := (first | decide | omega)) only [hA, go_sem]
   refine ACalls.nxt (awake18_spec _ _) ?_
   simp (disch := (first | decide | omega)) only [hA, go_sem]
   exact leave_pure (xs := [.v (.bool true)]) (.inr rfl) (by simp (disch := (first | decide | omega)) only [resVs, resV, go_sem, hA]) kO hR hB ⟨rfl, rfl, rfl⟩
 | true =>
   have hS := few18W_sm hM hf
   cases hval : validL t with
   | false =>
     have hva := fun b l => rvalid_specS t hS hN b l
     rw [hval] at hva
     simp (disch := (first | decide | omega)) only [hA, go_sem]
     refine ACalls.nxt (pStamps_inv t hS hN hval k _ _) ?_
     simp (disch := (first | decide | omega)) only [hA, go_sem]
     refine ACalls.nxt (hva _ _) ?_
     simp (disch := (first | decide | omega)) only [hA, go_sem]
     exact leave_pure (xs := [.v (.bool true)]) (.inr rfl) (by simp (disch := (first | decide | omega)) only [resVs, resV, go_sem, hA]) kO hR hB ⟨rfl, rfl, rfl⟩
   | true =>
     obtain ⟨h10, hSm, h40⟩ := few18W_in hM hf hval
     have hv := vok hval
     have hva := fun b l => rvalid_specS t hS hN b l
     rw [hval] at hva
     have hsz := fun b l => rSize18_spec k b l
     by_cases hk : 1 ≤ k ∧ k ≤ 8
     ·rw [decide_eq_true hk] at hsz
      obtain ⟨n, rfl⟩ : ∃ n : Nat, k = n := ⟨k.toNat, by omega⟩
      have hst : ∀ b l, ACalls Try.prog 17 [.agg [.v (eT t)], .v (.int .i64 n)] b l (fun r b' l' => r = .tup [.v (.isl 1 (fsAll t n)), .v (.int .i64 0)] ∧ b' = b ∧ l' = l) := fun b l => by
       have h := pStamps_spec t hSm hN oM (n : Int) b l
       unfold pStR at h
       rw [if_pos (giv_in hval hk), Int.toNat_natCast] at h
       exact h
      have hrs := fun b l => rSt18_spec t hv hval hSm hN oM n oM oM b l
      have hsm := fun b l => sSame_spec (fsL t n) (fsL t n) (fsL_fit hv hSm n oM) b l
      rw [decide_eq_true rfl] at hsm
      simp only [← fsAll_L] at hsm
      simp (disch := (first | decide | omega)) only [hA, go_sem]
      refine ACalls.nxt (hst _ _) ?_
      simp (disch := (first | decide | omega)) only [hA, go_sem]
      refine ACalls.nxt (hva _ _) ?_
      simp (disch := (first | decide | omega)) only [hA, go_sem]
      refine ACalls.nxt (hsz _ _) ?_
      simp (disch := (first | decide | omega)) only [hA, go_sem]
      refine ACalls.nxt (hrs _ _) ?_
      simp (disch := (first | decide | omega)) only [hA, go_sem]
      refine ACalls.nxt (hsm _ _) ?_
      simp (disch := (first | decide | omega)) only [hA, go_sem]
      exact leave_pure (xs := [.v (.bool true)]) (.inr rfl) (by simp (disch := (first | decide | omega)) only [resVs, resV, go_sem, hA]) kO hR hB ⟨rfl, rfl, rfl⟩
     ·rw [decide_eq_false hk] at hsz
      have hst : ∀ b l, ACalls Try.prog 17 [.agg [.v (eT t)], .v (.int .i64 k)] b l (fun r b' l' => r = .tup [.v .zsl, .v (.int .i64 2)] ∧ b' = b ∧ l' = l) := fun b l => by
       have h := pStamps_spec t hSm hN oM k b l
       unfold pStR at h
       rw [if_neg (by rw [giv_out hval hk]; decide), giv_out hval hk] at h
       exact h
      simp (disch := (first | decide | omega)) only [hA, go_sem]
      refine ACalls.nxt (hst _ _) ?_
      simp (disch := (first | decide | omega)) only [hA, go_sem]
      refine ACalls.nxt (hva _ _) ?_
      simp (disch := (first | decide | omega)) only [hA, go_sem]
      refine ACalls.nxt (hsz _ _) ?_
      simp (disch := (first | decide | omega)) only [hA, go_sem]
      exact leave_pure (xs := [.v (.bool true)]) (.inr rfl) (by simp (disch := (first | decide | omega)) only [resVs, resV, go_sem, hA]) kO hR hB ⟨rfl, rfl, rfl⟩
theorem ord_num {N o c : Nat} (hC : N ≤ 512) (h : (o + c) * 2 = N * (N - 1)) : IntKind.i64.wrap (IntKind.i64.wrap (Int.tdiv (IntKind.i64.wrap ((N : Int) * IntKind.i64.wrap ((N : Int) - 1))) 2) - (c : Int)) = (o : Int) := by
 have hle : N * (N - 1) ≤ 512 * 512 := Nat.mul_le_mul hC oM
 have hm : (N : Int) * IntKind.i64.wrap ((N : Int) - 1) = ((N * (N - 1) : Nat) : Int) := by
  cases N with
  | zero => simp
  | succ n =>
    have e : IntKind.i64.wrap (((n + 1 : Nat) : Int) - 1) = (n : Int) := by rw [IntKind.wrap_i64]; omega
    rw [e, Nat.add_sub_cancel, Int.natCast_mul]
 rw [hm]
 obtain ⟨X, hX⟩ : ∃ X, N * (N - 1) = X := ⟨_, rfl⟩
 rw [hX] at h hle
 rw [hX]
 have e1 : IntKind.i64.wrap (X : Int) = (X : Int) := by rw [IntKind.wrap_i64]; omega
 rw [e1, Int.tdiv_eq_ediv_of_nonneg oM, IntKind.wrap_i64, IntKind.wrap_i64]
 omega
theorem ord_eq {t : Tr} (hval : validL t = true) (hC : (ids t).length ≤ 512) : IntKind.i64.wrap (IntKind.i64.wrap (Int.tdiv (IntKind.i64.wrap ((countR t : Int) * IntKind.i64.wrap ((countR t : Int) - 1))) 2) - nCo t) = (cLat (orN t) (ids t).length : Nat) := by
 have hc : countR t = (ids t).length := by unfold countR; rw [hval]; rfl
 have h1 : cLat (orN t) (ids t).length + cLat (cnN t) (ids t).length = cLat (fun _ _ => 1) (ids t).length := by
  rw [← cLat_add]
  exact cLat_congr (fun j i _ _ => by unfold orN cnN; split <;> rfl)
 have h2 := cLat_one (N := (ids t).length)
 rw [cnN_eq] at h1
 rw [nCo_nat hC, hc]
 exact ord_num hC (by rw [h1, h2])
set_option maxRecDepth 20000 in
set_option maxHeartbeats 4000000 in
theorem plausibleErrors_run (t : Tr) (k : Int) (hT : t.length ≤ 9223372036854775807) (hM : ∀ x ∈ t, x.evs.length ≤ 9223372036854775807) (hN : Nm t) (b l : List Row) :
  ACalls Try.prog 4 [.agg [.v (eT t)], .v (.int .i64 k)] b l (fun r b' l' => r = .v (.bool true) ∧ b' = b ∧ l' = l) := by
 refine calls_kept a_ErrorsL_ok rfl (by decide) ?_
 intro B g hB hR hE hA
 simp only [KArgs] at hA
 simp (disch := (first | decide | omega)) only [a_ErrorsL, hA, go_sem]
 refine ACalls.nxt (awake18_spec _ _) ?_
 simp (disch := (first | decide | omega)) only [hA, go_sem]
 refine ACalls.nxt (few18W_spec t hT hM _ _) ?_
 cases hf : few18W t with
 | false =>
   simp (disch := (first | decide | omega)) only [hA, go_sem]
   refine ACalls.nxt (awake18_spec _ _) ?_
   simp (disch := (first | decide | omega)) only [hA, go_sem]
   exact leave_pure (xs := [.v (.bool true)]) (.inr rfl) (by simp (disch := (first | decide | omega)) only [resVs, resV, go_sem, hA]) kO hR hB ⟨rfl, rfl, rfl⟩
 | true =>
   have hS := few18W_sm hM hf
   cases hval : validL t with
   | false =>
     have hva := fun b l => rvalid_specS t hS hN b l
     rw [hval] at hva
     have hwo := fun b l => pWorst_inv t hS hN hval k b l
     simp only [idQ0] at hwo
     simp (disch := (first | decide | omega)) only [hA, go_sem]
     refine ACalls.nxt (pErrors_inv t hS hN hval k _ _) ?_
     simp (disch := (first | decide | omega)) only [hA, go_sem]
     refine ACalls.nxt (ppairs_inv t hS hN hval _ _) ?_
     simp (disch := (first | decide | omega)) only [hA, go_sem]
     refine ACalls.nxt (hwo _ _) ?_
     simp (disch := (first | decide | omega)) only [hA, setFrom, cellsOf, go_sem]
     refine ACalls.nxt (hva _ _) ?_
     simp (disch := (first | decide | omega)) only [hA, go_sem]
     exact leave_pure (xs := [.v (.bool true)]) (.inr rfl) (by simp (disch := (first | decide | omega)) only [resVs, resV, go_sem, hA]) kO hR hB ⟨rfl, rfl, rfl⟩
   | true =>
     obtain ⟨h10, hSm, h40⟩ := few18W_in hM hf hval
     have hv := vok hval
     have hva := fun b l => rvalid_specS t hS hN b l
     rw [hval] at hva
     have hsz := fun b l => rSize18_spec k b l
     have hpr : ∀ b l, ACalls Try.prog 23 [.agg [.v (eT t)]] b l (fun r b' l' => r = .tup [.v (.int .i64 (cLat (orN t) (ids t).length : Nat)), .v (.int .i64 (cLat (coN t) (ids t).length : Nat)), .v (.int .i64 0)] ∧ b' = b ∧ l' = l) := fun b l => by
      have h := ppairs_spec t hSm hN (fun _ => by omega) b l
      unfold pPr at h
      rw [if_pos hval, ord_eq hval oM, nCo_nat oM] at h
      exact h
     have hrp := fun b l => rPairs18_spec t hv hSm hN oM b l
     simp only [prR18] at hrp
     obtain ⟨oN, hoN⟩ : ∃ n : Int, ((cLat (orN t) (ids t).length : Nat) : Int) = n := ⟨_, rfl⟩
     obtain ⟨cN, hcN⟩ : ∃ n : Int, ((cLat (coN t) (ids t).length : Nat) : Int) = n := ⟨_, rfl⟩
     simp only [hoN, hcN] at hpr hrp
     have no1 : (oN != oN) = false := by simp
     have no2 : (cN != cN) = false := by simp
     have n00 : ((0 : Int) != 0) = false := rfl
     by_cases hk : 1 ≤ k ∧ k ≤ 8
     ·rw [decide_eq_true hk] at hsz
      obtain ⟨n, rfl⟩ : ∃ n : Nat, k = n := ⟨k.toNat, by omega⟩
      have h0 := szN_nn (t := t) (k := n) oM oM
      have hnone := wE_none (t := t) (k := n) h0
      have hbest := wE_best (t := t) (k := n) h0
      have hre := fun b l => rErr18_spec t hv hval hSm hN oM n oM oM b l
      have her : ∀ b l, ACalls Try.prog 22 [.agg [.v (eT t)], .v (.int .i64 n)] b l (fun r b' l' => r = .tup [.v (.int .i64 (cLat (erN t n) (ids t).length : Nat)), .v (.int .i64 0)] ∧ b' = b ∧ l' = l) := fun b l => by
       have h := pErrors_spec t hSm hN (fun _ => by omega) (n : Int) b l
       unfold pErR at h
       rw [if_pos (giv_in hval hk), Int.toNat_natCast, nEr_nat oM] at h
       exact h
      have hwo := fun b l => pWorst_spec t hSm hN (fun _ => by omega) (n : Int) b l
      unfold pWoR at hwo
      rw [if_pos (giv_in hval hk), Int.toNat_natCast] at hwo
      simp only [rErrR] at hre
      obtain ⟨m, hm⟩ : ∃ m : Nat, cLat (erN t n) (ids t).length = m := ⟨_, rfl⟩
      simp only [hm] at her hre hnone
      have nm : (((m : Nat) : Int) != (m : Int)) = false := by simp
      by_cases hlt : (wE t n).1 < 0
      ·have hm0 := hnone.1 hlt
       subst hm0
       rw [if_pos hlt] at hwo
       have e1 : (wE t n).1 = -1 := by
        refine Classical.byContradiction fun e => ?_
        have h3 := (hbest.yes e).2.2.1
        have h4 := h0 (wE t n).2.1 (wE t n).2.2
        omega
       have hx : exX t (wE t n) = (0, 0) := by unfold exX; rw [if_pos e1]
       have hy : exY t (wE t n) = (0, 0) := by unfold exY; rw [if_pos e1]
       rw [hx, hy] at hre
       simp only [idQ0, idQ] at hwo hre
       have z0 : (((0 : Nat) : Int) == 0) = true := by simp
       have z7 : ((7 : Int) == 7) = true := rfl
       have n0 : (((0 : Nat) : Int) != ((0 : Nat) : Int)) = false := by simp
       have e00 : ((0 : Int) == 0) = true := rfl
       simp (disch := (first | decide | omega)) only [hA, go_sem]
       refine ACalls.nxt (her _ _) ?_
       simp (disch := (first | decide | omega)) only [hA, go_sem]
       refine ACalls.nxt (hpr _ _) ?_
       simp (disch := (first | decide | omega)) only [hA, go_sem]
       refine ACalls.nxt (hwo _ _) ?_
       simp (disch := (first | decide | omega)) only [hA, setFrom, cellsOf, go_sem]
       refine ACalls.nxt (hva _ _) ?_
       simp (disch := (first | decide | omega)) only [hA, go_sem]
       refine ACalls.nxt (hrp _ _) ?_
       simp (disch := (first | decide | omega)) only [hA, no1, no2, n00, go_sem]
       refine ACalls.nxt (hsz _ _) ?_
       simp (disch := (first | decide | omega)) only [hA, go_sem]
       refine ACalls.nxt (hre _ _) ?_
       simp (disch := (first | decide | omega)) only [hA, nm, n0, n00, z0, z7, e00, setFrom, cellsOf, go_sem]
       exact leave_pure (xs := [.v (.bool true)]) (.inr rfl) (by simp (disch := (first | decide | omega)) only [resVs, resV, go_sem, hA, z0, z7, e00]) kO hR hB ⟨rfl, rfl, rfl⟩
      ·have hm0 : m ≠ 0 := fun h => hlt (hnone.2 h)
       rw [if_neg hlt] at hwo
       have e1 : (wE t n).1 ≠ -1 := by omega
       have hx : exX t (wE t n) = idN t (wE t n).2.1 := by unfold exX; rw [if_neg e1]
       have hy : exY t (wE t n) = idN t (wE t n).2.2 := by unfold exY; rw [if_neg e1]
       rw [hx, hy] at hre
       obtain ⟨⟨x1, x2⟩, hx'⟩ : ∃ x, idN t (wE t n).2.1 = x := ⟨_, rfl⟩
       obtain ⟨⟨y1, y2⟩, hy'⟩ : ∃ y, idN t (wE t n).2.2 = y := ⟨_, rfl⟩
       rw [hx', hy'] at hre hwo
       simp only [idQ] at hwo hre
       have z0 : (((m : Nat) : Int) == 0) = false := by rw [beq_eq_false_iff_ne]; omega
       have e00 : ((0 : Int) == 0) = true := rfl
       simp (disch := (first | decide | omega)) only [hA, go_sem]
       refine ACalls.nxt (her _ _) ?_
       simp (disch := (first | decide | omega)) only [hA, go_sem]
       refine ACalls.nxt (hpr _ _) ?_
       simp (disch := (first | decide | omega)) only [hA, go_sem]
       refine ACalls.nxt (hwo _ _) ?_
       simp (disch := (first | decide | omega)) only [hA, setFrom, cellsOf, go_sem]
       refine ACalls.nxt (hva _ _) ?_
       simp (disch := (first | decide | omega)) only [hA, go_sem]
       refine ACalls.nxt (hrp _ _) ?_
       simp (disch := (first | decide | omega)) only [hA, no1, no2, n00, go_sem]
       refine ACalls.nxt (hsz _ _) ?_
       simp (disch := (first | decide | omega)) only [hA, go_sem]
       refine ACalls.nxt (hre _ _) ?_
       simp (disch := (first | decide | omega)) only [hA, nm, n00, z0, e00, setFrom, cellsOf, go_sem]
       exact leave_pure (xs := [.v (.bool true)]) (.inr rfl) (by simp (disch := (first | decide | omega)) only [resVs, resV, go_sem, hA, z0, e00]) kO hR hB ⟨rfl, rfl, rfl⟩
     ·rw [decide_eq_false hk] at hsz
      have her : ∀ b l, ACalls Try.prog 22 [.agg [.v (eT t)], .v (.int .i64 k)] b l (fun r b' l' => r = .tup [.v (.int .i64 0), .v (.int .i64 2)] ∧ b' = b ∧ l' = l) := fun b l => by
       have h := pErrors_spec t hSm hN (fun _ => by omega) k b l
       unfold pErR at h
       rw [if_neg (by rw [giv_out hval hk]; decide), giv_out hval hk] at h
       exact h
      have hwo : ∀ b l, ACalls Try.prog 24 [.agg [.v (eT t)], .v (.int .i64 k)] b l (fun r b' l' => r = .tup [idQ0, idQ0, .v (.int .i64 2)] ∧ b' = b ∧ l' = l) := fun b l => by
       have h := pWorst_spec t hSm hN (fun _ => by omega) k b l
       unfold pWoR at h
       rw [if_neg (by rw [giv_out hval hk]; decide), giv_out hval hk] at h
       exact h
      simp only [idQ0] at hwo
      simp (disch := (first | decide | omega)) only [hA, go_sem]
      refine ACalls.nxt (her _ _) ?_
      simp (disch := (first | decide | omega)) only [hA, go_sem]
      refine ACalls.nxt (hpr _ _) ?_
      simp (disch := (first | decide | omega)) only [hA, go_sem]
      refine ACalls.nxt (hwo _ _) ?_
      simp (disch := (first | decide | omega)) only [hA, setFrom, cellsOf, go_sem]
      refine ACalls.nxt (hva _ _) ?_
      simp (disch := (first | decide | omega)) only [hA, go_sem]
      refine ACalls.nxt (hrp _ _) ?_
      simp (disch := (first | decide | omega)) only [hA, no1, no2, n00, go_sem]
      refine ACalls.nxt (hsz _ _) ?_
      simp (disch := (first | decide | omega)) only [hA, go_sem]
      exact leave_pure (xs := [.v (.bool true)]) (.inr rfl) (by simp (disch := (first | decide | omega)) only [resVs, resV, go_sem, hA]) kO hR hB ⟨rfl, rfl, rfl⟩
end Go.Proofs.Ytcemoeigegkmoaa
