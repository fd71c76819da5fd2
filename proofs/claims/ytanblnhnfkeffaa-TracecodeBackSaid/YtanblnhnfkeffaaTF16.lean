/- Texts of one proof, laid together: Z8, Z9, ZA. No condition. -/
import Derived.Test.YtanblnhnfkeffaaTF14
namespace Go.Proofs.Ytanblnhnfkeffaa
set_option linter.unusedVariables false
set_option linter.unusedSimpArgs false
attribute [local go_sem ↓] run_skip run_region run_draw run_both run_seq run_block run_exit run_ret run_cond atN_app seqC_normal seqC_exit seqC_ret seqQ_normal seqQ_exit seqQ_ret blkQ_normal blkQ_exit blkQ_ret runOps_nil runOps_cons runD_nil runD_cons grdO_true grdO_false grdD_true grdD_false ifC_true ifC_false opS_val opS_call opS_two opK_app dS_val dS_call dS_two dK_app kUp_same kUp_ne
attribute [local go_sem] rechks_nil rechks_cons rechk gcase_true gcase_false ex_val ex_val0 gd_none gd_some ev_t ev_c evs_nil evs_cons evo_some evo_none hget_at hget_first hsetB_at hsetB_first hsetL_at hsetL_first ofOpt_some aop aload astore aslice aappend aiaddr aiaddrA afaddr alen alenS acopy amm acall alookup amupdate alenM atostr aappz comma keyEq apick binV binVB binVS isSh intOp strOp boolOp shOp eqC eqF and2 cellsOf setFrom fillA fillS rd rdI elems mk bounds AV.cell List.all_cons List.all_nil Bool.and_true Bool.true_and Bool.and_self List.length_cons List.length_nil List.length_append Nat.reduceAdd Nat.reduceSub Nat.reduceMul Nat.zero_add Nat.add_zero List.cons_append List.nil_append List.append_assoc List.append_nil List.getElem?_cons_zero List.getElem?_cons_succ List.getElem?_nil List.set_cons_zero List.set_cons_succ List.drop_zero List.drop_succ_cons List.take_zero List.take_succ_cons List.take_nil List.drop_nil List.map_cons List.map_nil Option.map_some if_true if_false Bool.false_eq_true and_self true_and and_true Nat.reduceLeDiff Nat.reduceLT Nat.le_refl Nat.reduceEqDiff ite_true ite_false beq_self_eq_true beq_true beq_false Bool.not_true Bool.not_false Bool.true_beq Bool.false_beq map_vs vs_len vs_get vs_take vs_drop vs_snoc1 vs_snoc2 vs_snoc3 vs_snoc5 vs_set1 vs_set2 vs_rep wrap_id le_T lt_T le_F lt_F leI_T ltI_T leI_F ltI_F geI gtI get_T decide_true decide_false room List.getElem?_map List.length_map List.length_take Int.toNat_natCast Nat.min_def Nat.min_self nth_kOf put_kOf put_kNo kOv_cons kOv_nil KHas KArgs List.getElem_cons_zero List.getElem_cons_succ
def a_tget : AFunc := ⟨1,55,[.tmp 2,.tmp 3,.tmp 4],(.seq (.region [⟨some 2,.mv (.c (.v (.int .i64 0))),none⟩,⟨some 3,.mv (.c (.v (.int .i64 0))),none⟩,⟨some 4,.mv (.c (.v (.int .i64 0))),none⟩]) (.seq (.region [⟨some 5,.mv (.c (.v (.int .i64 0))),none⟩]) (.seq (.seq (.region [⟨some 8,.mv (.t 0),none⟩,⟨some 9,.len (.t 8),none⟩,⟨some 10,.mv (.c (.v (.int .i64 0))),none⟩]) (.block 0 (.loop (.seq (.region [⟨some 11,.bin .lss (.t 10) (.t 9),none⟩]) (.seq (.cond (.t 11) .skip (.exit 0)) (.seq (.block 1 (.seq (.region [⟨some 12,.mv (.t 10),none⟩,⟨some 13,.iaddr 1 (.t 8) (.t 10),none⟩,⟨some 14,.load none (.t 13),none⟩,⟨some 6,.mv (.t 12),none⟩,⟨some 7,.mv (.t 14),none⟩]) (.seq (.seq (.region [⟨some 15,.mv (.t 6),none⟩,⟨some 16,.bin .eql (.t 15) (.c (.v (.int .i64 8))),none⟩]) (.cond (.t 16) (.seq (.region [⟨some 2,.mv (.c (.v (.int .i64 0))),none⟩,⟨some 3,.mv (.c (.v (.int .i64 0))),none⟩,⟨some 4,.mv (.c (.v (.int .i64 3))),none⟩]) .ret) .skip)) (.seq (.region [⟨some 17,.mv (.t 5),none⟩,⟨some 18,.mv (.t 7),none⟩,⟨some 19,.bin .rem (.t 18) (.c (.v (.int .u8 128))),none⟩,⟨some 20,.conv .i64 (.t 19),none⟩,⟨some 21,.mv (.t 6),none⟩,⟨some 22,.bin .mul (.c (.v (.int .i64 7))) (.t 21),none⟩,⟨some 23,.bin .shl (.t 20) (.t 22),none⟩,⟨some 24,.bin .or (.t 17) (.t 23),none⟩,⟨some 5,.mv (.t 24),none⟩]) (.seq (.seq (.region [⟨some 25,.mv (.t 7),none⟩,⟨some 26,.bin .geq (.t 25) (.c (.v (.int .u8 128))),none⟩]) (.cond (.t 26) (.exit 1) .skip)) (.seq (.seq (.region [⟨some 27,.mv (.t 6),none⟩,⟨some 28,.bin .gtr (.t 27) (.c (.v (.int .i64 0))),none⟩,⟨some 29,.mv (.t 28),none⟩,⟨some 30,.mv (.t 7),some (29,true)⟩,⟨some 31,.bin .eql (.t 30) (.c (.v (.int .u8 0))),some (29,true)⟩,⟨some 32,.pick (.t 29) (.t 31) (.c (.v (.bool false))),none⟩]) (.cond (.t 32) (.seq (.region [⟨some 2,.mv (.c (.v (.int .i64 0))),none⟩,⟨some 3,.mv (.c (.v (.int .i64 0))),none⟩,⟨some 4,.mv (.c (.v (.int .i64 3))),none⟩]) .ret) .skip)) (.seq (.seq (.region [⟨some 33,.mv (.t 5),none⟩,⟨some 34,.bin .quo (.t 33) (.c (.v (.int .i64 2))),none⟩,⟨some 2,.mv (.t 34),none⟩]) (.seq (.region [⟨some 35,.mv (.t 5),none⟩,⟨some 36,.bin .rem (.t 35) (.c (.v (.int .i64 2))),none⟩,⟨some 37,.bin .eql (.t 36) (.c (.v (.int .i64 1))),none⟩]) (.cond (.t 37) (.region [⟨some 38,.mv (.t 5),none⟩,⟨some 39,.bin .add (.t 38) (.c (.v (.int .i64 1))),none⟩,⟨some 40,.neg (.t 39),none⟩,⟨some 41,.bin .quo (.t 40) (.c (.v (.int .i64 2))),none⟩,⟨some 2,.mv (.t 41),none⟩]) .skip))) (.seq (.seq (.region [⟨some 42,.mv (.t 2),none⟩,⟨some 43,.bin .lss (.t 42) (.c (.v (.int .i64 (-1125899906842624)))),none⟩,⟨some 44,.mv (.t 43),none⟩,⟨some 45,.mv (.t 2),some (44,false)⟩,⟨some 46,.bin .gtr (.t 45) (.c (.v (.int .i64 1125899906842624))),some (44,false)⟩,⟨some 47,.pick (.t 44) (.c (.v (.bool true))) (.t 46),none⟩]) (.cond (.t 47) (.seq (.region [⟨some 2,.mv (.c (.v (.int .i64 0))),none⟩,⟨some 3,.mv (.c (.v (.int .i64 0))),none⟩,⟨some 4,.mv (.c (.v (.int .i64 3))),none⟩]) .ret) .skip)) (.seq (.region [⟨some 48,.mv (.t 2),none⟩,⟨some 49,.mv (.t 6),none⟩,⟨some 50,.bin .add (.t 49) (.c (.v (.int .i64 1))),none⟩,⟨some 2,.mv (.t 48),none⟩,⟨some 3,.mv (.t 50),none⟩,⟨some 4,.mv (.c (.v (.int .i64 0))),none⟩]) .ret))))))))) (.region [⟨some 51,.bin .add (.t 10) (.c (.v (.int .i64 1))),none⟩,⟨some 10,.mv (.t 51),none⟩]))))))) (.seq (.seq (.region [⟨some 52,.mv (.t 0),none⟩,⟨some 53,.len (.t 52),none⟩,⟨some 54,.bin .eql (.t 53) (.c (.v (.int .i64 8))),none⟩]) (.cond (.t 54) (.seq (.region [⟨some 2,.mv (.c (.v (.int .i64 0))),none⟩,⟨some 3,.mv (.c (.v (.int .i64 0))),none⟩,⟨some 4,.mv (.c (.v (.int .i64 3))),none⟩]) .ret) .skip)) (.seq (.region [⟨some 2,.mv (.c (.v (.int .i64 0))),none⟩,⟨some 3,.mv (.c (.v (.int .i64 0))),none⟩,⟨some 4,.mv (.c (.v (.int .i64 4))),none⟩]) .ret)))))⟩
theorem a_tget_ok : cFunc Try.prog 45 = some a_tget := by kernel_rfl
def r_tget0 : List (Nat × Nat) := [(2, 7), (10, 51)]
def a_rtget : AFunc := ⟨1,68,[.tmp 2,.tmp 3,.tmp 4],(.seq (.region [⟨some 2,.mv (.c (.v (.int .i64 0))),none⟩,⟨some 3,.mv (.c (.v (.int .i64 0))),none⟩,⟨some 4,.mv (.c (.v (.int .i64 0))),none⟩]) (.seq (.region [⟨some 5,.mv (.c (.v (.int .i64 0))),none⟩,⟨some 6,.mv (.c (.v (.int .i64 1))),none⟩]) (.seq (.seq (.region [⟨some 7,.mv (.c (.v (.int .i64 0))),none⟩]) (.block 0 (.loop (.seq (.seq (.region [⟨some 9,.mv (.t 7),none⟩,⟨some 10,.mv (.t 0),none⟩,⟨some 11,.len (.t 10),none⟩,⟨some 12,.bin .lss (.t 9) (.t 11),none⟩,⟨some 13,.mv (.t 12),none⟩,⟨some 14,.mv (.t 7),some (13,true)⟩,⟨some 15,.bin .lss (.t 14) (.c (.v (.int .i64 8))),some (13,true)⟩,⟨some 16,.pick (.t 13) (.t 15) (.c (.v (.bool false))),none⟩]) (.cond (.t 16) .skip (.exit 0))) (.seq (.block 1 (.seq (.region [⟨some 19,.mv (.t 5),none⟩,⟨some 20,.mv (.t 0),none⟩,⟨some 21,.mv (.t 7),none⟩,⟨some 22,.iaddr 1 (.t 20) (.t 21),none⟩,⟨some 23,.load none (.t 22),none⟩,⟨some 24,.bin .rem (.t 23) (.c (.v (.int .u8 128))),none⟩,⟨some 25,.conv .i64 (.t 24),none⟩,⟨some 26,.mv (.t 6),none⟩,⟨some 27,.bin .mul (.t 25) (.t 26),none⟩,⟨some 28,.bin .add (.t 19) (.t 27),none⟩,⟨some 5,.mv (.t 28),none⟩]) (.seq (.region [⟨some 29,.mv (.t 6),none⟩,⟨some 30,.bin .mul (.c (.v (.int .i64 128))) (.t 29),none⟩,⟨some 6,.mv (.t 30),none⟩]) (.seq (.seq (.region [⟨some 31,.mv (.t 0),none⟩,⟨some 32,.mv (.t 7),none⟩,⟨some 33,.iaddr 1 (.t 31) (.t 32),none⟩,⟨some 34,.load none (.t 33),none⟩,⟨some 35,.bin .geq (.t 34) (.c (.v (.int .u8 128))),none⟩]) (.cond (.t 35) (.exit 1) .skip)) (.seq (.region [⟨some 36,.mv (.t 5),none⟩,⟨some 37,.bin .quo (.t 36) (.c (.v (.int .i64 2))),none⟩,⟨some 8,.mv (.t 37),none⟩]) (.seq (.seq (.region [⟨some 38,.mv (.t 5),none⟩,⟨some 39,.bin .rem (.t 38) (.c (.v (.int .i64 2))),none⟩,⟨some 40,.bin .eql (.t 39) (.c (.v (.int .i64 1))),none⟩]) (.cond (.t 40) (.region [⟨some 41,.mv (.t 5),none⟩,⟨some 42,.bin .add (.t 41) (.c (.v (.int .i64 1))),none⟩,⟨some 43,.neg (.t 42),none⟩,⟨some 44,.bin .quo (.t 43) (.c (.v (.int .i64 2))),none⟩,⟨some 8,.mv (.t 44),none⟩]) .skip)) (.seq (.seq (.region [⟨some 45,.mv (.t 7),none⟩,⟨some 46,.bin .gtr (.t 45) (.c (.v (.int .i64 0))),none⟩,⟨some 47,.mv (.t 46),none⟩,⟨some 48,.mv (.t 0),some (47,true)⟩,⟨some 49,.mv (.t 7),some (47,true)⟩,⟨some 50,.iaddr 1 (.t 48) (.t 49),some (47,true)⟩,⟨some 51,.load none (.t 50),some (47,true)⟩,⟨some 52,.bin .eql (.t 51) (.c (.v (.int .u8 0))),some (47,true)⟩,⟨some 53,.pick (.t 47) (.t 52) (.c (.v (.bool false))),none⟩,⟨some 54,.mv (.t 53),none⟩,⟨some 55,.mv (.t 8),some (54,false)⟩,⟨some 56,.bin .gtr (.t 55) (.c (.v (.int .i64 1125899906842624))),some (54,false)⟩,⟨some 57,.pick (.t 54) (.c (.v (.bool true))) (.t 56),none⟩,⟨some 58,.mv (.t 57),none⟩,⟨some 59,.mv (.t 8),some (58,false)⟩,⟨some 60,.bin .lss (.t 59) (.c (.v (.int .i64 (-1125899906842624)))),some (58,false)⟩,⟨some 61,.pick (.t 58) (.c (.v (.bool true))) (.t 60),none⟩]) (.cond (.t 61) (.seq (.region [⟨some 2,.mv (.c (.v (.int .i64 0))),none⟩,⟨some 3,.mv (.c (.v (.int .i64 0))),none⟩,⟨some 4,.mv (.c (.v (.int .i64 3))),none⟩]) .ret) .skip)) (.seq (.region [⟨some 62,.mv (.t 8),none⟩,⟨some 63,.mv (.t 7),none⟩,⟨some 64,.bin .add (.t 63) (.c (.v (.int .i64 1))),none⟩,⟨some 2,.mv (.t 62),none⟩,⟨some 3,.mv (.t 64),none⟩,⟨some 4,.mv (.c (.v (.int .i64 0))),none⟩]) .ret)))))))) (.region [⟨some 17,.mv (.t 7),none⟩,⟨some 18,.bin .add (.t 17) (.c (.v (.int .i64 1))),none⟩,⟨some 7,.mv (.t 18),none⟩])))))) (.seq (.seq (.region [⟨some 65,.mv (.t 0),none⟩,⟨some 66,.len (.t 65),none⟩,⟨some 67,.bin .geq (.t 66) (.c (.v (.int .i64 8))),none⟩]) (.cond (.t 67) (.seq (.region [⟨some 2,.mv (.c (.v (.int .i64 0))),none⟩,⟨some 3,.mv (.c (.v (.int .i64 0))),none⟩,⟨some 4,.mv (.c (.v (.int .i64 3))),none⟩]) .ret) .skip)) (.seq (.region [⟨some 2,.mv (.c (.v (.int .i64 0))),none⟩,⟨some 3,.mv (.c (.v (.int .i64 0))),none⟩,⟨some 4,.mv (.c (.v (.int .i64 4))),none⟩]) .ret)))))⟩
theorem a_rtget_ok : cFunc Try.prog 194 = some a_rtget := by kernel_rfl
def r_rtget0 : List (Nat × Nat) := [(2, 64)]

def getR (xs : List UInt8) : AV := .tup [.v (.int .i64 (getL xs).1), .v (.int .i64 (getL xs).2.1), .v (.int .i64 (getL xs).2.2)]
theorem orI {a b : Nat} (ha : a < 9223372036854775808) (hb : b < 9223372036854775808) : intOp .or .i64 (a : Int) (b : Int) = some (.int .i64 ((a ||| b : Nat) : Int)) := by
 unfold intOp
 exact congrArg (fun z => some (IV.int .i64 z)) (i64_or_nat a b ha hb)
theorem orStep {z x k : Nat} (hz : z < 128 ^ k) (hk : k < 8) : intOp .or .i64 (z : Int) ((x % 128 * 128 ^ k : Nat) : Int) = some (.int .i64 ((z + x % 128 * 128 ^ k : Nat) : Int)) := by
 have hp : (128 : Nat) ^ k = 2 ^ (7 * k) := by rw [show (128 : Nat) = 2 ^ 7 from rfl, ← Nat.pow_mul]
 have h1 := next_lt z x k hz
 have h2 := pow128_le (k + 1) oM
 rw [orI oM oM]
 congr 3
 rw [hp] at hz ⊢
 rw [Nat.add_comm, Nat.mul_comm, Nat.two_pow_add_eq_or_of_lt hz, Nat.or_comm]
theorem shStep {x k : Nat} (hk : k < 8) : IntKind.i64.wrap (((x % 128 : Nat) : Int) * 2 ^ (7 * k)) = ((x % 128 * 128 ^ k : Nat) : Int) := by
 have hp : (128 : Nat) ^ k = 2 ^ (7 * k) := by rw [show (128 : Nat) = 2 ^ 7 from rfl, ← Nat.pow_mul]
 have h3 := pow128_lt k hk
 have h4 : x % 128 * 128 ^ k ≤ 127 * 562949953421312 := Nat.mul_le_mul oM h3
 have h5 : (((x % 128 : Nat) : Int) * 2 ^ (7 * k)) = ((x % 128 * 128 ^ k : Nat) : Int) := by rw [hp]; push_cast; rfl
 rw [h5, IntKind.wrap_i64]
 omega
theorem getGo_end {i z : Nat} {xs : List UInt8} (h : xs.length ≤ i) : getGo i z (xs.drop i) = (0, 0, if i = 8 then 3 else 4) := by
 rw [List.drop_of_length_le h, getGo]
set_option maxHeartbeats 8000000 in
theorem get_spec (xs : List UInt8) (hl : xs.length ≤ 1000000000) (b l : List Row) :
  ACalls Try.prog 45 [.v (.isl 1 (xs.map eB))] b l (fun r b' l' => r = getR xs ∧ b' = b ∧ l' = l) := by
 refine calls_kept a_tget_ok rfl (by decide) ?_
 intro B g hB hR hE hA
 simp only [KArgs] at hA
 have z0 : ((0 : Int) = 0) = True := by simp
 simp (disch := (first | decide | omega)) only [a_tget, hA, List.length_map, go_sem]
 refine loop_kept (ι := Nat × Nat) r_tget0 (fun i => [(5, .v (.int .i64 (i.2 : Nat))), (10, .v (.int .i64 (i.1 : Nat)))]) 0 (fun i => []) (fun i => i.1 ≤ xs.length ∧ i.1 ≤ 8 ∧ i.2 < 128 ^ i.1 ∧ getGo i.1 i.2 (xs.drop i.1) = getL xs) (fun i => xs.length - i.1) (0, 0) ⟨Nat.zero_le _, Nat.zero_le _, by decide, rfl⟩ (by (repeat (first | exact hE.mono oM | refine KLt.up ?_ kL))) (by ((try simp (disch := decide) only [hA, go_sem]) <;> exact kH)) (fun e => Weak.refl _ _ _) ?_
 intro g1 hE1 hEE1 hg1 i hi
 obtain ⟨i, z⟩ := i
 obtain ⟨i1, i2, i3, i4⟩ := hi
 simp only at i1 i2 i3 i4 ⊢
 by_cases hil : i < xs.length
 ·have gx := e0B hil
  rw [getGo_at xs i z hil] at i4
  obtain ⟨x, hx0⟩ : ∃ c, xs[i].toNat = c := ⟨_, rfl⟩
  have hx := xs[i].toNat_lt
  rw [hx0] at gx hx i4
  by_cases h8 : i = 8
  ·have hd : ((i : Int) == 8) = true := by simp; omega
   rw [if_pos h8] at i4
   have hres : getR xs = .tup [.v (.int .i64 0), .v (.int .i64 0), .v (.int .i64 3)] := by unfold getR; rw [← i4]
   simp (disch := (first | decide | omega)) only [hA, hg1, gx, hd, go_sem]
   exact leave_pure (xs := [.v (.int .i64 0), .v (.int .i64 0), .v (.int .i64 3)]) (.inr rfl) (by simp (disch := (first | decide | omega)) only [resVs, resV, go_sem, hA]) kO hR hB ⟨hres.symm, rfl, rfl⟩
  have hd : ((i : Int) == 8) = false := by simp; omega
  rw [if_neg h8] at i4
  have hi8 : i < 8 := by omega
  have hm : Int.tmod (x : Int) 128 = ((x % 128 : Nat) : Int) := rfl
  have h7 : 7 * (i : Int) = ((7 * i : Nat) : Int) := by omega
  have hmin : 7 * i ≤ 64 := by omega
  have hsh := shStep (x := x) hi8
  have hor := orStep (x := x) i3 hi8
  have hnl := next_lt z x i i3
  have hpl := pow128_le (i + 1) oM
  obtain ⟨q, hq⟩ : ∃ q, z + x % 128 * 128 ^ i = q := ⟨_, rfl⟩
  rw [hq] at hor hnl i4
  have hpi := pow128_le i oM
  have n7 : (((7 * i : Nat) : Int) < 0) = False := by simp; omega
  by_cases hbig : 128 ≤ x
  ·have hdb : decide ((x : Int) ≥ 128) = true := decide_eq_true oM
   rw [if_pos hbig] at i4
   simp (disch := (first | decide | omega)) only [hA, hg1, gx, hd, hm, h7, n7, hmin, hsh, ↓hor, n128, hdb, go_sem]
   refine ⟨(i + 1, q), ⟨hil, by simp only; omega, hnl, i4⟩, by simp only; omega, ?_⟩
   exact Weak.kround (p := r_tget0) (k := 0) (by ((repeat refine (kAny_up rfl).trans ?_); exact hEE1)) (by ((try simp (disch := decide) only [hA, go_sem]) <;> exact kH)) rfl hE1 (by simp) kV hR kL
  have hdb : decide ((x : Int) ≥ 128) = false := decide_eq_false oM
  rw [if_neg hbig] at i4
  by_cases hz0 : 0 < i ∧ x = 0
  ·have hi0 : decide ((i : Int) > 0) = true := decide_eq_true oM
   have hx0' : ((x : Int) == 0) = true := by simp; omega
   rw [if_pos hz0] at i4
   have hres : getR xs = .tup [.v (.int .i64 0), .v (.int .i64 0), .v (.int .i64 3)] := by unfold getR; rw [← i4]
   simp (disch := (first | decide | omega)) only [hA, hg1, gx, hd, hm, h7, n7, hmin, hsh, ↓hor, n128, hdb, hi0, hx0', go_sem]
   exact leave_pure (xs := [.v (.int .i64 0), .v (.int .i64 0), .v (.int .i64 3)]) (.inr rfl) (by simp (disch := (first | decide | omega)) only [resVs, resV, go_sem, hA]) kO hR hB ⟨hres.symm, rfl, rfl⟩
  rw [if_neg hz0] at i4
  obtain ⟨i0, hi0⟩ : ∃ c, decide ((i : Int) > 0) = c := ⟨_, rfl⟩
  have hx0' : i0 = true → ((x : Int) == 0) = false := fun h => by
   rw [h] at hi0
   have := of_decide_eq_true hi0
   simp; omega
  have hq2 : Int.tdiv (q : Int) 2 = ((q / 2 : Nat) : Int) := rfl
  have hr2 : Int.tmod (q : Int) 2 = ((q % 2 : Nat) : Int) := rfl
  have n2 : ((2 : Int) = 0) = False := by decide
  have hu : unzig q = unzig q := rfl
  have hub : -72057594037927936 ≤ unzig q ∧ unzig q ≤ 72057594037927936 := by unfold unzig; split <;> omega
  have fin : ∀ (v : Int), v = unzig q → (far v = false → getR xs = .tup [.v (.int .i64 v), .v (.int .i64 ((i : Int) + 1)), .v (.int .i64 0)]) ∧ (far v = true → getR xs = .tup [.v (.int .i64 0), .v (.int .i64 0), .v (.int .i64 3)]) := by
   rintro v rfl
   refine ⟨fun h => ?_, fun h => ?_⟩
   ·rw [h, if_neg (by decide)] at i4; unfold getR; rw [← i4]
   ·rw [h, if_pos rfl] at i4; unfold getR; rw [← i4]
  by_cases hodd : q % 2 = 1
  case' pos =>
   have ho : (((q % 2 : Nat) : Int) == 1) = true := by simp; omega
   have hv : Int.tdiv (0 - ((q : Int) + 1)) 2 = unzig q := by rw [Int.zero_sub]; exact (neg_half2 hodd oM).1
   have hvw : IntKind.i64.wrap (unzig q) = unzig q := wrap_id oM oM
   have hvn : IntKind.i64.wrap (0 - ((q : Int) + 1)) = 0 - ((q : Int) + 1) := wrap_id oM oM
  case' neg =>
   have ho : (((q % 2 : Nat) : Int) == 1) = false := by simp; omega
   have hv : ((q / 2 : Nat) : Int) = unzig q := (unzig_even hodd).symm
   have hvw : IntKind.i64.wrap (unzig q) = unzig q := wrap_id oM oM
   have hvn : IntKind.i64.wrap (unzig q) = unzig q := hvw
  all_goals
   obtain ⟨u, hu0⟩ : ∃ u, unzig q = u := ⟨_, rfl⟩
   obtain ⟨f1, f2⟩ := fin _ rfl
   rw [hu0] at hv hvw hub f1 f2
   cases hi : i0 with
   | false =>
     rw [hi] at hi0
     rcases far3 u with ⟨g1, g2, g3⟩ | ⟨g1, g2, g3⟩ | ⟨g1, g2, g3⟩
     ·have d1 : decide (u < -1125899906842624) = false := decide_eq_false oM
      have d2 : decide (u > 1125899906842624) = false := decide_eq_false oM
      first
      | (exfalso; omega)
      | (simp (disch := (first | decide | omega)) only [hA, hg1, gx, hd, hm, h7, n7, hmin, hsh, ↓hor, n128, n2, hdb, hi0, hq2, hr2, ho, hv, hvw, hvn, d1, d2, go_sem]
         exact leave_pure (xs := [.v (.int .i64 u), .v (.int .i64 ((i : Int) + 1)), .v (.int .i64 0)]) (.inr rfl) (by simp (disch := (first | decide | omega)) only [resVs, resV, go_sem, hA]) kO hR hB ⟨(f1 g1).symm, rfl, rfl⟩)
     ·have d1 : decide (u < -1125899906842624) = true := decide_eq_true oM
      first
      | (exfalso; omega)
      | (simp (disch := (first | decide | omega)) only [hA, hg1, gx, hd, hm, h7, n7, hmin, hsh, ↓hor, n128, n2, hdb, hi0, hq2, hr2, ho, hv, hvw, hvn, d1, go_sem]
         exact leave_pure (xs := [.v (.int .i64 0), .v (.int .i64 0), .v (.int .i64 3)]) (.inr rfl) (by simp (disch := (first | decide | omega)) only [resVs, resV, go_sem, hA]) kO hR hB ⟨(f2 g1).symm, rfl, rfl⟩)
     ·have d1 : decide (u < -1125899906842624) = false := decide_eq_false oM
      have d2 : decide (u > 1125899906842624) = true := decide_eq_true oM
      first
      | (exfalso; omega)
      | (simp (disch := (first | decide | omega)) only [hA, hg1, gx, hd, hm, h7, n7, hmin, hsh, ↓hor, n128, n2, hdb, hi0, hq2, hr2, ho, hv, hvw, hvn, d1, d2, go_sem]
         exact leave_pure (xs := [.v (.int .i64 0), .v (.int .i64 0), .v (.int .i64 3)]) (.inr rfl) (by simp (disch := (first | decide | omega)) only [resVs, resV, go_sem, hA]) kO hR hB ⟨(f2 g1).symm, rfl, rfl⟩)
   | true =>
     have hx1 := hx0' hi
     rw [hi] at hi0
     rcases far3 u with ⟨g1, g2, g3⟩ | ⟨g1, g2, g3⟩ | ⟨g1, g2, g3⟩
     ·have d1 : decide (u < -1125899906842624) = false := decide_eq_false oM
      have d2 : decide (u > 1125899906842624) = false := decide_eq_false oM
      first
      | (exfalso; omega)
      | (simp (disch := (first | decide | omega)) only [hA, hg1, gx, hd, hm, h7, n7, hmin, hsh, ↓hor, n128, n2, hdb, hi0, hx1, hq2, hr2, ho, hv, hvw, hvn, d1, d2, go_sem]
         exact leave_pure (xs := [.v (.int .i64 u), .v (.int .i64 ((i : Int) + 1)), .v (.int .i64 0)]) (.inr rfl) (by simp (disch := (first | decide | omega)) only [resVs, resV, go_sem, hA]) kO hR hB ⟨(f1 g1).symm, rfl, rfl⟩)
     ·have d1 : decide (u < -1125899906842624) = true := decide_eq_true oM
      first
      | (exfalso; omega)
      | (simp (disch := (first | decide | omega)) only [hA, hg1, gx, hd, hm, h7, n7, hmin, hsh, ↓hor, n128, n2, hdb, hi0, hx1, hq2, hr2, ho, hv, hvw, hvn, d1, go_sem]
         exact leave_pure (xs := [.v (.int .i64 0), .v (.int .i64 0), .v (.int .i64 3)]) (.inr rfl) (by simp (disch := (first | decide | omega)) only [resVs, resV, go_sem, hA]) kO hR hB ⟨(f2 g1).symm, rfl, rfl⟩)
     ·have d1 : decide (u < -1125899906842624) = false := decide_eq_false oM
      have d2 : decide (u > 1125899906842624) = true := decide_eq_true oM
      first
      | (exfalso; omega)
      | (simp (disch := (first | decide | omega)) only [hA, hg1, gx, hd, hm, h7, n7, hmin, hsh, ↓hor, n128, n2, hdb, hi0, hx1, hq2, hr2, ho, hv, hvw, hvn, d1, d2, go_sem]
         exact leave_pure (xs := [.v (.int .i64 0), .v (.int .i64 0), .v (.int .i64 3)]) (.inr rfl) (by simp (disch := (first | decide | omega)) only [resVs, resV, go_sem, hA]) kO hR hB ⟨(f2 g1).symm, rfl, rfl⟩)
 ·obtain rfl : i = xs.length := by omega
  rw [getGo_end (Nat.le_refl _)] at i4
  by_cases h8 : xs.length = 8
  ·have hd : ((xs.length : Int) == 8) = true := by simp; omega
   rw [if_pos h8] at i4
   have hres : getR xs = .tup [.v (.int .i64 0), .v (.int .i64 0), .v (.int .i64 3)] := by unfold getR; rw [← i4]
   simp (disch := (first | decide | omega)) only [hA, hg1, List.length_map, hd, go_sem]
   exact leave_pure (xs := [.v (.int .i64 0), .v (.int .i64 0), .v (.int .i64 3)]) (.inr rfl) (by simp (disch := (first | decide | omega)) only [resVs, resV, go_sem, hA]) kO hR hB ⟨hres.symm, rfl, rfl⟩
  ·have hd : ((xs.length : Int) == 8) = false := by simp; omega
   rw [if_neg h8] at i4
   have hres : getR xs = .tup [.v (.int .i64 0), .v (.int .i64 0), .v (.int .i64 4)] := by unfold getR; rw [← i4]
   simp (disch := (first | decide | omega)) only [hA, hg1, List.length_map, hd, go_sem]
   exact leave_pure (xs := [.v (.int .i64 0), .v (.int .i64 0), .v (.int .i64 4)]) (.inr rfl) (by simp (disch := (first | decide | omega)) only [resVs, resV, go_sem, hA]) kO hR hB ⟨hres.symm, rfl, rfl⟩
set_option maxHeartbeats 8000000 in
theorem rget_spec (xs : List UInt8) (hl : xs.length ≤ 1000000000) (b l : List Row) :
  ACalls Try.prog 194 [.v (.isl 1 (xs.map eB))] b l (fun r b' l' => r = getR xs ∧ b' = b ∧ l' = l) := by
 refine calls_kept a_rtget_ok rfl (by decide) ?_
 intro B g hB hR hE hA
 simp only [KArgs] at hA
 simp (disch := (first | decide | omega)) only [a_rtget, hA, List.length_map, go_sem]
 refine loop_kept (ι := Nat × Nat) r_rtget0 (fun i => [(5, .v (.int .i64 (i.2 : Nat))), (6, .v (.int .i64 ((128 ^ i.1 : Nat) : Int))), (7, .v (.int .i64 (i.1 : Nat)))]) 0 (fun i => []) (fun i => i.1 ≤ xs.length ∧ i.1 ≤ 8 ∧ i.2 < 128 ^ i.1 ∧ getGo i.1 i.2 (xs.drop i.1) = getL xs) (fun i => xs.length - i.1) (0, 0) ⟨Nat.zero_le _, Nat.zero_le _, by decide, rfl⟩ (by (repeat (first | exact hE.mono oM | refine KLt.up ?_ kL))) (by ((try simp (disch := decide) only [hA, go_sem]) <;> exact kH)) (fun e => Weak.refl _ _ _) ?_
 intro g1 hE1 hEE1 hg1 i hi
 obtain ⟨i, z⟩ := i
 obtain ⟨i1, i2, i3, i4⟩ := hi
 simp only at i1 i2 i3 i4 ⊢
 by_cases hil : i < xs.length ∧ i < 8
 ·obtain ⟨hil, hi8⟩ := hil
  have gx := e0B hil
  rw [getGo_at xs i z hil] at i4
  obtain ⟨x, hx0⟩ : ∃ c, xs[i].toNat = c := ⟨_, rfl⟩
  have hx := xs[i].toNat_lt
  rw [hx0] at gx hx i4
  rw [if_neg oM] at i4
  have hd8 : decide ((i : Int) < 8) = true := decide_eq_true oM
  have hm : Int.tmod (x : Int) 128 = ((x % 128 : Nat) : Int) := rfl
  have hnl := next_lt z x i i3
  have hpl := pow128_le (i + 1) oM
  have hpi := pow128_lt i hi8
  have hps : 128 ^ (i + 1) = 128 * 128 ^ i := by rw [Nat.pow_succ, Nat.mul_comm]
  obtain ⟨p, hp⟩ : ∃ p, 128 ^ i = p := ⟨_, rfl⟩
  rw [hp] at hnl i3 i4 hpi hps
  have hmul : ((x % 128 : Nat) : Int) * (p : Int) = ((x % 128 * p : Nat) : Int) := by push_cast; rfl
  have hmb : x % 128 * p ≤ 127 * 562949953421312 := Nat.mul_le_mul oM hpi
  have hsum : (z : Int) + ((x % 128 * p : Nat) : Int) = ((z + x % 128 * p : Nat) : Int) := by omega
  have h128 : 128 * (p : Int) = ((128 * p : Nat) : Int) := by omega
  obtain ⟨q, hq⟩ : ∃ q, z + x % 128 * p = q := ⟨_, rfl⟩
  rw [hq] at hsum hnl i4
  have hq8 : q < 72057594037927936 := by omega
  by_cases hbig : 128 ≤ x
  ·have hdb : decide ((x : Int) ≥ 128) = true := decide_eq_true oM
   rw [if_pos hbig] at i4
   simp (disch := (first | decide | omega)) only [hA, hg1, gx, hd8, hm, n128, hp, hmul, hsum, h128, hdb, List.length_map, go_sem]
   refine ⟨(i + 1, q), ⟨hil, by simp only; omega, hnl, i4⟩, by simp only; omega, ?_⟩
   rw [← hps]
   exact Weak.kround (p := r_rtget0) (k := 0) (by ((repeat refine (kAny_up rfl).trans ?_); exact hEE1)) (by ((try simp (disch := decide) only [hA, go_sem]) <;> exact kH)) rfl hE1 (by simp) kV hR kL
  have hdb : decide ((x : Int) ≥ 128) = false := decide_eq_false oM
  rw [if_neg hbig] at i4
  have hq2 : Int.tdiv (q : Int) 2 = ((q / 2 : Nat) : Int) := rfl
  have hr2 : Int.tmod (q : Int) 2 = ((q % 2 : Nat) : Int) := rfl
  have n2 : ((2 : Int) = 0) = False := by decide
  have hub : -72057594037927936 ≤ unzig q ∧ unzig q ≤ 72057594037927936 := by unfold unzig; split <;> omega
  by_cases hodd : q % 2 = 1
  case' pos =>
   have ho : (((q % 2 : Nat) : Int) == 1) = true := by simp; omega
   have hv : Int.tdiv (0 - ((q : Int) + 1)) 2 = unzig q := by rw [Int.zero_sub]; exact (neg_half2 hodd oM).1
   have hvw : IntKind.i64.wrap (unzig q) = unzig q := wrap_id oM oM
   have hvn : IntKind.i64.wrap (0 - ((q : Int) + 1)) = 0 - ((q : Int) + 1) := wrap_id oM oM
  case' neg =>
   have ho : (((q % 2 : Nat) : Int) == 1) = false := by simp; omega
   have hv : ((q / 2 : Nat) : Int) = unzig q := (unzig_even hodd).symm
   have hvw : IntKind.i64.wrap (unzig q) = unzig q := wrap_id oM oM
   have hvn : IntKind.i64.wrap (unzig q) = unzig q := hvw
  all_goals
   obtain ⟨u, hu0⟩ : ∃ u, unzig q = u := ⟨_, rfl⟩
   rw [hu0] at hv hvw hub i4
   by_cases hz0 : 0 < i ∧ x = 0
   ·have hi0 : decide ((i : Int) > 0) = true := decide_eq_true oM
    have hx0' : ((x : Int) == 0) = true := by simp; omega
    rw [if_pos hz0] at i4
    have hres : getR xs = .tup [.v (.int .i64 0), .v (.int .i64 0), .v (.int .i64 3)] := by unfold getR; rw [← i4]
    simp (disch := (first | decide | omega)) only [hA, hg1, gx, hd8, hm, n128, n2, hp, hmul, hsum, h128, hdb, hq2, hr2, ho, hv, hvw, hvn, hi0, hx0', List.length_map, go_sem]
    exact leave_pure (xs := [.v (.int .i64 0), .v (.int .i64 0), .v (.int .i64 3)]) (.inr rfl) (by simp (disch := (first | decide | omega)) only [resVs, resV, go_sem, hA]) kO hR hB ⟨hres.symm, rfl, rfl⟩
   rw [if_neg hz0] at i4
   have fin : (far u = false → getR xs = .tup [.v (.int .i64 u), .v (.int .i64 ((i : Int) + 1)), .v (.int .i64 0)]) ∧ (far u = true → getR xs = .tup [.v (.int .i64 0), .v (.int .i64 0), .v (.int .i64 3)]) := by
    refine ⟨fun h => ?_, fun h => ?_⟩
    ·rw [h, if_neg (by decide)] at i4; unfold getR; rw [← i4]
    ·rw [h, if_pos rfl] at i4; unfold getR; rw [← i4]
   obtain ⟨f1, f2⟩ := fin
   by_cases hi0' : 0 < i
   case' pos =>
    have hi0 : decide ((i : Int) > 0) = true := decide_eq_true oM
    have hx1 : ((x : Int) == 0) = false := by simp; omega
   case' neg =>
    have hi0 : decide ((i : Int) > 0) = false := decide_eq_false oM
    have hx1 : decide ((i : Int) > 0) = false := hi0
   all_goals
    rcases far3 u with ⟨k1, k2, k3⟩ | ⟨k1, k2, k3⟩ | ⟨k1, k2, k3⟩
    ·first
     | (exfalso; omega)
     | (have d1 : decide (u < -1125899906842624) = false := decide_eq_false oM
        have d2 : decide (u > 1125899906842624) = false := decide_eq_false oM
        simp (disch := (first | decide | omega)) only [hA, hg1, gx, hd8, hm, n128, n2, hp, hmul, hsum, h128, hdb, hq2, hr2, ho, hv, hvw, hvn, hi0, hx1, d1, d2, List.length_map, go_sem]
        exact leave_pure (xs := [.v (.int .i64 u), .v (.int .i64 ((i : Int) + 1)), .v (.int .i64 0)]) (.inr rfl) (by simp (disch := (first | decide | omega)) only [resVs, resV, go_sem, hA]) kO hR hB ⟨(f1 k1).symm, rfl, rfl⟩)
    ·first
     | (exfalso; omega)
     | (have d1 : decide (u < -1125899906842624) = true := decide_eq_true oM
        have d2 : decide (u > 1125899906842624) = false := decide_eq_false oM
        simp (disch := (first | decide | omega)) only [hA, hg1, gx, hd8, hm, n128, n2, hp, hmul, hsum, h128, hdb, hq2, hr2, ho, hv, hvw, hvn, hi0, hx1, d1, d2, List.length_map, go_sem]
        exact leave_pure (xs := [.v (.int .i64 0), .v (.int .i64 0), .v (.int .i64 3)]) (.inr rfl) (by simp (disch := (first | decide | omega)) only [resVs, resV, go_sem, hA]) kO hR hB ⟨(f2 k1).symm, rfl, rfl⟩)
    ·first
     | (exfalso; omega)
     | (have d2 : decide (u > 1125899906842624) = true := decide_eq_true oM
        simp (disch := (first | decide | omega)) only [hA, hg1, gx, hd8, hm, n128, n2, hp, hmul, hsum, h128, hdb, hq2, hr2, ho, hv, hvw, hvn, hi0, hx1, d2, List.length_map, go_sem]
        exact leave_pure (xs := [.v (.int .i64 0), .v (.int .i64 0), .v (.int .i64 3)]) (.inr rfl) (by simp (disch := (first | decide | omega)) only [resVs, resV, go_sem, hA]) kO hR hB ⟨(f2 k1).symm, rfl, rfl⟩)
 ·by_cases h8 : 8 ≤ xs.length
  ·obtain rfl : i = 8 := by omega
   have hd : decide ((xs.length : Int) ≥ 8) = true := decide_eq_true oM
   have hd8 : decide (((8 : Nat) : Int) < 8) = false := rfl
   have hd9 : decide ((8 : Int) < 8) = false := rfl
   have hres : getR xs = .tup [.v (.int .i64 0), .v (.int .i64 0), .v (.int .i64 3)] := by
    have : getL xs = (0, 0, 3) := by
     rw [← i4]
     by_cases h9 : 8 < xs.length
     ·rw [getGo_at xs 8 z h9, if_pos rfl]
     ·rw [getGo_end oM, if_pos rfl]
    unfold getR
    rw [this]
   by_cases h9 : 8 < xs.length
   ·have hdl : decide (((8 : Nat) : Int) < (xs.length : Int)) = true := decide_eq_true oM
    have hdm : decide ((8 : Int) < (xs.length : Int)) = true := decide_eq_true oM
    simp (disch := (first | decide | omega)) only [hA, hg1, List.length_map, hdl, hdm, hd8, hd9, hd, go_sem]
    exact leave_pure (xs := [.v (.int .i64 0), .v (.int .i64 0), .v (.int .i64 3)]) (.inr rfl) (by simp (disch := (first | decide | omega)) only [resVs, resV, go_sem, hA]) kO hR hB ⟨hres.symm, rfl, rfl⟩
   ·have hdl : decide (((8 : Nat) : Int) < (xs.length : Int)) = false := decide_eq_false oM
    have hdm : decide ((8 : Int) < (xs.length : Int)) = false := decide_eq_false oM
    simp (disch := (first | decide | omega)) only [hA, hg1, List.length_map, hdl, hdm, hd, go_sem]
    exact leave_pure (xs := [.v (.int .i64 0), .v (.int .i64 0), .v (.int .i64 3)]) (.inr rfl) (by simp (disch := (first | decide | omega)) only [resVs, resV, go_sem, hA]) kO hR hB ⟨hres.symm, rfl, rfl⟩
  ·obtain rfl : i = xs.length := by omega
   rw [getGo_end (Nat.le_refl _), if_neg oM] at i4
   have hd : decide ((xs.length : Int) ≥ 8) = false := decide_eq_false oM
   have hres : getR xs = .tup [.v (.int .i64 0), .v (.int .i64 0), .v (.int .i64 4)] := by unfold getR; rw [← i4]
   simp (disch := (first | decide | omega)) only [hA, hg1, List.length_map, hd, go_sem]
   exact leave_pure (xs := [.v (.int .i64 0), .v (.int .i64 0), .v (.int .i64 4)]) (.inr rfl) (by simp (disch := (first | decide | omega)) only [resVs, resV, go_sem, hA]) kO hR hB ⟨hres.symm, rfl, rfl⟩
def a_tPut : AFunc := ⟨1,12,[.tmp 2,.tmp 3],(.seq (.region [⟨some 2,.mv (.c (.v .zsl)),none⟩,⟨some 3,.mv (.c (.v (.int .i64 0))),none⟩]) (.seq (.seq (.region [⟨some 4,.mv (.t 0),none⟩,⟨some 5,.bin .lss (.t 4) (.c (.v (.int .i64 (-1125899906842624)))),none⟩,⟨some 6,.mv (.t 5),none⟩,⟨some 7,.mv (.t 0),some (6,false)⟩,⟨some 8,.bin .gtr (.t 7) (.c (.v (.int .i64 1125899906842624))),some (6,false)⟩,⟨some 9,.pick (.t 6) (.c (.v (.bool true))) (.t 8),none⟩]) (.cond (.t 9) (.seq (.region [⟨some 2,.mv (.c (.v .zsl)),none⟩,⟨some 3,.mv (.c (.v (.int .i64 2))),none⟩]) .ret) .skip)) (.seq (.region [⟨some 10,.mv (.t 0),none⟩,⟨some 11,.call (.c (.fn 105 [])) [(.c (.v .zsl)),(.t 10)],none⟩,⟨some 2,.mv (.t 11),none⟩,⟨some 3,.mv (.c (.v (.int .i64 0))),none⟩]) .ret)))⟩
theorem a_tPut_ok : cFunc Try.prog 44 = some a_tPut := by kernel_rfl
def a_rtput : AFunc := ⟨1,28,[.tmp 2],(.seq (.region [⟨some 2,.mv (.c (.v .zsl)),none⟩]) (.seq (.region [⟨some 5,.mv (.t 0),none⟩,⟨some 6,.bin .mul (.c (.v (.int .i64 2))) (.t 5),none⟩,⟨some 3,.mv (.t 6),none⟩]) (.seq (.seq (.region [⟨some 7,.mv (.t 0),none⟩,⟨some 8,.bin .lss (.t 7) (.c (.v (.int .i64 0))),none⟩]) (.cond (.t 8) (.region [⟨some 9,.mv (.t 0),none⟩,⟨some 10,.bin .mul (.c (.v (.int .i64 (-2)))) (.t 9),none⟩,⟨some 11,.bin .sub (.t 10) (.c (.v (.int .i64 1))),none⟩,⟨some 3,.mv (.t 11),none⟩]) .skip)) (.seq (.region [⟨some 4,.mv (.c (.v .zsl)),none⟩]) (.seq (.block 0 (.loop (.seq (.seq (.region [⟨some 12,.mv (.t 3),none⟩,⟨some 13,.bin .geq (.t 12) (.c (.v (.int .i64 128))),none⟩]) (.cond (.t 13) .skip (.exit 0))) (.block 1 (.seq (.region [⟨some 14,.mv (.t 4),none⟩,⟨some 15,.mv (.t 3),none⟩,⟨some 16,.bin .rem (.t 15) (.c (.v (.int .i64 128))),none⟩,⟨some 17,.bin .add (.c (.v (.int .i64 128))) (.t 16),none⟩,⟨some 18,.conv .u8 (.t 17),none⟩,⟨some 19,.bslice 1 [(.v (.int .u8 0))] 1 [(0,(.t 18))],none⟩,⟨some 20,.append 1 1 (.t 14) (.t 19),none⟩,⟨some 4,.mv (.t 20),none⟩]) (.region [⟨some 21,.mv (.t 3),none⟩,⟨some 22,.bin .quo (.t 21) (.c (.v (.int .i64 128))),none⟩,⟨some 3,.mv (.t 22),none⟩])))))) (.seq (.region [⟨some 23,.mv (.t 4),none⟩,⟨some 24,.mv (.t 3),none⟩,⟨some 25,.conv .u8 (.t 24),none⟩,⟨some 26,.bslice 1 [(.v (.int .u8 0))] 1 [(0,(.t 25))],none⟩,⟨some 27,.append 1 1 (.t 23) (.t 26),none⟩,⟨some 2,.mv (.t 27),none⟩]) .ret))))))⟩
theorem a_rtput_ok : cFunc Try.prog 166 = some a_rtput := by kernel_rfl
def r_rtput0 : List (Nat × Nat) := [(3, 4), (12, 22)]
def a_rtname : AFunc := ⟨2,13,[.tmp 4],(.seq (.region [⟨some 4,.mv (.c (.v .zsl)),none⟩]) (.seq (.region [⟨some 5,.mv (.t 0),none⟩,⟨some 6,.mv (.t 1),none⟩,⟨some 7,.lenS (.t 6),none⟩,⟨some 8,.call (.c (.fn 166 [])) [(.t 7)],none⟩,⟨some 9,.append 1 1 (.t 5) (.t 8),none⟩,⟨some 0,.mv (.t 9),none⟩]) (.seq (.region [⟨some 10,.mv (.t 0),none⟩,⟨some 11,.mv (.t 1),none⟩,⟨some 12,.append 1 1 (.t 10) (.t 11),none⟩,⟨some 4,.mv (.t 12),none⟩]) .ret)))⟩
theorem a_rtname_ok : cFunc Try.prog 167 = some a_rtname := by kernel_rfl

def PutR (n : Int) : AV := if far n = true then .tup [.v .zsl, .v (.int .i64 2)] else .tup [.v (.isl 1 ((putL n).map eB)), .v (.int .i64 0)]
set_option maxHeartbeats 4000000 in
theorem Put_spec (n : Int) (b l : List Row) : ACalls Try.prog 44 [.v (.int .i64 n)] b l (fun r b' l' => r = PutR n ∧ b' = b ∧ l' = l) := by
 refine calls_kept a_tPut_ok rfl (by decide) ?_
 intro B g hB hR hE hA
 simp only [KArgs] at hA
 rcases far3 n with ⟨k1, k2, k3⟩ | ⟨k1, k2, k3⟩ | ⟨k1, k2, k3⟩
 ·have d1 : decide (n < -1125899906842624) = false := decide_eq_false oM
  have d2 : decide (n > 1125899906842624) = false := decide_eq_false oM
  simp (disch := (first | decide | omega)) only [a_tPut, hA, d1, d2, go_sem]
  refine ACalls.nxt (put_nil n oM oM _ _) ?_
  simp (disch := (first | decide | omega)) only [hA, go_sem]
  refine leave_deep (.inr rfl) (xs := [.sl B.length (putL n).length 0 (putL n).length, .v (.int .i64 0)]) (by simp (disch := (first | decide | omega)) only [resVs, resV, hA, go_sem]) (y := .tup [.v (.isl 1 ((putL n).map eB)), .v (.int .i64 0)]) (Dv.tupL (.cons (Dv.slV (i := 0) rfl (by simp)) (.cons (.v _) .nil))) hR hB ⟨by unfold PutR; rw [if_neg (by rw [k1]; decide)], rfl, rfl⟩
 ·have d1 : decide (n < -1125899906842624) = true := decide_eq_true oM
  simp (disch := (first | decide | omega)) only [a_tPut, hA, d1, go_sem]
  exact leave_pure (xs := [.v .zsl, .v (.int .i64 2)]) (.inr rfl) (by simp (disch := (first | decide | omega)) only [resVs, resV, go_sem, hA]) kO hR hB ⟨by unfold PutR; rw [if_pos k1]; rfl, rfl, rfl⟩
 ·have d1 : decide (n < -1125899906842624) = false := decide_eq_false oM
  have d2 : decide (n > 1125899906842624) = true := decide_eq_true oM
  simp (disch := (first | decide | omega)) only [a_tPut, hA, d1, d2, go_sem]
  exact leave_pure (xs := [.v .zsl, .v (.int .i64 2)]) (.inr rfl) (by simp (disch := (first | decide | omega)) only [resVs, resV, go_sem, hA]) kO hR hB ⟨by unfold PutR; rw [if_pos k1]; rfl, rfl, rfl⟩
set_option maxHeartbeats 4000000 in
theorem rput_live (n : Int) (h1 : -1152921504606846976 ≤ n) (h2 : n ≤ 1152921504606846976) (b l : List Row) :
  ACalls Try.prog 166 [.v (.int .i64 n)] b l (fun r b' l' => r = .sl (b.length + l.length) (putL n).length 0 (putL n).length ∧ b' = b ∧ l' = l ++ [bRow (putL n).length (putL n)]) := by
 refine calls_kept a_rtput_ok rfl (by decide) ?_
 intro B g hB hR hE hA
 simp only [KArgs] at hA
 obtain ⟨hz, hzb, hz10⟩ := zig_bd h1 h2
 obtain ⟨z0, hz0⟩ : ∃ z, z = zig n := ⟨_, rfl⟩
 have hL0 : putL n = putN 10 z0 := by rw [hz0]; rfl
 rw [← hz0] at hz hzb hz10
 rw [hL0]
 by_cases hneg : n < 0
 case' pos =>
  have hd : decide (n < 0) = true := decide_eq_true hneg
  have hv : -2 * n - 1 = (z0 : Int) := by rw [hz, if_pos hneg]
  simp (disch := (first | decide | omega)) only [a_rtput, hA, hd, hv, go_sem]
 case' neg =>
  have hd : decide (n < 0) = false := decide_eq_false hneg
  have hv : 2 * n = (z0 : Int) := by rw [hz, if_neg hneg]
  simp (disch := (first | decide | omega)) only [a_rtput, hA, hd, hv, go_sem]
 all_goals
  refine loop_kept_nil (ι := Nat × List UInt8 × Nat) 4 1 r_rtput0 (fun i => [(4, .sl B.length i.1 0 i.1), (3, .v (.int .i64 (i.2.2 : Int)))]) 1 (fun i => [bRow i.1 i.2.1])
   (fun i => i.2.1 ++ putN (10 - i.1) i.2.2 = putN 10 z0 ∧ i.2.2 < 128 ^ (11 - i.1) ∧ i.2.2 ≤ 2305843009213693952 ∧ i.2.1.length = i.1 ∧ i.1 ≤ 10) (fun i => 10 - i.1) (0, [], z0) ⟨rfl, hz10, hzb, rfl, Nat.zero_le _⟩ (by simp (disch := decide) only [hA, go_sem]) (by decide) rfl (by (repeat (first | exact hE.mono oM | refine KLt.up ?_ kL))) (by ((try simp (disch := decide) only [hA, go_sem]) <;> exact kH)) (fun e => Weak.refl _ _ _) ?_
  intro g1 hE1 hEE1 hg1 i hi
  obtain ⟨k, W, z⟩ := i
  obtain ⟨i1, i2, i3, i4, i5⟩ := hi
  simp only at i1 i2 i3 i4 i5 ⊢
  have htk : List.take k (W.map eB) = W.map eB := List.take_of_length_le (by rw [List.length_map]; omega)
  by_cases hge : 128 ≤ z
  ·have hd2 : decide ((z : Int) ≥ 128) = true := decide_eq_true oM
   have hr : Int.tmod (z : Int) 128 = ((z % 128 : Nat) : Int) := rfl
   have hq : Int.tdiv (z : Int) 128 = ((z / 128 : Nat) : Int) := rfl
   have hc : 128 + ((z % 128 : Nat) : Int) = ((z % 128 + 128 : Nat) : Int) := by omega
   have hsn := bRow_snoc (xs := W) (z := z % 128 + 128) oM
   have hw := wrap8 (m := z % 128 + 128) oM
   simp (disch := (first | decide | omega)) only [hA, hg1, bRow, hd2, hr, hq, hc, htk, hsn, hw, n128, i4, List.length_map, List.replicate_succ, List.replicate_zero, go_sem]
   have hk10 : k < 10 := by
    refine Classical.byContradiction (fun h => ?_)
    obtain rfl : k = 10 := by omega
    have : z < 128 := by simpa using i2
    omega
   refine ⟨(k + 1, W ++ [UInt8.ofNat (z % 128 + 128)], z / 128), ⟨?_, ?_, ?_, ?_, ?_⟩, by simp only; omega, ?_⟩
   ·simp only
    rw [← i1, List.append_assoc, show 10 - k = (10 - (k + 1)) + 1 by omega, putN_big hge]
    rfl
   ·simp only
    rw [show 11 - k = (11 - (k + 1)) + 1 by omega, Nat.pow_succ] at i2
    omega
   ·simp only; omega
   ·simp only [List.length_append, List.length_cons, List.length_nil]; omega
   ·simp only; omega
   ·exact Weak.kround (p := r_rtput0) (k := 1) (by ((repeat refine (kAny_up rfl).trans ?_); exact hEE1)) (by ((try simp (disch := decide) only [hA, go_sem]) <;> exact kH)) rfl hE1 (by simp) kV hR kL
  ·have hd2 : decide ((z : Int) ≥ 128) = false := decide_eq_false oM
   have hsn := bRow_snoc (xs := W) (z := z) oM
   have hw := wrap8 (m := z) oM
   have hfin : W ++ [UInt8.ofNat z] = putN 10 z0 := by rw [← i1, putN_small oM]
   have hlen : (putN 10 z0).length = k + 1 := by
    have := congrArg List.length hfin
    simp only [List.length_append, List.length_cons, List.length_nil] at this
    omega
   rw [hfin] at hsn
   simp (disch := (first | decide | omega)) only [hA, hg1, bRow, hd2, htk, hsn, hw, i4, hlen, List.length_map, List.replicate_succ, List.replicate_zero, go_sem]
   have hbl : b.length + l.length = B.length := by rw [hB, List.length_append]
   exact leave_own (.inr rfl) (ver := k + 1) (sz := 1) (n := k + 1) (rows := (putN 10 z0).map eB) (junk := [.live 0 1 [[.v (.int .u8 (z : Int))]]]) (by simp (disch := (first | decide | omega)) only [resVs, resV, hA, go_sem]) rfl hR hB ⟨by rw [hbl], rfl, rfl⟩
set_option maxHeartbeats 4000000 in
theorem rname_spec (id ver : Nat) (xs : List UInt8) (hl : xs.length ≤ 100000000) (s : ByteArray) (hs : s.size ≤ 1000000) (b l : List Row) (hg : hget b l id = some (bRow ver xs)) :
  ACalls Try.prog 167 [.sl id ver 0 xs.length, .v (.str s)] b l (fun r b' l' => r = .sl id (ver + 2) 0 (xs ++ namC s).length ∧ b' = hsetB b id (bRow (ver + 2) (xs ++ namC s)) ∧ l' = hsetL b l id (bRow (ver + 2) (xs ++ namC s))) := by
 refine calls_kept a_rtname_ok rfl (by decide) ?_
 intro B g hB hR hE hA
 simp only [KArgs] at hA
 have hBi : B[id]? = some (bRow ver xs) := by rw [hB, ← hget_eq]; exact hg
 have hidB : id < B.length := (List.getElem?_eq_some_iff.1 hBi).1
 have hgB := hgetLo hBi
 obtain ⟨gS, sB, sL, sB0, sL0, sN⟩ := low_facts hidB
 have hlp := putN_len 10 (zig s.size)
 have hlp2 : (putL s.size).length ≤ 11 := hlp.2
 have hsl : s.data.toList.length = s.size := Array.length_toList
 have htk : List.take xs.length (xs.map eB) = xs.map eB := List.take_of_length_le (by rw [List.length_map]; exact Nat.le_refl _)
 have htp : List.take (putL s.size).length ((putL s.size).map eB) = (putL s.size).map eB := List.take_of_length_le (by rw [List.length_map]; exact Nat.le_refl _)
 have hv1 : vs (xs.map eB) ++ vs ((putL s.size).map eB) = vs ((xs ++ putL s.size).map eB) := by unfold vs; simp
 have hsv := str_vs s
 obtain ⟨W, hW⟩ : ∃ W, xs ++ putL s.size = W := ⟨_, rfl⟩
 have hWl : W.length = xs.length + (putL s.size).length := by rw [← hW, List.length_append]
 have htk2 : List.take (xs.length + (putL s.size).length) (W.map eB) = W.map eB := List.take_of_length_le (by rw [List.length_map]; omega)
 have hcc : xs ++ namC s = W ++ s.data.toList := by rw [← hW, namC, List.append_assoc]
 have hvv : vs (W.map eB) ++ vs (s.data.toList.map eB) = vs ((W ++ s.data.toList).map eB) := by unfold vs; simp
 rw [hW] at hv1
 rw [hcc]
 have hln : (W ++ s.data.toList).length = xs.length + (putL s.size).length + s.data.toList.length := by rw [List.length_append, hWl]
 rw [hln]
 simp (disch := (first | decide | omega)) only [a_rtname, hA, go_sem]
 refine ACalls.nxt (rput_live s.size oM oM _ _) ?_
 unfold bRow at hgB
 simp (disch := (first | decide | omega)) only [hA, hgB, sB0, sL0, sB, sL, gS, bRow, htk, htp, hv1, hsv, htk2, hWl, hvv, List.length_map, go_sem]
 exact leave_low (R := bRow _ _) (xs := [.sl id (ver + 1 + 1) 0 (xs.length + (putL s.size).length + s.data.toList.length)]) (.inr rfl) hB (by simp (disch := (first | decide | omega)) only [resVs, resV, hA, go_sem]) rfl (by simp (disch := omega) only [sN, lts.down, Nat.reduceLT, Nat.reduceAdd]) hR.bset
end Go.Proofs.Ytanblnhnfkeffaa
