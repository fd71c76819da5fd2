/- Texts of one proof, laid together: Z5, Z6, Z7. No condition. -/
import Derived.Test.YtanblnhnfkeffaaTF13
import Derived.Test.YtanblnhnfkeffaaTE10
import Derived.Test.YtanblnhnfkeffaaTE7
namespace Go.Proofs.Ytanblnhnfkeffaa
set_option linter.unusedVariables false
set_option linter.unusedSimpArgs false
attribute [local go_sem ↓] run_skip run_region run_draw run_both run_seq run_block run_exit run_ret run_cond atN_app seqC_normal seqC_exit seqC_ret seqQ_normal seqQ_exit seqQ_ret blkQ_normal blkQ_exit blkQ_ret runOps_nil runOps_cons runD_nil runD_cons grdO_true grdO_false grdD_true grdD_false ifC_true ifC_false opS_val opS_call opS_two opK_app dS_val dS_call dS_two dK_app kUp_same kUp_ne
attribute [local go_sem] rechks_nil rechks_cons rechk gcase_true gcase_false ex_val ex_val0 gd_none gd_some ev_t ev_c evs_nil evs_cons evo_some evo_none hget_at hget_first hsetB_at hsetB_first hsetL_at hsetL_first ofOpt_some aop aload astore aslice aappend aiaddr aiaddrA afaddr alen alenS acopy amm acall alookup amupdate alenM atostr aappz comma keyEq apick binV binVB binVS isSh intOp strOp boolOp shOp eqC eqF and2 cellsOf setFrom fillA fillS rd rdI elems mk bounds AV.cell List.all_cons List.all_nil Bool.and_true Bool.true_and Bool.and_self List.length_cons List.length_nil List.length_append Nat.reduceAdd Nat.reduceSub Nat.reduceMul Nat.zero_add Nat.add_zero List.cons_append List.nil_append List.append_assoc List.append_nil List.getElem?_cons_zero List.getElem?_cons_succ List.getElem?_nil List.set_cons_zero List.set_cons_succ List.drop_zero List.drop_succ_cons List.take_zero List.take_succ_cons List.take_nil List.drop_nil List.map_cons List.map_nil Option.map_some if_true if_false Bool.false_eq_true and_self true_and and_true Nat.reduceLeDiff Nat.reduceLT Nat.le_refl Nat.reduceEqDiff ite_true ite_false beq_self_eq_true beq_true beq_false Bool.not_true Bool.not_false Bool.true_beq Bool.false_beq map_vs vs_len vs_get vs_take vs_drop vs_snoc1 vs_snoc2 vs_snoc3 vs_snoc5 vs_set1 vs_set2 vs_rep wrap_id le_T lt_T le_F lt_F leI_T ltI_T leI_F ltI_F geI gtI get_T decide_true decide_false room List.getElem?_map List.length_map List.length_take Int.toNat_natCast Nat.min_def Nat.min_self nth_kOf put_kOf put_kNo kOv_cons kOv_nil KHas KArgs List.getElem_cons_zero List.getElem_cons_succ
def a_tput : AFunc := ⟨2,29,[.tmp 4],(.seq (.region [⟨some 4,.mv (.c (.v .zsl)),none⟩]) (.seq (.region [⟨some 6,.mv (.t 1),none⟩,⟨some 7,.bin .mul (.c (.v (.int .i64 2))) (.t 6),none⟩,⟨some 5,.mv (.t 7),none⟩]) (.seq (.seq (.region [⟨some 8,.mv (.t 1),none⟩,⟨some 9,.bin .lss (.t 8) (.c (.v (.int .i64 0))),none⟩]) (.cond (.t 9) (.region [⟨some 10,.mv (.t 1),none⟩,⟨some 11,.bin .mul (.c (.v (.int .i64 (-2)))) (.t 10),none⟩,⟨some 12,.bin .sub (.t 11) (.c (.v (.int .i64 1))),none⟩,⟨some 5,.mv (.t 12),none⟩]) .skip)) (.seq (.block 0 (.loop (.seq (.seq (.region [⟨some 13,.mv (.t 5),none⟩,⟨some 14,.bin .geq (.t 13) (.c (.v (.int .i64 128))),none⟩]) (.cond (.t 14) .skip (.exit 0))) (.block 1 (.seq (.region [⟨some 15,.mv (.t 0),none⟩,⟨some 16,.mv (.t 5),none⟩,⟨some 17,.bin .rem (.t 16) (.c (.v (.int .i64 128))),none⟩,⟨some 18,.bin .add (.t 17) (.c (.v (.int .i64 128))),none⟩,⟨some 19,.conv .u8 (.t 18),none⟩,⟨some 20,.bslice 1 [(.v (.int .u8 0))] 1 [(0,(.t 19))],none⟩,⟨some 21,.append 1 1 (.t 15) (.t 20),none⟩,⟨some 0,.mv (.t 21),none⟩]) (.region [⟨some 22,.mv (.t 5),none⟩,⟨some 23,.bin .quo (.t 22) (.c (.v (.int .i64 128))),none⟩,⟨some 5,.mv (.t 23),none⟩])))))) (.seq (.region [⟨some 24,.mv (.t 0),none⟩,⟨some 25,.mv (.t 5),none⟩,⟨some 26,.conv .u8 (.t 25),none⟩,⟨some 27,.bslice 1 [(.v (.int .u8 0))] 1 [(0,(.t 26))],none⟩,⟨some 28,.append 1 1 (.t 24) (.t 27),none⟩,⟨some 4,.mv (.t 28),none⟩]) .ret)))))⟩
theorem a_tput_ok : cFunc Try.prog 105 = some a_tput := by kernel_rfl
def r_tput0 : List (Nat × Nat) := [(0, 0), (5, 5), (13, 23)]
def a_tname : AFunc := ⟨2,11,[.tmp 4],(.seq (.region [⟨some 4,.mv (.c (.v .zsl)),none⟩]) (.seq (.region [⟨some 5,.mv (.t 0),none⟩,⟨some 6,.mv (.t 1),none⟩,⟨some 7,.lenS (.t 6),none⟩,⟨some 8,.call (.c (.fn 105 [])) [(.t 5),(.t 7)],none⟩,⟨some 9,.mv (.t 1),none⟩,⟨some 10,.append 1 1 (.t 8) (.t 9),none⟩,⟨some 4,.mv (.t 10),none⟩]) .ret))⟩
theorem a_tname_ok : cFunc Try.prog 106 = some a_tname := by kernel_rfl

def eB (c : UInt8) : List IV := [.int .u8 (c.toNat : Int)]
theorem str_vs (s : ByteArray) : (s.data.toList.map fun c => [AV.v (.int .u8 c.toNat)]) = vs (s.data.toList.map eB) := by
 unfold vs
 rw [List.map_map]
 rfl
theorem eB_of {z : Nat} (h : z < 256) : [AV.v (.int .u8 (z : Int))] = (eB (UInt8.ofNat z)).map .v := by
 unfold eB
 rw [byte_toNat h]; rfl
theorem hget_some {b l : List Row} {id : Nat} {r : Row} (h : hget b l id = some r) : id < b.length + l.length := by
 rw [hget_eq] at h
 have := (List.getElem?_eq_some_iff.1 h).1
 rwa [List.length_append] at this
theorem hgetLo {B : List Row} {s : Nat} {r : Row} (h : B[s]? = some r) (l : List Row) : hget B l s = some r := by
 have := (List.getElem?_eq_some_iff.1 h).1
 unfold hget
 rw [if_pos this]
 exact h
def bRow (ver : Nat) (xs : List UInt8) : Row := .live ver 1 (vs (xs.map eB))
theorem bRow_snoc {xs : List UInt8} {z : Nat} (h : z < 256) : vs (xs.map eB) ++ [[AV.v (.int .u8 (z : Int))]] = vs ((xs ++ [UInt8.ofNat z]).map eB) := by
 rw [eB_of h]
 unfold vs
 simp
theorem RowsLt.bset {B : List Row} {id ver : Nat} {xs : List UInt8} (h : RowsLt B.length B) : RowsLt (B.set id (bRow ver xs)).length (B.set id (bRow ver xs)) := by
 rw [List.length_set]
 exact RowsLt.setVs h
theorem low_facts {B : List Row} {id : Nat} (hid : id < B.length) : (∀ q l', hget (B.set id q) l' id = some q) ∧ (∀ q q', hsetB (B.set id q) id q' = B.set id q') ∧ (∀ q q' l', hsetL (B.set id q) l' id q' = l') ∧ (∀ q, hsetB B id q = B.set id q) ∧ (∀ q l', hsetL B l' id q = l') ∧ ∀ q, (B.set id q).length = B.length :=
 ⟨fun q l' => by unfold hget; rw [if_pos (by rw [List.length_set]; exact hid), List.getElem?_set_self hid], fun q q' => by unfold hsetB; rw [if_pos (by rw [List.length_set]; exact hid), List.set_set],
  fun q q' l' => by unfold hsetL; rw [if_pos (by rw [List.length_set]; exact hid)], fun q => by unfold hsetB; rw [if_pos hid], fun q l' => by unfold hsetL; rw [if_pos hid], fun q => List.length_set⟩
theorem wrap8 {m : Nat} (h : m < 256) : IntKind.u8.wrap (m : Int) = m := by
 simp [IntKind.wrap, IntKind.signed, IntKind.bits]
 omega
theorem n128 : ((128 : Int) = 0) = False := by decide
theorem zig_bd {n : Int} (h1 : -1152921504606846976 ≤ n) (h2 : n ≤ 1152921504606846976) : (zig n : Int) = (if n < 0 then -2 * n - 1 else 2 * n) ∧ zig n ≤ 2305843009213693952 ∧ zig n < 128 ^ 11 := by
 have : (128 : Nat) ^ 11 = 151115727451828646838272 := by decide
 unfold zig
 split <;> omega
set_option maxHeartbeats 4000000 in
theorem put_spec (id ver : Nat) (xs : List UInt8) (hl : xs.length ≤ 1000000000) (n : Int) (h1 : -1152921504606846976 ≤ n) (h2 : n ≤ 1152921504606846976) (b l : List Row) (hg : hget b l id = some (bRow ver xs)) :
  ACalls Try.prog 105 [.sl id ver 0 xs.length, .v (.int .i64 n)] b l (fun r b' l' => r = .sl id (ver + (putL n).length) 0 (xs ++ putL n).length ∧ b' = hsetB b id (bRow (ver + (putL n).length) (xs ++ putL n)) ∧ l' = hsetL b l id (bRow (ver + (putL n).length) (xs ++ putL n))) := by
 refine calls_kept a_tput_ok rfl (by decide) ?_
 intro B g hB hR hE hA
 simp only [KArgs] at hA
 have hid := hget_some hg
 have hBi : B[id]? = some (bRow ver xs) := by rw [hB, ← hget_eq]; exact hg
 have hidB : id < B.length := (List.getElem?_eq_some_iff.1 hBi).1
 obtain ⟨gS, sB, sL, sB0, sL0, sN⟩ := low_facts hidB
 obtain ⟨hz, hzb, hz10⟩ := zig_bd h1 h2
 obtain ⟨z0, hz0⟩ : ∃ z, z = zig n := ⟨_, rfl⟩
 have hL0 : putL n = putN 10 z0 := by rw [hz0]; rfl
 rw [← hz0] at hz hzb hz10
 rw [hL0]
 have fin : ∀ (f z : Nat) (ys : List UInt8), ys ++ putN f z = putN 10 z0 → z < 128 → z < 128 ^ (f + 1) → ys ++ [UInt8.ofNat z] = putN 10 z0 := fun f z ys h hs _ => by rw [← h, putN_small hs]
 have hBs : B.set id (bRow (ver + 0) xs) = B := by
  apply List.ext_getElem?
  intro j
  by_cases hj : id = j
  ·subst hj; rw [List.getElem?_set_self hidB, hBi]; rfl
  ·rw [List.getElem?_set_ne hj]
 by_cases hneg : n < 0
 case' pos =>
  have hd : decide (n < 0) = true := decide_eq_true hneg
  have hv : -2 * n - 1 = (z0 : Int) := by rw [hz, if_pos hneg]
  simp (disch := (first | decide | omega)) only [a_tput, hA, hd, hv, go_sem]
 case' neg =>
  have hd : decide (n < 0) = false := decide_eq_false hneg
  have hv : 2 * n = (z0 : Int) := by rw [hz, if_neg hneg]
  simp (disch := (first | decide | omega)) only [a_tput, hA, hd, hv, go_sem]
 all_goals
  refine loop_keptB (ι := Nat × List UInt8 × Nat) r_tput0 (fun i => [(0, .sl id (ver + i.1) 0 (xs.length + i.1)), (5, .v (.int .i64 (i.2.2 : Int)))]) 0 (fun i => B.set id (bRow (ver + i.1) i.2.1)) (fun _ => [])
   (fun i => i.2.1 ++ putN (10 - i.1) i.2.2 = xs ++ putN 10 z0 ∧ i.2.2 < 128 ^ (11 - i.1) ∧ i.2.2 ≤ 2305843009213693952 ∧ i.2.1.length = xs.length + i.1 ∧ i.1 ≤ 10) (fun i => 10 - i.1) (0, xs, z0) ⟨rfl, hz10, hzb, rfl, Nat.zero_le _⟩ (by (repeat (first | exact hE.mono oM | refine KLt.up ?_ kL))) (by ((try simp (disch := decide) only [hA, go_sem]) <;> exact kH)) hBs (fun e => Weak.refl _ _ _) ?_
  intro g1 hE1 hEE1 hg1 i hi
  obtain ⟨k, W, z⟩ := i
  obtain ⟨i1, i2, i3, i4, i5⟩ := hi
  simp only at i1 i2 i3 i4 i5 ⊢
  have htk : List.take (xs.length + k) (W.map eB) = W.map eB := List.take_of_length_le (by rw [List.length_map]; omega)
  by_cases hge : 128 ≤ z
  ·have hd2 : decide ((z : Int) ≥ 128) = true := decide_eq_true oM
   have hr : Int.tmod (z : Int) 128 = ((z % 128 : Nat) : Int) := rfl
   have hq : Int.tdiv (z : Int) 128 = ((z / 128 : Nat) : Int) := rfl
   have hc : ((z % 128 : Nat) : Int) + 128 = ((z % 128 + 128 : Nat) : Int) := by omega
   have hsn := bRow_snoc (xs := W) (z := z % 128 + 128) oM
   have hw := wrap8 (m := z % 128 + 128) oM
   simp (disch := (first | decide | omega)) only [hA, hg1, gS, sB, sL, bRow, hd2, hr, hq, hc, htk, hsn, hw, n128, i4, List.length_map, List.replicate_succ, List.replicate_zero, go_sem]
   have hk10 : k < 10 := by
    refine Classical.byContradiction (fun h => ?_)
    obtain rfl : k = 10 := by omega
    have : z < 128 := by simpa using i2
    omega
   refine ⟨(k + 1, W ++ [UInt8.ofNat (z % 128 + 128)], z / 128), ⟨?_, ?_, ?_, ?_, ?_⟩, by simp only; omega, ?_⟩
   ·simp only
    rw [← i1, List.append_assoc, show 10 - k = (10 - (k + 1)) + 1 by omega, putN_big hge]
    rfl
   ·simp only
    rw [show 11 - k = (11 - (k + 1)) + 1 by omega, Nat.pow_succ] at i2
    omega
   ·simp only; omega
   ·simp only [List.length_append, List.length_cons, List.length_nil]; omega
   ·simp only; omega
   ·exact Weak.kround (p := r_tput0) (k := 0) (l1 := []) (b := B.set id (bRow (ver + (k + 1)) (W ++ [UInt8.ofNat (z % 128 + 128)]))) (by ((repeat refine (kAny_up rfl).trans ?_); exact hEE1)) (by ((try simp (disch := decide) only [hA, go_sem]) <;> exact kH)) rfl (by rw [sN]; exact hE1) (by simp) (by rw [sN]; simp (disch := omega) only [KOvLt, lts.down, Nat.reduceLT, Nat.reduceAdd]) hR.bset kL
  ·have hd2 : decide ((z : Int) ≥ 128) = false := decide_eq_false oM
   have hsn := bRow_snoc (xs := W) (z := z) oM
   have hw := wrap8 (m := z) oM
   simp (disch := (first | decide | omega)) only [hA, hg1, gS, sB, sL, bRow, hd2, htk, hsn, hw, i4, List.length_map, List.replicate_succ, List.replicate_zero, go_sem]
   have hfin : W ++ [UInt8.ofNat z] = xs ++ putN 10 z0 := by rw [← i1, putN_small oM]
   have hlen : (putN 10 z0).length = k + 1 := by
    have := congrArg List.length hfin
    simp only [List.length_append, List.length_cons, List.length_nil] at this
    omega
   rw [hfin, hlen]
   have hBe : B.set id (.live (ver + k + 1) 1 (vs ((xs ++ putN 10 z0).map eB))) = hsetB b id (.live (ver + (k + 1)) 1 (vs ((xs ++ putN 10 z0).map eB))) ++ hsetL b l id (.live (ver + (k + 1)) 1 (vs ((xs ++ putN 10 z0).map eB))) := by rw [hset_eq, ← hB]; rfl
   rw [← hsetB_len b id (.live (ver + (k + 1)) 1 (vs ((xs ++ putN 10 z0).map eB)))]
   exact leave_pure (xs := [.sl id (ver + k + 1) 0 (xs.length + k + 1)]) (.inr rfl) (by simp (disch := (first | decide | omega)) only [resVs, resV, hA, go_sem]) (by simp (disch := (first | exact hidB | omega)) only [one, sN, lts.down, Nat.reduceLT, Nat.reduceAdd]) (RowsLt.bset (ver := ver + k + 1) (xs := xs ++ putN 10 z0) hR) hBe ⟨rfl, rfl, rfl⟩
def a_tsum : AFunc := ⟨1,30,[.tmp 2],(.seq (.region [⟨some 2,.mv (.c (.v (.int .i64 0))),none⟩]) (.seq (.region [⟨some 3,.mv (.c (.v (.int .i64 65535))),none⟩]) (.seq (.seq (.region [⟨some 6,.mv (.t 0),none⟩,⟨some 7,.len (.t 6),none⟩,⟨some 8,.mv (.c (.v (.int .i64 0))),none⟩]) (.block 0 (.loop (.seq (.region [⟨some 9,.bin .lss (.t 8) (.t 7),none⟩]) (.seq (.cond (.t 9) .skip (.exit 0)) (.seq (.block 1 (.seq (.region [⟨some 10,.iaddr 1 (.t 6) (.t 8),none⟩,⟨some 11,.load none (.t 10),none⟩,⟨some 5,.mv (.t 11),none⟩]) (.seq (.region [⟨some 12,.mv (.t 3),none⟩,⟨some 13,.mv (.t 5),none⟩,⟨some 14,.conv .i64 (.t 13),none⟩,⟨some 15,.bin .shl (.t 14) (.c (.v (.int .u64 8))),none⟩,⟨some 16,.bin .xor (.t 12) (.t 15),none⟩,⟨some 3,.mv (.t 16),none⟩]) (.seq (.region [⟨some 17,.mv (.c (.v (.int .i64 0))),none⟩]) (.block 2 (.loop (.seq (.region [⟨some 18,.bin .lss (.t 17) (.c (.v (.int .i64 8))),none⟩]) (.seq (.cond (.t 18) .skip (.exit 2)) (.seq (.block 3 (.seq (.region [⟨some 19,.mv (.t 3),none⟩,⟨some 20,.bin .geq (.t 19) (.c (.v (.int .i64 32768))),none⟩]) (.cond (.t 20) (.region [⟨some 21,.mv (.t 3),none⟩,⟨some 22,.bin .mul (.c (.v (.int .i64 2))) (.t 21),none⟩,⟨some 23,.bin .rem (.t 22) (.c (.v (.int .i64 65536))),none⟩,⟨some 24,.bin .xor (.t 23) (.c (.v (.int .i64 4129))),none⟩,⟨some 3,.mv (.t 24),none⟩]) (.region [⟨some 25,.mv (.t 3),none⟩,⟨some 26,.bin .mul (.t 25) (.c (.v (.int .i64 2))),none⟩,⟨some 3,.mv (.t 26),none⟩])))) (.region [⟨some 27,.bin .add (.t 17) (.c (.v (.int .i64 1))),none⟩,⟨some 17,.mv (.t 27),none⟩])))))))))) (.region [⟨some 28,.bin .add (.t 8) (.c (.v (.int .i64 1))),none⟩,⟨some 8,.mv (.t 28),none⟩]))))))) (.seq (.region [⟨some 29,.mv (.t 3),none⟩,⟨some 2,.mv (.t 29),none⟩]) .ret))))⟩
theorem a_tsum_ok : cFunc Try.prog 43 = some a_tsum := by kernel_rfl
def r_tsum0 : List (Nat × Nat) := [(3, 3), (5, 5), (8, 28)]
def r_tsum1 : List (Nat × Nat) := [(3, 3), (17, 27)]
def a_rtsum : AFunc := ⟨1,33,[.tmp 2],(.seq (.region [⟨some 2,.mv (.c (.v (.int .i64 0))),none⟩]) (.seq (.region [⟨some 3,.mv (.c (.v (.int .i64 65535))),none⟩]) (.seq (.seq (.region [⟨some 4,.mv (.c (.v (.int .i64 0))),none⟩]) (.block 0 (.loop (.seq (.seq (.region [⟨some 6,.mv (.t 4),none⟩,⟨some 7,.mv (.t 0),none⟩,⟨some 8,.len (.t 7),none⟩,⟨some 9,.bin .lss (.t 6) (.t 8),none⟩]) (.cond (.t 9) .skip (.exit 0))) (.seq (.block 1 (.seq (.region [⟨some 12,.mv (.t 3),none⟩,⟨some 13,.mv (.t 0),none⟩,⟨some 14,.mv (.t 4),none⟩,⟨some 15,.iaddr 1 (.t 13) (.t 14),none⟩,⟨some 16,.load none (.t 15),none⟩,⟨some 17,.conv .i64 (.t 16),none⟩,⟨some 18,.bin .mul (.c (.v (.int .i64 256))) (.t 17),none⟩,⟨some 19,.bin .xor (.t 12) (.t 18),none⟩,⟨some 3,.mv (.t 19),none⟩]) (.seq (.region [⟨some 5,.mv (.c (.v (.int .i64 0))),none⟩]) (.block 2 (.loop (.seq (.seq (.region [⟨some 20,.mv (.t 5),none⟩,⟨some 21,.bin .lss (.t 20) (.c (.v (.int .i64 8))),none⟩]) (.cond (.t 21) .skip (.exit 2))) (.seq (.block 3 (.seq (.region [⟨some 24,.mv (.t 3),none⟩,⟨some 25,.bin .geq (.t 24) (.c (.v (.int .i64 32768))),none⟩]) (.cond (.t 25) (.region [⟨some 26,.mv (.t 3),none⟩,⟨some 27,.bin .mul (.c (.v (.int .i64 2))) (.t 26),none⟩,⟨some 28,.bin .rem (.t 27) (.c (.v (.int .i64 65536))),none⟩,⟨some 29,.bin .xor (.t 28) (.c (.v (.int .i64 4129))),none⟩,⟨some 3,.mv (.t 29),none⟩]) (.region [⟨some 30,.mv (.t 3),none⟩,⟨some 31,.bin .mul (.c (.v (.int .i64 2))) (.t 30),none⟩,⟨some 3,.mv (.t 31),none⟩])))) (.region [⟨some 22,.mv (.t 5),none⟩,⟨some 23,.bin .add (.t 22) (.c (.v (.int .i64 1))),none⟩,⟨some 5,.mv (.t 23),none⟩])))))))) (.region [⟨some 10,.mv (.t 4),none⟩,⟨some 11,.bin .add (.t 10) (.c (.v (.int .i64 1))),none⟩,⟨some 4,.mv (.t 11),none⟩])))))) (.seq (.region [⟨some 32,.mv (.t 3),none⟩,⟨some 2,.mv (.t 32),none⟩]) .ret))))⟩
theorem a_rtsum_ok : cFunc Try.prog 113 = some a_rtsum := by kernel_rfl
def r_rtsum0 : List (Nat × Nat) := [(3, 31)]
def r_rtsum1 : List (Nat × Nat) := [(3, 3), (5, 5), (20, 31)]

theorem e0B {xs : List UInt8} {i : Nat} (h : i < xs.length) : (xs.map eB)[i]? = some [.int .u8 (xs[i].toNat : Int)] := by
 rw [List.getElem?_map, List.getElem?_eq_getElem h]; rfl
theorem e0V {xs : List UInt8} {i : Nat} (h : i < xs.length) : (vs (xs.map eB))[i]? = some [AV.v (.int .u8 (xs[i].toNat : Int))] := by
 rw [vs_get, e0B h]; rfl
theorem xorI {a b : Nat} (ha : a < 9223372036854775808) (hb : b < 9223372036854775808) : intOp .xor .i64 (a : Int) (b : Int) = some (.int .i64 ((a ^^^ b : Nat) : Int)) := by
 unfold intOp
 exact congrArg (fun z => some (IV.int .i64 z)) (i64_xor_nat a b ha hb)
theorem xorP {a : Nat} (ha : a < 9223372036854775808) : intOp .xor .i64 (a : Int) 4129 = some (.int .i64 ((a ^^^ 4129 : Nat) : Int)) := xorI ha (by decide)
theorem n65536 : ((65536 : Int) = 0) = False := by decide
theorem tmod65536 (c : Nat) : Int.tmod (c : Int) 65536 = ((c % 65536 : Nat) : Int) := by
 rw [Int.tmod_eq_emod_of_nonneg oM]
 omega
theorem crcBits_next {c k : Nat} : crcBits (k + 1) c = crcBit (crcBits k c) := rfl
theorem crcBit_hi {c : Nat} (h : 32768 ≤ c) : crcBit c = 2 * c % 65536 ^^^ 4129 := by unfold crcBit; rw [if_pos h]
theorem crcBit_lo {c : Nat} (h : ¬ 32768 ≤ c) : crcBit c = 2 * c := by unfold crcBit; rw [if_neg h]
theorem crc_nil0 : ((crc [] : Nat) : Int) = 65535 := by unfold crc; rfl
set_option maxHeartbeats 4000000 in
theorem sum_val (xs : List UInt8) (hl : xs.length ≤ 1000000000) (b l : List Row) :
  ACalls Try.prog 43 [.v (.isl 1 (xs.map eB))] b l (fun r b' l' => r = .v (.int .i64 (crc xs : Nat)) ∧ b' = b ∧ l' = l) := by
 refine calls_kept a_tsum_ok rfl (by decide) ?_
 intro B g hB hR hE hA
 simp only [KArgs] at hA
 simp (disch := (first | decide | omega)) only [a_tsum, hA, List.length_map, go_sem]
 refine loop_kept (ι := Nat) r_tsum0 (fun i => [(3, .v (.int .i64 (crc (xs.take i) : Nat))), (8, .v (.int .i64 i))]) 0 (fun i => []) (fun i => i ≤ xs.length) (fun i => xs.length - i) 0 (Nat.zero_le _) (by (repeat (first | exact hE.mono oM | refine KLt.up ?_ kL))) (by ((try simp (disch := decide) only [hA, List.take_zero, crc_nil0, go_sem]) <;> exact kH)) (fun e => Weak.refl _ _ _) ?_
 intro g1 hE1 hEE1 hg1 i hi
 by_cases hil : i < xs.length
 ·have gx := e0B hil
  have hx := xs[i].toNat_lt
  have hct := crc_take_succ xs i hil
  obtain ⟨c0, hc0⟩ : ∃ c, crc (xs.take i) = c := ⟨_, rfl⟩
  have hcl : c0 < 65536 := by rw [← hc0]; exact crc_lt _
  obtain ⟨x0, hx0⟩ : ∃ c, xs[i].toNat = c := ⟨_, rfl⟩
  rw [hx0] at hx
  have hsh : (x0 : Int) * 2 ^ Int.toNat 8 = ((256 * x0 : Nat) : Int) := by rw [show (2 : Int) ^ Int.toNat 8 = 256 from rfl]; omega
  have hsm : 256 * (x0 : Int) = ((256 * x0 : Nat) : Int) := by omega
  have hxl := xor16 hcl (show 256 * x0 < 65536 by omega)
  rw [hc0, crcByte_eq, hx0] at hct
  rw [hx0] at gx
  obtain ⟨c1, hc1⟩ : ∃ c, c0 ^^^ 256 * x0 = c := ⟨_, rfl⟩
  rw [hc1] at hct hxl
  simp (disch := (first | decide | omega)) only [hA, hg1, gx, hc0, hsh, hsm, ↓xorI, hc1, go_sem]
  refine loop_kept (ι := Nat) r_tsum1 (fun k => [(3, .v (.int .i64 (crcBits k c1 : Nat))), (17, .v (.int .i64 k))]) 0 (fun k => []) (fun k => k ≤ 8) (fun k => 8 - k) 0 (Nat.zero_le _) (by (repeat (first | exact hE1.mono oM | refine KLt.up ?_ kL))) (by ((try simp (disch := decide) only [hA, hg1, go_sem]) <;> exact kH)) (fun e => Weak.refl _ _ _) ?_
  intro g2 hE2 hEE2 hg2 k hk
  by_cases hk8 : k < 8
  ·have hbl := crcBits_lt hxl k
   have hn := crcBits_next (c := c1) (k := k)
   obtain ⟨u, hu⟩ : ∃ u, crcBits k c1 = u := ⟨_, rfl⟩
   rw [hu] at hbl hn
   have hd1 : decide ((k : Int) < 8) = true := decide_eq_true oM
   have hm : 2 * (u : Int) = ((2 * u : Nat) : Int) := by omega
   have hm' : (u : Int) * 2 = ((2 * u : Nat) : Int) := by omega
   have htm := tmod65536 (2 * u)
   by_cases hge : 32768 ≤ u
   ·have hd : decide ((u : Int) ≥ 32768) = true := decide_eq_true oM
    rw [crcBit_hi hge] at hn
    simp (disch := (first | decide | omega)) only [hA, hg1, hg2, hu, hd, hd1, hm, hm', htm, n65536, ↓xorP, go_sem]
    refine ⟨k + 1, hk8, by simp only; omega, ?_⟩
    rw [← hn]
    exact Weak.kround (p := r_tsum1) (k := 0) (by ((repeat refine (kAny_up rfl).trans ?_); exact hEE2)) (by ((try simp (disch := decide) only [hA, hg1, go_sem]) <;> exact kH)) rfl hE2 (by simp) kV hR kL
   ·have hd : decide ((u : Int) ≥ 32768) = false := decide_eq_false oM
    rw [crcBit_lo hge] at hn
    simp (disch := (first | decide | omega)) only [hA, hg1, hg2, hu, hd, hd1, hm, hm', htm, go_sem]
    refine ⟨k + 1, hk8, by simp only; omega, ?_⟩
    rw [← hn]
    exact Weak.kround (p := r_tsum1) (k := 0) (by ((repeat refine (kAny_up rfl).trans ?_); exact hEE2)) (by ((try simp (disch := decide) only [hA, hg1, go_sem]) <;> exact kH)) rfl hE2 (by simp) kV hR kL
  ·obtain rfl : k = 8 := by omega
   have hd1 : decide (((8 : Nat) : Int) < 8) = false := rfl
   rw [← hct]
   simp (disch := (first | decide | omega)) only [hA, hg1, hg2, hd1, go_sem]
   refine ⟨i + 1, hil, by simp only; omega, ?_⟩
   exact Weak.kround (p := r_tsum0) (k := 0) (by ((repeat refine (kAny_up rfl).trans ?_); refine (kAny_sub hg2 (kIn_sub rfl)).trans ?_; (repeat refine (kAny_up rfl).trans ?_); exact hEE1)) (by ((try simp (disch := decide) only [hA, hg1, go_sem]) <;> exact kH)) rfl hE1 (by simp) kV hR kL
 ·obtain rfl : i = xs.length := by omega
  simp (disch := (first | decide | omega)) only [hA, hg1, List.take_length, List.length_map, go_sem]
  exact leave_pure (xs := [.v (.int .i64 (crc xs : Nat))]) (.inr rfl) (by simp (disch := (first | decide | omega)) only [resVs, resV, go_sem, hA]) kO hR hB ⟨rfl, rfl, rfl⟩
set_option maxHeartbeats 4000000 in
theorem sum_own (id ver : Nat) (xs : List UInt8) (hl : xs.length ≤ 1000000000) (b l : List Row) (hg : hget b l id = some (bRow ver xs)) :
  ACalls Try.prog 43 [.sl id ver 0 xs.length] b l (fun r b' l' => r = .v (.int .i64 (crc xs : Nat)) ∧ b' = b ∧ l' = l) := by
 refine calls_kept a_tsum_ok rfl (by decide) ?_
 intro B g hB hR hE hA
 simp only [KArgs] at hA
 have hBi : B[id]? = some (bRow ver xs) := by rw [hB, ← hget_eq]; exact hg
 have hidB : id < B.length := (List.getElem?_eq_some_iff.1 hBi).1
 have hgB := hgetLo hBi
 unfold bRow at hgB
 simp (disch := (first | decide | omega)) only [a_tsum, hA, hgB, List.length_map, go_sem]
 refine loop_kept (ι := Nat) r_tsum0 (fun i => [(3, .v (.int .i64 (crc (xs.take i) : Nat))), (8, .v (.int .i64 i))]) 0 (fun i => []) (fun i => i ≤ xs.length) (fun i => xs.length - i) 0 (Nat.zero_le _) (by (repeat (first | exact hE.mono oM | refine KLt.up ?_ kL))) (by ((try simp (disch := decide) only [hA, List.take_zero, crc_nil0, go_sem]) <;> exact kH)) (fun e => Weak.refl _ _ _) ?_
 intro g1 hE1 hEE1 hg1 i hi
 by_cases hil : i < xs.length
 ·have gx := e0V hil
  have hx := xs[i].toNat_lt
  have hct := crc_take_succ xs i hil
  obtain ⟨c0, hc0⟩ : ∃ c, crc (xs.take i) = c := ⟨_, rfl⟩
  have hcl : c0 < 65536 := by rw [← hc0]; exact crc_lt _
  obtain ⟨x0, hx0⟩ : ∃ c, xs[i].toNat = c := ⟨_, rfl⟩
  rw [hx0] at hx
  have hsh : (x0 : Int) * 2 ^ Int.toNat 8 = ((256 * x0 : Nat) : Int) := by rw [show (2 : Int) ^ Int.toNat 8 = 256 from rfl]; omega
  have hsm : 256 * (x0 : Int) = ((256 * x0 : Nat) : Int) := by omega
  have hxl := xor16 hcl (show 256 * x0 < 65536 by omega)
  rw [hc0, crcByte_eq, hx0] at hct
  rw [hx0] at gx
  obtain ⟨c1, hc1⟩ : ∃ c, c0 ^^^ 256 * x0 = c := ⟨_, rfl⟩
  rw [hc1] at hct hxl
  simp (disch := (first | decide | omega)) only [hA, hg1, hgB, gx, hc0, hsh, hsm, ↓xorI, hc1, go_sem]
  refine loop_kept (ι := Nat) r_tsum1 (fun k => [(3, .v (.int .i64 (crcBits k c1 : Nat))), (17, .v (.int .i64 k))]) 0 (fun k => []) (fun k => k ≤ 8) (fun k => 8 - k) 0 (Nat.zero_le _) (by (repeat (first | exact hE1.mono oM | refine KLt.up ?_ kL))) (by ((try simp (disch := decide) only [hA, hg1, go_sem]) <;> exact kH)) (fun e => Weak.refl _ _ _) ?_
  intro g2 hE2 hEE2 hg2 k hk
  by_cases hk8 : k < 8
  ·have hbl := crcBits_lt hxl k
   have hn := crcBits_next (c := c1) (k := k)
   obtain ⟨u, hu⟩ : ∃ u, crcBits k c1 = u := ⟨_, rfl⟩
   rw [hu] at hbl hn
   have hd1 : decide ((k : Int) < 8) = true := decide_eq_true oM
   have hm : 2 * (u : Int) = ((2 * u : Nat) : Int) := by omega
   have hm' : (u : Int) * 2 = ((2 * u : Nat) : Int) := by omega
   have htm := tmod65536 (2 * u)
   by_cases hge : 32768 ≤ u
   ·have hd : decide ((u : Int) ≥ 32768) = true := decide_eq_true oM
    rw [crcBit_hi hge] at hn
    simp (disch := (first | decide | omega)) only [hA, hg1, hg2, hu, hd, hd1, hm, hm', htm, n65536, ↓xorP, go_sem]
    refine ⟨k + 1, hk8, by simp only; omega, ?_⟩
    rw [← hn]
    exact Weak.kround (p := r_tsum1) (k := 0) (by ((repeat refine (kAny_up rfl).trans ?_); exact hEE2)) (by ((try simp (disch := decide) only [hA, hg1, go_sem]) <;> exact kH)) rfl hE2 (by simp) kV hR kL
   ·have hd : decide ((u : Int) ≥ 32768) = false := decide_eq_false oM
    rw [crcBit_lo hge] at hn
    simp (disch := (first | decide | omega)) only [hA, hg1, hg2, hu, hd, hd1, hm, hm', htm, go_sem]
    refine ⟨k + 1, hk8, by simp only; omega, ?_⟩
    rw [← hn]
    exact Weak.kround (p := r_tsum1) (k := 0) (by ((repeat refine (kAny_up rfl).trans ?_); exact hEE2)) (by ((try simp (disch := decide) only [hA, hg1, go_sem]) <;> exact kH)) rfl hE2 (by simp) kV hR kL
  ·obtain rfl : k = 8 := by omega
   have hd1 : decide (((8 : Nat) : Int) < 8) = false := rfl
   rw [← hct]
   simp (disch := (first | decide | omega)) only [hA, hg1, hg2, hd1, go_sem]
   refine ⟨i + 1, hil, by simp only; omega, ?_⟩
   exact Weak.kround (p := r_tsum0) (k := 0) (by ((repeat refine (kAny_up rfl).trans ?_); refine (kAny_sub hg2 (kIn_sub rfl)).trans ?_; (repeat refine (kAny_up rfl).trans ?_); exact hEE1)) (by ((try simp (disch := decide) only [hA, hg1, go_sem]) <;> exact kH)) rfl hE1 (by simp) kV hR kL
 ·obtain rfl : i = xs.length := by omega
  simp (disch := (first | decide | omega)) only [hA, hg1, hgB, List.take_length, List.length_map, go_sem]
  exact leave_pure (xs := [.v (.int .i64 (crc xs : Nat))]) (.inr rfl) (by simp (disch := (first | decide | omega)) only [resVs, resV, go_sem, hA]) kO hR hB ⟨rfl, rfl, rfl⟩
set_option maxHeartbeats 4000000 in
theorem rsum_val (xs : List UInt8) (hl : xs.length ≤ 1000000000) (b l : List Row) :
  ACalls Try.prog 113 [.v (.isl 1 (xs.map eB))] b l (fun r b' l' => r = .v (.int .i64 (crc xs : Nat)) ∧ b' = b ∧ l' = l) := by
 refine calls_kept a_rtsum_ok rfl (by decide) ?_
 intro B g hB hR hE hA
 simp only [KArgs] at hA
 simp (disch := (first | decide | omega)) only [a_rtsum, hA, List.length_map, go_sem]
 refine loop_kept (ι := Nat) r_rtsum0 (fun i => [(3, .v (.int .i64 (crc (xs.take i) : Nat))), (4, .v (.int .i64 i))]) 0 (fun i => []) (fun i => i ≤ xs.length) (fun i => xs.length - i) 0 (Nat.zero_le _) (by (repeat (first | exact hE.mono oM | refine KLt.up ?_ kL))) (by ((try simp (disch := decide) only [hA, List.take_zero, crc_nil0, go_sem]) <;> exact kH)) (fun e => Weak.refl _ _ _) ?_
 intro g1 hE1 hEE1 hg1 i hi
 by_cases hil : i < xs.length
 ·have gx := e0B hil
  have hx := xs[i].toNat_lt
  have hct := crc_take_succ xs i hil
  obtain ⟨c0, hc0⟩ : ∃ c, crc (xs.take i) = c := ⟨_, rfl⟩
  have hcl : c0 < 65536 := by rw [← hc0]; exact crc_lt _
  obtain ⟨x0, hx0⟩ : ∃ c, xs[i].toNat = c := ⟨_, rfl⟩
  rw [hx0] at hx
  have hsh : (x0 : Int) * 2 ^ Int.toNat 8 = ((256 * x0 : Nat) : Int) := by rw [show (2 : Int) ^ Int.toNat 8 = 256 from rfl]; omega
  have hsm : 256 * (x0 : Int) = ((256 * x0 : Nat) : Int) := by omega
  have hxl := xor16 hcl (show 256 * x0 < 65536 by omega)
  rw [hc0, crcByte_eq, hx0] at hct
  rw [hx0] at gx
  obtain ⟨c1, hc1⟩ : ∃ c, c0 ^^^ 256 * x0 = c := ⟨_, rfl⟩
  rw [hc1] at hct hxl
  simp (disch := (first | decide | omega)) only [hA, hg1, gx, hc0, hsh, hsm, ↓xorI, hc1, go_sem]
  refine loop_kept (ι := Nat) r_rtsum1 (fun k => [(3, .v (.int .i64 (crcBits k c1 : Nat))), (5, .v (.int .i64 k))]) 0 (fun k => []) (fun k => k ≤ 8) (fun k => 8 - k) 0 (Nat.zero_le _) (by (repeat (first | exact hE1.mono oM | refine KLt.up ?_ kL))) (by ((try simp (disch := decide) only [hA, hg1, go_sem]) <;> exact kH)) (fun e => Weak.refl _ _ _) ?_
  intro g2 hE2 hEE2 hg2 k hk
  by_cases hk8 : k < 8
  ·have hbl := crcBits_lt hxl k
   have hn := crcBits_next (c := c1) (k := k)
   obtain ⟨u, hu⟩ : ∃ u, crcBits k c1 = u := ⟨_, rfl⟩
   rw [hu] at hbl hn
   have hd1 : decide ((k : Int) < 8) = true := decide_eq_true oM
   have hm : 2 * (u : Int) = ((2 * u : Nat) : Int) := by omega
   have hm' : (u : Int) * 2 = ((2 * u : Nat) : Int) := by omega
   have htm := tmod65536 (2 * u)
   by_cases hge : 32768 ≤ u
   ·have hd : decide ((u : Int) ≥ 32768) = true := decide_eq_true oM
    rw [crcBit_hi hge] at hn
    simp (disch := (first | decide | omega)) only [hA, hg1, hg2, hu, hd, hd1, hm, hm', htm, n65536, ↓xorP, go_sem]
    refine ⟨k + 1, hk8, by simp only; omega, ?_⟩
    rw [← hn]
    exact Weak.kround (p := r_rtsum1) (k := 0) (by ((repeat refine (kAny_up rfl).trans ?_); exact hEE2)) (by ((try simp (disch := decide) only [hA, hg1, go_sem]) <;> exact kH)) rfl hE2 (by simp) kV hR kL
   ·have hd : decide ((u : Int) ≥ 32768) = false := decide_eq_false oM
    rw [crcBit_lo hge] at hn
    simp (disch := (first | decide | omega)) only [hA, hg1, hg2, hu, hd, hd1, hm, hm', htm, go_sem]
    refine ⟨k + 1, hk8, by simp only; omega, ?_⟩
    rw [← hn]
    exact Weak.kround (p := r_rtsum1) (k := 0) (by ((repeat refine (kAny_up rfl).trans ?_); exact hEE2)) (by ((try simp (disch := decide) only [hA, hg1, go_sem]) <;> exact kH)) rfl hE2 (by simp) kV hR kL
  ·obtain rfl : k = 8 := by omega
   have hd1 : decide (((8 : Nat) : Int) < 8) = false := rfl
   rw [← hct]
   simp (disch := (first | decide | omega)) only [hA, hg1, hg2, hd1, go_sem]
   refine ⟨i + 1, hil, by simp only; omega, ?_⟩
   exact Weak.kround (p := r_rtsum0) (k := 0) (by ((repeat refine (kAny_up rfl).trans ?_); refine (kAny_sub hg2 (kIn_sub rfl)).trans ?_; (repeat refine (kAny_up rfl).trans ?_); exact hEE1)) (by ((try simp (disch := decide) only [hA, hg1, go_sem]) <;> exact kH)) rfl hE1 (by simp) kV hR kL
 ·obtain rfl : i = xs.length := by omega
  simp (disch := (first | decide | omega)) only [hA, hg1, List.take_length, List.length_map, go_sem]
  exact leave_pure (xs := [.v (.int .i64 (crc xs : Nat))]) (.inr rfl) (by simp (disch := (first | decide | omega)) only [resVs, resV, go_sem, hA]) kO hR hB ⟨rfl, rfl, rfl⟩
set_option maxHeartbeats 4000000 in
theorem rsum_own (id ver : Nat) (xs : List UInt8) (hl : xs.length ≤ 1000000000) (b l : List Row) (hg : hget b l id = some (bRow ver xs)) :
  ACalls Try.prog 113 [.sl id ver 0 xs.length] b l (fun r b' l' => r = .v (.int .i64 (crc xs : Nat)) ∧ b' = b ∧ l' = l) := by
 refine calls_kept a_rtsum_ok rfl (by decide) ?_
 intro B g hB hR hE hA
 simp only [KArgs] at hA
 have hBi : B[id]? = some (bRow ver xs) := by rw [hB, ← hget_eq]; exact hg
 have hidB : id < B.length := (List.getElem?_eq_some_iff.1 hBi).1
 have hgB := hgetLo hBi
 unfold bRow at hgB
 simp (disch := (first | decide | omega)) only [a_rtsum, hA, hgB, List.length_map, go_sem]
 refine loop_kept (ι := Nat) r_rtsum0 (fun i => [(3, .v (.int .i64 (crc (xs.take i) : Nat))), (4, .v (.int .i64 i))]) 0 (fun i => []) (fun i => i ≤ xs.length) (fun i => xs.length - i) 0 (Nat.zero_le _) (by (repeat (first | exact hE.mono oM | refine KLt.up ?_ kL))) (by ((try simp (disch := decide) only [hA, List.take_zero, crc_nil0, go_sem]) <;> exact kH)) (fun e => Weak.refl _ _ _) ?_
 intro g1 hE1 hEE1 hg1 i hi
 by_cases hil : i < xs.length
 ·have gx := e0V hil
  have hx := xs[i].toNat_lt
  have hct := crc_take_succ xs i hil
  obtain ⟨c0, hc0⟩ : ∃ c, crc (xs.take i) = c := ⟨_, rfl⟩
  have hcl : c0 < 65536 := by rw [← hc0]; exact crc_lt _
  obtain ⟨x0, hx0⟩ : ∃ c, xs[i].toNat = c := ⟨_, rfl⟩
  rw [hx0] at hx
  have hsh : (x0 : Int) * 2 ^ Int.toNat 8 = ((256 * x0 : Nat) : Int) := by rw [show (2 : Int) ^ Int.toNat 8 = 256 from rfl]; omega
  have hsm : 256 * (x0 : Int) = ((256 * x0 : Nat) : Int) := by omega
  have hxl := xor16 hcl (show 256 * x0 < 65536 by omega)
  rw [hc0, crcByte_eq, hx0] at hct
  rw [hx0] at gx
  obtain ⟨c1, hc1⟩ : ∃ c, c0 ^^^ 256 * x0 = c := ⟨_, rfl⟩
  rw [hc1] at hct hxl
  simp (disch := (first | decide | omega)) only [hA, hg1, hgB, gx, hc0, hsh, hsm, ↓xorI, hc1, go_sem]
  refine loop_kept (ι := Nat) r_rtsum1 (fun k => [(3, .v (.int .i64 (crcBits k c1 : Nat))), (5, .v (.int .i64 k))]) 0 (fun k => []) (fun k => k ≤ 8) (fun k => 8 - k) 0 (Nat.zero_le _) (by (repeat (first | exact hE1.mono oM | refine KLt.up ?_ kL))) (by ((try simp (disch := decide) only [hA, hg1, go_sem]) <;> exact kH)) (fun e => Weak.refl _ _ _) ?_
  intro g2 hE2 hEE2 hg2 k hk
  by_cases hk8 : k < 8
  ·have hbl := crcBits_lt hxl k
   have hn := crcBits_next (c := c1) (k := k)
   obtain ⟨u, hu⟩ : ∃ u, crcBits k c1 = u := ⟨_, rfl⟩
   rw [hu] at hbl hn
   have hd1 : decide ((k : Int) < 8) = true := decide_eq_true oM
   have hm : 2 * (u : Int) = ((2 * u : Nat) : Int) := by omega
   have hm' : (u : Int) * 2 = ((2 * u : Nat) : Int) := by omega
   have htm := tmod65536 (2 * u)
   by_cases hge : 32768 ≤ u
   ·have hd : decide ((u : Int) ≥ 32768) = true := decide_eq_true oM
    rw [crcBit_hi hge] at hn
    simp (disch := (first | decide | omega)) only [hA, hg1, hg2, hu, hd, hd1, hm, hm', htm, n65536, ↓xorP, go_sem]
    refine ⟨k + 1, hk8, by simp only; omega, ?_⟩
    rw [← hn]
    exact Weak.kround (p := r_rtsum1) (k := 0) (by ((repeat refine (kAny_up rfl).trans ?_); exact hEE2)) (by ((try simp (disch := decide) only [hA, hg1, go_sem]) <;> exact kH)) rfl hE2 (by simp) kV hR kL
   ·have hd : decide ((u : Int) ≥ 32768) = false := decide_eq_false oM
    rw [crcBit_lo hge] at hn
    simp (disch := (first | decide | omega)) only [hA, hg1, hg2, hu, hd, hd1, hm, hm', htm, go_sem]
    refine ⟨k + 1, hk8, by simp only; omega, ?_⟩
    rw [← hn]
    exact Weak.kround (p := r_rtsum1) (k := 0) (by ((repeat refine (kAny_up rfl).trans ?_); exact hEE2)) (by ((try simp (disch := decide) only [hA, hg1, go_sem]) <;> exact kH)) rfl hE2 (by simp) kV hR kL
  ·obtain rfl : k = 8 := by omega
   have hd1 : decide (((8 : Nat) : Int) < 8) = false := rfl
   rw [← hct]
   simp (disch := (first | decide | omega)) only [hA, hg1, hg2, hd1, go_sem]
   refine ⟨i + 1, hil, by simp only; omega, ?_⟩
   exact Weak.kround (p := r_rtsum0) (k := 0) (by ((repeat refine (kAny_up rfl).trans ?_); refine (kAny_sub hg2 (kIn_sub rfl)).trans ?_; (repeat refine (kAny_up rfl).trans ?_); exact hEE1)) (by ((try simp (disch := decide) only [hA, hg1, go_sem]) <;> exact kH)) rfl hE1 (by simp) kV hR kL
 ·obtain rfl : i = xs.length := by omega
  simp (disch := (first | decide | omega)) only [hA, hg1, hgB, List.take_length, List.length_map, go_sem]
  exact leave_pure (xs := [.v (.int .i64 (crc xs : Nat))]) (.inr rfl) (by simp (disch := (first | decide | omega)) only [resVs, resV, go_sem, hA]) kO hR hB ⟨rfl, rfl, rfl⟩
def a_tsummed : AFunc := ⟨1,14,[.tmp 2],(.seq (.region [⟨some 2,.mv (.c (.v .zsl)),none⟩]) (.seq (.region [⟨some 4,.mv (.t 0),none⟩,⟨some 5,.call (.c (.fn 43 [])) [(.t 4)],none⟩,⟨some 3,.mv (.t 5),none⟩]) (.seq (.region [⟨some 6,.mv (.t 0),none⟩,⟨some 7,.mv (.t 3),none⟩,⟨some 8,.bin .shr (.t 7) (.c (.v (.int .u64 8))),none⟩,⟨some 9,.conv .u8 (.t 8),none⟩,⟨some 10,.mv (.t 3),none⟩,⟨some 11,.conv .u8 (.t 10),none⟩,⟨some 12,.bslice 1 [(.v (.int .u8 0))] 2 [(0,(.t 9)),(1,(.t 11))],none⟩,⟨some 13,.append 1 1 (.t 6) (.t 12),none⟩,⟨some 2,.mv (.t 13),none⟩]) .ret)))⟩
theorem a_tsummed_ok : cFunc Try.prog 107 = some a_tsummed := by kernel_rfl
def a_rtsummed : AFunc := ⟨1,17,[.tmp 2],(.seq (.region [⟨some 2,.mv (.c (.v .zsl)),none⟩]) (.seq (.region [⟨some 4,.mv (.t 0),none⟩,⟨some 5,.call (.c (.fn 113 [])) [(.t 4)],none⟩,⟨some 3,.mv (.t 5),none⟩]) (.seq (.region [⟨some 6,.bslice 1 [(.v (.int .u8 0))] 0 [],none⟩,⟨some 7,.mv (.t 0),none⟩,⟨some 8,.append 1 1 (.t 6) (.t 7),none⟩,⟨some 9,.mv (.t 3),none⟩,⟨some 10,.bin .quo (.t 9) (.c (.v (.int .i64 256))),none⟩,⟨some 11,.conv .u8 (.t 10),none⟩,⟨some 12,.mv (.t 3),none⟩,⟨some 13,.bin .rem (.t 12) (.c (.v (.int .i64 256))),none⟩,⟨some 14,.conv .u8 (.t 13),none⟩,⟨some 15,.bslice 1 [(.v (.int .u8 0))] 2 [(0,(.t 11)),(1,(.t 14))],none⟩,⟨some 16,.append 1 1 (.t 8) (.t 15),none⟩,⟨some 2,.mv (.t 16),none⟩]) .ret)))⟩
theorem a_rtsummed_ok : cFunc Try.prog 109 = some a_rtsummed := by kernel_rfl

theorem leave_low {rs : List ARes} {B b l : List Row} {e : List AV} {L : List Row} {ex : AExit} (hex : ex = .normal ∨ ex = .ret) {id : Nat} {R : Row} (hB : B = b ++ l) {xs : List AV} (hx : resVs e (B.set id R) L rs = some xs) {x : AV} (ho : one xs = x) (hlt : AVlt (B.set id R).length x) (hR : RowsLt (B.set id R).length (B.set id R)) :
  Leaves rs (fun r b' l' => r = x ∧ b' = hsetB b id R ∧ l' = hsetL b l id R) b.length ex e (B.set id R) L := by
 have hBe : B.set id R = hsetB b id R ++ hsetL b l id R := by rw [hset_eq, ← hB]
 rw [← hsetB_len b id R]
 exact leave_pure hex hx (by rw [ho]; exact hlt) hR hBe ⟨ho, rfl, rfl⟩
theorem ACalls.nilarg {P : Program} {f : Nat} {args args' : List AV} {b l : List Row} {sz : Nat} {Q : AV → List Row → List Row → Prop} (hl : args.length = args'.length)
  (hd : ∀ (i : Nat) (x y : AV), args[i]? = some x → args'[i]? = some y → y = x ∨ (x = .v .zsl ∧ y = .sl (b.length + l.length) 0 0 0)) (h : ACalls P f args' b (l ++ [.live 0 sz []]) Q) : ACalls P f args b l Q := by
 refine ⟨h.1, fun F L w us s hr => ?_⟩
 obtain ⟨L', s', hLn, hLm, st⟩ := nil_core (sz := sz) F L w s
 have hrep : RepL w F L' args' us.toList := ⟨by rw [← hl]; exact hr.1, fun j y v hy hv => by
  have hil := (List.getElem?_eq_some_iff.1 hy).1
  have hx : args[j]? = some args[j] := List.getElem?_eq_getElem oM
  have h2 := hr.2 j _ v hx hv
  rcases hd j _ y hx hy with rfl | ⟨h3, rfl⟩
  ·exact h2.mono (fun _ h => h) (fun _ _ => rfl) hLm
  ·rw [h3] at h2
   cases h2.vI
   exact .sln _ _ _ hLn⟩
 refine Calls.mono (h.2 F L' w us s' hrep) ?_
 rintro en w' ⟨v, x, b', l', F2, L2, h1, h2, h3, h4, h5, h6⟩
 have hs : Step (b ++ l).length F L (b ++ l) w F L' (b ++ (l ++ [.live 0 sz []])) w := ⟨st.imm, fun id ver q _ hq => hLm id ver q hq, st.os, st.tape, st.output, st.size, st.block, st.own, fun id hid v hv => by rw [← List.append_assoc, List.getElem?_append_left hid]; exact hv, st.fnew⟩
 exact ⟨v, x, b', l', F2, L2, h1, h2, h3, hs.trans (h4.weaken (by simp)), h5, h6⟩
theorem put_nil (n : Int) (h1 : -1152921504606846976 ≤ n) (h2 : n ≤ 1152921504606846976) (b l : List Row) :
  ACalls Try.prog 105 [.v .zsl, .v (.int .i64 n)] b l (fun r b' l' => r = .sl (b.length + l.length) (putL n).length 0 (putL n).length ∧ b' = b ∧ l' = l ++ [bRow (putL n).length (putL n)]) := by
 refine ACalls.nilarg (args' := [.sl (b.length + l.length) 0 0 0, .v (.int .i64 n)]) (sz := 1) rfl (fun i x y hx hy => ?_) ?_
 ·match i, hx, hy with
  | 0, hx, hy => cases hx; cases hy; exact .inr ⟨rfl, rfl⟩
  | 1, hx, hy => cases hx; cases hy; exact .inl rfl
  | i + 2, hx, hy => simp at hx
 ·refine ACalls_mono _ _ _ _ _ _ (put_spec (b.length + l.length) 0 [] (by decide) n h1 h2 b (l ++ [bRow 0 []]) (by rw [hget_at, List.getElem?_append_right (Nat.le_refl _), Nat.sub_self]; rfl)) ?_
  rintro r b' l' ⟨rfl, rfl, rfl⟩
  simp only [List.nil_append, Nat.zero_add]
  refine ⟨trivial, hsetB_at, ?_⟩
  rw [hsetL_at, List.set_append_right _ _ (Nat.le_refl _), Nat.sub_self]
  rfl
set_option maxHeartbeats 4000000 in
theorem name_spec (id ver : Nat) (xs : List UInt8) (hl : xs.length ≤ 100000000) (s : ByteArray) (hs : s.size ≤ 1000000) (b l : List Row) (hg : hget b l id = some (bRow ver xs)) :
  ACalls Try.prog 106 [.sl id ver 0 xs.length, .v (.str s)] b l (fun r b' l' => r = .sl id (ver + (putL s.size).length + 1) 0 (xs ++ namC s).length ∧ b' = hsetB b id (bRow (ver + (putL s.size).length + 1) (xs ++ namC s)) ∧ l' = hsetL b l id (bRow (ver + (putL s.size).length + 1) (xs ++ namC s))) := by
 refine calls_kept a_tname_ok rfl (by decide) ?_
 intro B g hB hR hE hA
 simp only [KArgs] at hA
 have hBi : B[id]? = some (bRow ver xs) := by rw [hB, ← hget_eq]; exact hg
 have hidB : id < B.length := (List.getElem?_eq_some_iff.1 hBi).1
 have hgB := hgetLo hBi
 obtain ⟨gS, sB, sL, sB0, sL0, sN⟩ := low_facts hidB
 have hlp := putN_len 10 (zig s.size)
 have hlp2 : (putL s.size).length ≤ 11 := hlp.2
 have hsl : s.data.toList.length = s.size := Array.length_toList
 simp (disch := (first | decide | omega)) only [a_tname, hA, go_sem]
 refine ACalls.nxt (put_spec id ver xs oM s.size oM oM _ _ (hgB _)) ?_
 have hsv := str_vs s
 have htk : List.take (xs ++ putL s.size).length ((xs ++ putL s.size).map eB) = (xs ++ putL s.size).map eB := List.take_of_length_le (by rw [List.length_map]; exact Nat.le_refl _)
 obtain ⟨W, hW⟩ : ∃ W, xs ++ putL s.size = W := ⟨_, rfl⟩
 have hWl : W.length ≤ 100000011 := by rw [← hW, List.length_append]; omega
 have hcc : xs ++ namC s = W ++ s.data.toList := by rw [← hW, namC, List.append_assoc]
 rw [hW] at htk
 rw [hcc]
 have hvv : vs (W.map eB) ++ vs (s.data.toList.map eB) = vs ((W ++ s.data.toList).map eB) := by unfold vs; simp
 have hlen : W.length + s.data.toList.length = xs.length + (namC s).length := by rw [← hW]; unfold namC; simp only [List.length_append]; omega
 simp (disch := (first | decide | omega)) only [hA, hW, sB0, sL0, sB, sL, gS, bRow, hsv, htk, hvv, hlen, List.length_map, go_sem]
 exact leave_low (R := bRow _ _) (xs := [.sl id (ver + (putL s.size).length + 1) 0 (xs.length + (namC s).length)]) (.inr rfl) hB (by simp (disch := (first | decide | omega)) only [resVs, resV, hA, go_sem]) rfl (by simp (disch := omega) only [sN, lts.down, Nat.reduceLT, Nat.reduceAdd]) hR.bset
theorem byte_two {s : Nat} (h : s < 65536) : IntKind.u8.wrap ((s / 256 : Nat) : Int) = ((s / 256 : Nat) : Int) ∧ IntKind.u8.wrap (s : Int) = ((s % 256 : Nat) : Int) ∧ IntKind.u8.wrap ((s % 256 : Nat) : Int) = ((s % 256 : Nat) : Int) :=
 ⟨wrap8 oM, by simp [IntKind.wrap, IntKind.signed, IntKind.bits], wrap8 oM⟩
theorem bRow_sum {xs : List UInt8} {s : Nat} (h : s < 65536) : vs (xs.map eB) ++ [[AV.v (.int .u8 ((s / 256 : Nat) : Int))], [AV.v (.int .u8 ((s % 256 : Nat) : Int))]] = vs ((xs ++ [UInt8.ofNat (s / 256), UInt8.ofNat (s % 256)]).map eB) := by
 rw [eB_of (show s / 256 < 256 by omega), eB_of (show s % 256 < 256 by omega)]
 unfold vs
 simp
set_option maxHeartbeats 4000000 in
theorem summed_spec (id ver : Nat) (xs : List UInt8) (hl : xs.length ≤ 100000000) (b l : List Row) (hg : hget b l id = some (bRow ver xs)) :
  ACalls Try.prog 107 [.sl id ver 0 xs.length] b l (fun r b' l' => r = .sl id (ver + 1) 0 (sumL xs).length ∧ b' = hsetB b id (bRow (ver + 1) (sumL xs)) ∧ l' = hsetL b l id (bRow (ver + 1) (sumL xs))) := by
 refine calls_kept a_tsummed_ok rfl (by decide) ?_
 intro B g hB hR hE hA
 simp only [KArgs] at hA
 have hBi : B[id]? = some (bRow ver xs) := by rw [hB, ← hget_eq]; exact hg
 have hidB : id < B.length := (List.getElem?_eq_some_iff.1 hBi).1
 have hgB := hgetLo hBi
 obtain ⟨gS, sB, sL, sB0, sL0, sN⟩ := low_facts hidB
 have hc := crc_lt xs
 obtain ⟨c, hcc⟩ : ∃ c, crc xs = c := ⟨_, rfl⟩
 have hsl : (sumL xs).length = xs.length + 2 := sumL_length xs
 have hse : sumL xs = xs ++ [UInt8.ofNat (c / 256), UInt8.ofNat (c % 256)] := by rw [← hcc]; rfl
 rw [hcc] at hc
 have htk : List.take xs.length (xs.map eB) = xs.map eB := List.take_of_length_le (by rw [List.length_map]; exact Nat.le_refl _)
 obtain ⟨w1, w2, w3⟩ := byte_two hc
 have hq : Int.fdiv (c : Int) (2 ^ Int.toNat 8) = ((c / 256 : Nat) : Int) := by
  rw [show (2 : Int) ^ Int.toNat 8 = 256 from rfl, Int.fdiv_eq_ediv_of_nonneg _ oM]; rfl
 have hsn := bRow_sum (xs := xs) hc
 rw [← hse] at hsn
 simp (disch := (first | decide | omega)) only [a_tsummed, hA, go_sem]
 refine ACalls.nxt (sum_own id ver xs oM _ _ (hgB _)) ?_
 unfold bRow at hgB
 simp (disch := (first | decide | omega)) only [hA, hcc, hq, w1, w2, w3, hgB, sB0, sL0, sB, sL, gS, htk, hsn, hsl, List.length_map, List.replicate_succ, List.replicate_zero, go_sem]
 exact leave_low (R := bRow _ _) (xs := [.sl id (ver + 1) 0 (xs.length + 2)]) (.inr rfl) hB (by simp (disch := (first | decide | omega)) only [resVs, resV, hA, go_sem]) rfl (by simp (disch := omega) only [sN, lts.down, Nat.reduceLT, Nat.reduceAdd]) hR.bset
set_option maxHeartbeats 4000000 in
theorem rsummed_spec (id ver : Nat) (xs : List UInt8) (hl : xs.length ≤ 100000000) (b l : List Row) (hg : hget b l id = some (bRow ver xs)) :
  ACalls Try.prog 109 [.sl id ver 0 xs.length] b l (fun r b' l' => r = .v (.isl 1 ((sumL xs).map eB)) ∧ b' = b ∧ l' = l) := by
 refine calls_kept a_rtsummed_ok rfl (by decide) ?_
 intro B g hB hR hE hA
 simp only [KArgs] at hA
 have hBi : B[id]? = some (bRow ver xs) := by rw [hB, ← hget_eq]; exact hg
 have hidB : id < B.length := (List.getElem?_eq_some_iff.1 hBi).1
 have hgB := hgetLo hBi
 have hc := crc_lt xs
 obtain ⟨c, hcc⟩ : ∃ c, crc xs = c := ⟨_, rfl⟩
 have hsl : (sumL xs).length = xs.length + 2 := sumL_length xs
 have hse : sumL xs = xs ++ [UInt8.ofNat (c / 256), UInt8.ofNat (c % 256)] := by rw [← hcc]; rfl
 rw [hcc] at hc
 have htk : List.take xs.length (xs.map eB) = xs.map eB := List.take_of_length_le (by rw [List.length_map]; exact Nat.le_refl _)
 obtain ⟨w1, w2, w3⟩ := byte_two hc
 have n256 : ((256 : Int) = 0) = False := by decide
 have hq : Int.tdiv (c : Int) 256 = ((c / 256 : Nat) : Int) := rfl
 have hr : Int.tmod (c : Int) 256 = ((c % 256 : Nat) : Int) := rfl
 have hsn := bRow_sum (xs := xs) hc
 rw [← hse] at hsn
 simp (disch := (first | decide | omega)) only [a_rtsummed, hA, go_sem]
 refine ACalls.nxt (rsum_own id ver xs oM _ _ (hgB _)) ?_
 unfold bRow at hgB
 simp (disch := (first | decide | omega)) only [hA, hcc, hq, hr, w1, w2, w3, n256, hgB, htk, hsn, hsl, List.length_map, List.replicate_succ, List.replicate_zero, go_sem]
 exact leave_deep (.inr rfl) (xs := [.sl B.length 2 0 (xs.length + 2)]) (by simp (disch := (first | decide | omega)) only [resVs, resV, hA, go_sem]) (y := .v (.isl 1 ((sumL xs).map eB))) (Dv.slV (i := 0) rfl (by simp [hsl])) hR hB ⟨rfl, rfl, rfl⟩
end Go.Proofs.Ytanblnhnfkeffaa
