/- Texts of one proof, laid together: Q1, Q2, Q3, Q4. No condition. -/
import Derived.Test.YtnihdkfmmbpilaaDoorPC23
import Derived.Test.YtnihdkfmmbpilaaDoorPK8
import Derived.Test.YtnihdkfmmbpilaaDoorPK12
import Derived.Test.YtnihdkfmmbpilaaDoorPK2
import Derived.Test.YtnihdkfmmbpilaaDoorPK15
import Derived.Test.YtnihdkfmmbpilaaDoorPK11
import Derived.Test.YtnihdkfmmbpilaaDoorPK10
import Derived.Lib.TrailingZeros
import Derived.Test.YtnihdkfmmbpilaaDoorProg
import Derived.Shelf.Spec.TrailingZeros
import Derived.KernelRfl
namespace Go.Proofs.YtnihdkfmmbpilaaDoor
set_option linter.unusedVariables false
def ones (w : Nat) : List Nat := (List.range 64).filter fun i => w.testBit i
theorem ones_zero : ones 0 = [] := by decide +kernel
theorem low_form {w : Nat} (h0 : w ≠ 0) (h : w < 2 ^ 64) : ∃ m, w = 2 ^ Lib.ctz 64 w * (2 * m + 1) ∧ Lib.ctz 64 w < 64 := by
 unfold Lib.ctz
 rw [if_neg h0]
 exact Lib.ctzFrom_spec 64 w oM h
theorem odd_bit (m j : Nat) : (2 * m + 1).testBit (j + 1) = m.testBit j := by
 rw [Nat.testBit_succ]
 congr 1
 omega
theorem even_bit (m j : Nat) : (2 * m).testBit (j + 1) = m.testBit j := by
 rw [Nat.testBit_succ]
 congr 1
 omega
theorem low_bit {w : Nat} (h0 : w ≠ 0) (h : w < 2 ^ 64) : w.testBit (Lib.ctz 64 w) = true ∧ (∀ i, i < Lib.ctz 64 w → w.testBit i = false) ∧ Lib.ctz 64 w < 64 := by
 obtain ⟨m, h1, h2⟩ := low_form h0 h
 generalize Lib.ctz 64 w = k at h1 h2
 subst h1
 refine ⟨?_, fun i hi => ?_, h2⟩
 ·rw [Nat.testBit_two_pow_mul]
  simp
 ·rw [Nat.testBit_two_pow_mul]
  simp
  omega
theorem rest_bit {w : Nat} (h0 : w ≠ 0) (h : w < 2 ^ 64) (j : Nat) : (w &&& (w - 1)).testBit j = (w.testBit j && !(j == Lib.ctz 64 w)) := by
 obtain ⟨m, h1, h2⟩ := low_form h0 h
 generalize Lib.ctz 64 w = k at h1 h2
 subst h1
 have hp : 0 < 2 ^ k := Nat.two_pow_pos k
 have e : 2 ^ k * (2 * m + 1) - 1 = 2 ^ k * (2 * m) + (2 ^ k - 1) := by rw [Nat.mul_add]; omega
 rw [Nat.testBit_and, e, Nat.testBit_two_pow_mul, Nat.testBit_two_pow_mul_add _ oM]
 rcases Nat.lt_trichotomy j k with hj | rfl | hj
 ·have : ¬ (j ≥ k) := by omega
  simp [this]
 ·simp
 ·obtain ⟨x, rfl⟩ : ∃ x, j = k + (x + 1) := ⟨j - k - 1, by omega⟩
  have h3 : k + (x + 1) - k = x + 1 := by omega
  have h4 : ¬ (k + (x + 1) < k) := by omega
  have h5 : k + (x + 1) ≥ k := by omega
  have h6 : (k + (x + 1) == k) = false := by simp
  rw [h3, if_neg h4, odd_bit, even_bit, h6]
  simp
theorem filter_low {n k : Nat} {p : Nat → Bool} (hk : k < n) (h1 : p k = true) (h2 : ∀ i, i < k → p i = false) : (List.range n).filter p = k :: (List.range n).filter (fun i => p i && !(i == k)) := by
 have e : List.range n = List.range k ++ k :: (List.range (n - k - 1)).map (· + (k + 1)) := by
  apply List.ext_getElem?
  intro i
  rcases Nat.lt_trichotomy i k with hi | rfl | hi
  ·rw [List.getElem?_append_left (by simpa using hi), List.getElem?_range oM, List.getElem?_range hi]
  ·rw [List.getElem?_append_right (by simp), List.getElem?_range hk]; simp
  ·rw [List.getElem?_append_right (by simp; omega), List.length_range]
   obtain ⟨x, rfl⟩ : ∃ x, i = k + 1 + x := ⟨i - k - 1, by omega⟩
   rw [show k + 1 + x - k = x + 1 by omega, List.getElem?_cons_succ, List.getElem?_map]
   by_cases hx : k + 1 + x < n
   ·rw [List.getElem?_range hx, List.getElem?_range oM]; simp; omega
   ·rw [List.getElem?_eq_none (by simp; omega), List.getElem?_eq_none (by simp; omega)]; rfl
 have a1 : (List.range k).filter p = [] := List.filter_eq_nil_iff.2 (fun i hi => by rw [h2 i (by simpa using hi)]; simp)
 have a2 : (List.range k).filter (fun i => p i && !(i == k)) = [] := List.filter_eq_nil_iff.2 (fun i hi => by rw [h2 i (by simpa using hi)]; simp)
 have a3 : ∀ l : List Nat, (l.map (· + (k + 1))).filter p = (l.map (· + (k + 1))).filter (fun i => p i && !(i == k)) := fun l => List.filter_congr (fun i hi => by
  obtain ⟨x, _, rfl⟩ := List.mem_map.1 hi
  have : (x + (k + 1) == k) = false := by simp; omega
  rw [this]; simp)
 rw [e, List.filter_append, List.filter_append, a1, a2, List.filter_cons_of_pos h1, List.filter_cons_of_neg (by simp), a3]
 rfl
theorem ones_step {w : Nat} (h0 : w ≠ 0) (h : w < 2 ^ 64) : ones w = Lib.ctz 64 w :: ones (w &&& (w - 1)) := by
 obtain ⟨h1, h2, h3⟩ := low_bit h0 h
 unfold ones
 rw [filter_low h3 h1 h2]
 congr 1
 refine List.filter_congr (fun i _ => ?_)
 rw [rest_bit h0 h]
theorem rest_lt {w : Nat} (h0 : w ≠ 0) : w &&& (w - 1) < w := by
 have := @Nat.and_le_right w (w - 1)
 omega
theorem mem_ones {w i : Nat} (h : w < 2 ^ 64) : i ∈ ones w ↔ w.testBit i = true := by
 unfold ones
 rw [List.mem_filter, List.mem_range]
 refine ⟨fun h => h.2, fun hb => ⟨?_, hb⟩⟩
 refine Classical.byContradiction (fun hc => ?_)
 rw [Nat.testBit_lt_two_pow (Nat.lt_of_lt_of_le h (Nat.pow_le_pow_right oM oM))] at hb
 cases hb
def memW (g : Nat → Nat) (K : Nat) : List Nat := (List.range K).flatMap fun k => (ones (g k)).map (k * 64 + ·)
theorem memW_succ (g : Nat → Nat) (K : Nat) : memW g (K + 1) = memW g K ++ (ones (g K)).map (K * 64 + ·) := by
 unfold memW
 rw [List.range_succ, List.flatMap_append]
 simp
theorem ones_lt {w i : Nat} (h : i ∈ ones w) : i < 64 := by
 unfold ones at h
 simpa using (List.mem_filter.1 h).1
theorem ones_length (w : Nat) : (ones w).length ≤ 64 := by
 unfold ones
 exact Nat.le_trans (List.length_filter_le _ _) (by simp)
theorem memW_length (g : Nat → Nat) (K : Nat) : (memW g K).length ≤ K * 64 := by
 induction K with
 | zero => simp [memW]
 | succ K ih =>
   rw [memW_succ, List.length_append, List.length_map]
   have := ones_length (g K)
   omega
theorem mem_memW {g : Nat → Nat} {L : List Nat} (hb : ∀ k j, j < 64 → (g k).testBit j = decide (64 * k + j ∈ L)) (hg : ∀ k, g k < 2 ^ 64) {K : Nat} (hL : ∀ i ∈ L, i < 64 * K) {i : Nat} : i ∈ memW g K ↔ i ∈ L := by
 unfold memW
 rw [List.mem_flatMap]
 constructor
 ·rintro ⟨k, hk, hi⟩
  obtain ⟨j, hj, rfl⟩ := List.mem_map.1 hi
  have h1 := (mem_ones (hg k)).1 hj
  rw [hb k j (ones_lt hj), decide_eq_true_iff] at h1
  rwa [Nat.mul_comm] at h1
 ·intro hi
  have h64 := Nat.mod_lt i (show 0 < 64 by omega)
  refine ⟨i / 64, List.mem_range.2 (by have := hL i hi; omega), List.mem_map.2 ⟨i % 64, (mem_ones (hg _)).2 ?_, by omega⟩⟩
  rw [hb _ _ h64, decide_eq_true_iff, Nat.div_add_mod]
  exact hi
end Go.Proofs.YtnihdkfmmbpilaaDoor
namespace Go.Proofs.YtnihdkfmmbpilaaDoor
set_option linter.unusedVariables false
open Go.Shelf Go.Proofs
def lays29_ren : Go.Shelf.Ren := ⟨fun | 29 => 87 | n => n, fun | 22 => 46 | 3 => 3 | 4 => 4 | 25 => 188 | 54 => 187 | 0 => 0 | 5 => 5 | n => n, fun | 1 => 0 | n => n⟩
theorem lays29 : Lays7.n29 Tryd.prog lays29_ren := {
 mixed := by kernel_rfl
 f29 := Tryd.func87.trans (congrArg some (by kernel_rfl))
 t0 := Tryd.underlying0
 a0 := Tryd.isAgg0
 z0 := Tryd.sizeOf0
 v0 := Tryd.zeroValue0
 i0 := by kernel_rfl
 t3 := Tryd.underlying3
 a3 := Tryd.isAgg3
 z3 := Tryd.sizeOf3
 v3 := Tryd.zeroValue3
 i3 := by kernel_rfl
 t4 := Tryd.underlying4
 a4 := Tryd.isAgg4
 z4 := Tryd.sizeOf4
 v4 := Tryd.zeroValue4
 i4 := by kernel_rfl
 t5 := Tryd.underlying5
 a5 := Tryd.isAgg5
 z5 := Tryd.sizeOf5
 v5 := Tryd.zeroValue5
 i5 := by kernel_rfl
 t22 := Tryd.underlying46
 a22 := Tryd.isAgg46
 z22 := Tryd.sizeOf46
 v22 := Tryd.zeroValue46
 i22 := by kernel_rfl
 t25 := Tryd.underlying188
 a25 := Tryd.isAgg188
 z25 := Tryd.sizeOf188
 v25 := Tryd.zeroValue188
 i25 := by kernel_rfl
 t54 := Tryd.underlying187
 a54 := Tryd.isAgg187
 z54 := Tryd.sizeOf187
 g1 := by kernel_rfl }
theorem tz64_spec (x : Nat) (hx : x < 2 ^ 64) (b l : List Row) : ACalls Tryd.prog 87 [.v (.int .u64 (x : Int))] b l (fun r b' l' => r = .v (.int .i64 (Lib.ctz 64 x : Nat)) ∧ b' = b ∧ l' = l) := by
 refine ACalls.of_glob ⟨_, Tryd.func87, by kernel_rfl, by kernel_rfl⟩ (fun F L w us hG hr => ?_)
 have h2 : us.size = 1 := by simpa using hr.1.symm
 obtain ⟨u, rfl⟩ : ∃ u, us = #[u] := by
  cases us with
  | mk l => match l, h2 with
    | [u], _ => exact ⟨u, rfl⟩
 have hu := hr.2 0 _ u rfl rfl
 cases hu.vI
 refine (Any7.bits_TrailingZeros64 lays29 x hx w (fun _ => (hG _ _ rfl).2)).mono ?_
 rintro en w' ⟨rfl, rfl⟩
 exact ⟨rfl, _, _, rfl, .v _ _ (.int _ _), rfl, rfl, rfl⟩
end Go.Proofs.YtnihdkfmmbpilaaDoor
namespace Go.Proofs.YtnihdkfmmbpilaaDoor
set_option linter.unusedVariables false
set_option linter.unusedSimpArgs false
attribute [local go_sem ↓] run_skip run_region run_draw run_both run_seq run_block run_exit run_ret run_cond atN_app seqC_normal seqC_exit seqC_ret seqQ_normal seqQ_exit seqQ_ret blkQ_normal blkQ_exit blkQ_ret runOps_nil runOps_cons runD_nil runD_cons grdO_true grdO_false grdD_true grdD_false ifC_true ifC_false opS_val opS_call opS_two opK_app dS_val dS_call dS_two dK_app kUp_same kUp_ne
attribute [local go_sem] rechks_nil rechks_cons rechk gcase_true gcase_false ex_val ex_val0 gd_none gd_some ev_t ev_c evs_nil evs_cons evo_some evo_none hget_at hget_first hsetB_at hsetB_first hsetL_at hsetL_first ofOpt_some aop aload astore aslice aappend aiaddr aiaddrA afaddr alen alenS acopy amm acall alookup amupdate alenM atostr aappz comma keyEq apick binV binVB binVS isSh intOp strOp boolOp shOp eqC eqF and2 cellsOf setFrom fillA fillS rd rdI elems mk bounds AV.cell List.all_cons List.all_nil Bool.and_true Bool.true_and Bool.and_self List.length_cons List.length_nil List.length_append Nat.reduceAdd Nat.reduceSub Nat.reduceMul Nat.zero_add Nat.add_zero List.cons_append List.nil_append List.append_assoc List.append_nil List.getElem?_cons_zero List.getElem?_cons_succ List.getElem?_nil List.set_cons_zero List.set_cons_succ List.drop_zero List.drop_succ_cons List.take_zero List.take_succ_cons List.take_nil List.drop_nil List.map_cons List.map_nil Option.map_some if_true if_false Bool.false_eq_true and_self true_and and_true Nat.reduceLeDiff Nat.reduceLT Nat.le_refl Nat.reduceEqDiff ite_true ite_false beq_self_eq_true beq_true beq_false Bool.not_true Bool.not_false Bool.true_beq Bool.false_beq map_vs vs_len vs_get vs_take vs_drop vs_snoc1 vs_snoc2 vs_snoc3 vs_snoc5 vs_set1 vs_set2 vs_rep wrap_id le_T lt_T le_F lt_F leI_T ltI_T leI_F ltI_F geI gtI get_T decide_true decide_false room List.getElem?_map List.length_map List.length_take Int.toNat_natCast Nat.min_def Nat.min_self nth_kOf put_kOf put_kNo kOv_cons kOv_nil KHas KArgs List.getElem_cons_zero List.getElem_cons_succ
def a_bMem : AFunc := ⟨1,34,[.tmp 2,.tmp 3],(.seq (.region [⟨some 1,.box (.t 0),none⟩,⟨some 2,.mv (.c (.v .zsl)),none⟩,⟨some 3,.mv (.c (.v (.int .i64 0))),none⟩]) (.seq (.seq (.region [⟨some 7,.load (some 2) (.t 1),none⟩,⟨some 8,.call (.c (.fn 86 [])) [(.t 7)],none⟩,⟨some 9,.not (.t 8),none⟩]) (.cond (.t 9) (.seq (.region [⟨some 2,.mv (.c (.v .zsl)),none⟩,⟨some 3,.mv (.c (.v (.int .i64 1))),none⟩]) .ret) .skip)) (.seq (.region [⟨some 4,.mv (.c (.v .zsl)),none⟩]) (.seq (.seq (.region [⟨some 10,.faddr 1 (.t 1),none⟩,⟨some 11,.load none (.t 10),none⟩,⟨some 12,.len (.t 11),none⟩,⟨some 13,.mv (.c (.v (.int .i64 0))),none⟩]) (.block 0 (.loop (.seq (.region [⟨some 14,.bin .lss (.t 13) (.t 12),none⟩]) (.seq (.cond (.t 14) .skip (.exit 0)) (.seq (.block 1 (.seq (.region [⟨some 15,.mv (.t 13),none⟩,⟨some 16,.iaddr 1 (.t 11) (.t 13),none⟩,⟨some 17,.load none (.t 16),none⟩,⟨some 5,.mv (.t 15),none⟩,⟨some 6,.mv (.t 17),none⟩]) (.block 2 (.loop (.seq (.seq (.region [⟨some 18,.mv (.t 6),none⟩,⟨some 19,.bin .neq (.t 18) (.c (.v (.int .u64 0))),none⟩]) (.cond (.t 19) .skip (.exit 2))) (.seq (.block 3 (.region [⟨some 24,.mv (.t 4),none⟩,⟨some 25,.mv (.t 5),none⟩,⟨some 26,.bin .mul (.t 25) (.c (.v (.int .i64 64))),none⟩,⟨some 27,.mv (.t 6),none⟩,⟨some 28,.call (.c (.fn 87 [])) [(.t 27)],none⟩,⟨some 29,.bin .add (.t 26) (.t 28),none⟩,⟨some 30,.bslice 1 [(.v (.int .i64 0))] 1 [(0,(.t 29))],none⟩,⟨some 31,.append 1 8 (.t 24) (.t 30),none⟩,⟨some 4,.mv (.t 31),none⟩])) (.region [⟨some 20,.mv (.t 6),none⟩,⟨some 21,.mv (.t 6),none⟩,⟨some 22,.bin .sub (.t 21) (.c (.v (.int .u64 1))),none⟩,⟨some 23,.bin .and (.t 20) (.t 22),none⟩,⟨some 6,.mv (.t 23),none⟩]))))))) (.region [⟨some 32,.bin .add (.t 13) (.c (.v (.int .i64 1))),none⟩,⟨some 13,.mv (.t 32),none⟩]))))))) (.seq (.region [⟨some 33,.mv (.t 4),none⟩,⟨some 2,.mv (.t 33),none⟩,⟨some 3,.mv (.c (.v (.int .i64 0))),none⟩]) .ret)))))⟩
theorem a_bMem_ok : cFunc Tryd.prog 42 = some a_bMem := by kernel_rfl
def r_bMem0 : List (Nat × Nat) := [(4, 6), (13, 32)]
def r_bMem1 : List (Nat × Nat) := [(4, 4), (6, 6), (18, 31)]

theorem and_words {a c : Nat} (ha : a < 2 ^ 64) (hc : c < 2 ^ 64) : IntKind.u64.wrap (((BitVec.ofInt 64 (a : Int) &&& BitVec.ofInt 64 (c : Int)).toNat : Nat) : Int) = ((a &&& c : Nat) : Int) := by
 have e1 : BitVec.ofInt 64 (a : Int) = BitVec.ofNat 64 a := by simp
 have e2 : BitVec.ofInt 64 (c : Int) = BitVec.ofNat 64 c := by simp
 rw [e1, e2, BitVec.toNat_and, BitVec.toNat_ofNat, BitVec.toNat_ofNat, Nat.mod_eq_of_lt ha, Nat.mod_eq_of_lt hc, wrap_u (Nat.lt_of_le_of_lt Nat.and_le_left ha)]
def memP (L : List Nat) (k : Nat) (pre : List Nat) : List Nat := memW (bw L) k ++ pre.map (k * 64 + ·)
def memQ (L : List Nat) (k : Nat) (pre : List Nat) : List (List IV) := (memP L k pre).map eN
theorem memP_snoc {L : List Nat} {k : Nat} {pre : List Nat} {x : Nat} : memQ L k (pre ++ [x]) = memQ L k pre ++ [[.int .i64 (k * 64 + x : Nat)]] := by
 unfold memQ memP
 simp [eN]
theorem memP_end {L : List Nat} {k : Nat} : memP L k (ones (bw L k)) = memP L (k + 1) [] := by
 unfold memP
 rw [memW_succ]
 simp
set_option maxRecDepth 20000 in
set_option maxHeartbeats 2000000 in
theorem members_spec (n : Nat) (L : List Nat) (hn : n ≤ 512) (hL : ∀ i ∈ L, i < n) (b l : List Row) :
  ACalls Tryd.prog 42 [.agg [.v (.int .i64 n), .v (.isl 1 (wL n L))]] b l (fun r b' l' => r = .tup [.v (.isl 1 ((memW (bw L) (nW n)).map eN)), .v (.int .i64 0)] ∧ b' = b ∧ l' = l) := by
 refine calls_kept a_bMem_ok rfl (by decide) ?_
 intro B g hB hR hE hA
 simp only [KArgs] at hA
 have hwl : (wL n L).length = nW n := fl_len
 have hbb : nW n ≤ 9 := by unfold nW; omega
 have hmq : ∀ k pre, (memQ L k pre).length = (memP L k pre).length := fun k pre => by unfold memQ; rw [List.length_map]
 have hm0 : memP L 0 [] = [] := rfl
 have hq0 : memQ L 0 [] = [] := rfl
 simp (disch := (first | decide | omega)) only [a_bMem, hA, go_sem]
 refine ACalls.nxt (bValid_spec n L hn hL _ _) ?_
 simp (disch := (first | decide | omega)) only [hA, hwl, go_sem]
 refine loop_kept_nil (ι := Nat) 4 1 r_bMem0 (fun k => [(13, .v (.int .i64 k)), (4, .sl (B.length + 1) (memP L k []).length 0 (memP L k []).length)]) 2 (fun k => [.live 0 2 [[.v (.int .i64 n), .v (.isl 1 (wL n L))]], .live (memP L k []).length 1 (vs (memQ L k []))])
  (fun k => k ≤ nW n) (fun k => nW n - k) 0 (Nat.zero_le _) (by simp (disch := decide) only [hA, go_sem]) (by decide) (by decide) (by (repeat (first | exact hE.mono oM | refine KLt.up ?_ kL))) (by ((try simp (disch := decide) only [hA, hm0, hq0, go_sem]) <;> exact kH)) (fun e => Weak.refl _ _ _) ?_
 intro g1 hE1 hEE1 hg1 k hk
 by_cases hkl : k < nW n
 ·have hgk : (wL n L)[k]? = some [.int .u64 (bw L k)] := fl_get hkl
  have hmk := memW_length (bw L) k
  simp (disch := (first | decide | omega)) only [hA, hg1, hwl, hgk, go_sem]
  refine loop_kept (ι := List Nat × Nat) r_bMem1 (fun s => [(6, .v (.int .u64 s.2)), (4, .sl (B.length + 1) (memP L k s.1).length 0 (memP L k s.1).length)]) 2 (fun s => [.live 0 2 [[.v (.int .i64 n), .v (.isl 1 (wL n L))]], .live (memP L k s.1).length 1 (vs (memQ L k s.1))])
   (fun s => s.1 ++ ones s.2 = ones (bw L k) ∧ s.2 < 2 ^ 64) (fun s => s.2) ([], bw L k) ⟨rfl, bw_lt L⟩ (by (repeat (first | exact hE1.mono oM | refine KLt.up ?_ kL))) (by ((try simp (disch := decide) only [hA, hg1, go_sem]) <;> exact kH)) (fun e => Weak.refl _ _ _) ?_
  rintro g2 hE2 hEE2 hg2 ⟨pre, w⟩ ⟨hpw, hw⟩
  simp only at hpw hw ⊢
  by_cases hw0 : w = 0
  ·subst hw0
   have hz : (((0 : Nat) : Int) != 0) = false := rfl
   rw [ones_zero, List.append_nil] at hpw
   subst hpw
   have hee := memP_end (L := L) (k := k)
   have hee2 : memQ L k (ones (bw L k)) = memQ L (k + 1) [] := by unfold memQ; rw [hee]
   simp (disch := (first | decide | omega)) only [hA, hg1, hg2, hwl, hz, go_sem]
   rw [hee, hee2]
   refine ⟨k + 1, hkl, by simp only; omega, ?_⟩
   exact Weak.kround (p := r_bMem0) (k := 2) (by ((repeat refine (kAny_up rfl).trans ?_); refine (kAny_sub hg2 (kIn_sub rfl)).trans ?_; (repeat refine (kAny_up rfl).trans ?_); exact hEE1)) (by ((try simp (disch := decide) only [hA, hg1, go_sem]) <;> exact kH)) rfl hE1 (by simp) kV hR kL
  ·have hz : ((w : Int) != 0) = true := by simp; omega
   have hst := ones_step hw0 hw
   obtain ⟨c, hc⟩ : ∃ c, Lib.ctz 64 w = c := ⟨_, rfl⟩
   have htz := tz64_spec w hw
   rw [hc] at hst htz
   have hc64 : c < 64 := ones_lt (w := w) (by rw [hst]; exact .head _)
   have hpl : pre.length ≤ 64 := by have h1 := ones_length (bw L k); rw [← hpw, List.length_append] at h1; omega
   have hlen : (memP L k pre).length ≤ 1000 := by unfold memP; rw [List.length_append, List.length_map]; omega
   have hvl := hmq k pre
   have tk : List.take (memP L k pre).length (memQ L k pre) = memQ L k pre := List.take_of_length_le oM
   have hsl : (memP L k (pre ++ [c])).length = (memP L k pre).length + 1 := by unfold memP; simp; omega
   have e1 : (k : Int) * 64 = ((k * 64 : Nat) : Int) := by omega
   have e2 : ((k * 64 : Nat) : Int) + (c : Int) = ((k * 64 + c : Nat) : Int) := by omega
   have e3 : (w : Int) - 1 = ((w - 1 : Nat) : Int) := by omega
   have w3 : IntKind.u64.wrap ((w - 1 : Nat) : Int) = ((w - 1 : Nat) : Int) := wrap_u oM
   have q6 := and_words hw (show w - 1 < 2 ^ 64 by omega)
   have hsn := memP_snoc (L := L) (k := k) (pre := pre) (x := c)
   have hrl := rest_lt hw0
   have hw8 : k * 64 + c ≤ 1000 := by omega
   simp (disch := (first | decide | omega)) only [hA, hg1, hg2, hwl, hz, e1, go_sem]
   refine ACalls.nxt (htz _ _) ?_
   simp (disch := (first | decide | omega)) only [hA, hg1, hg2, hwl, e1, e2, e3, w3, q6, hvl, tk, ← hsn, setFrom, cellsOf, List.replicate_succ, List.replicate_zero, reduceCtorEq, go_sem]
   rw [← hsl]
   erw [q6]
   refine ⟨(pre ++ [c], w &&& (w - 1)), ⟨by rw [List.append_assoc, List.singleton_append, ← hst]; exact hpw, by omega⟩, hrl, ?_⟩
   exact Weak.kround (p := r_bMem1) (k := 2) (by ((repeat refine (kAny_up rfl).trans ?_); exact hEE2)) (by ((try simp (disch := decide) only [hA, go_sem]) <;> exact kH)) rfl hE2 (by simp) kV hR kL
 ·obtain rfl : k = nW n := by omega
  have he : memQ L (nW n) [] = (memW (bw L) (nW n)).map eN := by unfold memQ memP; simp
  simp (disch := (first | decide | omega)) only [hA, hg1, hwl, go_sem]
  rw [he]
  exact leave_frz2 (i := 1) (ver := (memP L (nW n) []).length) (sz := 1) (n := (memP L (nW n) []).length) (rows := (memW (bw L) (nW n)).map eN) (.inr rfl) (by simp (disch := (first | decide | omega)) only [resVs, resV, hA, hg1, go_sem]) rfl (by rw [← he, hmq]) hR hB ⟨rfl, rfl, rfl⟩
def a_IndQ : AFunc := ⟨2,19,[.tmp 4],(.seq (.region [⟨some 4,.mv (.c (.v (.int .i64 0))),none⟩]) (.seq (.seq (.region [⟨some 6,.mv (.t 0),none⟩,⟨some 7,.len (.t 6),none⟩,⟨some 8,.mv (.c (.v (.int .i64 0))),none⟩]) (.block 0 (.loop (.seq (.region [⟨some 9,.bin .lss (.t 8) (.t 7),none⟩]) (.seq (.cond (.t 9) .skip (.exit 0)) (.seq (.block 1 (.seq (.region [⟨some 10,.mv (.t 8),none⟩,⟨some 5,.mv (.t 10),none⟩]) (.seq (.region [⟨some 11,.mv (.t 1),none⟩,⟨some 12,.mv (.t 0),none⟩,⟨some 13,.mv (.t 5),none⟩,⟨some 14,.iaddr 1 (.t 12) (.t 13),none⟩,⟨some 15,.load none (.t 14),none⟩,⟨some 16,.call (.t 11) [(.t 15)],none⟩]) (.cond (.t 16) (.seq (.region [⟨some 17,.mv (.t 5),none⟩,⟨some 4,.mv (.t 17),none⟩]) .ret) .skip)))) (.region [⟨some 18,.bin .add (.t 8) (.c (.v (.int .i64 1))),none⟩,⟨some 8,.mv (.t 18),none⟩]))))))) (.seq (.region [⟨some 4,.mv (.c (.v (.int .i64 (-1)))),none⟩]) .ret)))⟩
theorem a_IndQ_ok : cFunc Tryd.prog 36 = some a_IndQ := by kernel_rfl
def r_IndQ0 : List (Nat × Nat) := [(4, 5), (8, 18)]
def a_ConQ : AFunc := ⟨2,9,[.tmp 4],(.seq (.region [⟨some 4,.mv (.c (.v (.bool false))),none⟩]) (.seq (.region [⟨some 5,.mv (.t 0),none⟩,⟨some 6,.mv (.t 1),none⟩,⟨some 7,.call (.c (.fn 36 [])) [(.t 5),(.t 6)],none⟩,⟨some 8,.bin .geq (.t 7) (.c (.v (.int .i64 0))),none⟩,⟨some 4,.mv (.t 8),none⟩]) .ret))⟩
theorem a_ConQ_ok : cFunc Tryd.prog 10 = some a_ConQ := by kernel_rfl
def a_pck1 : AFunc := ⟨2,13,[.tmp 3],(.seq (.region [⟨some 3,.mv (.c (.v (.bool false))),none⟩]) (.seq (.region [⟨some 4,.mv (.t 0),none⟩,⟨some 5,.len (.t 4),none⟩,⟨some 6,.load none (.t 1),none⟩,⟨some 7,.bin .neq (.t 5) (.t 6),none⟩,⟨some 8,.mv (.t 7),none⟩,⟨some 9,.mv (.t 0),some (8,false)⟩,⟨some 10,.call (.c (.fn 39 [])) [(.t 9)],some (8,false)⟩,⟨some 11,.not (.t 10),some (8,false)⟩,⟨some 12,.pick (.t 8) (.c (.v (.bool true))) (.t 11),none⟩,⟨some 3,.mv (.t 12),none⟩]) .ret))⟩
theorem a_pck1_ok : cFunc Tryd.prog 38 = some a_pck1 := by kernel_rfl

def eMq (m : List (List Int)) : List IV := [.isl 1 (m.map eRw)]
theorem indexQ_spec (v : List (List Int)) (k : Nat) (caps : List AV) (p : Nat → Bool) (hn : v.length ≤ 1000000) (b l : List Row)
  (hp : ∀ (i : Nat) (h : i < v.length), ACalls Tryd.prog k (.v (.isl 1 (v[i].map eI)) :: caps) (b ++ l) [] (fun r b' l' => r = .v (.bool (p i)) ∧ b' = b ++ l ∧ l' = [])) :
  ACalls Tryd.prog 36 [.v (.isl 1 (v.map eRw)), .fn k caps] b l (fun r b' l' => r = .v (.int .i64 (firstP p v.length)) ∧ b' = b ∧ l' = l) := by
 refine calls_kept a_IndQ_ok rfl (by decide) ?_
 intro B g hB hR hE hA
 simp only [KArgs] at hA
 simp (disch := decide) only [a_IndQ, hA, List.length_map, go_sem]
 refine loop_kept (ι := Nat) r_IndQ0 (fun i => [(8, .v (.int .i64 i))]) 0 (fun _ => [])
  (fun i => i ≤ v.length ∧ ∀ j, j < i → p j = false) (fun i => v.length - i) 0 ⟨Nat.zero_le _, fun j hj => by omega⟩ (by (repeat (first | exact hE.mono oM | refine KLt.up ?_ kL))) (by ((try simp (disch := decide) only [hA, go_sem]) <;> exact kH)) (fun e => Weak.refl _ _ _) ?_
 rintro g1 hE1 hEE1 hg1 i ⟨hi, h0⟩
 by_cases hlt : i < v.length
 ·have hpi0 := hp i hlt
  try simp only [ List.map_cons, List.map_nil] at hpi0
  simp (disch := (first | decide | omega)) only [hA, hg1, eRw, List.length_map, go_sem]
  refine ACalls_mono _ _ _ _ _ _ (hB ▸ hpi0) ?_
  rintro r b' l' ⟨rfl, rfl, rfl⟩
  cases hpi : p i
  ·simp (disch := (first | decide | omega)) only [hA, hg1, hpi, go_sem]
   refine ⟨i + 1, ⟨hlt, fun j hj => ?_⟩, by simp only; omega, ?_⟩
   ·rcases Nat.lt_or_ge j i with hji | hji
    ·exact h0 j hji
    ·have : j = i := by omega
     rw [this]; exact hpi
   exact Weak.kround (p := r_IndQ0) (k := 0) (by ((repeat refine (kAny_up rfl).trans ?_); exact hEE1)) (by ((try simp (disch := decide) only [hA, go_sem]) <;> exact kH)) rfl hE1 (by simp) kV hR kL
  ·simp (disch := (first | decide | omega)) only [hA, hg1, hpi, go_sem]
   exact leave_pure (xs := [.v (.int .i64 i)]) (.inr rfl) (by simp (disch := (first | decide | omega)) only [resVs, resV, go_sem, hA, hg1]) kO hR hB ⟨by rw [firstP_at hlt h0 hpi]; rfl, rfl, rfl⟩
 ·simp (disch := (first | decide | omega)) only [hA, hg1, List.length_map, go_sem]
  obtain rfl : i = v.length := by omega
  exact leave_pure (xs := [.v (.int .i64 (-1))]) (.inr rfl) (by simp (disch := (first | decide | omega)) only [resVs, resV, go_sem, hA, hg1]) kO hR hB ⟨by rw [firstP_none h0]; rfl, rfl, rfl⟩
theorem containsQ_spec (v : List (List Int)) (k : Nat) (caps : List AV) (p : Nat → Bool) (hn : v.length ≤ 1000000) (b l : List Row)
  (hp : ∀ (i : Nat) (h : i < v.length), ACalls Tryd.prog k (.v (.isl 1 (v[i].map eI)) :: caps) (b ++ l) [] (fun r b' l' => r = .v (.bool (p i)) ∧ b' = b ++ l ∧ l' = [])) :
  ACalls Tryd.prog 10 [.v (.isl 1 (v.map eRw)), .fn k caps] b l (fun r b' l' => r = .v (.bool ((List.range v.length).any p)) ∧ b' = b ∧ l' = l) := by
 refine calls_kept a_ConQ_ok rfl (by decide) ?_
 intro B g hB hR hE hA
 simp only [KArgs] at hA
 simp (disch := decide) only [a_ConQ, hA, go_sem]
 refine ACalls.nxt (indexQ_spec v k caps p hn B [] (by rw [List.append_nil, hB]; exact hp)) ?_
 simp (disch := decide) only [hA, go_sem]
 exact leave_pure (xs := [.v (.bool (decide (0 ≤ firstP p v.length)))]) (.inr rfl) (by simp (disch := (first | decide | omega)) only [resVs, resV, go_sem, hA]) kO hR hB ⟨by rw [firstP_ge]; rfl, rfl, rfl⟩

def okV (k : Nat) (v : List Int) : Bool := decide (v.length = k) && isV v
theorem pck1_spec (k : Nat) (v : List Int) (hv : v.length = k → v.length ≤ 1000000) (b l : List Row) (id : Nat) (hg : hget b l id = some (.live 0 1 [[.v (.int .i64 k)]])) :
  ACalls Tryd.prog 38 [.v (.isl 1 (v.map eI)), .ptr id 0 0 0] b l (fun r b' l' => r = .v (.bool (!okV k v)) ∧ b' = b ∧ l' = l) := by
 refine calls_kept a_pck1_ok rfl (by decide) ?_
 intro B g hB hR hE hA
 simp only [KArgs] at hA
 have hg1 : ∀ l', hget B l' id = some (.live 0 1 [[.v (.int .i64 k)]]) := fun l' => by
  have hx : (b ++ l)[id]? = some (.live 0 1 [[.v (.int .i64 k)]]) := by
   unfold hget at hg
   split at hg
   ·next h => rw [List.getElem?_append_left h]; exact hg
   ·next h => rw [List.getElem?_append_right oM]; exact hg
  rw [← hB] at hx
  unfold hget
  rw [if_pos (List.getElem?_eq_some_iff.1 hx).1, hx]
 by_cases h : v.length = k
 ·have hd : ((v.length : Int) != (k : Int)) = false := by simp [h]
  have hl : okV k v = isV v := by unfold okV; rw [decide_eq_true h, Bool.true_and]
  have hst := fun b l => pstamp_spec v (hv h) b l
  simp (disch := (first | decide | omega)) only [a_pck1, hA, hg1, List.length_map, hd, go_sem]
  refine ACalls.nxt (hst _ _) ?_
  simp (disch := (first | decide | omega)) only [hA, go_sem]
  exact leave_pure (xs := [.v (.bool (!isV v))]) (.inr rfl) (by simp (disch := (first | decide | omega)) only [resVs, resV, go_sem, hA]) kO hR hB ⟨by rw [hl]; rfl, rfl, rfl⟩
 ·have hd : ((v.length : Int) != (k : Int)) = true := by simp; omega
  have hl : okV k v = false := by unfold okV; rw [decide_eq_false h]; rfl
  simp (disch := (first | decide | omega)) only [a_pck1, hA, hg1, List.length_map, hd, go_sem]
  exact leave_pure (xs := [.v (.bool true)]) (.inr rfl) (by simp (disch := (first | decide | omega)) only [resVs, resV, go_sem, hA]) kO hR hB ⟨by rw [hl]; rfl, rfl, rfl⟩
end Go.Proofs.YtnihdkfmmbpilaaDoor
