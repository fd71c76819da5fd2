/- More walks of the number codes: put, Put, Clone, Equal, the sums laid behind bytes, frames. No condition but on lengths. -/
import Derived.Test.YtenlagddfgociaaCW
namespace Go.Proofs.Ytenlagddfgociaa
open Go.RowKit
set_option linter.unusedVariables false

theorem zig_eq (n : Int) (h1 : -2305843009213693952 ≤ n) (h2 : n ≤ 2305843009213693952) : (zig n : Int) = (if n < 0 then -2 * n - 1 else 2 * n) ∧ (zig n : Int) ≤ 4611686018427387904 := by
  unfold zig; split <;> omega

def PutRel (B : Nat) (v : Value) (xs : List UInt8) (e : TypeId) (z0 : Nat) (w : World) (o zv : Value) (wr : World) : Prop :=
  ∃ (f z : Nat) (ys : List UInt8), zv = .int .i64 z ∧ Own byt e wr B o (xs ++ ys) ∧ Grw w v wr o ∧ ys ++ putN f z = putN 10 z0 ∧ z < 128 ^ (f + 1) ∧ ys.length + f = 10 ∧ z ≤ z0
theorem PutRel.start {B : Nat} {v : Value} {xs : List UInt8} {e : TypeId} {z0 : Nat} {w : World} (ho : Own byt e w B v xs) (hz : (z0 : Int) ≤ 4611686018427387904) : PutRel B v xs e z0 w v (.int .i64 z0) w := by
  have h11 : 128 ^ (10 + 1) = 151115727451828646838272 := by decide
  exact ⟨10, z0, [], rfl, by simpa using ho, Grw.refl _ _, rfl, by omega, rfl, Nat.le_refl _⟩
theorem PutRel.step {B : Nat} {v o v1 : Value} {xs ys : List UInt8} {e : TypeId} {z0 f z : Nat} {w wr w1 : World} {ob : Obj} (hgr : Grw w v wr o) (hys : ys ++ putN f z = putN 10 z0) (hz : z < 128 ^ (f + 1)) (hl : ys.length + f = 10) (hz0 : z ≤ z0) (hbig : 128 ≤ z)
    (hown1 : Own byt e w1 B v1 (xs ++ ys ++ [UInt8.ofNat (z % 128 + 128)])) (hgr1 : Grw (wr.alloc ob) o w1 v1) : PutRel B v xs e z0 w v1 (.int .i64 ((z : Int) / 128)) w1 := by
  cases f with
  | zero => simp at hz; omega
  | succ f =>
    have hz2 : z / 128 < 128 ^ (f + 1) := by
      rw [Nat.pow_succ] at hz
      exact Nat.div_lt_of_lt_mul (by rw [Nat.mul_comm]; exact hz)
    refine ⟨f, z / 128, ys ++ [UInt8.ofNat (z % 128 + 128)], rfl, by rw [← List.append_assoc]; exact hown1, (hgr.alloc _).trans hgr1, ?_, hz2, by simp; omega, by omega⟩
    rw [← hys, putN_big hbig, List.append_assoc]; rfl
theorem PutRel.fin {f z z0 : Nat} {ys : List UInt8} (hys : ys ++ putN f z = putN 10 z0) (hs : z < 128) : ys ++ [UInt8.ofNat z] = putN 10 z0 := by rw [← hys, putN_small hs]

set_option maxRecDepth 100000 in
set_option maxHeartbeats 1000000 in
theorem put_any (B : Nat) (v : Value) (xs : List UInt8) (n : Int) (w : World) (h1 : -2305843009213693952 ≤ n) (h2 : n ≤ 2305843009213693952) (hl : xs.length ≤ 1000000000) (ho : Own byt 5 w B v xs) (hB : B ≤ w.heap.size) :
    Calls Try.prog 31 #[v, .int .i64 n] w fun e w' => ∃ v', e = .returned v' ∧ Own byt 5 w' B v' (xs ++ putL n) ∧ Grw w v w' v' := by
  obtain ⟨hz1, hz2⟩ := zig_eq n h1 h2
  go_enter Try.func31, Try.ntmps31
  have hcase : (decide (n < 0) = true ∧ (zig n : Int) = -2 * n - 1) ∨ (decide (n < 0) = false ∧ (zig n : Int) = 2 * n) := by
    by_cases h : n < 0
    · rw [if_pos h] at hz1; exact .inl ⟨by simpa using h, hz1⟩
    · rw [if_neg h] at hz1; exact .inr ⟨by simpa using h, hz1⟩
  have HP : Hx (putL n = putN 10 (zig n)) := hide rfl
  clear hz1
  rcases hcase with ⟨hn, hz⟩ | ⟨hn, hz⟩
  all_goals
    have hz' := hz.symm
    clear hz
    go_wp2
    clear hz'
    go_loopw [0, 5] (PutRel B v xs 5 (zig n) w) (fun _ z _ => (intOf z).toNat)
    case atStart => exact PutRel.start ho hz2
    case round =>
      obtain ⟨f, z, ys, rfl, hown, hgr, hys, hzf, hlen, hzz⟩ := hrel
      have hzb : (z : Int) ≤ 4611686018427387904 := by omega
      have HY := hide hys
      have HF := hide hzf
      have hly : ys.length ≤ 10 := by omega
      have HL := hide hlen
      clear hys hzf ho hlen
      by_cases hbig : 128 ≤ z
      · go_wp2_with (at_builtin; refine wpl_app (.tmp 15) (.tmp 20) elB byt_one rfl rfl rfl rfl (hown.alloc _) (Sl.made _ _ [UInt8.ofNat (z % 128 + 128)] rfl (by simp [maxLen]) (by simp only [List.map_cons, List.map_nil]; rw [ofNat_byte _ (by omega)]; push_cast; rfl)) (by simp; omega) (by omega) (by have := hgr.1.size; simp; omega) ?_; intro v1 w1 hown1 hgr1)
        have R := PutRel.step (z0 := zig n) hgr HY.out HF.out HL.out hzz hbig hown1 hgr1
        clear hown1 hgr1 hown hgr
        go_wp2
        go_roundw
        case rel => exact R
        case measure => simp [intOf]; omega
      · have hfin := hide (PutRel.fin (z0 := zig n) HY.out (by omega))
        go_wp2_with (at_builtin; refine wpl_app (.tmp 24) (.tmp 27) elB byt_one rfl rfl rfl rfl (hown.alloc _) (Sl.made _ _ [UInt8.ofNat z] rfl (by simp [maxLen]) (by simp only [List.map_cons, List.map_nil]; rw [ofNat_byte _ (by omega)])) (by simp; omega) (by omega) (by have := hgr.1.size; simp; omega) ?_; intro v1 w1 hown1 hgr1)
        go_wp2
        go_ret
        refine ⟨_, rfl, ?_, (hgr.alloc _).trans hgr1⟩
        rw [HP.out, ← hfin.out, ← List.append_assoc]
        exact hown1
set_option maxRecDepth 100000 in
set_option maxHeartbeats 1000000 in
theorem rput_any (n : Int) (w : World) (h1 : -2305843009213693952 ≤ n) (h2 : n ≤ 2305843009213693952) :
    Calls Try.prog 12 #[.int .i64 n] w fun e w' => ∃ v', e = .returned v' ∧ Own byt 5 w' w.heap.size v' (putL n) ∧ Ext w w' := by
  obtain ⟨hz1, hz2⟩ := zig_eq n h1 h2
  go_enter Try.func12, Try.ntmps12
  have hcase : (decide (n < 0) = true ∧ (zig n : Int) = -2 * n - 1) ∨ (decide (n < 0) = false ∧ (zig n : Int) = 2 * n) := by
    by_cases h : n < 0
    · rw [if_pos h] at hz1; exact .inl ⟨by simpa using h, hz1⟩
    · rw [if_neg h] at hz1; exact .inr ⟨by simpa using h, hz1⟩
  have HP : Hx (putL n = putN 10 (zig n)) := hide rfl
  clear hz1
  rcases hcase with ⟨hn, hz⟩ | ⟨hn, hz⟩
  all_goals
    have hz' := hz.symm
    clear hz
    go_wp2
    clear hz'
    go_loopw [4, 3] (PutRel w.heap.size (.slice none 0 0) [] 5 (zig n) w) (fun _ z _ => (intOf z).toNat)
    case atStart => exact PutRel.start (Own.nil _ _ _ _) hz2
    case round =>
      obtain ⟨f, z, ys, rfl, hown, hgr, hys, hzf, hlen, hzz⟩ := hrel
      have hzb : (z : Int) ≤ 4611686018427387904 := by omega
      have HY := hide hys
      have HF := hide hzf
      have hly : ys.length ≤ 10 := by omega
      have HL := hide hlen
      clear hys hzf hlen
      by_cases hbig : 128 ≤ z
      · go_wp2_with (at_builtin; refine wpl_app (.tmp 14) (.tmp 19) elB byt_one rfl rfl rfl rfl (hown.alloc _) (Sl.made _ _ [UInt8.ofNat (z % 128 + 128)] rfl (by simp [maxLen]) (by simp only [List.map_cons, List.map_nil]; rw [ofNat_byte _ (by omega)]; exact one_arr (by push_cast; omega))) (by simp; omega) (by omega) (by have := hgr.1.size; simp; omega) ?_; intro v1 w1 hown1 hgr1)
        have R := PutRel.step (z0 := zig n) hgr HY.out HF.out HL.out hzz hbig hown1 hgr1
        clear hown1 hgr1 hown hgr
        go_wp2
        go_roundw
        case rel => exact R
        case measure => simp [intOf]; omega
      · have hfin := hide (PutRel.fin (z0 := zig n) HY.out (by omega))
        go_wp2_with (at_builtin; refine wpl_app (.tmp 23) (.tmp 26) elB byt_one rfl rfl rfl rfl (hown.alloc _) (Sl.made _ _ [UInt8.ofNat z] rfl (by simp [maxLen]) (by simp only [List.map_cons, List.map_nil]; rw [ofNat_byte _ (by omega)])) (by simp; omega) (by omega) (by have := hgr.1.size; simp; omega) ?_; intro v1 w1 hown1 hgr1)
        go_wp2
        go_ret
        refine ⟨_, rfl, ?_, Grw.ext ((hgr.alloc _).trans hgr1) rfl⟩
        rw [HP.out, ← hfin.out]
        simpa using hown1

theorem Put_far (n : Int) (w : World) (h : far n = true) : Calls Try.prog 10 #[.int .i64 n] w fun e w' => e = .returned (.tuple #[.slice none 0 0, .int .i64 2]) ∧ w = w' := by
  rcases far_true.1 h with h1 | h1
  · have h2 : n ≤ -1125899906842625 := by omega
    clear h h1
    go_enter Try.func10, Try.ntmps10
    go_wp2
    all_goals (go_ret2; exact ⟨rfl, rfl⟩)
  · have h2 : 1125899906842625 ≤ n := by omega
    clear h h1
    go_enter Try.func10, Try.ntmps10
    go_wp2
    all_goals (go_ret2; exact ⟨rfl, rfl⟩)
theorem Put_near (n : Int) (w : World) (h : far n = false) : Calls Try.prog 10 #[.int .i64 n] w fun e w' => ∃ v', e = .returned (.tuple #[v', .int .i64 0]) ∧ Own byt 5 w' w.heap.size v' (putL n) ∧ Ext w w' := by
  obtain ⟨h1, h2⟩ := far_false.1 h
  clear h
  have P := put_any w.heap.size (.slice none 0 0) [] n w (by omega) (by omega) (by simp) (Own.nil _ _ _ _) (Nat.le_refl _)
  go_enter Try.func10, Try.ntmps10
  go_wp2_with (go_at_call 31; refine P.mono ?_; rintro e w1 ⟨v1, rfl, hown1, hgr1⟩)
  go_ret2
  exact ⟨_, rfl, hown1, hgr1.ext rfl⟩

theorem equal_any (u v : Value) (xs ys : List UInt8) (w : World) (hu : Sl byt w u xs) (hv : Sl byt w v ys) :
    Calls Try.prog 11 #[u, v] w fun e w' => e = .returned (.bool (xs == ys)) ∧ w = w' := by
  have c1 := run_conv_bytes (P := Try.prog) w 22 5 9 Try.underlying22 Try.underlying5 Try.underlying9 hu
  have c2 := run_conv_bytes (P := Try.prog) w 22 5 9 Try.underlying22 Try.underlying5 Try.underlying9 hv
  go_enter Try.func11, Try.ntmps11
  go_wp2
  go_ret
  exact ⟨rfl, rfl⟩

set_option maxRecDepth 100000 in
theorem clone_any (v : Value) (xs : List UInt8) (w : World) (hl : xs.length ≤ 1000000) (hv : Sl byt w v xs) :
    Calls Try.prog 21 #[v] w fun e w' => ∃ v', e = .returned v' ∧ Own byt 5 w' w.heap.size v' xs ∧ Ext w w' := by
  obtain ⟨A, c, rfl, _, _, hc⟩ := hv.form
  have q := fun (w : World) => Lib.run_eql_slice_nil (P := Try.prog) w 22 5 A xs.length c 0 0 Try.underlying22
  rcases A with _ | ad
  · have h0 : xs = [] := by
      rcases Nat.eq_zero_or_pos xs.length with h0 | h0
      · exact List.eq_nil_of_length_eq_zero h0
      · obtain ⟨b, off, hA, _⟩ := hc h0
        cases hA
    subst h0
    clear hc
    simp only [List.length_nil] at q ⊢
    go_enter Try.func21, Try.ntmps21
    go_wp2
    go_ret
    exact ⟨_, rfl, Own.nil _ _ _ _, Ext.refl _⟩
  · clear hc
    go_enter Try.func21, Try.ntmps21
    go_wp2_with (at_builtin; refine wpl_appb (.tmp 5) (.tmp 6) elB byt_one rfl rfl rfl rfl (Own.made (xs := []) w _ (Nat.le_refl _) (by simp) rfl) (hv.ext ((Ext.refl w).alloc _)) (by simp; omega) (by omega) (by simp) ?_; intro v1 w1 hown1 hgr1 hb1)
    go_ret
    refine ⟨_, rfl, by simpa using hown1, ?_⟩
    exact ((Ext.refl w).alloc _).more hb1

set_option maxRecDepth 100000 in
set_option maxHeartbeats 1000000 in
theorem summed_any (B : Nat) (v : Value) (xs : List UInt8) (w : World) (hl : xs.length ≤ 1000000) (ho : Own byt 5 w B v xs) (hB : B ≤ w.heap.size) :
    Calls Try.prog 32 #[v] w fun e w' => ∃ v', e = .returned v' ∧ Own byt 5 w' B v' (sumL xs) ∧ Grw w v w' v' := by
  have S := sum_any v xs w hl ho.sl
  have hb := crc_lt xs
  have hbi : ((crc xs : Nat) : Int) ≤ 65535 := by omega
  have hd : crc xs / 256 < 256 := by omega
  clear hb
  go_enter Try.func32, Try.ntmps32
  go_wp2_with (first
    | (go_at_call 15; refine S.mono ?_; rintro e w1 ⟨rfl, rfl⟩)
    | (at_builtin; go_must (refine wpl_appb (.tmp 6) (.tmp 12) elB byt_one rfl rfl rfl rfl (ho.alloc _) (Sl.made _ _ [UInt8.ofNat (crc xs / 256), UInt8.ofNat (crc xs % 256)] rfl (by simp [maxLen]) (byt_two hd (by omega) (by omega) (by omega))) (by simp; omega) (by omega) (by simp; omega) ?_); intro v1 w1 hown1 hgr1 hb1))
  go_ret
  exact ⟨_, rfl, hown1, ((Grw.refl w v).alloc _).trans hgr1⟩

set_option maxRecDepth 100000 in
set_option maxHeartbeats 1000000 in
theorem rsummed_any (v : Value) (xs : List UInt8) (w : World) (hl : xs.length ≤ 1000000) (hs : Sl byt w v xs) :
    Calls Try.prog 33 #[v] w fun e w' => ∃ v', e = .returned v' ∧ Own byt 5 w' w.heap.size v' (sumL xs) ∧ Ext w w' := by
  have S := rsum_any v xs w hl hs
  have hb := crc_lt xs
  have hbi : ((crc xs : Nat) : Int) ≤ 65535 := by omega
  have hd : crc xs / 256 < 256 := by omega
  clear hb
  go_enter Try.func33, Try.ntmps33
  go_wp2_with (first
    | (go_at_call 16; refine S.mono ?_; rintro e w1 ⟨rfl, rfl⟩)
    | (at_builtin; refine wpl_appb (.tmp 6) (.tmp 7) elB byt_one rfl rfl rfl rfl (Own.made (xs := []) w _ (Nat.le_refl _) (by simp) rfl) (hs.ext ((Ext.refl w).alloc _)) (by simp; omega) (by omega) (by simp) ?_; intro v1 w1 hown1 hgr1 hb1)
    | (at_builtin; refine wpl_appb (.tmp 8) (.tmp 15) elB byt_one rfl rfl rfl rfl (hown1.alloc _) (Sl.made _ _ [UInt8.ofNat (crc xs / 256), UInt8.ofNat (crc xs % 256)] rfl (by simp [maxLen]) (byt_two hd (by omega) (by omega) (by omega))) (by simp; omega) (by omega) (by have := hgr1.1.size; simp at this; simp; omega) ?_; intro v2 w2 hown2 hgr2 hb2))
  go_ret
  refine ⟨_, rfl, by simpa [sumL] using hown2, ?_⟩
  have h1 : Ext w w1 := ((Ext.refl w).alloc _).more hb1
  exact (h1.alloc _).more hb2
end Go.Proofs.Ytenlagddfgociaa
