/- The walks of the number codes and the check sum: each function of the two packages returns what the plain function says. No condition but on lengths. -/
import Derived.Test.YtenlagddfgociaaChecked
import Derived.Test.YtenlagddfgociaaC
namespace Go.Proofs.Ytenlagddfgociaa
open Go.RowKit
set_option linter.unusedVariables false

theorem elB : ElI Try.prog 22 5 (.int .u8 0) 1 := ⟨Try.underlying22, info_parts (P := Try.prog) (by kernel_rfl), rfl⟩

set_option maxRecDepth 100000 in
set_option maxHeartbeats 1000000 in
theorem sum_any (v : Value) (xs : List UInt8) (w : World) (hl : xs.length ≤ 1000000) (hs : Sl byt w v xs) :
    Calls Try.prog 15 #[v] w fun e w' => e = .returned (.int .i64 (crc xs)) ∧ w = w' := by
  obtain ⟨A, c, rfl, _, _, hc⟩ := hs.form
  clear hs
  go_enter Try.func15, Try.ntmps15
  go_wp2
  go_loop [3, 8] (Rel2 fun (k : Nat) t i => k ≤ xs.length ∧ i = .int .i64 k ∧ t = .int .i64 (crc (xs.take k))) (fun _ i => xs.length - (intOf i).toNat)
  case atStart => exact Rel2.mk 0 ⟨Nat.zero_le _, rfl, rfl⟩
  case round =>
    obtain ⟨k, hk, rfl, rfl⟩ := hrel
    by_cases hlt : k < xs.length
    · obtain ⟨b, off, rfl, _, hall⟩ := hc (by omega)
      have hcell := hall k hlt
      clear hall
      clear hc
      have hb := crc_lt (xs.take k)
      have hx := (xs[k]).toNat_lt
      have X := xor_byte (crc (xs.take k)) (xs[k]).toNat hb hx
      have hbi : ((crc (xs.take k) : Nat) : Int) ≤ 65535 := by omega
      clear hb
      have Hs := hide (crc_take_succ xs k hlt)
      unfold byt at hcell
      go_wp2
      clear X
      obtain ⟨wo, rfl⟩ : ∃ wo : World, wo = w := ⟨_, rfl⟩
      go_loop [3, 17] (Rel2 fun (m : Nat) t i => m ≤ 8 ∧ i = .int .i64 m ∧ t = .int .i64 (crcBits m (crc (xs.take k) ^^^ (256 * xs[k].toNat)))) (fun _ i => 8 - (intOf i).toNat)
      case atStart => exact Rel2.mk 0 ⟨Nat.zero_le _, rfl, rfl⟩
      case round =>
        obtain ⟨m, hm, rfl, rfl⟩ := hrel
        have h2 := crcBits_lt (xor16 (a := crc (xs.take k)) (b := 256 * (xs[k]).toNat) (by omega) (by omega)) m
        have X := hide (xor_poly _ h2)
        have h2i : ((crcBits m (crc (xs.take k) ^^^ (256 * xs[k].toNat)) : Nat) : Int) ≤ 65535 := by omega
        clear h2
        by_cases hm8 : m < 8
        · have hor : decide ((32768 : Int) ≤ ((crcBits m (crc (xs.take k) ^^^ (256 * xs[k].toNat)) : Nat) : Int)) = true ∨ decide ((32768 : Int) ≤ ((crcBits m (crc (xs.take k) ^^^ (256 * xs[k].toNat)) : Nat) : Int)) = false := by
            cases decide ((32768 : Int) ≤ ((crcBits m (crc (xs.take k) ^^^ (256 * xs[k].toNat)) : Nat) : Int)) <;> simp
          rcases hor with hbig | hbig
          all_goals
            go_wp2
            go_round
            case rel => exact Rel2.mk (m + 1) ⟨by omega, by go_num, by simp at hbig; simp only [crcBits, crcBit]; first | rw [if_pos (by omega), X.out] | (rw [if_neg (by omega)]; go_num)⟩
            case measure => simp [intOf]; omega
        · obtain rfl : m = 8 := by omega
          clear X
          go_wp2
          go_round
          case rel => exact Rel2.mk (k + 1) ⟨by omega, by go_num, by rw [Hs.out, crcByte_eq]⟩
          case measure => simp [intOf]; omega
    · obtain rfl : k = xs.length := by omega
      go_wp2
      go_ret
      simp

set_option maxRecDepth 100000 in
set_option maxHeartbeats 1000000 in
theorem rsum_any (v : Value) (xs : List UInt8) (w : World) (hl : xs.length ≤ 1000000) (hs : Sl byt w v xs) :
    Calls Try.prog 16 #[v] w fun e w' => e = .returned (.int .i64 (crc xs)) ∧ w = w' := by
  obtain ⟨A, c, rfl, _, _, hc⟩ := hs.form
  clear hs
  go_enter Try.func16, Try.ntmps16
  go_wp2
  go_loop [3, 4] (Rel2 fun (k : Nat) t i => k ≤ xs.length ∧ i = .int .i64 k ∧ t = .int .i64 (crc (xs.take k))) (fun _ i => xs.length - (intOf i).toNat)
  case atStart => exact Rel2.mk 0 ⟨Nat.zero_le _, rfl, rfl⟩
  case round =>
    obtain ⟨k, hk, rfl, rfl⟩ := hrel
    by_cases hlt : k < xs.length
    · obtain ⟨b, off, rfl, _, hall⟩ := hc (by omega)
      have hcell := hall k hlt
      clear hall
      clear hc
      have hb := crc_lt (xs.take k)
      have hx := (xs[k]).toNat_lt
      have X := xor_byte' (crc (xs.take k)) (xs[k]).toNat hb hx
      have hbi : ((crc (xs.take k) : Nat) : Int) ≤ 65535 := by omega
      clear hb
      have Hs := hide (crc_take_succ xs k hlt)
      unfold byt at hcell
      go_wp2
      clear X
      obtain ⟨wo, rfl⟩ : ∃ wo : World, wo = w := ⟨_, rfl⟩
      go_loop [3, 5] (Rel2 fun (m : Nat) t i => m ≤ 8 ∧ i = .int .i64 m ∧ t = .int .i64 (crcBits m (crc (xs.take k) ^^^ (256 * xs[k].toNat)))) (fun _ i => 8 - (intOf i).toNat)
      case atStart => exact Rel2.mk 0 ⟨Nat.zero_le _, rfl, rfl⟩
      case round =>
        obtain ⟨m, hm, rfl, rfl⟩ := hrel
        have h2 := crcBits_lt (xor16 (a := crc (xs.take k)) (b := 256 * (xs[k]).toNat) (by omega) (by omega)) m
        have X := hide (xor_poly _ h2)
        have h2i : ((crcBits m (crc (xs.take k) ^^^ (256 * xs[k].toNat)) : Nat) : Int) ≤ 65535 := by omega
        clear h2
        by_cases hm8 : m < 8
        · have hor : decide ((32768 : Int) ≤ ((crcBits m (crc (xs.take k) ^^^ (256 * xs[k].toNat)) : Nat) : Int)) = true ∨ decide ((32768 : Int) ≤ ((crcBits m (crc (xs.take k) ^^^ (256 * xs[k].toNat)) : Nat) : Int)) = false := by
            cases decide ((32768 : Int) ≤ ((crcBits m (crc (xs.take k) ^^^ (256 * xs[k].toNat)) : Nat) : Int)) <;> simp
          rcases hor with hbig | hbig
          all_goals
            go_wp2
            go_round
            case rel => exact Rel2.mk (m + 1) ⟨by omega, by go_num, by simp at hbig; simp only [crcBits, crcBit]; first | rw [if_pos (by omega), X.out] | (rw [if_neg (by omega)]; go_num)⟩
            case measure => simp [intOf]; omega
        · obtain rfl : m = 8 := by omega
          clear X
          go_wp2
          go_round
          case rel => exact Rel2.mk (k + 1) ⟨by omega, by go_num, by rw [Hs.out, crcByte_eq]⟩
          case measure => simp [intOf]; omega
    · obtain rfl : k = xs.length := by omega
      go_wp2
      go_ret
      simp

set_option maxRecDepth 100000 in
set_option maxHeartbeats 1000000 in
theorem get_any (v : Value) (xs : List UInt8) (w : World) (hl : xs.length ≤ 1000000) (hs : Sl byt w v xs) :
    Calls Try.prog 13 #[v] w fun e w' => e = .returned (.tuple #[.int .i64 (getL xs).1, .int .i64 (getL xs).2.1, .int .i64 (getL xs).2.2]) ∧ w = w' := by
  obtain ⟨A, c, rfl, _, _, hc⟩ := hs.form
  clear hs
  go_enter Try.func13, Try.ntmps13
  go_wp2
  go_loop [5, 10] (Rel2 fun (s : Nat × Nat) t i => s.1 ≤ xs.length ∧ s.1 ≤ 8 ∧ s.2 < 128 ^ s.1 ∧ i = .int .i64 s.1 ∧ t = .int .i64 s.2 ∧ getGo s.1 s.2 (xs.drop s.1) = getL xs) (fun _ i => xs.length - (intOf i).toNat)
  case atStart => exact Rel2.mk (0, 0) ⟨Nat.zero_le _, by omega, by simp, rfl, rfl, rfl⟩
  case round =>
    obtain ⟨⟨k, z⟩, hk, hk8, hz, rfl, rfl, hg⟩ := hrel
    simp only at hk hk8 hz hg
    by_cases hlt : k < xs.length
    · obtain ⟨b, off, rfl, _, hall⟩ := hc (by omega)
      have hcell := hall k hlt
      clear hall
      unfold byt at hcell
      have hx := (xs[k]).toNat_lt
      clear hc
      have G := hide (hg.symm.trans (getGo_at xs k z hlt))
      clear hg
      by_cases h8 : k < 8
      · have X := or_step z (xs[k]).toNat k hz h8
        have hz2 := next_lt z (xs[k]).toNat k hz
        have hb2 := pow128_le (k + 1) (by omega)
        generalize hq : z + (xs[k]).toNat % 128 * 128 ^ k = z2 at *
        have Q := hide hq
        clear hq
        have Z := hide hz2
        have hz2b : (z2 : Int) ≤ 72057594037927936 := by omega
        clear hz hz2 hb2
        by_cases hbig : 128 ≤ (xs[k]).toNat
        · go_wp2
          go_round
          case rel => exact Rel2.mk (k + 1, z2) ⟨by simp only; omega, by simp only; omega, Z.out, by go_num, rfl, by rw [G.out, if_neg (by omega), if_pos hbig]⟩
          case measure => simp [intOf]; omega
        · by_cases h0 : 0 < k ∧ (xs[k]).toNat = 0
          · obtain ⟨h0, h00⟩ := h0
            go_wp2
            go_ret3
            have e : getL xs = (0, 0, 3) := by rw [G.out, if_neg (by omega), if_neg hbig, if_pos ⟨h0, h00⟩]
            rw [e]
            exact ⟨rfl, rfl⟩
          · have e1 : getL xs = if far (unzig z2) then (0, 0, 3) else (unzig z2, (k : Int) + 1, 0) := by rw [G.out, if_neg (by omega), if_neg hbig, if_neg h0]
            have E := hide e1
            clear e1 Q Z G
            have h0' : (k ≤ 0 ∧ 0 ≤ (xs[k]).toNat) ∨ (0 < k ∧ 0 < (xs[k]).toNat) := by omega
            clear h0
            by_cases hpar : z2 % 2 = 1
            · obtain ⟨D, hn1, hn2⟩ := neg_half2 hpar hz2b
              have hn := get_cases E.out rfl
              generalize unzig z2 = n at *
              have HN := hide hn
              have hz1 : (z2 : Int) % 2 = 1 := by omega
              clear hn E hpar
              rcases far3 n with ⟨hf, hf1, hf2⟩ | ⟨hf, hf1, hf2⟩ | ⟨hf, hf1, hf2⟩
              all_goals
                have HF := hide hf
                clear hf
                rcases h0' with ⟨h0, h00⟩ | ⟨h0, h00⟩
                all_goals
                  go_wp2
                  all_goals
                    go_ret3
                    first
                      | (obtain ⟨q1, q2, q3⟩ := HN.out.2 HF.out; rw [q1, q2, q3]; exact ⟨rfl, rfl⟩)
                      | (obtain ⟨q1, q2, q3⟩ := HN.out.1 HF.out; rw [q1, q2, q3]; exact ⟨rfl, rfl⟩)
            · have hn := get_cases E.out (unzig_even hpar)
              have HN := hide hn
              clear hn E
              rcases far3 ((z2 / 2 : Nat) : Int) with ⟨hf, hf1, hf2⟩ | ⟨hf, hf1, hf2⟩ | ⟨hf, hf1, hf2⟩
              all_goals
                have HF := hide hf
                clear hf
                rcases h0' with ⟨h0, h00⟩ | ⟨h0, h00⟩
                all_goals
                  go_wp2
                  all_goals
                    go_ret3
                    first
                      | (obtain ⟨q1, q2, q3⟩ := HN.out.2 HF.out; rw [q1, q2, q3]; exact ⟨rfl, rfl⟩)
                      | (obtain ⟨q1, q2, q3⟩ := HN.out.1 HF.out; rw [q1, q2, q3]; exact ⟨rfl, rfl⟩)
      · have h8' : k = 8 := by omega
        have e : getL xs = (0, 0, 3) := G.out.trans (if_pos h8')
        have E := hide e
        clear e G
        subst h8'
        go_wp2
        go_ret3
        have e := E.out
        rw [e]
        exact ⟨rfl, rfl⟩
    · obtain rfl : k = xs.length := by omega
      have e : getL xs = (0, 0, if xs.length = 8 then 3 else 4) := by rw [← hg, List.drop_of_length_le (Nat.le_refl _), getGo]
      have E := hide e
      clear e hg hz hc
      rcases (show xs.length < 8 ∨ xs.length = 8 by omega) with h8 | h8
      · go_wp2
        go_ret3
        rw [E.out, if_neg (by omega)]
        exact ⟨rfl, rfl⟩
      · have e8 : ((xs.length : Int) == 8) = true := by rw [h8]; rfl
        have E8 := hide h8
        clear h8
        go_wp2
        go_ret3
        rw [E.out, if_pos E8.out]
        exact ⟨rfl, rfl⟩
set_option maxRecDepth 100000 in
set_option maxHeartbeats 1000000 in
theorem rget_any (v : Value) (xs : List UInt8) (w : World) (hl : xs.length ≤ 1000000) (hs : Sl byt w v xs) :
    Calls Try.prog 14 #[v] w fun e w' => e = .returned (.tuple #[.int .i64 (getL xs).1, .int .i64 (getL xs).2.1, .int .i64 (getL xs).2.2]) ∧ w = w' := by
  obtain ⟨A, c, rfl, _, _, hc⟩ := hs.form
  clear hs
  go_enter Try.func14, Try.ntmps14
  go_wp2
  go_loop [5, 6, 7] (fun t p i => Rel2 (fun (s : Nat × Nat) t i => s.1 ≤ xs.length ∧ s.1 ≤ 8 ∧ s.2 < 128 ^ s.1 ∧ i = .int .i64 s.1 ∧ t = .int .i64 s.2 ∧ p = .int .i64 ((128 ^ s.1 : Nat) : Int) ∧ getGo s.1 s.2 (xs.drop s.1) = getL xs) t i) (fun _ _ i => xs.length - (intOf i).toNat)
  case atStart => exact Rel2.mk (0, 0) ⟨Nat.zero_le _, by omega, by simp, rfl, rfl, rfl, rfl⟩
  case round =>
    obtain ⟨⟨k, z⟩, hk, hk8, hz, rfl, rfl, rfl, hg⟩ := hrel
    simp only at hk hk8 hz hg
    by_cases hlt : k < xs.length
    · obtain ⟨b, off, rfl, _, hall⟩ := hc (by omega)
      have hcell := hall k hlt
      clear hall
      unfold byt at hcell
      have hx := (xs[k]).toNat_lt
      clear hc
      have G := hide (hg.symm.trans (getGo_at xs k z hlt))
      clear hg
      by_cases h8 : k < 8
      · obtain ⟨p, q, hp, hp1, hzx, hpb, X, hq, hzb, hz2b, hlt2⟩ := rget_step z (xs[k]).toNat k hz h8
        rw [hzx] at G
        rw [hp]
        have P := hide hp1
        have Z := hide hlt2
        have hzq : (z : Int) + (q : Int) = ((z + q : Nat) : Int) := by push_cast; rfl
        clear hp hp1 hz hzx hlt2
        generalize z + q = z2 at *
        by_cases hbig : 128 ≤ (xs[k]).toNat
        · go_wp2
          go_round
          case rel => exact Rel2.mk (k + 1, z2) ⟨by simp only; omega, by simp only; omega, Z.out, by go_num, rfl, by simp only; rw [P.out]; go_num, by rw [G.out, if_neg (by omega), if_pos hbig]⟩
          case measure => simp [intOf]; omega
        · by_cases h0 : 0 < k ∧ (xs[k]).toNat = 0
          · obtain ⟨h0, h00⟩ := h0
            have e : getL xs = (0, 0, 3) := by rw [G.out, if_neg (by omega), if_neg hbig, if_pos ⟨h0, h00⟩]
            have E := hide e
            clear e G
            go_wp2
            all_goals
              go_ret3
              rw [E.out]
              exact ⟨rfl, rfl⟩
          · have e1 : getL xs = if far (unzig z2) then (0, 0, 3) else (unzig z2, (k : Int) + 1, 0) := by rw [G.out, if_neg (by omega), if_neg hbig, if_neg h0]
            have E := hide e1
            clear e1 Z G
            have h0' : (k ≤ 0 ∧ 0 ≤ (xs[k]).toNat) ∨ (0 < k ∧ (((xs[k]).toNat : Int) == 0) = false) := by
              rw [beq_eq_false_iff_ne]; omega
            clear h0
            by_cases hpar : z2 % 2 = 1
            · obtain ⟨D, hn1, hn2⟩ := neg_half2 hpar hz2b
              have hn := get_cases E.out rfl
              generalize unzig z2 = n at *
              have HN := hide hn
              have hz1 : (z2 : Int) % 2 = 1 := by omega
              clear hn E hpar
              rcases far3 n with ⟨hf, hf1, hf2⟩ | ⟨hf, hf1, hf2⟩ | ⟨hf, hf1, hf2⟩
              all_goals
                have HF := hide hf
                clear hf
                rcases h0' with ⟨h0, h00⟩ | ⟨h0, h00⟩
                all_goals
                  go_wp2
                  all_goals
                    go_ret3
                    first
                      | (obtain ⟨q1, q2, q3⟩ := HN.out.2 HF.out; rw [q1, q2, q3]; exact ⟨rfl, rfl⟩)
                      | (obtain ⟨q1, q2, q3⟩ := HN.out.1 HF.out; rw [q1, q2, q3]; exact ⟨rfl, rfl⟩)
            · have hn := get_cases E.out (unzig_even hpar)
              have HN := hide hn
              clear hn E
              rcases far3 ((z2 / 2 : Nat) : Int) with ⟨hf, hf1, hf2⟩ | ⟨hf, hf1, hf2⟩ | ⟨hf, hf1, hf2⟩
              all_goals
                have HF := hide hf
                clear hf
                rcases h0' with ⟨h0, h00⟩ | ⟨h0, h00⟩
                all_goals
                  go_wp2
                  all_goals
                    go_ret3
                    first
                      | (obtain ⟨q1, q2, q3⟩ := HN.out.2 HF.out; rw [q1, q2, q3]; exact ⟨rfl, rfl⟩)
                      | (obtain ⟨q1, q2, q3⟩ := HN.out.1 HF.out; rw [q1, q2, q3]; exact ⟨rfl, rfl⟩)
      · have h8' : k = 8 := by omega
        have e : getL xs = (0, 0, 3) := G.out.trans (if_pos h8')
        have E := hide e
        clear e G
        subst h8'
        go_wp2
        all_goals
          go_ret3
          rw [E.out]
          exact ⟨rfl, rfl⟩
    · obtain rfl : k = xs.length := by omega
      have e : getL xs = (0, 0, if xs.length = 8 then 3 else 4) := by rw [← hg, List.drop_of_length_le (Nat.le_refl _), getGo]
      have E := hide e
      clear e hg hz hc
      rcases (show xs.length < 8 ∨ xs.length = 8 by omega) with h8 | h8
      · go_wp2
        all_goals
          go_ret3
          rw [E.out, if_neg (by omega)]
          exact ⟨rfl, rfl⟩
      · have e8 : (8 : Int) ≤ (xs.length : Int) := by omega
        have e9 : decide ((xs.length : Int) < 8) = false := by simp; omega
        have E8 := hide h8
        clear h8
        go_wp2
        all_goals
          go_ret3
          rw [E.out, if_pos E8.out]
          exact ⟨rfl, rfl⟩
end Go.Proofs.Ytenlagddfgociaa
