/- Texts of one proof, laid together: C, CW, CX, CY, CA. No condition. -/
import Derived.Test.YtanblnhnfkeffaaTC3
import Derived.Test.YtanblnhnfkeffaaChecked
import Derived.Lib.SlBytesConst
namespace Go.Proofs.Ytanblnhnfkeffaa
open Go.RowKit
set_option linter.unusedVariables false

def crcBit (c : Nat) : Nat := if 32768 ≤ c then (2 * c) % 65536 ^^^ 4129 else 2 * c
def crcBits : Nat → Nat → Nat
 | 0, c => c
 | k + 1, c => crcBit (crcBits k c)
def crcByte (c : Nat) (x : UInt8) : Nat := crcBits 8 (c ^^^ (256 * x.toNat))
theorem crcByte_eq (c : Nat) (x : UInt8) : crcByte c x = crcBits 8 (c ^^^ (256 * x.toNat)) := rfl
def crc (l : List UInt8) : Nat := l.foldl crcByte 65535
theorem xor16 {a b : Nat} (ha : a < 65536) (hb : b < 65536) : a ^^^ b < 65536 := by
 have h := Nat.xor_lt_two_pow (n := 16) (x := a) (y := b) (by simpa using ha) (by simpa using hb)
 simpa using h
theorem crcBit_lt {c : Nat} (h : c < 65536) : crcBit c < 65536 := by
 unfold crcBit; split
 ·exact xor16 oM oM
 ·omega
theorem crcBits_lt {c : Nat} (h : c < 65536) (k : Nat) : crcBits k c < 65536 := by
 induction k with
 | zero => exact h
 | succ k ih => exact crcBit_lt ih
theorem crcByte_lt {c : Nat} (h : c < 65536) (x : UInt8) : crcByte c x < 65536 := by
 have hx := x.toNat_lt
 have h1 : 256 * x.toNat < 65536 := by omega
 have h2 := xor16 h h1
 unfold crcByte
 exact crcBits_lt h2 8
theorem foldl_crc_lt (l : List UInt8) : ∀ {c : Nat}, c < 65536 → l.foldl crcByte c < 65536 := by
 induction l with
 | nil => intro c h; exact h
 | cons x l ih => intro c h; rw [List.foldl_cons]; exact ih (crcByte_lt h x)
theorem crc_lt (l : List UInt8) : crc l < 65536 := by
 have h : 65535 < 65536 := by omega
 unfold crc
 exact foldl_crc_lt l h
theorem crc_take_succ (l : List UInt8) (k : Nat) (h : k < l.length) : crc (l.take (k + 1)) = crcByte (crc (l.take k)) l[k] := by
 unfold crc
 rw [List.take_succ_eq_append_getElem h, List.foldl_append, List.foldl_cons, List.foldl_nil]
theorem xor_byte (c : Nat) (x : Nat) (hc : c < 65536) (hx : x < 256) : bits .xor .i64 (c : Int) ((x : Int) * 256) = ((c ^^^ (256 * x) : Nat) : Int) := by
 rw [← i64_xor_nat c (256 * x) oM oM]; congr 1; omega
theorem xor_poly (c : Nat) (h : c < 65536) : bits .xor .i64 ((2 * (c : Int)) % 65536) 4129 = ((2 * c % 65536 ^^^ 4129 : Nat) : Int) := by
 have : c < 65536 := h
 rw [← i64_xor_nat (2 * c % 65536) 4129 oM oM]; congr 1

def zig (n : Int) : Nat := if n < 0 then (-2 * n - 1).toNat else (2 * n).toNat
def putN : Nat → Nat → List UInt8
 | 0, z => [UInt8.ofNat z]
 | f + 1, z => if 128 ≤ z then UInt8.ofNat (z % 128 + 128) :: putN f (z / 128) else [UInt8.ofNat z]
def putL (n : Int) : List UInt8 := putN 10 (zig n)
theorem putN_big {f z : Nat} (h : 128 ≤ z) : putN (f + 1) z = UInt8.ofNat (z % 128 + 128) :: putN f (z / 128) := by rw [putN, if_pos h]
theorem putN_small {f z : Nat} (h : z < 128) : putN f z = [UInt8.ofNat z] := by
 cases f with
 | zero => rfl
 | succ f => rw [putN, if_neg oM]
theorem putN_len (f : Nat) : ∀ z, 1 ≤ (putN f z).length ∧ (putN f z).length ≤ f + 1 := by
 induction f with
 | zero => intro z; simp [putN]
 | succ f ih =>
   intro z
   by_cases h : 128 ≤ z
   ·rw [putN_big h]; have := ih (z / 128); simp only [List.length_cons]; omega
   ·rw [putN_small oM]; simp

def unzig (z : Nat) : Int := if z % 2 = 1 then -(((z + 1) / 2 : Nat) : Int) else ((z / 2 : Nat) : Int)
def far (n : Int) : Bool := decide (n < -1125899906842624) || decide (n > 1125899906842624)
def getGo : Nat → Nat → List UInt8 → Int × Int × Int
 | i, _, [] => (0, 0, if i = 8 then 3 else 4)
 | i, z, c :: r =>
   if i = 8 then (0, 0, 3)
   else if 128 ≤ c.toNat then getGo (i + 1) (z + c.toNat % 128 * 128 ^ i) r
   else if 0 < i ∧ c.toNat = 0 then (0, 0, 3)
   else if far (unzig (z + c.toNat % 128 * 128 ^ i)) then (0, 0, 3)
   else (unzig (z + c.toNat % 128 * 128 ^ i), (i : Int) + 1, 0)
def getL (b : List UInt8) : Int × Int × Int := getGo 0 0 b
theorem getGo_at (xs : List UInt8) (k z : Nat) (hk : k < xs.length) : getGo k z (xs.drop k) = if k = 8 then (0, 0, 3)
  else if 128 ≤ (xs[k]).toNat then getGo (k + 1) (z + (xs[k]).toNat % 128 * 128 ^ k) (xs.drop (k + 1))
  else if 0 < k ∧ (xs[k]).toNat = 0 then (0, 0, 3)
  else if far (unzig (z + (xs[k]).toNat % 128 * 128 ^ k)) then (0, 0, 3)
  else (unzig (z + (xs[k]).toNat % 128 * 128 ^ k), (k : Int) + 1, 0) := by
 rw [List.drop_eq_getElem_cons hk, getGo]
theorem next_lt (z x k : Nat) (hz : z < 128 ^ k) : z + x % 128 * 128 ^ k < 128 ^ (k + 1) := by
 have h1 : x % 128 * 128 ^ k ≤ 127 * 128 ^ k := Nat.mul_le_mul_right _ oM
 have h2 : 128 ^ (k + 1) = 128 * 128 ^ k := by rw [Nat.pow_succ, Nat.mul_comm]
 omega
theorem pow128_le (k : Nat) (hk : k ≤ 8) : 128 ^ k ≤ 72057594037927936 := by
 have h : 128 ^ k ≤ 128 ^ 8 := Nat.pow_le_pow_right oM hk
 have h8 : 128 ^ 8 = 72057594037927936 := by decide
 omega
theorem or_step (z x k : Nat) (hz : z < 128 ^ k) (hk : k < 8) :
  bits .or .i64 (z : Int) (wrap64 ((x : Int) % 128 * 2 ^ (7 * k))) = ((z + x % 128 * 128 ^ k : Nat) : Int) := by
 have hp : (128 : Nat) ^ k = 2 ^ (7 * k) := by rw [show (128 : Nat) = 2 ^ 7 from rfl, ← Nat.pow_mul]
 have h1 := next_lt z x k hz
 have h2 := pow128_le (k + 1) oM
 have h3 : ((x : Int) % 128 * 2 ^ (7 * k)) = ((x % 128 * 128 ^ k : Nat) : Int) := by rw [hp]; push_cast; rfl
 have h4 : wrap64 ((x % 128 * 128 ^ k : Nat) : Int) = ((x % 128 * 128 ^ k : Nat) : Int) := by unfold wrap64; omega
 rw [h3, h4, i64_or_nat z (x % 128 * 128 ^ k) oM oM]
 congr 1
 rw [hp] at hz ⊢
 rw [Nat.add_comm, Nat.mul_comm, Nat.two_pow_add_eq_or_of_lt hz, Nat.or_comm]
theorem unzig_odd {z : Nat} (h : z % 2 = 1) : unzig z = -(((z + 1) / 2 : Nat) : Int) := by rw [unzig, if_pos h]
theorem unzig_even {z : Nat} (h : ¬ z % 2 = 1) : unzig z = ((z / 2 : Nat) : Int) := by rw [unzig, if_neg h]
theorem neg_half (y : Nat) : (-(((2 * y + 1 : Nat) : Int) + 1)).tdiv 2 = -(((y + 1 : Nat)) : Int) := by
 have h : -(((2 * y + 1 : Nat) : Int) + 1) = -((2 * (y + 1) : Nat) : Int) := by push_cast; omega
 rw [h, Int.neg_tdiv, Int.tdiv_eq_ediv_of_nonneg oM]; congr 1; omega
theorem far_true {n : Int} : far n = true ↔ n < -1125899906842624 ∨ 1125899906842624 < n := by simp [far]
theorem far_false {n : Int} : far n = false ↔ -1125899906842624 ≤ n ∧ n ≤ 1125899906842624 := by simp [far]
theorem far3 (n : Int) : (far n = false ∧ -1125899906842624 ≤ n ∧ n ≤ 1125899906842624) ∨ (far n = true ∧ n ≤ -1125899906842625 ∧ n ≤ 0) ∨ (far n = true ∧ -1125899906842624 ≤ n ∧ 1125899906842625 ≤ n) := by
 rcases hf : far n with _ | _
 ·have := far_false.1 hf; exact .inl ⟨rfl, this.1, this.2⟩
 ·have := far_true.1 hf
  by_cases h : -1125899906842624 ≤ n
  ·exact .inr (.inr ⟨rfl, h, by omega⟩)
  ·exact .inr (.inl ⟨rfl, by omega, by omega⟩)
theorem get_cases {r : Int × Int × Int} {u n : Int} {k : Nat} (E : r = if far u then (0, 0, 3) else (u, (k : Int) + 1, 0)) (hu : u = n) :
  (far n = true → r.1 = 0 ∧ r.2.1 = 0 ∧ r.2.2 = 3) ∧ (far n = false → r.1 = n ∧ r.2.1 = k + 1 ∧ r.2.2 = 0) := by
 subst hu
 constructor <;> intro h <;> rw [E, h] <;> simp
theorem neg_half2 {z : Nat} (h : z % 2 = 1) (hz : (z : Int) ≤ 72057594037927936) : (-((z : Int) + 1)).tdiv 2 = unzig z ∧ -36028797018963969 ≤ unzig z ∧ unzig z ≤ 0 := by
 rw [unzig_odd h]
 obtain ⟨y, rfl⟩ : ∃ y : Nat, z = 2 * y + 1 := ⟨z / 2, by omega⟩
 have := neg_half y
 have hy2 : (2 * y + 1 + 1) / 2 = y + 1 := by omega
 rw [hy2]
 exact ⟨this, by omega, by omega⟩
def sumL (xs : List UInt8) : List UInt8 := xs ++ [UInt8.ofNat (crc xs / 256), UInt8.ofNat (crc xs % 256)]
def be4 (n : Nat) : List UInt8 := [0, 0, UInt8.ofNat (n / 256), UInt8.ofNat (n % 256)]
theorem sumL_length (xs : List UInt8) : (sumL xs).length = xs.length + 2 := by simp [sumL]
theorem ofNat_byte (z : Nat) (h : z < 256) : byt (UInt8.ofNat z) = .int .u8 (z : Int) := by
 unfold byt; rw [UInt8.toNat_ofNat']; congr 2; omega
theorem pow128_lt (k : Nat) (hk : k < 8) : 128 ^ k ≤ 562949953421312 := by
 have h : 128 ^ k ≤ 128 ^ 7 := Nat.pow_le_pow_right oM oM
 have h8 : 128 ^ 7 = 562949953421312 := by decide
 omega
end Go.Proofs.Ytanblnhnfkeffaa
namespace Go.Proofs.Ytanblnhnfkeffaa
open Go.RowKit
set_option linter.unusedVariables false

theorem elB : ElI Try.prog 25 5 (.int .u8 0) 1 := ⟨Try.underlying25, info_parts (P := Try.prog) (by kernel_rfl), rfl⟩

set_option maxRecDepth 100000 in
set_option maxHeartbeats 1000000 in
theorem sum_any (v : Value) (xs : List UInt8) (w : World) (hl : xs.length ≤ 1000000) (hs : Sl byt w v xs) :
  Calls Try.prog 43 #[v] w fun e w' => e = .returned (.int .i64 (crc xs)) ∧ w = w' := by
 obtain ⟨A, c, rfl, _, _, hc⟩ := hs.form
 clear hs
 go_enter Try.func43, Try.ntmps43
 go_wp2
 go_loop [3, 8] (Rel2 fun (k : Nat) t i => k ≤ xs.length ∧ i = .int .i64 k ∧ t = .int .i64 (crc (xs.take k))) (fun _ i => xs.length - (intOf i).toNat)
 case atStart => exact Rel2.mk 0 ⟨Nat.zero_le _, rfl, rfl⟩
 case round =>
  obtain ⟨k, hk, rfl, rfl⟩ := hrel
  by_cases hlt : k < xs.length
  ·obtain ⟨b, off, rfl, _, hall⟩ := hc oM
   have hcell := hall k hlt
   clear hall
   clear hc
   have hb := crc_lt (xs.take k)
   have hx := (xs[k]).toNat_lt
   have X := xor_byte (crc (xs.take k)) (xs[k]).toNat hb hx
   have hbi : ((crc (xs.take k) : Nat) : Int) ≤ 65535 := by omega
   clear hb
   have Hs := hide (crc_take_succ xs k hlt)
   unfold byt at hcell
   go_wp2
   clear X
   obtain ⟨wo, rfl⟩ : ∃ wo : World, wo = w := ⟨_, rfl⟩
   go_loop [3, 17] (Rel2 fun (m : Nat) t i => m ≤ 8 ∧ i = .int .i64 m ∧ t = .int .i64 (crcBits m (crc (xs.take k) ^^^ (256 * xs[k].toNat)))) (fun _ i => 8 - (intOf i).toNat)
   case atStart => exact Rel2.mk 0 ⟨Nat.zero_le _, rfl, rfl⟩
   case round =>
    obtain ⟨m, hm, rfl, rfl⟩ := hrel
    have h2 := crcBits_lt (xor16 (a := crc (xs.take k)) (b := 256 * (xs[k]).toNat) oM oM) m
    have X := hide (xor_poly _ h2)
    have h2i : ((crcBits m (crc (xs.take k) ^^^ (256 * xs[k].toNat)) : Nat) : Int) ≤ 65535 := by omega
    clear h2
    by_cases hm8 : m < 8
    ·have hor : decide ((32768 : Int) ≤ ((crcBits m (crc (xs.take k) ^^^ (256 * xs[k].toNat)) : Nat) : Int)) = true ∨ decide ((32768 : Int) ≤ ((crcBits m (crc (xs.take k) ^^^ (256 * xs[k].toNat)) : Nat) : Int)) = false := by
      cases decide ((32768 : Int) ≤ ((crcBits m (crc (xs.take k) ^^^ (256 * xs[k].toNat)) : Nat) : Int)) <;> simp
     rcases hor with hbig | hbig
     all_goals
      go_wp2
      go_round
      case rel => exact Rel2.mk (m + 1) ⟨by omega, by go_num, by simp at hbig; simp only [crcBits, crcBit]; first | rw [if_pos oM, X.out] | (rw [if_neg oM]; go_num)⟩
      case measure => simp [intOf]; omega
    ·obtain rfl : m = 8 := by omega
     clear X
     go_wp2
     go_round
     case rel => exact Rel2.mk (k + 1) ⟨by omega, by go_num, by rw [Hs.out, crcByte_eq]⟩
     case measure => simp [intOf]; omega
  ·obtain rfl : k = xs.length := by omega
   go_wp2
   go_ret
   simp

set_option maxRecDepth 100000 in
set_option maxHeartbeats 1000000 in
theorem get_any (v : Value) (xs : List UInt8) (w : World) (hl : xs.length ≤ 1000000) (hs : Sl byt w v xs) :
  Calls Try.prog 45 #[v] w fun e w' => e = .returned (.tuple #[.int .i64 (getL xs).1, .int .i64 (getL xs).2.1, .int .i64 (getL xs).2.2]) ∧ w = w' := by
 obtain ⟨A, c, rfl, _, _, hc⟩ := hs.form
 clear hs
 go_enter Try.func45, Try.ntmps45
 go_wp2
 go_loop [5, 10] (Rel2 fun (s : Nat × Nat) t i => s.1 ≤ xs.length ∧ s.1 ≤ 8 ∧ s.2 < 128 ^ s.1 ∧ i = .int .i64 s.1 ∧ t = .int .i64 s.2 ∧ getGo s.1 s.2 (xs.drop s.1) = getL xs) (fun _ i => xs.length - (intOf i).toNat)
 case atStart => exact Rel2.mk (0, 0) ⟨Nat.zero_le _, by omega, by simp, rfl, rfl, rfl⟩
 case round =>
  obtain ⟨⟨k, z⟩, hk, hk8, hz, rfl, rfl, hg⟩ := hrel
  simp only at hk hk8 hz hg
  by_cases hlt : k < xs.length
  ·obtain ⟨b, off, rfl, _, hall⟩ := hc oM
   have hcell := hall k hlt
   clear hall
   unfold byt at hcell
   have hx := (xs[k]).toNat_lt
   clear hc
   have G := hide (hg.symm.trans (getGo_at xs k z hlt))
   clear hg
   by_cases h8 : k < 8
   ·have X := or_step z (xs[k]).toNat k hz h8
    have hz2 := next_lt z (xs[k]).toNat k hz
    have hb2 := pow128_le (k + 1) oM
    generalize hq : z + (xs[k]).toNat % 128 * 128 ^ k = z2 at *
    have Q := hide hq
    clear hq
    have Z := hide hz2
    have hz2b : (z2 : Int) ≤ 72057594037927936 := by omega
    clear hz hz2 hb2
    by_cases hbig : 128 ≤ (xs[k]).toNat
    ·go_wp2
     go_round
     case rel => exact Rel2.mk (k + 1, z2) ⟨by simp only; omega, by simp only; omega, Z.out, by go_num, rfl, by rw [G.out, if_neg oM, if_pos hbig]⟩
     case measure => simp [intOf]; omega
    ·by_cases h0 : 0 < k ∧ (xs[k]).toNat = 0
     ·obtain ⟨h0, h00⟩ := h0
      go_wp2
      go_ret3
      have e : getL xs = (0, 0, 3) := by rw [G.out, if_neg oM, if_neg hbig, if_pos ⟨h0, h00⟩]
      rw [e]
      exact ⟨rfl, rfl⟩
     ·have e1 : getL xs = if far (unzig z2) then (0, 0, 3) else (unzig z2, (k : Int) + 1, 0) := by rw [G.out, if_neg oM, if_neg hbig, if_neg h0]
      have E := hide e1
      clear e1 Q Z G
      have h0' : (k ≤ 0 ∧ 0 ≤ (xs[k]).toNat) ∨ (0 < k ∧ 0 < (xs[k]).toNat) := by omega
      clear h0
      by_cases hpar : z2 % 2 = 1
      ·obtain ⟨D, hn1, hn2⟩ := neg_half2 hpar hz2b
       have hn := get_cases E.out rfl
       generalize unzig z2 = n at *
       have HN := hide hn
       have hz1 : (z2 : Int) % 2 = 1 := by omega
       clear hn E hpar
       rcases far3 n with ⟨hf, hf1, hf2⟩ | ⟨hf, hf1, hf2⟩ | ⟨hf, hf1, hf2⟩
       all_goals
        have HF := hide hf
        clear hf
        rcases h0' with ⟨h0, h00⟩ | ⟨h0, h00⟩
        all_goals
         go_wp2
         all_goals
          go_ret3
          first
           | (obtain ⟨q1, q2, q3⟩ := HN.out.2 HF.out; rw [q1, q2, q3]; exact ⟨rfl, rfl⟩)
           | (obtain ⟨q1, q2, q3⟩ := HN.out.1 HF.out; rw [q1, q2, q3]; exact ⟨rfl, rfl⟩)
      ·have hn := get_cases E.out (unzig_even hpar)
       have HN := hide hn
       clear hn E
       rcases far3 ((z2 / 2 : Nat) : Int) with ⟨hf, hf1, hf2⟩ | ⟨hf, hf1, hf2⟩ | ⟨hf, hf1, hf2⟩
       all_goals
        have HF := hide hf
        clear hf
        rcases h0' with ⟨h0, h00⟩ | ⟨h0, h00⟩
        all_goals
         go_wp2
         all_goals
          go_ret3
          first
           | (obtain ⟨q1, q2, q3⟩ := HN.out.2 HF.out; rw [q1, q2, q3]; exact ⟨rfl, rfl⟩)
           | (obtain ⟨q1, q2, q3⟩ := HN.out.1 HF.out; rw [q1, q2, q3]; exact ⟨rfl, rfl⟩)
   ·have h8' : k = 8 := by omega
    have e : getL xs = (0, 0, 3) := G.out.trans (if_pos h8')
    have E := hide e
    clear e G
    subst h8'
    go_wp2
    go_ret3
    have e := E.out
    rw [e]
    exact ⟨rfl, rfl⟩
  ·obtain rfl : k = xs.length := by omega
   have e : getL xs = (0, 0, if xs.length = 8 then 3 else 4) := by rw [← hg, List.drop_of_length_le (Nat.le_refl _), getGo]
   have E := hide e
   clear e hg hz hc
   rcases (show xs.length < 8 ∨ xs.length = 8 by omega) with h8 | h8
   ·go_wp2
    go_ret3
    rw [E.out, if_neg oM]
    exact ⟨rfl, rfl⟩
   ·have e8 : ((xs.length : Int) == 8) = true := by rw [h8]; rfl
    have E8 := hide h8
    clear h8
    go_wp2
    go_ret3
    rw [E.out, if_pos E8.out]
    exact ⟨rfl, rfl⟩
end Go.Proofs.Ytanblnhnfkeffaa
namespace Go.Proofs.Ytanblnhnfkeffaa
open Go.RowKit
set_option linter.unusedVariables false

theorem zig_eq (n : Int) (h1 : -2305843009213693952 ≤ n) (h2 : n ≤ 2305843009213693952) : (zig n : Int) = (if n < 0 then -2 * n - 1 else 2 * n) ∧ (zig n : Int) ≤ 4611686018427387904 := by
 unfold zig; split <;> omega

def PutRel (B : Nat) (v : Value) (xs : List UInt8) (e : TypeId) (z0 : Nat) (w : World) (o zv : Value) (wr : World) : Prop :=
 ∃ (f z : Nat) (ys : List UInt8), zv = .int .i64 z ∧ Own byt e wr B o (xs ++ ys) ∧ Grw w v wr o ∧ ys ++ putN f z = putN 10 z0 ∧ z < 128 ^ (f + 1) ∧ ys.length + f = 10 ∧ z ≤ z0
theorem PutRel.start {B : Nat} {v : Value} {xs : List UInt8} {e : TypeId} {z0 : Nat} {w : World} (ho : Own byt e w B v xs) (hz : (z0 : Int) ≤ 4611686018427387904) : PutRel B v xs e z0 w v (.int .i64 z0) w := by
 have h11 : 128 ^ (10 + 1) = 151115727451828646838272 := by decide
 exact ⟨10, z0, [], rfl, by simpa using ho, Grw.refl _ _, rfl, by omega, rfl, Nat.le_refl _⟩
theorem PutRel.step {B : Nat} {v o v1 : Value} {xs ys : List UInt8} {e : TypeId} {z0 f z : Nat} {w wr w1 : World} {ob : Obj} (hgr : Grw w v wr o) (hys : ys ++ putN f z = putN 10 z0) (hz : z < 128 ^ (f + 1)) (hl : ys.length + f = 10) (hz0 : z ≤ z0) (hbig : 128 ≤ z)
  (hown1 : Own byt e w1 B v1 (xs ++ ys ++ [UInt8.ofNat (z % 128 + 128)])) (hgr1 : Grw (wr.alloc ob) o w1 v1) : PutRel B v xs e z0 w v1 (.int .i64 ((z : Int) / 128)) w1 := by
 cases f with
 | zero => simp at hz; omega
 | succ f =>
   have hz2 : z / 128 < 128 ^ (f + 1) := by
    rw [Nat.pow_succ] at hz
    exact Nat.div_lt_of_lt_mul (by rw [Nat.mul_comm]; exact hz)
   refine ⟨f, z / 128, ys ++ [UInt8.ofNat (z % 128 + 128)], rfl, by rw [← List.append_assoc]; exact hown1, (hgr.alloc _).trans hgr1, ?_, hz2, by simp; omega, by omega⟩
   rw [← hys, putN_big hbig, List.append_assoc]; rfl
theorem PutRel.fin {f z z0 : Nat} {ys : List UInt8} (hys : ys ++ putN f z = putN 10 z0) (hs : z < 128) : ys ++ [UInt8.ofNat z] = putN 10 z0 := by rw [← hys, putN_small hs]

set_option maxRecDepth 100000 in
set_option maxHeartbeats 1000000 in
theorem put_any (B : Nat) (v : Value) (xs : List UInt8) (n : Int) (w : World) (h1 : -2305843009213693952 ≤ n) (h2 : n ≤ 2305843009213693952) (hl : xs.length ≤ 1000000000) (ho : Own byt 5 w B v xs) (hB : B ≤ w.heap.size) :
  Calls Try.prog 105 #[v, .int .i64 n] w fun e w' => ∃ v', e = .returned v' ∧ Own byt 5 w' B v' (xs ++ putL n) ∧ Grw w v w' v' := by
 obtain ⟨hz1, hz2⟩ := zig_eq n h1 h2
 go_enter Try.func105, Try.ntmps105
 have hcase : (decide (n < 0) = true ∧ (zig n : Int) = -2 * n - 1) ∨ (decide (n < 0) = false ∧ (zig n : Int) = 2 * n) := by
  by_cases h : n < 0
  ·rw [if_pos h] at hz1; exact .inl ⟨by simpa using h, hz1⟩
  ·rw [if_neg h] at hz1; exact .inr ⟨by simpa using h, hz1⟩
 have HP : Hx (putL n = putN 10 (zig n)) := hide rfl
 clear hz1
 rcases hcase with ⟨hn, hz⟩ | ⟨hn, hz⟩
 all_goals
  have hz' := hz.symm
  clear hz
  go_wp2
  clear hz'
  go_loopw [0, 5] (PutRel B v xs 5 (zig n) w) (fun _ z _ => (intOf z).toNat)
  case atStart => exact PutRel.start ho hz2
  case round =>
   obtain ⟨f, z, ys, rfl, hown, hgr, hys, hzf, hlen, hzz⟩ := hrel
   have hzb : (z : Int) ≤ 4611686018427387904 := by omega
   have HY := hide hys
   have HF := hide hzf
   have hly : ys.length ≤ 10 := by omega
   have HL := hide hlen
   clear hys hzf ho hlen
   by_cases hbig : 128 ≤ z
   ·go_wp2_with (at_builtin; refine wpl_app (.tmp 15) (.tmp 20) elB byt_one rfl rfl rfl rfl (hown.alloc _) (Sl.made _ _ [UInt8.ofNat (z % 128 + 128)] rfl (by simp [maxLen]) (by simp only [List.map_cons, List.map_nil]; rw [ofNat_byte _ oM]; push_cast; rfl)) (by simp; omega) oM (by have := hgr.1.size; simp; omega) ?_; intro v1 w1 hown1 hgr1)
    have R := PutRel.step (z0 := zig n) hgr HY.out HF.out HL.out hzz hbig hown1 hgr1
    clear hown1 hgr1 hown hgr
    go_wp2
    go_roundw
    case rel => exact R
    case measure => simp [intOf]; omega
   ·have hfin := hide (PutRel.fin (z0 := zig n) HY.out oM)
    go_wp2_with (at_builtin; refine wpl_app (.tmp 24) (.tmp 27) elB byt_one rfl rfl rfl rfl (hown.alloc _) (Sl.made _ _ [UInt8.ofNat z] rfl (by simp [maxLen]) (by simp only [List.map_cons, List.map_nil]; rw [ofNat_byte _ oM])) (by simp; omega) oM (by have := hgr.1.size; simp; omega) ?_; intro v1 w1 hown1 hgr1)
    go_wp2
    go_ret
    refine ⟨_, rfl, ?_, (hgr.alloc _).trans hgr1⟩
    rw [HP.out, ← hfin.out, ← List.append_assoc]
    exact hown1
theorem Put_near (n : Int) (w : World) (h : far n = false) : Calls Try.prog 44 #[.int .i64 n] w fun e w' => ∃ v', e = .returned (.tuple #[v', .int .i64 0]) ∧ Own byt 5 w' w.heap.size v' (putL n) ∧ Ext w w' := by
 obtain ⟨h1, h2⟩ := far_false.1 h
 clear h
 have P := put_any w.heap.size (.slice none 0 0) [] n w oM oM (by simp) (Own.nil _ _ _ _) (Nat.le_refl _)
 go_enter Try.func44, Try.ntmps44
 go_wp2_with (go_at_call 105; refine P.mono ?_; rintro e w1 ⟨v1, rfl, hown1, hgr1⟩)
 go_ret2
 exact ⟨_, rfl, hown1, hgr1.ext rfl⟩

theorem equal_any (u v : Value) (xs ys : List UInt8) (w : World) (hu : Sl byt w u xs) (hv : Sl byt w v ys) :
  Calls Try.prog 38 #[u, v] w fun e w' => e = .returned (.bool (xs == ys)) ∧ w = w' := by
 have c1 := run_conv_bytes (P := Try.prog) w 25 5 9 Try.underlying25 Try.underlying5 Try.underlying9 hu
 have c2 := run_conv_bytes (P := Try.prog) w 25 5 9 Try.underlying25 Try.underlying5 Try.underlying9 hv
 go_enter Try.func38, Try.ntmps38
 go_wp2
 go_ret
 exact ⟨rfl, rfl⟩

end Go.Proofs.Ytanblnhnfkeffaa
namespace Go.Proofs.Ytanblnhnfkeffaa
open Go.RowKit
set_option linter.unusedVariables false

def n4 (a b c d : Nat) : Nat := a * 16777216 + b * 65536 + c * 256 + d
def UnPost (w : World) (r : List UInt8 × List UInt8 × Int) (e : Ending) (w' : World) : Prop :=
 ∃ u v, e = .returned (.tuple #[u, v, .int .i64 r.2.2]) ∧ Sl byt w' u r.1 ∧ Sl byt w' v r.2.1 ∧ Ext w w'
theorem UnPost.nil {w w' : World} {r : List UInt8 × List UInt8 × Int} {k : Int} (h : r = ([], [], k)) (he : Ext w w') : UnPost w r (.returned (.tuple #[.slice none 0 0, .slice none 0 0, .int .i64 k])) w' := by
 subst h
 exact ⟨_, _, rfl, Sl.nil _ _, Sl.nil _ _, he⟩

end Go.Proofs.Ytanblnhnfkeffaa
namespace Go.Proofs.Ytanblnhnfkeffaa
open Go.RowKit
set_option linter.unusedVariables false

theorem madeAt {α : Type} {enc : α → Value} (e : TypeId) (w : World) {cs : Array Value} {n g : Nat} (xs : List α) (hg : g = w.heap.size) (hn : n = xs.length) (hm : n ≤ maxLen) (hc : cs = (xs.map enc).toArray) :
  Sl enc (w.alloc (.cells cs e)) (.slice (some ⟨g, 0, none⟩) n n) xs := by
 subst hg
 exact Sl.made e w xs hn hm hc
theorem madeAtF {α : Type} {enc : α → Value} (e : TypeId) (w : World) (fr : Nat × Nat) {cs : Array Value} {n g : Nat} (xs : List α) (hg : g = w.heap.size) (hn : n = xs.length) (hm : n ≤ maxLen) (hc : cs = (xs.map enc).toArray) :
  Sl enc (w.alloc (.cells cs e fr)) (.slice (some ⟨g, 0, none⟩) n n) xs := by
 subst hg
 refine Sl.mk hn (Nat.le_refl _) hm (fun _ => ⟨_, 0, rfl, fun j hj => ?_⟩)
 have h0 : (w.alloc (.cells cs e fr)).heap[w.heap.size]? = some (.cells cs e fr) := heap_alloc_new w _
 unfold World.cell?
 rw [h0]
 subst hc
 simp [List.getElem?_eq_getElem hj]
theorem conv_const {P : Program} (w : World) (g : Nat) (t e : TypeId) (C : Array Value) (n c : Nat) (ht : P.underlying t = some (.slice e)) (he : P.underlying e = some (.int .u8)) (hg : g = w.heap.size) :
  (convert t t (.slice (some ⟨g, 0, none⟩) n c)).run P (w.alloc (.cells C e)) = .ok (.slice (some ⟨g, 0, none⟩) n c) (w.alloc (.cells C e (C.size, C.size + 1))) := by
 subst hg
 exact Lib.run_convert_bytes_const w t e C n c ht he
theorem put_m64 : putL (-64) = [127] := by decide +kernel
theorem put_64 : putL 64 = [128, 1] := by decide +kernel
theorem get_3 : getL [128, 1, 5] = (64, 2, 0) := by decide +kernel
theorem crc_nil : crc [] = 65535 := by decide +kernel
theorem crc_9 : crc [49, 50, 51, 52, 53, 54, 55, 56, 57] = 10673 := by decide +kernel

set_option maxRecDepth 100000 in
set_option maxHeartbeats 4000000 in
theorem awake_any (w : World) : Calls Try.prog 33 #[] w fun e w' => e = .returned (.bool true) ∧ Ext w w' := by
 have kc := fun (w : World) (g : Nat) (C : Array Value) (n c : Nat) (hg : g = w.heap.size) => conv_const (P := Try.prog) w g 25 5 C n c Try.underlying25 Try.underlying5 hg
 have P1 := hide (fun w => Put_near (-64) w (by decide))
 have P2 := hide (fun w => Put_near 64 w (by decide))
 have S0 := hide (fun w => sum_any (.slice none 0 0) [] w (by simp) (Sl.nil _ _))
 go_enter Try.func33, Try.ntmps33
 go_wp2_with fail
 refine (P1.out _).mono ?_
 rintro e w1 ⟨v1, rfl, hown1, he1⟩
 rw [put_m64] at hown1
 go_wp2_with fail
 refine (P2.out _).mono ?_
 rintro e w2 ⟨v2, rfl, hown2, he2⟩
 rw [put_64] at hown2
 go_wp2_with fail
 refine (get_any _ [128, 1, 5] _ (by simp) (Sl.made _ _ [128, 1, 5] rfl (by simp [maxLen]) rfl)).mono ?_
 rintro e w3 ⟨rfl, rfl⟩
 rw [get_3]
 go_wp2_with fail
 refine (equal_any _ _ [127] [127] _ (hown1.sl.ext ((he2.alloc _).alloc _)) (madeAt _ _ [127] (by simp) rfl (by simp [maxLen]) rfl)).mono ?_
 rintro e w3 ⟨rfl, rfl⟩
 rw [show (([127] : List UInt8) == [127]) = true from rfl]
 go_wp2_with fail
 refine (equal_any _ _ [128, 1] [128, 1] _ (hown2.sl.ext ((((Ext.refl _).alloc _).alloc _).alloc _)) (madeAt _ _ [128, 1] (by simp) rfl (by simp [maxLen]) rfl)).mono ?_
 rintro e w3 ⟨rfl, rfl⟩
 rw [show (([128, 1] : List UInt8) == [128, 1]) = true from rfl]
 go_wp2_with fail
 refine (S0.out _).mono ?_
 rintro e w3 ⟨rfl, rfl⟩
 rw [crc_nil]
 go_wp2_with fail
 refine (sum_any _ [49, 50, 51, 52, 53, 54, 55, 56, 57] _ (by simp) (madeAtF _ _ _ [49, 50, 51, 52, 53, 54, 55, 56, 57] (by simp) rfl (by simp [maxLen]) rfl)).mono ?_
 rintro e w3 ⟨rfl, rfl⟩
 rw [crc_9]
 go_wp2_with fail
 go_ret
 refine ⟨rfl, he1.trans (he2.trans ?_)⟩
 exact (((((Ext.refl _).alloc _).alloc _).alloc _).alloc _)
end Go.Proofs.Ytanblnhnfkeffaa
