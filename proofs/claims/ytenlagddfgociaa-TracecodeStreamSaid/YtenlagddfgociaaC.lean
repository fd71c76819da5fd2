/- Plain functions for the codes of numbers, the check sum, and frames. No program, no condition. -/
import Derived.Test.YtenlagddfgociaaG
namespace Go.Proofs.Ytenlagddfgociaa
open Go.RowKit
set_option linter.unusedVariables false

def crcBit (c : Nat) : Nat := if 32768 ≤ c then (2 * c) % 65536 ^^^ 4129 else 2 * c
def crcBits : Nat → Nat → Nat
  | 0, c => c
  | k + 1, c => crcBit (crcBits k c)
def crcByte (c : Nat) (x : UInt8) : Nat := crcBits 8 (c ^^^ (256 * x.toNat))
theorem crcByte_eq (c : Nat) (x : UInt8) : crcByte c x = crcBits 8 (c ^^^ (256 * x.toNat)) := rfl
def crc (l : List UInt8) : Nat := l.foldl crcByte 65535
theorem xor16 {a b : Nat} (ha : a < 65536) (hb : b < 65536) : a ^^^ b < 65536 := by
  have h := Nat.xor_lt_two_pow (n := 16) (x := a) (y := b) (by simpa using ha) (by simpa using hb)
  simpa using h
theorem crcBit_lt {c : Nat} (h : c < 65536) : crcBit c < 65536 := by
  unfold crcBit; split
  · exact xor16 (by omega) (by omega)
  · omega
theorem crcBits_lt {c : Nat} (h : c < 65536) (k : Nat) : crcBits k c < 65536 := by
  induction k with
  | zero => exact h
  | succ k ih => exact crcBit_lt ih
theorem crcByte_lt {c : Nat} (h : c < 65536) (x : UInt8) : crcByte c x < 65536 := by
  have hx := x.toNat_lt
  have h1 : 256 * x.toNat < 65536 := by omega
  have h2 := xor16 h h1
  unfold crcByte
  exact crcBits_lt h2 8
theorem foldl_crc_lt (l : List UInt8) : ∀ {c : Nat}, c < 65536 → l.foldl crcByte c < 65536 := by
  induction l with
  | nil => intro c h; exact h
  | cons x l ih => intro c h; rw [List.foldl_cons]; exact ih (crcByte_lt h x)
theorem crc_lt (l : List UInt8) : crc l < 65536 := by
  have h : 65535 < 65536 := by omega
  unfold crc
  exact foldl_crc_lt l h
theorem crc_take_succ (l : List UInt8) (k : Nat) (h : k < l.length) : crc (l.take (k + 1)) = crcByte (crc (l.take k)) l[k] := by
  unfold crc
  rw [List.take_succ_eq_append_getElem h, List.foldl_append, List.foldl_cons, List.foldl_nil]
theorem xor_byte (c : Nat) (x : Nat) (hc : c < 65536) (hx : x < 256) : bits .xor .i64 (c : Int) ((x : Int) * 256) = ((c ^^^ (256 * x) : Nat) : Int) := by
  rw [← i64_xor_nat c (256 * x) (by omega) (by omega)]; congr 1; omega
theorem xor_byte' (c : Nat) (x : Nat) (hc : c < 65536) (hx : x < 256) : bits .xor .i64 (c : Int) (256 * (x : Int)) = ((c ^^^ (256 * x) : Nat) : Int) := by
  rw [← i64_xor_nat c (256 * x) (by omega) (by omega)]; congr 1
theorem xor_poly (c : Nat) (h : c < 65536) : bits .xor .i64 ((2 * (c : Int)) % 65536) 4129 = ((2 * c % 65536 ^^^ 4129 : Nat) : Int) := by
  have : c < 65536 := h
  rw [← i64_xor_nat (2 * c % 65536) 4129 (by omega) (by omega)]; congr 1

/-- The number that is written for n. -/
def zig (n : Int) : Nat := if n < 0 then (-2 * n - 1).toNat else (2 * n).toNat
def putN : Nat → Nat → List UInt8
  | 0, z => [UInt8.ofNat z]
  | f + 1, z => if 128 ≤ z then UInt8.ofNat (z % 128 + 128) :: putN f (z / 128) else [UInt8.ofNat z]
def putL (n : Int) : List UInt8 := putN 10 (zig n)
theorem putN_big {f z : Nat} (h : 128 ≤ z) : putN (f + 1) z = UInt8.ofNat (z % 128 + 128) :: putN f (z / 128) := by rw [putN, if_pos h]
theorem putN_small {f z : Nat} (h : z < 128) : putN f z = [UInt8.ofNat z] := by
  cases f with
  | zero => rfl
  | succ f => rw [putN, if_neg (by omega)]
theorem putN_len (f : Nat) : ∀ z, 1 ≤ (putN f z).length ∧ (putN f z).length ≤ f + 1 := by
  induction f with
  | zero => intro z; simp [putN]
  | succ f ih =>
    intro z
    by_cases h : 128 ≤ z
    · rw [putN_big h]; have := ih (z / 128); simp only [List.length_cons]; omega
    · rw [putN_small (by omega)]; simp

/-- The number for what was read. -/
def unzig (z : Nat) : Int := if z % 2 = 1 then -(((z + 1) / 2 : Nat) : Int) else ((z / 2 : Nat) : Int)
def far (n : Int) : Bool := decide (n < -1125899906842624) || decide (n > 1125899906842624)
def getGo : Nat → Nat → List UInt8 → Int × Int × Int
  | i, _, [] => (0, 0, if i = 8 then 3 else 4)
  | i, z, c :: r =>
    if i = 8 then (0, 0, 3)
    else if 128 ≤ c.toNat then getGo (i + 1) (z + c.toNat % 128 * 128 ^ i) r
    else if 0 < i ∧ c.toNat = 0 then (0, 0, 3)
    else if far (unzig (z + c.toNat % 128 * 128 ^ i)) then (0, 0, 3)
    else (unzig (z + c.toNat % 128 * 128 ^ i), (i : Int) + 1, 0)
def getL (b : List UInt8) : Int × Int × Int := getGo 0 0 b
theorem getGo_at (xs : List UInt8) (k z : Nat) (hk : k < xs.length) : getGo k z (xs.drop k) = if k = 8 then (0, 0, 3)
    else if 128 ≤ (xs[k]).toNat then getGo (k + 1) (z + (xs[k]).toNat % 128 * 128 ^ k) (xs.drop (k + 1))
    else if 0 < k ∧ (xs[k]).toNat = 0 then (0, 0, 3)
    else if far (unzig (z + (xs[k]).toNat % 128 * 128 ^ k)) then (0, 0, 3)
    else (unzig (z + (xs[k]).toNat % 128 * 128 ^ k), (k : Int) + 1, 0) := by
  rw [List.drop_eq_getElem_cons hk, getGo]
theorem next_lt (z x k : Nat) (hz : z < 128 ^ k) : z + x % 128 * 128 ^ k < 128 ^ (k + 1) := by
  have h1 : x % 128 * 128 ^ k ≤ 127 * 128 ^ k := Nat.mul_le_mul_right _ (by omega)
  have h2 : 128 ^ (k + 1) = 128 * 128 ^ k := by rw [Nat.pow_succ, Nat.mul_comm]
  omega
theorem pow128_le (k : Nat) (hk : k ≤ 8) : 128 ^ k ≤ 72057594037927936 := by
  have h : 128 ^ k ≤ 128 ^ 8 := Nat.pow_le_pow_right (by omega) hk
  have h8 : 128 ^ 8 = 72057594037927936 := by decide
  omega
theorem or_step (z x k : Nat) (hz : z < 128 ^ k) (hk : k < 8) :
    bits .or .i64 (z : Int) (wrap64 ((x : Int) % 128 * 2 ^ (7 * k))) = ((z + x % 128 * 128 ^ k : Nat) : Int) := by
  have hp : (128 : Nat) ^ k = 2 ^ (7 * k) := by rw [show (128 : Nat) = 2 ^ 7 from rfl, ← Nat.pow_mul]
  have h1 := next_lt z x k hz
  have h2 := pow128_le (k + 1) (by omega)
  have h3 : ((x : Int) % 128 * 2 ^ (7 * k)) = ((x % 128 * 128 ^ k : Nat) : Int) := by rw [hp]; push_cast; rfl
  have h4 : wrap64 ((x % 128 * 128 ^ k : Nat) : Int) = ((x % 128 * 128 ^ k : Nat) : Int) := by unfold wrap64; omega
  rw [h3, h4, i64_or_nat z (x % 128 * 128 ^ k) (by omega) (by omega)]
  congr 1
  rw [hp] at hz ⊢
  rw [Nat.add_comm, Nat.mul_comm, Nat.two_pow_add_eq_or_of_lt hz, Nat.or_comm]
theorem mul_step (z x k : Nat) (hz : z < 128 ^ k) (hk : k < 8) : wrap64 ((z : Int) + wrap64 ((x : Int) % 128 * ((128 ^ k : Nat) : Int))) = ((z + x % 128 * 128 ^ k : Nat) : Int) := by
  have h1 := next_lt z x k hz
  have h2 := pow128_le (k + 1) (by omega)
  have h3 : ((x : Int) % 128 * ((128 ^ k : Nat) : Int)) = ((x % 128 * 128 ^ k : Nat) : Int) := by push_cast; rfl
  rw [h3]
  unfold wrap64; omega
theorem unzig_odd {z : Nat} (h : z % 2 = 1) : unzig z = -(((z + 1) / 2 : Nat) : Int) := by rw [unzig, if_pos h]
theorem unzig_even {z : Nat} (h : ¬ z % 2 = 1) : unzig z = ((z / 2 : Nat) : Int) := by rw [unzig, if_neg h]
theorem neg_half (y : Nat) : (-(((2 * y + 1 : Nat) : Int) + 1)).tdiv 2 = -(((y + 1 : Nat)) : Int) := by
  have h : -(((2 * y + 1 : Nat) : Int) + 1) = -((2 * (y + 1) : Nat) : Int) := by push_cast; omega
  rw [h, Int.neg_tdiv, Int.tdiv_eq_ediv_of_nonneg (by omega)]; congr 1; omega
theorem far_true {n : Int} : far n = true ↔ n < -1125899906842624 ∨ 1125899906842624 < n := by simp [far]
theorem far_false {n : Int} : far n = false ↔ -1125899906842624 ≤ n ∧ n ≤ 1125899906842624 := by simp [far]
theorem far3 (n : Int) : (far n = false ∧ -1125899906842624 ≤ n ∧ n ≤ 1125899906842624) ∨ (far n = true ∧ n ≤ -1125899906842625 ∧ n ≤ 0) ∨ (far n = true ∧ -1125899906842624 ≤ n ∧ 1125899906842625 ≤ n) := by
  rcases hf : far n with _ | _
  · have := far_false.1 hf; exact .inl ⟨rfl, this.1, this.2⟩
  · have := far_true.1 hf
    by_cases h : -1125899906842624 ≤ n
    · exact .inr (.inr ⟨rfl, h, by omega⟩)
    · exact .inr (.inl ⟨rfl, by omega, by omega⟩)
theorem get_cases {r : Int × Int × Int} {u n : Int} {k : Nat} (E : r = if far u then (0, 0, 3) else (u, (k : Int) + 1, 0)) (hu : u = n) :
    (far n = true → r.1 = 0 ∧ r.2.1 = 0 ∧ r.2.2 = 3) ∧ (far n = false → r.1 = n ∧ r.2.1 = k + 1 ∧ r.2.2 = 0) := by
  subst hu
  constructor <;> intro h <;> rw [E, h] <;> simp
theorem neg_half2 {z : Nat} (h : z % 2 = 1) (hz : (z : Int) ≤ 72057594037927936) : (-((z : Int) + 1)).tdiv 2 = unzig z ∧ -36028797018963969 ≤ unzig z ∧ unzig z ≤ 0 := by
  rw [unzig_odd h]
  obtain ⟨y, rfl⟩ : ∃ y : Nat, z = 2 * y + 1 := ⟨z / 2, by omega⟩
  have := neg_half y
  have hy2 : (2 * y + 1 + 1) / 2 = y + 1 := by omega
  rw [hy2]
  exact ⟨this, by omega, by omega⟩
def sumL (xs : List UInt8) : List UInt8 := xs ++ [UInt8.ofNat (crc xs / 256), UInt8.ofNat (crc xs % 256)]
def be4 (n : Nat) : List UInt8 := [0, 0, UInt8.ofNat (n / 256), UInt8.ofNat (n % 256)]
def frameL (xs : List UInt8) : List UInt8 := sumL (be4 xs.length ++ xs)
theorem sumL_length (xs : List UInt8) : (sumL xs).length = xs.length + 2 := by simp [sumL]
theorem frameL_length (xs : List UInt8) : (frameL xs).length = xs.length + 6 := by simp [frameL, sumL_length, be4]
theorem ofNat_byte (z : Nat) (h : z < 256) : byt (UInt8.ofNat z) = .int .u8 (z : Int) := by
  unfold byt; rw [UInt8.toNat_ofNat']; congr 2; omega
theorem two_arr {k : IntKind} {a b c d : Int} (h : a = b) (h2 : c = d) : #[Value.int k a, Value.int k c] = [Value.int k b, Value.int k d].toArray := by rw [h, h2]
theorem byt_two {a b : Int} {x y : Nat} (hx : x < 256) (hy : y < 256) (ha : a = x) (hb : b = y) : #[Value.int .u8 a, Value.int .u8 b] = ([UInt8.ofNat x, UInt8.ofNat y].map byt).toArray := by
  rw [List.map_cons, List.map_cons, List.map_nil, ofNat_byte _ hx, ofNat_byte _ hy, ha, hb]
theorem mul_small (x p : Nat) (hp : p ≤ 562949953421312) : wrap64 ((x : Int) % 128 * (p : Int)) = ((x % 128 * p : Nat) : Int) ∧ ((x % 128 * p : Nat) : Int) ≤ 71494644084506624 := by
  have h1 : x % 128 * p ≤ 127 * 562949953421312 := Nat.mul_le_mul (by omega) hp
  have h3 : ((x : Int) % 128 * (p : Int)) = ((x % 128 * p : Nat) : Int) := by push_cast; rfl
  rw [h3]
  exact ⟨by unfold wrap64; omega, by omega⟩
theorem pow128_lt (k : Nat) (hk : k < 8) : 128 ^ k ≤ 562949953421312 := by
  have h : 128 ^ k ≤ 128 ^ 7 := Nat.pow_le_pow_right (by omega) (by omega)
  have h8 : 128 ^ 7 = 562949953421312 := by decide
  omega
theorem rget_step (z x k : Nat) (hz : z < 128 ^ k) (hk : k < 8) : ∃ p q : Nat, 128 ^ k = p ∧ 128 ^ (k + 1) = 128 * p ∧ z + x % 128 * 128 ^ k = z + q ∧ (p : Int) ≤ 562949953421312 ∧ wrap64 ((x : Int) % 128 * (p : Int)) = (q : Int) ∧
    (q : Int) ≤ 72057594037927936 ∧ (z : Int) ≤ 72057594037927936 ∧ ((z + q : Nat) : Int) ≤ 72057594037927936 ∧ z + q < 128 ^ (k + 1) := by
  have h1 := next_lt z x k hz
  have h2 := pow128_le (k + 1) (by omega)
  have h3 := pow128_lt k hk
  obtain ⟨h4, h5⟩ := mul_small x (128 ^ k) h3
  have h6 : 128 ^ (k + 1) = 128 * 128 ^ k := by rw [Nat.pow_succ, Nat.mul_comm]
  refine ⟨128 ^ k, x % 128 * 128 ^ k, rfl, h6, rfl, ?_, h4, ?_, ?_, ?_, h1⟩
  all_goals generalize 128 ^ (k + 1) = a at *
  all_goals generalize 128 ^ k = b at *
  all_goals generalize x % 128 * b = d at *
  all_goals omega
end Go.Proofs.Ytenlagddfgociaa
