/- Plain laws of frames that follow each other. No program, no condition but on lengths. -/
import Derived.Test.YtenlagddfgociaaCY
namespace Go.Proofs.Ytenlagddfgociaa
open Go.RowKit
set_option linter.unusedVariables false

def allL (L : List (List UInt8)) : List UInt8 := L.flatMap frameL
/-- How long the frames of the first k are. -/
def endL (L : List (List UInt8)) (k : Nat) : Nat := (allL (L.take k)).length

theorem be4_length (n : Nat) : (be4 n).length = 4 := rfl
theorem frameL_eq (b : List UInt8) : frameL b = be4 b.length ++ (b ++ [UInt8.ofNat (crc (be4 b.length ++ b) / 256), UInt8.ofNat (crc (be4 b.length ++ b) % 256)]) := by
  unfold frameL sumL; rw [List.append_assoc]
theorem headN_be4 (n : Nat) (hn : n ≤ 16384) (t : List UInt8) : headN (be4 n ++ t) = n := by
  unfold headN be4 n4
  have h1 : (UInt8.ofNat (n / 256)).toNat = n / 256 := by rw [UInt8.toNat_ofNat']; omega
  have h2 : (UInt8.ofNat (n % 256)).toNat = n % 256 := by rw [UInt8.toNat_ofNat']; omega
  simp [h1, h2]
  omega
theorem unframe_full (b tail : List UInt8) (hb : b.length ≤ 16384) : unframeL (frameL b ++ tail) = (b, tail, 0) := by
  have hl := frameL_length b
  have hh : headN (frameL b ++ tail) = b.length := by rw [frameL_eq, List.append_assoc]; exact headN_be4 _ hb _
  unfold unframeL
  rw [hh, if_neg (by simp [hl]; omega), if_neg (by omega), if_neg (by simp [hl])]
  have e1 : (frameL b ++ tail).take (b.length + 4) = be4 b.length ++ b := by
    rw [frameL_eq, ← List.append_assoc, List.append_assoc, List.take_left' (by simp [be4_length]; omega)]
  have hsum := crc_lt (be4 b.length ++ b)
  generalize hc : crc (be4 b.length ++ b) = s at *
  have hx : ∀ j, (frameL b ++ tail).getD (b.length + 4 + j) 0 = ([UInt8.ofNat (s / 256), UInt8.ofNat (s % 256)] ++ tail).getD j 0 := by
    intro j
    rw [frameL_eq, hc, ← List.append_assoc, List.append_assoc]
    simp only [List.getD]
    rw [List.getElem?_append_right (by simp [be4_length]; omega)]
    congr 2
    simp [be4_length]; omega
  have e2 := hx 0
  have e3 := hx 1
  rw [e1, hc]
  rw [show b.length + 5 = b.length + 4 + 1 from rfl]
  rw [Nat.add_zero] at e2
  rw [e2, e3]
  have h1 : (UInt8.ofNat (s / 256)).toNat = s / 256 := by rw [UInt8.toNat_ofNat']; omega
  have h2 : (UInt8.ofNat (s % 256)).toNat = s % 256 := by rw [UInt8.toNat_ofNat']; omega
  rw [if_pos (by simp [h1, h2]; omega)]
  have e4 : ((frameL b ++ tail).drop 4).take b.length = b := by
    rw [frameL_eq, List.append_assoc, List.drop_left' (be4_length _), List.append_assoc, List.take_left' rfl]
  have e5 : (frameL b ++ tail).drop (b.length + 6) = tail := by rw [List.drop_left' hl]
  rw [e4, e5]
theorem unframe_cut (b tail : List UInt8) (hb : b.length ≤ 16384) (m : Nat) (hm : m < b.length + 6) : unframeL ((frameL b ++ tail).take m) = ([], [], 4) := by
  have hl := frameL_length b
  have hlen : ((frameL b ++ tail).take m).length = m := by simp [hl]; omega
  unfold unframeL
  rw [hlen]
  by_cases h4 : m < 4
  · rw [if_pos h4]
  · have hh : headN ((frameL b ++ tail).take m) = b.length := by
      rw [frameL_eq, List.append_assoc, List.take_append, be4_length, List.take_of_length_le (by simp [be4_length]; omega)]
      exact headN_be4 _ hb _
    rw [if_neg h4, hh, if_neg (by omega), if_pos hm]

theorem allL_take_succ (L : List (List UInt8)) (k : Nat) (hk : k < L.length) : allL (L.take (k + 1)) = allL (L.take k) ++ frameL L[k] := by
  unfold allL
  rw [List.take_succ_eq_append_getElem hk, List.flatMap_append]
  simp
theorem endL_succ (L : List (List UInt8)) (k : Nat) (hk : k < L.length) : endL L (k + 1) = endL L k + (L[k].length + 6) := by
  unfold endL; rw [allL_take_succ L k hk, List.length_append, frameL_length]
theorem endL_zero (L : List (List UInt8)) : endL L 0 = 0 := rfl
theorem endL_all (L : List (List UInt8)) : endL L L.length = (allL L).length := by unfold endL; rw [List.take_length]
theorem endL_le (L : List (List UInt8)) (h : ∀ j (hj : j < L.length), L[j].length ≤ 1000) : ∀ k, k ≤ L.length → endL L k ≤ k * 1006 := by
  intro k
  induction k with
  | zero => intro _; simp [endL_zero]
  | succ k ih => intro hk; rw [endL_succ L k (by omega)]; have := ih (by omega); have := h k (by omega); omega
theorem endL_mono (L : List (List UInt8)) (k : Nat) : k ≤ L.length → endL L k ≤ (allL L).length := by
  intro hk
  unfold endL allL
  have : L = L.take k ++ L.drop k := (List.take_append_drop k L).symm
  conv => rhs; rw [this, List.flatMap_append, List.length_append]
  omega
theorem allL_split (L : List (List UInt8)) (k : Nat) (hk : k < L.length) : (allL L).drop (endL L k) = frameL L[k] ++ allL (L.drop (k + 1)) := by
  have e : allL L = allL (L.take k) ++ (frameL L[k] ++ allL (L.drop (k + 1))) := by
    unfold allL
    conv => lhs; rw [← List.take_append_drop k L, List.flatMap_append, List.drop_eq_getElem_cons hk, List.flatMap_cons]
  rw [e]
  exact List.drop_left' rfl
theorem allL_next (L : List (List UInt8)) (k : Nat) (hk : k < L.length) : (allL L).drop (endL L (k + 1)) = allL (L.drop (k + 1)) := by
  rw [endL_succ L k hk, ← List.drop_drop, allL_split L k hk, ← frameL_length, List.drop_left' rfl]

/-- What is left of a cut stream behind the first k frames. -/
def restL (L : List (List UInt8)) (n k : Nat) : List UInt8 := ((allL L).take n).drop (endL L k)
theorem restL_length (L : List (List UInt8)) (n k : Nat) (hn : n ≤ (allL L).length) : (restL L n k).length = n - endL L k := by
  unfold restL; rw [List.length_drop, List.length_take]; omega
theorem restL_cut (L : List (List UInt8)) (n k : Nat) (hk : k < L.length) (hb : L[k].length ≤ 1000) (he : endL L k ≤ n) (hc : n < endL L (k + 1)) : unframeL (restL L n k) = ([], [], 4) := by
  unfold restL
  rw [List.drop_take, allL_split L k hk]
  rw [endL_succ L k hk] at hc
  exact unframe_cut _ _ (by omega) _ (by omega)
theorem restL_full (L : List (List UInt8)) (n k : Nat) (hk : k < L.length) (hb : L[k].length ≤ 1000) (hc : endL L (k + 1) ≤ n) (hn : n ≤ (allL L).length) : unframeL (restL L n k) = (L[k], restL L n (k + 1), 0) := by
  have hc' := hc
  rw [endL_succ L k hk] at hc'
  have e : restL L n k = frameL L[k] ++ restL L n (k + 1) := by
    unfold restL
    rw [List.drop_take, List.drop_take, allL_split L k hk, allL_next L k hk, List.take_append, frameL_length, List.take_of_length_le (by rw [frameL_length]; omega)]
    rw [endL_succ L k hk]
    congr 2
    omega
  rw [e]
  exact unframe_full _ _ (by omega)
theorem unframe_nil : unframeL [] = ([], [], 4) := by unfold unframeL; rw [if_pos (by simp)]

/-- The ends that are gathered. -/
def endsL (L : List (List UInt8)) (k : Nat) : List Int := (List.range (k + 1)).map fun i => (endL L i : Int)
theorem endsL_succ (L : List (List UInt8)) (k : Nat) : endsL L (k + 1) = endsL L k ++ [(endL L (k + 1) : Int)] := by
  unfold endsL; rw [List.range_succ, List.map_append]; rfl
theorem endsL_length (L : List (List UInt8)) (k : Nat) : (endsL L k).length = k + 1 := by simp [endsL]
theorem endsL_at (L : List (List UInt8)) (k i : Nat) (h : i < (endsL L k).length) : (endsL L k)[i] = (endL L i : Int) := by simp [endsL]
end Go.Proofs.Ytenlagddfgociaa
