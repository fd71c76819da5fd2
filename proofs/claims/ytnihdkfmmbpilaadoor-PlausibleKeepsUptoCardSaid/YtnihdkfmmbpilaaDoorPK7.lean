/- Texts of one proof, laid together: VL. No condition. -/
import Derived.Test.YtnihdkfmmbpilaaDoorPC23
import Derived.KernelRfl
namespace Go.Proofs.YtnihdkfmmbpilaaDoor
set_option linter.unusedVariables false
set_option linter.unusedSimpArgs false

def vBad (n : Int) : Bool := decide (n < 0) || decide (n > 1125899906842624)
def vBadAt (v : List Int) (i : Nat) : Bool := vBad (v.getD i 0)
def isV (v : List Int) : Bool := decide (1 ≤ v.length) && (decide (v.length ≤ 8) && !(List.range v.length).any (vBadAt v))
def bothV (v w : List Int) : Bool := isV v && (isV w && decide (v.length = w.length))
def joinV (v w : List Int) : List Int := List.zipWith max v w
def leqAt (v w : List Int) (i : Nat) : Bool := decide (v.getD i 0 ≤ w.getD i 0)
def leqV (v w : List Int) : Bool := (List.range v.length).all (leqAt v w)
def cmpV (v w : List Int) : Int := if leqV v w = true then (if leqV w v = true then 0 else -1) else if leqV w v = true then 1 else 2

theorem getD_at {α : Type} {l : List α} {i : Nat} {d : α} (h : i < l.length) : l.getD i d = l[i] := by simp [List.getD, h]
theorem isV_mk {v : List Int} (h1 : 1 ≤ v.length) (h2 : v.length ≤ 8) (h : ∀ i, i < v.length → 0 ≤ v.getD i 0 ∧ v.getD i 0 ≤ 1125899906842624) : isV v = true := by
 simp only [isV, Bool.and_eq_true, decide_eq_true_eq, Bool.not_eq_true', List.any_eq_false, List.mem_range, vBadAt, vBad, Bool.or_eq_true, not_or]
 refine ⟨h1, h2, fun i hi => ?_⟩
 have := h i hi
 omega
theorem leqV_iff {v w : List Int} : leqV v w = true ↔ ∀ i, i < v.length → v.getD i 0 ≤ w.getD i 0 := by
 simp [leqV, leqAt, List.all_eq_true]
theorem joinV_len {v w : List Int} (h : v.length = w.length) : (joinV v w).length = v.length := by
 simp [joinV, h]
theorem joinV_get {v w : List Int} (h : v.length = w.length) {i : Nat} (hi : i < v.length) : (joinV v w).getD i 0 = max (v.getD i 0) (w.getD i 0) := by
 rw [getD_at (by rw [joinV_len h]; exact hi), getD_at hi, getD_at oM]
 simp [joinV]
theorem ext_getD {v w : List Int} (h : v.length = w.length) (hg : ∀ i, i < v.length → v.getD i 0 = w.getD i 0) : v = w := by
 refine List.ext_getElem h (fun i h1 h2 => ?_)
 have := hg i h1
 rwa [getD_at h1, getD_at h2] at this
theorem getD_set_ne {α : Type} {l : List α} {i j : Nat} {x d : α} (h : i ≠ j) : (l.set i x).getD j d = l.getD j d := by
 simp only [List.getD_eq_getElem?_getD, List.getElem?_set_ne h]
end Go.Proofs.YtnihdkfmmbpilaaDoor
