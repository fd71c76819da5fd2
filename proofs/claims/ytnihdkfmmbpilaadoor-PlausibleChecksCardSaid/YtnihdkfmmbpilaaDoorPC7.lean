/- Texts of one proof, laid together: VL. No condition. -/
import Derived.Test.YtnihdkfmmbpilaaDoorPC23
import Derived.KernelRfl
namespace Go.Proofs.YtnihdkfmmbpilaaDoor
set_option linter.unusedVariables false
set_option linter.unusedSimpArgs false

def vBad (n : Int) : Bool := decide (n < 0) || decide (n > 1125899906842624)
def vBadAt (v : List Int) (i : Nat) : Bool := vBad (v.getD i 0)
def isV (v : List Int) : Bool := decide (1 ≤ v.length) && (decide (v.length ≤ 8) && !(List.range v.length).any (vBadAt v))
def leqAt (v w : List Int) (i : Nat) : Bool := decide (v.getD i 0 ≤ w.getD i 0)
def leqV (v w : List Int) : Bool := (List.range v.length).all (leqAt v w)
def cmpV (v w : List Int) : Int := if leqV v w = true then (if leqV w v = true then 0 else -1) else if leqV w v = true then 1 else 2

theorem getD_at {α : Type} {l : List α} {i : Nat} {d : α} (h : i < l.length) : l.getD i d = l[i] := by simp [List.getD, h]
theorem leqV_iff {v w : List Int} : leqV v w = true ↔ ∀ i, i < v.length → v.getD i 0 ≤ w.getD i 0 := by
 simp [leqV, leqAt, List.all_eq_true]
theorem getD_set_ne {α : Type} {l : List α} {i j : Nat} {x d : α} (h : i ≠ j) : (l.set i x).getD j d = l.getD j d := by
 simp only [List.getD_eq_getElem?_getD, List.getElem?_set_ne h]
end Go.Proofs.YtnihdkfmmbpilaaDoor
