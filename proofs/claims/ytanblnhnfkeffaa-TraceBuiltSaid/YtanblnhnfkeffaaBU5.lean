/- Texts of one proof, laid together: OA, RQ. No condition. -/
import Derived.Test.YtanblnhnfkeffaaBU3
import Derived.Test.YtanblnhnfkeffaaBU4
namespace Go.Proofs.Ytanblnhnfkeffaa
open Go.RowKit
set_option linter.unusedVariables false

section
variable {size : Nat} {e : TypeId} {w w' : World} {B : Nat} {v v' : Value} {n : Nat} {cs : List Value}
theorem OwnC.apart {size' n' : Nat} {e' : TypeId} {B' : Nat} {v' : Value} {cs' : List Value} (h : OwnC size e w B v n cs) (h' : OwnC size' e' w B' v' n' cs') (hne : e ≠ e') : v.ownBlock = none ∨ v.ownBlock ≠ v'.ownBlock := by
 rcases h'.2 with ⟨rfl, _⟩ | ⟨g, off, cap, cur, rfl, _, hbox, _⟩
 ·cases hv : v.ownBlock
  ·exact .inl rfl
  ·right; simp [Value.ownBlock]
 ·exact .inr (h.not_box hbox hne.symm)
end
end Go.Proofs.Ytanblnhnfkeffaa
namespace Go.Proofs.Ytanblnhnfkeffaa
open Go.RowKit
set_option linter.unusedVariables false

abbrev Grid (W : World) (B : Nat) (v : Value) (gs S : List (Nat × Nat)) : Prop := GridM 148 4 W B v gs S
def GLen (t : Tr) (gs : List (Nat × Nat)) (k : Nat) : Prop := gs.length = k ∧ ∀ p (hp : p < gs.length) (ht : p < t.length), gs[p].2 = t[p].evs.length + 1
theorem Grid.grow {W W' : World} {B n g0 : Nat} {v v' : Value} {gs : List (Nat × Nat)} (h : Grid W B v gs []) (hr : BoxN W g0 4 (rowM [] gs.length n)) (hB : B ≤ g0) (hnew : ∀ p (hp : p < gs.length), gs[p].1 ≠ g0)
  (hv : OwnC 1 148 W' B v' (gs.length + 1) (gs.map rowV ++ [rowV (g0, n)])) (hg : Grw W v W' v') : Grid W' B v' (gs ++ [(g0, n)]) [] := by
 have hne : ∀ (b : Nat) (cs : Array Value), BoxN W b 4 cs → some b ≠ v.ownBlock := fun b cs hb e => h.out.not_box hb (by decide) e.symm
 refine ⟨?_, ?_, ?_⟩
 ·rw [List.length_append, List.map_append]; exact hv
 ·intro p hp
  rw [List.length_append, List.length_singleton] at hp
  by_cases hlt : p < gs.length
  ·rw [List.getElem_append_left hlt]
   exact ⟨(h.row p hlt).1.kept hg.1 (hne _ _ (h.row p hlt).1), (h.row p hlt).2⟩
  ·obtain rfl : p = gs.length := by omega
   rw [List.getElem_append_right (Nat.le_refl _)]
   simp only [Nat.sub_self, List.getElem_singleton]
   exact ⟨hr.kept hg.1 (hne _ _ hr), hB⟩
 ·intro p q hp hq he
  rw [List.length_append, List.length_singleton] at hp hq
  by_cases h1 : p < gs.length
  ·by_cases h2 : q < gs.length
   ·rw [List.getElem_append_left h1, List.getElem_append_left h2] at he
    exact h.nod p q h1 h2 he
   ·obtain rfl : q = gs.length := by omega
    rw [List.getElem_append_left h1, List.getElem_append_right (Nat.le_refl _)] at he
    simp only [Nat.sub_self, List.getElem_singleton] at he
    exact absurd he (hnew p h1)
  ·obtain rfl : p = gs.length := by omega
   by_cases h2 : q < gs.length
   ·rw [List.getElem_append_left h2, List.getElem_append_right (Nat.le_refl _)] at he
    simp only [Nat.sub_self, List.getElem_singleton] at he
    exact absurd he.symm (hnew q h2)
   ·omega
theorem Grid.marks {t : Tr} {W : World} {B : Nat} {v : Value} {gs S : List (Nat × Nat)} (h : Grid W B v gs S) (hl : GLen t gs t.length) (hn : S.Nodup) (hs : ∀ y ∈ S, y ∈ ids t) : marks t gs W = S.length :=
 marks_eq h (fun y hy => by
  obtain ⟨hp, _, h2⟩ := mem_ids.1 hy
  have h3 : y.1 < gs.length := by rw [hl.1]; exact hp
  exact ⟨h3, by rw [hl.2 y.1 h3 hp]; omega⟩) hn hs
end Go.Proofs.Ytanblnhnfkeffaa
