/- Texts of one proof, laid together: CQ. No condition. -/
import Derived.Test.YtilcmenglgdljaaOR5
import Derived.Test.YtilcmenglgdljaaOR7
import Derived.Test.YtilcmenglgdljaaOR4
import Derived.Test.YtilcmenglgdljaaOR2
namespace Go.Proofs.Ytilcmenglgdljaa
set_option linter.unusedVariables false

theorem ACalls.of_newA {P : Program} {f : Nat} {args : List AV} {b l : List Row} {Q : AV → List Row → List Row → Prop} (hf : ∃ fn, P.funcs[f]? = some fn ∧ (fn.name == "runtime.NumGoroutine") = false ∧ fn.body.isSome = true)
  (h : ∀ F L w (vs : Array Value), (∀ b, F b → b < w.heap.size) → RepL w F L args vs.toList → Calls P f vs w fun en w' => Ext w w' ∧ ∃ v x F', en = .returned v ∧ (∀ b, F b → F' b) ∧ (∀ b, b < w.heap.size → F' b → F b) ∧ (∀ b, F' b → b < w'.heap.size) ∧ RepA w' F' (fun _ _ => none) x v ∧ Q x b l) : ACalls P f args b l Q := by
 refine ⟨hf, fun F L w vs s hr => Calls.mono (h F L w vs (fun b hb => (s.imm b hb).1) hr) ?_⟩
 rintro en w' ⟨he, v, x, F', h1, h2, h3, h4, h5, h6⟩
 have hblk : ∀ k, k < w.heap.size → w'.heap[k]? = w.heap[k]? := he.block
 have hown : ∀ k, Owned L (b ++ l) k → k < w.heap.size := by
  rintro k ⟨id, ver, sz, els, q0, k1, k2, k3⟩
  obtain ⟨q, q1, q2⟩ := s.row id ver sz els k1
  rw [k2] at q1; cases q1
  exact q2.lt k3
 refine ⟨v, x, b, l, F', L, h1, h5.mono (fun _ h => h) (fun _ _ => rfl) (fun _ _ _ h => by cases h), ⟨fun i v z els hi => ?_, s.born, s.apart, fun k hk => ⟨h4 k hk, fun ho => (s.imm k (h3 k (hown k ho) hk)).2 ho⟩⟩,
  ⟨h2, fun _ _ _ _ h => h, he.os, he.tape, he.output, he.size, fun k hk _ => hblk k hk, fun _ _ h => h, fun _ _ _ h => h, fun k hk hf => .inl (h3 k hk hf)⟩, rfl, h6⟩
 obtain ⟨q, g1, g2⟩ := s.row i v z els hi
 exact ⟨q, g1, g2.mono (fun k hk => hblk k (g2.lt hk)) (fun _ _ hx => hx.mono h2 (fun k hk => hblk k (s.imm k hk).1) (fun _ _ _ h => h))⟩

def tabRow (S : List (Nat × Nat)) (p n : Nat) : List (List IV) := fl n fun i => [.bool (decide ((p, i) ∈ S))]
def tabV (t : Tr) (S : List (Nat × Nat)) : IV := .isl 1 (fl t.length fun p => [.isl 1 (tabRow S p ((evsOf t p).length + 1))])
theorem past_spec (t : Tr) (hv : Vok t) (hS : Small t) (hN : Nm t) (x : Nat × Nat) (hx : x ∈ ids t) (hC : (ids t).length ≤ 1000000) (b l : List Row) :
  ACalls Try.prog 21 [.agg [.v (eT t)], idA x] b l (fun r b' l' => ∃ S, (∀ y ∈ ids t, y ∈ S ↔ Hb t y x) ∧ r = .v (tabV t S) ∧ b' = b ∧ l' = l) := by
 refine ACalls.of_newA ⟨_, Try.func21, by kernel_rfl, by kernel_rfl⟩ (fun F L w vs hF hr => ?_)
 obtain ⟨u, us, rfl, hs, h3⟩ := repL_tr hN hr
 obtain ⟨v2, us2, rfl, h4, h5⟩ := repL_cons h3
 obtain rfl := repL_nil h5
 obtain ⟨p, i⟩ := x
 have hv2 : v2 = idVal (p, i) := by
  obtain ⟨ws, rfl, hl⟩ := h4.aggL
  obtain ⟨a1, as1, e1, g1, k1⟩ := repL_cons hl
  obtain ⟨a2, as2, e2, g2, k2⟩ := repL_cons k1
  obtain rfl := repL_nil k2
  have r1 := repN g1
  have r2 := repN g2
  subst r1; subst r2; subst e2
  unfold idVal
  congr 1
  exact Array.toList_inj.1 e1
 subst hv2
 refine (Past_any u t p i w hx hv.paired hC hS hs).mono ?_
 rintro e w' ⟨v, gs, S, rfl, hg, hgl, hS2, he⟩
 refine ⟨he, v, .v (tabV t S), fun k => F k ∨ (w.heap.size ≤ k ∧ k < w'.heap.size), rfl, fun _ h => .inl h, fun k hk h => h.resolve_right oM, fun k h => h.elim (fun h => Nat.lt_of_lt_of_le (hF k h) he.size) (fun h => h.2), .v _ _ ?_, S, hS2, rfl, rfl, rfl⟩
 obtain ⟨o1, o2⟩ := hg.out
 have hlen : gs.length = t.length := hgl.1
 have hrow : ∀ q (hq : q < gs.length), RepI w' (fun k => F k ∨ (w.heap.size ≤ k ∧ k < w'.heap.size)) (.isl 1 (tabRow S q ((evsOf t q).length + 1))) (rowV gs[q]) := by
  intro q hq
  obtain ⟨b1, b2⟩ := hg.row q hq
  have hqt : q < t.length := by omega
  have hn : gs[q].2 = (evsOf t q).length + 1 := by rw [hgl.2 q hq hqt, evsOf_lt hqt]
  unfold rowV
  rw [hn] at b1 ⊢
  have := RepI.isl (w := w') (F := fun k => F k ∨ (w.heap.size ≤ k ∧ k < w'.heap.size)) (tabRow S q ((evsOf t q).length + 1)) gs[q].1 0 1 ((evsOf t q).length + 1) (fun k j => .bool (decide ((q, k) ∈ S))) (.inr ⟨b2, b1.lt⟩) (by simp [tabRow, fl_len])
   (by have := hS.ne _ (List.getElem_mem hqt); rw [evsOf_lt hqt]; have h9 : maxLen = 9223372036854775807 := by decide
       omega)
   (fun k row hk => by
    unfold tabRow at hk
    by_cases hkn : k < (evsOf t q).length + 1
    ·rw [fl_get hkn] at hk; cases hk; rfl
    ·rw [fl_none oM] at hk; cases hk)
   (fun k row j a hk hj => by
    unfold tabRow at hk
    by_cases hkn : k < (evsOf t q).length + 1
    ·rw [fl_get hkn] at hk; cases hk
     cases j with
     | zero => simp only [Nat.mul_one, Nat.add_zero, Nat.zero_add]; exact b1.cell (rowM_get hkn)
     | succ j => simp at hj
    ·rw [fl_none oM] at hk; cases hk)
   (fun k row j a hk hj => by
    unfold tabRow at hk
    by_cases hkn : k < (evsOf t q).length + 1
    ·rw [fl_get hkn] at hk; cases hk
     cases j with
     | zero => simp at hj; subst hj; exact .bool _
     | succ j => simp at hj
    ·rw [fl_none oM] at hk; cases hk)
  rw [show (tabRow S q ((evsOf t q).length + 1)).length = (evsOf t q).length + 1 by simp [tabRow, fl_len]] at this
  exact this
 unfold tabV
 rcases o2 with ⟨rfl, h0⟩ | ⟨g, off, cap, cur, rfl, hBg, hbx, hcap, hmx, hsz, hcell⟩
 ·rw [show t.length = 0 by omega]
  exact .isl0 _ _ _ (Nat.zero_le _)
 ·have hgv : ∀ q (hq : q < gs.length), cur[off + q]? = some (rowV gs[q]) := fun q hq => hcell q _ (by rw [List.getElem?_map, List.getElem?_eq_getElem hq]; rfl)
  have := RepI.isl (w := w') (F := fun k => F k ∨ (w.heap.size ≤ k ∧ k < w'.heap.size)) (fl t.length fun p => [.isl 1 (tabRow S p ((evsOf t p).length + 1))]) g off 1 cap (fun k j => if h : k < gs.length then rowV gs[k] else undef) (.inr ⟨hBg, hbx.lt⟩) (by rw [fl_len]; omega) hmx
   (fun k row hk => by
    by_cases hkn : k < t.length
    ·rw [fl_get hkn] at hk; cases hk; rfl
    ·rw [fl_none oM] at hk; cases hk)
   (fun k row j a hk hj => by
    by_cases hkn : k < t.length
    ·rw [fl_get hkn] at hk; cases hk
     cases j with
     | zero =>
       simp only [Nat.mul_one, Nat.add_zero]
       rw [dif_pos (show k < gs.length by omega)]
       exact hbx.cell (hgv k oM)
     | succ j => simp at hj
    ·rw [fl_none oM] at hk; cases hk)
   (fun k row j a hk hj => by
    by_cases hkn : k < t.length
    ·rw [fl_get hkn] at hk; cases hk
     cases j with
     | zero =>
       simp at hj; subst hj
       rw [dif_pos (show k < gs.length by omega)]
       exact hrow k oM
     | succ j => simp at hj
    ·rw [fl_none oM] at hk; cases hk)
  rw [fl_len, ← hlen] at this
  rw [← hlen]
  exact this
end Go.Proofs.Ytilcmenglgdljaa
