/- Texts of one proof, laid together: HA, HN, OD, VR. No condition. -/
import Derived.Test.YtilcmenglgdljaaOR4
import Derived.Test.YtilcmenglgdljaaOR2
import Derived.Test.YtilcmenglgdljaaOR6
import Derived.Test.YtilcmenglgdljaaOR7
import Derived.Test.YtilcmenglgdljaaProg
import Derived.KernelRfl
namespace Go.Proofs.Ytilcmenglgdljaa
set_option linter.unusedVariables false
set_option linter.unusedSimpArgs false
noncomputable def bkL (t : Tr) (p n i : Nat) : List (Nat × Nat) := (List.range (n - i)).flatMap fun k => backL t (p, n - k)
theorem mem_bkL {t : Tr} {p n i : Nat} {y : Nat × Nat} (h : y ∈ bkL t p n i) : ∃ j, i < j ∧ j ≤ n ∧ y ∈ backL t (p, j) := by
 unfold bkL at h
 obtain ⟨k, hk, hy⟩ := List.mem_flatMap.1 h
 have := List.mem_range.1 hk
 exact ⟨n - k, by omega, by omega, hy⟩
theorem bkL_mem {t : Tr} {p n i j : Nat} {y : Nat × Nat} (h1 : i < j) (h2 : j ≤ n) (hy : y ∈ backL t (p, j)) : y ∈ bkL t p n i := by
 unfold bkL
 exact List.mem_flatMap.2 ⟨n - j, List.mem_range.2 oM, by rwa [show n - (n - j) = j by omega]⟩
structure Pst (t : Tr) (x : Nat × Nat) (c : Nat → Nat) (Q : List (Nat × Nat)) : Prop where
 q : ∀ y ∈ Q, y ∈ ids t ∧ Le t y x
 le : ∀ p i, i < c p → p < t.length ∧ i < (evsOf t p).length ∧ Le t (p, i + 1) x
 src : x ∈ Q ∨ x.2 ≤ c x.1
 cl : ∀ z ∈ ids t, z.2 ≤ c z.1 → ∀ y ∈ backL t z, y ∈ Q ∨ y.2 ≤ c y.1
theorem Pst.start {t : Tr} {x : Nat × Nat} (hx : x ∈ ids t) : Pst t x (fun _ => 0) [x] := by
 refine ⟨fun y hy => ?_, fun p i h => by simp at h, .inl (by simp), fun z hz h => ?_⟩
 ·simp only [List.mem_singleton] at hy; subst hy; exact ⟨hx, .refl _⟩
 ·have := (mem_ids.1 hz).2.1
  omega
theorem Pst.cle {t : Tr} {x : Nat × Nat} {c : Nat → Nat} {Q : List (Nat × Nat)} (h : Pst t x c Q) (p : Nat) : c p ≤ (evsOf t p).length := by
 cases hc : c p with
 | zero => omega
 | succ n => have := (h.le p n oM).2.1; omega
theorem Pst.skip {t : Tr} {x y : Nat × Nat} {c : Nat → Nat} {Q : List (Nat × Nat)} (h : Pst t x c (y :: Q)) (hc : y.2 ≤ c y.1) : Pst t x c Q := by
 refine ⟨fun z hz => h.q z (by simp [hz]), h.le, ?_, fun z hz hzc w hw => ?_⟩
 ·rcases h.src with h1 | h1
  ·rcases List.mem_cons.1 h1 with rfl | h2
   ·exact .inr hc
   ·exact .inl h2
  ·exact .inr h1
 ·rcases h.cl z hz hzc w hw with h1 | h1
  ·rcases List.mem_cons.1 h1 with rfl | h2
   ·exact .inr hc
   ·exact .inl h2
  ·exact .inr h1
theorem Pst.mark {t : Tr} (hv : Vok t) {x : Nat × Nat} {p n : Nat} {c : Nat → Nat} {Q : List (Nat × Nat)} (h : Pst t x c ((p, n) :: Q)) (hc : c p < n) : Pst t x (fUp c p n) (Q ++ bkL t p n (c p)) := by
 obtain ⟨hy, hl⟩ := h.q (p, n) (by simp)
 obtain ⟨n, rfl⟩ : ∃ k, n = k + 1 := ⟨n - 1, by have := (mem_ids.1 hy).2.1; simp only at this; omega⟩
 obtain ⟨hp, hn⟩ := mem_ids2.1 hy
 have up : ∀ q, c q ≤ fUp c p (n + 1) q := fun q => by
  by_cases hq : q = p
  ·subst hq; rw [fUp_same]; omega
  ·rw [fUp_ne hq]; exact Nat.le_refl _
 refine ⟨fun z hz => ?_, fun q i hi => ?_, ?_, fun z hz hzc w hw => ?_⟩
 ·rcases List.mem_append.1 hz with hz | hz
  ·exact h.q z (by simp [hz])
  ·obtain ⟨j, h1, h2, h3⟩ := mem_bkL hz
   obtain ⟨j, rfl⟩ : ∃ k, j = k + 1 := ⟨j - 1, by omega⟩
   obtain ⟨h4, h5⟩ := back_mem hv (mem_ids2.2 ⟨hp, by omega⟩) h3
   exact ⟨h4, Le.trans (.inr h5) ((le_row h2 oM).trans hl)⟩
 ·by_cases hq : q = p
  ·subst hq
   rw [fUp_same] at hi
   exact ⟨hp, by omega, (le_row oM oM).trans hl⟩
  ·rw [fUp_ne hq] at hi
   exact h.le q i hi
 ·rcases h.src with h1 | h1
  ·rcases List.mem_cons.1 h1 with rfl | h2
   ·exact .inr (by simp only; rw [fUp_same]; omega)
   ·exact .inl (List.mem_append.2 (.inl h2))
  ·exact .inr (Nat.le_trans h1 (up _))
 ·have old : z.2 ≤ c z.1 → w ∈ Q ++ bkL t p (n + 1) (c p) ∨ w.2 ≤ fUp c p (n + 1) w.1 := fun h0 => by
   rcases h.cl z hz h0 w hw with h1 | h1
   ·rcases List.mem_cons.1 h1 with rfl | h2
    ·exact .inr (by simp only; rw [fUp_same]; omega)
    ·exact .inl (List.mem_append.2 (.inl h2))
   ·exact .inr (Nat.le_trans h1 (up _))
  obtain ⟨zp, zi⟩ := z
  by_cases hq : zp = p
  ·subst hq
   simp only at hzc
   rw [fUp_same] at hzc
   by_cases h0 : zi ≤ c zp
   ·exact old h0
   ·exact .inl (List.mem_append.2 (.inr (bkL_mem oM hzc hw)))
  ·simp only at hzc
   rw [fUp_ne hq] at hzc
   exact old hzc
theorem Pst.all {t : Tr} (hv : Vok t) {x : Nat × Nat} {c : Nat → Nat} (h : Pst t x c []) : ∀ n z, rk t z = n → z ∈ ids t → z.2 ≤ c z.1 → ∀ w ∈ ids t, Le t w z → w.2 ≤ c w.1 := by
 intro n
 induction n using Nat.strongRecOn with
 | _ n ih =>
   intro z hn hz hzc w hw hl
   rcases (le_back hv hz hw).1 hl with rfl | ⟨y, hy, hl2⟩
   ·exact hzc
   ·obtain ⟨h1, h2⟩ := back_mem hv hz hy
    rcases h.cl z hz hzc y hy with h3 | h3
    ·simp at h3
    ·exact ih (rk t y) (by rw [← hn]; exact rk_lt hv hz h2) y rfl h1 h3 w hw hl2
theorem Pst.done {t : Tr} (hv : Vok t) {x : Nat × Nat} (hx : x ∈ ids t) {c : Nat → Nat} (h : Pst t x c []) {p : Nat} (hp : p < t.length) : c p = vc t x p := by
 refine thresh (n := (evsOf t p).length) (h.cle p) vc_le (fun j hj => ?_)
 rw [← vc_iff hj]
 constructor
 ·exact fun hl => (h.le p j hl).2.2
 ·intro hl
  have hs : x.2 ≤ c x.1 := h.src.resolve_left (by simp)
  have := h.all hv (rk t x) x rfl hx hs (p, j + 1) (mem_ids2.2 ⟨hp, hj⟩) hl
  exact this
end Go.Proofs.Ytilcmenglgdljaa
namespace Go.Proofs.Ytilcmenglgdljaa
set_option linter.unusedVariables false
set_option linter.unusedSimpArgs false
theorem sndr_in {t : Tr} (hv : Vok t) {x : Nat × Nat} (hx : x ∈ ids t) (hk : (evAt t x).kind = 3) : sndr t x ∈ ids t ∧ Hb t (sndr t x) x := back_mem hv hx (sndr_back hk)
theorem sndr_peer {t : Tr} (hv : Vok t) {x : Nat × Nat} (hx : x ∈ ids t) (hk : (evAt t x).kind = 3) : (evAt t x).peer = ((sndr t x).1 : Int) ∧ (sndr t x).1 ≠ x.1 ∧ (evAt t (sndr t x)).kind = 2 ∧ (evAt t (sndr t x)).msg = (evAt t x).msg := by
 obtain ⟨m, q, hm, _, hq, hq2, hqp⟩ := formed_open (formF_formed (hv.form x hx)) (by rw [hk]; rfl)
 have hp := hv.pair x hx
 unfold pairF at hp
 rw [hk] at hp
 simp only [show ((3 : Int) == 2) = false from rfl, show ((3 : Int) == 3) = true from rfl, if_true, Bool.false_eq_true, if_false] at hp
 rw [if_pos (by have := (hv.paired.recv hx hk).1; simpa using this)] at hp
 have hs : sendsB t q (evAt t x).msg x.1 = true := by
  cases h : sendsB t q (evAt t x).msg x.1 with
  | true => rfl
  | false => rw [hq, Int.toNat_natCast, h] at hp; simp at hp
 unfold sendsB at hs
 obtain ⟨e, he, hb⟩ := List.any_eq_true.1 hs
 simp only [Bool.and_eq_true, beq_iff_eq] at hb
 rw [evsOf_lt hq2] at he
 obtain ⟨j, hj, rfl⟩ := List.getElem_of_mem he
 have hyi : (q, j + 1) ∈ ids t := mem_ids2.2 ⟨hq2, by rw [evsOf_lt hq2]; exact hj⟩
 have hye := evAt_eq hq2 hj
 have hf := hv.paired.send hyi (by rw [hye]; exact hb.1.1)
 rw [hye, hb.1.2] at hf
 have e1 : sndr t x = (q, j + 1) := (firstOf_find hf).1
 rw [e1, hye]
 exact ⟨hq, hqp, hb.1.1, hb.1.2⟩
end Go.Proofs.Ytilcmenglgdljaa
namespace Go.Proofs.Ytilcmenglgdljaa
set_option linter.unusedVariables false
set_option linter.unusedSimpArgs false
def swE (e : Ev) (tm : Int) : Ev := { e with time := tm }
def swL (l : List Ev) (j : Nat) : List Ev := (l.set j (swE (l.getD (j + 1) dfEv) (l.getD j dfEv).time)).set (j + 1) (swE (l.getD j dfEv) (l.getD (j + 1) dfEv).time)
def swT (t : Tr) (k j : Nat) : Tr := t.set k { t.getD k dfPr with evs := swL (evsOf t k) j }
def swI (k j : Nat) (x : Nat × Nat) : Nat × Nat := if x = (k, j + 1) then (k, j + 2) else if x = (k, j + 2) then (k, j + 1) else x
theorem swI_a {k j : Nat} : swI k j (k, j + 1) = (k, j + 2) := by unfold swI; rw [if_pos rfl]
theorem swI_b {k j : Nat} : swI k j (k, j + 2) = (k, j + 1) := by unfold swI; rw [if_neg (by simp), if_pos rfl]
theorem swI_o {k j : Nat} {x : Nat × Nat} (h1 : x ≠ (k, j + 1)) (h2 : x ≠ (k, j + 2)) : swI k j x = x := by unfold swI; rw [if_neg h1, if_neg h2]
theorem swI_p {k j : Nat} {p i : Nat} (h : p ≠ k) : swI k j (p, i) = (p, i) := swI_o (by simp [h]) (by simp [h])
theorem swI_i {k j : Nat} {p i : Nat} (h1 : i ≠ j + 1) (h2 : i ≠ j + 2) : swI k j (p, i) = (p, i) := swI_o (by simp [h1]) (by simp [h2])
theorem swI_2 {k j : Nat} (x : Nat × Nat) : swI k j (swI k j x) = x := by
 by_cases h1 : x = (k, j + 1)
 ·rw [h1, swI_a, swI_b]
 ·by_cases h2 : x = (k, j + 2)
  ·rw [h2, swI_b, swI_a]
  ·rw [swI_o h1 h2, swI_o h1 h2]
theorem swI_1 {k j : Nat} (x : Nat × Nat) : (swI k j x).1 = x.1 := by
 unfold swI
 split
 ·rename_i h; rw [h]
 ·split
  ·rename_i h; rw [h]
  ·rfl
structure Sw (t : Tr) (k0 j0 : Nat) : Prop where
 v : Vok t
 k : k0 < t.length
 j : j0 + 1 < (evsOf t k0).length
theorem swL_len {l : List Ev} {j : Nat} : (swL l j).length = l.length := by unfold swL; simp
theorem swT_len {t : Tr} {k j : Nat} : (swT t k j).length = t.length := by unfold swT; simp
theorem sw_getk {t : Tr} {k j : Nat} (h : k < t.length) : (swT t k j).getD k dfPr = { t.getD k dfPr with evs := swL (evsOf t k) j } := by
 unfold swT
 rw [List.getD_eq_getElem?_getD, List.getElem?_set_self h]; rfl
theorem sw_getp {t : Tr} {k j p : Nat} (h : p ≠ k) : (swT t k j).getD p dfPr = t.getD p dfPr := by
 unfold swT
 rw [List.getD_eq_getElem?_getD, List.getElem?_set_ne (fun e => h e.symm), ← List.getD_eq_getElem?_getD]
theorem sw_evk {t : Tr} {k j : Nat} (h : k < t.length) : evsOf (swT t k j) k = swL (evsOf t k) j := by
 unfold evsOf; rw [sw_getk h]; rfl
theorem sw_evp {t : Tr} {k j p : Nat} (h : p ≠ k) : evsOf (swT t k j) p = evsOf t p := by
 unfold evsOf; rw [sw_getp h]
theorem sw_evlen {t : Tr} {k j : Nat} (h : k < t.length) (p : Nat) : (evsOf (swT t k j) p).length = (evsOf t p).length := by
 by_cases hp : p = k
 ·subst hp; rw [sw_evk h, swL_len]
 ·rw [sw_evp hp]
theorem sw_ids {t : Tr} {k j : Nat} (h : k < t.length) : ids (swT t k j) = ids t := by
 unfold ids
 rw [swT_len]
 congr 1
 funext p
 unfold idsOf
 rw [sw_evlen h]
theorem swL_a {l : List Ev} {j : Nat} (h : j + 1 < l.length) : (swL l j).getD j dfEv = swE (l.getD (j + 1) dfEv) (l.getD j dfEv).time := by
 unfold swL
 rw [List.getD_eq_getElem?_getD, List.getElem?_set_ne oM, List.getElem?_set_self oM]; rfl
theorem swL_b {l : List Ev} {j : Nat} (h : j + 1 < l.length) : (swL l j).getD (j + 1) dfEv = swE (l.getD j dfEv) (l.getD (j + 1) dfEv).time := by
 unfold swL
 rw [List.getD_eq_getElem?_getD, List.getElem?_set_self (by rw [List.length_set]; omega)]; rfl
theorem swL_o {l : List Ev} {j i : Nat} (h1 : i ≠ j) (h2 : i ≠ j + 1) : (swL l j).getD i dfEv = l.getD i dfEv := by
 unfold swL
 rw [List.getD_eq_getElem?_getD, List.getElem?_set_ne oM, List.getElem?_set_ne oM, ← List.getD_eq_getElem?_getD]
theorem sw_ev {t : Tr} {k j : Nat} (h : Sw t k j) {x : Nat × Nat} (hx : x ∈ ids t) : evAt (swT t k j) x = swE (evAt t (swI k j x)) (evAt t x).time := by
 obtain ⟨p, i⟩ := x
 obtain ⟨i, rfl⟩ : ∃ m, i = m + 1 := ⟨i - 1, by have := mem_pos hx; simp only at this; omega⟩
 by_cases hp : p = k
 ·subst hp
  unfold evAt
  simp only [Nat.add_sub_cancel]
  rw [swI_1, sw_evk h.k]
  by_cases h1 : i = j
  ·subst h1
   rw [swL_a h.j, swI_a]; rfl
  ·by_cases h2 : i = j + 1
   ·subst h2
    rw [swL_b h.j, swI_b]; rfl
   ·rw [swL_o h1 h2, swI_i oM oM]; rfl
 ·unfold evAt
  simp only [Nat.add_sub_cancel]
  rw [swI_1, sw_evp hp, swI_p hp]; rfl
theorem swI_mem {t : Tr} {k j : Nat} (h : Sw t k j) {x : Nat × Nat} (hx : x ∈ ids t) : swI k j x ∈ ids t := by
 have hj := h.j
 by_cases h1 : x = (k, j + 1)
 ·rw [h1, swI_a]; exact mem_ids2.2 ⟨h.k, by omega⟩
 ·by_cases h2 : x = (k, j + 2)
  ·rw [h2, swI_b]; exact mem_ids2.2 ⟨h.k, by omega⟩
  ·rw [swI_o h1 h2]; exact hx
theorem formF_iff {t : Tr} {x : Nat × Nat} : formF t x = 0 ↔ formedB t.length x.1 (evAt t x) = true ∧ inB (evAt t x).time 0 1099511627776 = true ∧ ¬ (evAt t x).time < lastT t x ∧ (evAt t x).asg.length ≤ 8 ∧ firstNZ (asgF (t.getD x.1 dfPr).vars.length (evAt t x).asg) (evAt t x).asg.length = 0 := by
 unfold formF
 cases h1 : formedB t.length x.1 (evAt t x)
 ·simp
 cases h2 : inB (evAt t x).time 0 1099511627776
 ·simp
 by_cases h3 : (evAt t x).time < lastT t x
 ·simp [h3]
 by_cases h4 : 8 < (evAt t x).asg.length
 ·have h5 : ¬ (evAt t x).asg.length ≤ 8 := by omega
  simp [h3, h4, h5]
 ·have h5 : (evAt t x).asg.length ≤ 8 := by omega
  simp [h3, h4, h5]
theorem sw_vars {t : Tr} {k j : Nat} (h : k < t.length) (p : Nat) : ((swT t k j).getD p dfPr).vars = (t.getD p dfPr).vars ∧ ((swT t k j).getD p dfPr).name = (t.getD p dfPr).name := by
 by_cases hp : p = k
 ·subst hp; rw [sw_getk h]; exact ⟨rfl, rfl⟩
 ·rw [sw_getp hp]; exact ⟨rfl, rfl⟩
theorem sw_names {t : Tr} {k j : Nat} (h : k < t.length) : (swT t k j).map (·.name) = t.map (·.name) := by
 refine List.ext_getElem (by rw [List.length_map, List.length_map, swT_len]) (fun p h1 h2 => ?_)
 rw [List.length_map] at h1 h2
 rw [List.getElem_map, List.getElem_map]
 have := (sw_vars (j := j) h p).2
 rw [getD_lt dfPr _ h1, getD_lt dfPr _ h2] at this
 exact this
theorem sw_head {t : Tr} {k j : Nat} (h : k < t.length) (p : Nat) : headF (swT t k j) p = headF t p := by
 obtain ⟨e1, e2⟩ := sw_vars (j := j) h p
 have e3 : ((swT t k j).getD p dfPr).evs.length = (t.getD p dfPr).evs.length := sw_evlen h p
 have e4 : ∀ s : List UInt8, ((swT t k j).take p).any (fun y => y.name.toList == s) = (t.take p).any (fun y => y.name.toList == s) := fun s => by
  have : ∀ l : List Pr, l.any (fun y => y.name.toList == s) = (l.map (·.name)).any (fun n => n.toList == s) := fun l => by rw [List.any_map]; rfl
  rw [this, this, List.map_take, List.map_take, sw_names h]
 unfold headF
 rw [e1, e2, e3, e4]
theorem sw_form {t : Tr} {k j : Nat} (h : Sw t k j) {x : Nat × Nat} (hx : x ∈ ids t) : formF (swT t k j) x = 0 := by
 have f1 := formF_iff.1 (h.v.form x hx)
 have f2 := formF_iff.1 (h.v.form _ (swI_mem h hx))
 rw [swI_1] at f2
 rw [formF_iff, sw_ev h hx, swT_len, (sw_vars h.k x.1).1]
 refine ⟨f2.1, f1.2.1, ?_, f2.2.2.2.1, f2.2.2.2.2⟩
 have hl : lastT (swT t k j) x = lastT t x := by
  unfold lastT
  by_cases h2 : 1 < x.2
  ·rw [if_pos h2, if_pos h2]
   have hm : (x.1, x.2 - 1) ∈ ids t := by
    obtain ⟨hp, _, hi⟩ := mem_ids.1 hx
    exact mem_ids.2 ⟨hp, by simp only; omega, by simp only; omega⟩
   have := sw_ev h hm
   unfold evAt at this
   simp only at this
   rw [show x.2 - 2 = x.2 - 1 - 1 by omega, this]; rfl
  ·rw [if_neg h2, if_neg h2]
 rw [hl]
 exact f1.2.2.1
theorem find_uniq {t : Tr} (h : Vok t) {x : Nat × Nat} (hx : x ∈ ids t) {k : Int} (hk : k = 2 ∨ k = 3) (hkx : (evAt t x).kind = k) : findL t k (evAt t x).msg = some x := by
 rcases hk with rfl | rfl
 ·exact h.paired.send hx hkx
 ·exact (h.paired.recv hx hkx).1
theorem sw_find {t : Tr} {k j : Nat} (h : Sw t k j) {q m : Int} (hq : q = 2 ∨ q = 3) {y : Nat × Nat} : findL (swT t k j) q m = some y ↔ findL t q m = some (swI k j y) := by
 have fw : ∀ z, findL (swT t k j) q m = some z → findL t q m = some (swI k j z) := fun z hz => by
  have hm := (firstOf_find hz).2.2
  rw [sw_ids h.k] at hm
  obtain ⟨k1, k2⟩ := find_key hz
  rw [sw_ev h hm] at k1 k2
  have := find_uniq h.v (swI_mem h hm) hq k1
  rw [← k2]; exact this
 constructor
 ·exact fw y
 ·intro h1
  cases hf : findL (swT t k j) q m with
  | some z =>
    have := fw z hf
    rw [h1] at this
    have := Option.some.inj this
    rw [← swI_2 (k := k) (j := j) z, ← this, swI_2]
  | none =>
    obtain ⟨k1, k2⟩ := find_key h1
    have hm := (firstOf_find h1).2.2
    have hm2 : y ∈ ids t := by have := swI_mem h hm; rw [swI_2] at this; exact this
    have e : findL (swT t k j) q m = (ids (swT t k j)).find? (keyB (swT t k j) q m) := rfl
    rw [e, List.find?_eq_none, sw_ids h.k] at hf
    refine absurd ?_ (hf y hm2)
    have k3 : (evAt (swT t k j) y).kind = q := by rw [sw_ev h hm2]; exact k1
    have k4 : (evAt (swT t k j) y).msg = m := by rw [sw_ev h hm2]; exact k2
    unfold keyB
    rw [k3, k4]; simp
theorem evAt_mem {t : Tr} {x : Nat × Nat} (hx : x ∈ ids t) : evAt t x ∈ evsOf t x.1 := by
 obtain ⟨p, i⟩ := x
 obtain ⟨hp, h1, h2⟩ := mem_ids.1 hx
 unfold evAt
 simp only at *
 rw [evsOf_lt hp, getD_lt dfEv _ (show i - 1 < t[p].evs.length by omega)]
 exact List.getElem_mem _
theorem mem_evAt {t : Tr} {p : Nat} {e : Ev} (hp : p < t.length) (he : e ∈ evsOf t p) : ∃ i, (p, i + 1) ∈ ids t ∧ evAt t (p, i + 1) = e := by
 obtain ⟨i, hi, rfl⟩ := List.getElem_of_mem he
 refine ⟨i, mem_ids2.2 ⟨hp, hi⟩, ?_⟩
 unfold evAt
 simp only [Nat.add_sub_cancel]
 exact getD_lt dfEv _ hi
theorem sw_sends {t : Tr} {k j : Nat} (h : Sw t k j) {p : Nat} {m to : Int} (hp : p < t.length) (hs : sendsB t p m to = true) : sendsB (swT t k j) p m to = true := by
 unfold sendsB at hs ⊢
 rw [List.any_eq_true] at hs ⊢
 obtain ⟨e, he, hb⟩ := hs
 obtain ⟨i, hi, rfl⟩ := mem_evAt hp he
 have hm := swI_mem h hi
 have e1 := sw_ev h hm
 have := evAt_mem (t := swT t k j) (x := swI k j (p, i + 1)) (by rw [sw_ids h.k]; exact hm)
 rw [swI_1] at this
 refine ⟨_, this, ?_⟩
 rw [e1, swI_2]
 exact hb
theorem sw_pair {t : Tr} {k j : Nat} (h : Sw t k j) {x : Nat × Nat} (hx : x ∈ ids t) : pairF (swT t k j) x = 0 := by
 have hm := swI_mem h hx
 have h1 := h.v.pair _ hm
 have ek : (evAt (swT t k j) x).kind = (evAt t (swI k j x)).kind := by rw [sw_ev h hx]; rfl
 have em : (evAt (swT t k j) x).msg = (evAt t (swI k j x)).msg := by rw [sw_ev h hx]; rfl
 have ep : (evAt (swT t k j) x).peer = (evAt t (swI k j x)).peer := by rw [sw_ev h hx]; rfl
 unfold pairF
 rw [ek, em, ep]
 by_cases k2 : (evAt t (swI k j x)).kind = 2
 ·have := (sw_find h (.inl rfl) (y := x)).2 (find_uniq h.v hm (.inl rfl) k2)
  rw [this, k2]; simp
 ·by_cases k3 : (evAt t (swI k j x)).kind = 3
  ·have := (sw_find h (.inr rfl) (y := x)).2 (find_uniq h.v hm (.inr rfl) k3)
   rw [this, k3]
   obtain ⟨m, q, hm2, _, hq, hq2, _⟩ := formed_open (formF_formed (h.v.form _ hm)) (by rw [k3]; rfl)
   have hs : sendsB t q (evAt t (swI k j x)).msg x.1 = true := by
    unfold pairF at h1
    rw [k3, find_uniq h.v hm (.inr rfl) k3, hq, Int.toNat_natCast, swI_1] at h1
    cases hc : sendsB t q (evAt t (swI k j x)).msg x.1 with
    | true => rfl
    | false => rw [hc] at h1; simp at h1
   have := sw_sends h hq2 hs
   rw [hq, Int.toNat_natCast, this]; simp
  ·simp [k2, k3]
def Qb (t : Tr) (k j : Nat) (x y : Nat × Nat) : Prop := Hb t x y ∧ (y = (k, j + 2) → Le t x (k, j) ∨ ((evAt t (k, j + 2)).kind = 3 ∧ Le t x (sndr t (k, j + 2))))
theorem Qb.trans {t : Tr} {k j : Nat} {x y z : Nat × Nat} (h : Qb t k j x y) (g : Qb t k j y z) : Qb t k j x z := by
 refine ⟨h.1.trans g.1, fun e => ?_⟩
 rcases g.2 e with a | ⟨a, c⟩
 ·exact .inl ((Le.trans (.inr h.1) a))
 ·exact .inr ⟨a, (Le.trans (.inr h.1) c)⟩
theorem sw_dir {t : Tr} {k j : Nat} (h : Sw t k j) {x y : Nat × Nat} (hx : x ∈ ids t) (hd : Dir (swT t k j) x y) : y ∈ ids t ∧ (Qb t k j (swI k j x) (swI k j y) ∨ (swI k j x = (k, j + 2) ∧ swI k j y = (k, j + 1))) := by
 have hj := h.j
 rcases hd with ⟨rfl, hl⟩ | ⟨hk, hf⟩
 ·obtain ⟨p, i⟩ := x
  simp only at hl ⊢
  rw [sw_evlen h.k] at hl
  have hp := (mem_ids.1 hx).1
  simp only at hp
  refine ⟨mem_ids2.2 ⟨hp, hl⟩, ?_⟩
  by_cases hpk : p = k
  ·subst hpk
   by_cases h1 : i = j + 1
   ·subst h1; exact .inr ⟨swI_a, swI_b⟩
   ·by_cases h2 : i = j + 2
    ·subst h2
     rw [swI_b, swI_i (i := j + 2 + 1) oM oM]
     exact .inl ⟨hb_row oM oM, fun e => by simp at e⟩
    ·by_cases h3 : i = j
     ·subst h3
      rw [swI_a, swI_i (i := i) oM oM]
      exact .inl ⟨hb_row oM oM, fun e => .inl (.refl _)⟩
     ·rw [swI_i (i := i) h1 h2, swI_i (i := i + 1) oM oM]
      exact .inl ⟨hb_row oM oM, fun e => by simp at e; omega⟩
  ·rw [swI_p hpk, swI_p hpk]
   exact .inl ⟨hb_row oM oM, fun e => by simp at e; omega⟩
 ·have hm := (firstOf_find hf).2.2
  rw [sw_ids h.k] at hm
  have hf2 := (sw_find h (.inr rfl)).1 hf
  rw [sw_ev h hx] at hk hf2
  have hk : (evAt t (swI k j x)).kind = 2 := hk
  have hf2 : findL t 3 (evAt t (swI k j x)).msg = some (swI k j y) := hf2
  refine ⟨hm, .inl ⟨.one (.inr ⟨hk, hf2⟩), fun e => .inr ?_⟩⟩
  obtain ⟨k1, k2⟩ := find_key hf2
  rw [e] at k1 k2
  refine ⟨k1, .inl ?_⟩
  have := find_uniq h.v (swI_mem h hx) (.inl rfl) hk
  rw [← k2] at this
  exact ((firstOf_find this).1).symm
theorem sw_hb {t : Tr} {k j : Nat} (h : Sw t k j) {x y : Nat × Nat} (hx : x ∈ ids t) (hh : Hb (swT t k j) x y) : y ∈ ids t ∧ (Qb t k j (swI k j x) (swI k j y) ∨ ((swI k j x = (k, j + 2) ∨ Qb t k j (swI k j x) (k, j + 2)) ∧ (swI k j y = (k, j + 1) ∨ Qb t k j (k, j + 1) (swI k j y)))) := by
 induction hh with
 | one d =>
   obtain ⟨h1, h2⟩ := sw_dir h hx d
   rcases h2 with h2 | ⟨h2, h3⟩
   ·exact ⟨h1, .inl h2⟩
   ·exact ⟨h1, .inr ⟨.inl h2, .inl h3⟩⟩
 | more _ d ih =>
   obtain ⟨g1, g2⟩ := ih
   obtain ⟨h1, h2⟩ := sw_dir h g1 d
   refine ⟨h1, ?_⟩
   rcases g2 with g2 | ⟨g2, g3⟩
   ·rcases h2 with h2 | ⟨h2, h3⟩
    ·exact .inl (g2.trans h2)
    ·exact .inr ⟨.inr (h2 ▸ g2), .inl h3⟩
   ·refine .inr ⟨g2, ?_⟩
    rcases h2 with h2 | ⟨h2, h3⟩
    ·rcases g3 with g3 | g3
     ·exact .inr (g3 ▸ h2)
     ·exact .inr (g3.trans h2)
    ·exact .inl h3
theorem Hb.pos {t : Tr} {x y : Nat × Nat} (h : Hb t x y) : 1 ≤ y.2 := by
 have d : ∀ {a c : Nat × Nat}, Dir t a c → 1 ≤ c.2 := fun {a c} d => by
  rcases d with ⟨rfl, _⟩ | ⟨_, hf⟩
  ·exact Nat.le_add_left _ _
  ·exact (firstOf_find hf).2.1
 cases h with
 | one h => exact d h
 | more _ h => exact d h
theorem sw_qab {t : Tr} {k j : Nat} (h : Sw t k j) (hq : Qb t k j (k, j + 1) (k, j + 2)) : (evAt t (k, j + 2)).kind = 3 ∧ Le t (k, j + 1) (sndr t (k, j + 2)) := by
 have hj := h.j
 have ha : (k, j + 1) ∈ ids t := mem_ids2.2 ⟨h.k, by omega⟩
 rcases hq.2 rfl with hl | hl
 ·exfalso
  rcases hl with e | e
  ·simp at e
  ·have hp := e.pos
   exact h.v.acyc _ ha (e.trans (hb_row oM oM))
 ·exact hl
def Leads (t : Tr) (k j : Nat) : Prop := (evAt t (k, j + 2)).kind = 3 ∧ Le t (k, j + 1) (sndr t (k, j + 2))
theorem sw_acyc {t : Tr} {k j : Nat} (h : Sw t k j) (hn : ¬ Leads t k j) {x : Nat × Nat} (hx : x ∈ ids t) : ¬ Hb (swT t k j) x x := fun hh => by
 obtain ⟨_, h2⟩ := sw_hb h hx hh
 rcases h2 with h2 | ⟨h2, h3⟩
 ·exact h.v.acyc _ (swI_mem h hx) h2.1
 ·rcases h2 with h2 | h2
  ·rcases h3 with h3 | h3
   ·rw [h2] at h3; simp at h3
   ·rw [h2] at h3; exact hn (sw_qab h h3)
  ·rcases h3 with h3 | h3
   ·rw [h3] at h2; exact hn (sw_qab h h2)
   ·exact hn (sw_qab h (h3.trans h2))
theorem sw_path {t : Tr} {k j : Nat} (h : Sw t k j) {y : Nat × Nat} (hh : Hb t (k, j + 1) y) (hn : ¬ Le t (k, j + 2) y) : y ∈ ids t ∧ Hb (swT t k j) (swI k j (k, j + 1)) (swI k j y) := by
 have hj := h.j
 have ha : (k, j + 1) ∈ ids t := mem_ids2.2 ⟨h.k, by omega⟩
 have dir : ∀ {x y : Nat × Nat}, x ∈ ids t → Le t (k, j + 1) x → Dir t x y → ¬ Le t (k, j + 2) y → ¬ Le t (k, j + 2) x → y ∈ ids t ∧ Dir (swT t k j) (swI k j x) (swI k j y) := fun {x y} hx hl d hn hnx => by
  rcases d with ⟨rfl, hl2⟩ | ⟨hk, hf⟩
  ·obtain ⟨p, i⟩ := x
   simp only at hl2 ⊢
   have hp := (mem_ids.1 hx).1
   simp only at hp
   refine ⟨mem_ids2.2 ⟨hp, hl2⟩, ?_⟩
   have hne : ∀ m, (p, i) ≠ (k, j + 2 + m) := fun m e => by
    simp only [Prod.mk.injEq] at e
    obtain ⟨rfl, rfl⟩ := e
    exact hnx (le_row oM oM)
   have hne2 : (p, i + 1) ≠ (k, j + 2) := fun e => hn (by rw [e]; exact .refl _)
   have hne3 : (p, i) ≠ (k, j + 1) := fun e => by
    simp only [Prod.mk.injEq] at e
    obtain ⟨rfl, rfl⟩ := e
    exact hne2 rfl
   have hne4 : (p, i + 1) ≠ (k, j + 1) := fun e => by
    simp only [Prod.mk.injEq, Nat.add_right_cancel_iff] at e
    obtain ⟨rfl, rfl⟩ := e
    exact h.v.acyc _ ha (hl.hb (.one (.inl ⟨rfl, hl2⟩)))
   rw [swI_o hne3 (hne 0), swI_o hne4 hne2]
   exact .inl ⟨rfl, by rw [sw_evlen h.k]; exact hl2⟩
  ·have hm := (firstOf_find hf).2.2
   refine ⟨hm, .inr ?_⟩
   rw [sw_ev h (swI_mem h hx), swI_2]
   exact ⟨hk, (sw_find h (.inr rfl)).2 (by rw [swI_2]; exact hf)⟩
 have hba : ¬ Le t (k, j + 2) (k, j + 1) := fun e => by
  rcases e with e | e
  ·simp at e
  ·exact h.v.acyc _ ha ((hb_row oM oM).trans e)
 induction hh with
 | one d =>
   obtain ⟨h1, h2⟩ := dir ha (.refl _) d hn hba
   exact ⟨h1, .one h2⟩
 | more g d ih =>
   have hn' : ∀ {y'}, Dir t y' _ → ¬ Le t (k, j + 2) y' := fun d e => hn (.inr (e.hb (.one d)))
   obtain ⟨g1, g2⟩ := ih (hn' d)
   obtain ⟨h1, h2⟩ := dir g1 (.inr g) d hn (hn' d)
   exact ⟨h1, .more g2 h2⟩
theorem sw_cyc {t : Tr} {k j : Nat} (h : Sw t k j) (hl : Leads t k j) : Hb (swT t k j) (k, j + 2) (k, j + 2) := by
 have hj := h.j
 obtain ⟨hk3, hl⟩ := hl
 have hb : (k, j + 2) ∈ ids t := mem_ids2.2 ⟨h.k, by omega⟩
 obtain ⟨s1, s2⟩ := sndr_in h.v hb hk3
 obtain ⟨_, _, sk, sm⟩ := sndr_peer h.v hb hk3
 have hr := find_uniq h.v hb (.inr rfl) hk3
 have d1 : Dir (swT t k j) (swI k j (sndr t (k, j + 2))) (k, j + 1) := .inr (by
  rw [sw_ev h (swI_mem h s1), swI_2]
  refine ⟨sk, (sw_find h (.inr rfl)).2 ?_⟩
  rw [swI_a]
  show findL t 3 (evAt t (sndr t (k, j + 2))).msg = _
  rw [sm]; exact hr)
 have d2 : Dir (swT t k j) (k, j + 1) (k, j + 2) := .inl ⟨rfl, by rw [sw_evlen h.k]; exact hj⟩
 have hn : ¬ Le t (k, j + 2) (sndr t (k, j + 2)) := fun e => h.v.acyc _ hb (e.hb s2)
 rcases hl with e | e
 ·rw [← e, swI_a] at d1
  exact (Hb.one d1).more d2
 ·have := (sw_path h e hn).2
  rw [swI_a] at this
  exact (this.more d1).more d2
open Classical in
theorem sw_fault {t : Tr} {k j : Nat} (h : Sw t k j) : (Leads t k j ∧ ∃ x ∈ ids t, faultL (swT t k j) = (x, 10)) ∨ (¬ Leads t k j ∧ faultL (swT t k j) = ((0, 0), 0)) := by
 have hj := h.j
 have hlen : inB ((swT t k j).length : Int) 1 8 = true := by
  have h1 := h.v.lo
  have h2 := h.v.hi
  rw [swT_len]
  unfold inB; simp; omega
 have h0 : ∀ q, q < (swT t k j).length → headF (swT t k j) q = 0 := fun q hq => by rw [sw_head h.k]; exact h.v.head q (by rw [swT_len] at hq; exact hq)
 have hf : (ids (swT t k j)).find? (fun x => formF (swT t k j) x != 0) = none := by
  rw [List.find?_eq_none, sw_ids h.k]; intro x hx; rw [sw_form h hx]; simp
 have hp : (ids (swT t k j)).find? (fun x => pairF (swT t k j) x != 0) = none := by
  rw [List.find?_eq_none, sw_ids h.k]; intro x hx; rw [sw_pair h hx]; simp
 by_cases hl : Leads t k j
 ·refine .inl ⟨hl, ?_⟩
  cases hx : hbFirst (swT t k j) with
  | some x =>
    refine ⟨x, ?_, fault_hb hlen h0 hf hp hx⟩
    unfold hbFirst at hx
    rw [← sw_ids (j := j) h.k]
    exact List.mem_of_find?_eq_some hx
  | none =>
    unfold hbFirst at hx
    rw [List.find?_eq_none, sw_ids h.k] at hx
    have := hx (k, j + 2) (mem_ids2.2 ⟨h.k, by omega⟩)
    exact absurd (decide_eq_true (sw_cyc h hl)) this
 ·refine .inr ⟨hl, fault_ok hlen h0 hf hp ?_⟩
  unfold hbFirst
  rw [List.find?_eq_none, sw_ids h.k]
  intro x hx
  have := sw_acyc h hl hx
  simp [this]
end Go.Proofs.Ytilcmenglgdljaa
namespace Go.Proofs.Ytilcmenglgdljaa
set_option linter.unusedVariables false
set_option linter.unusedSimpArgs false
attribute [local go_sem ↓] run_skip run_region run_draw run_seq run_block run_exit run_ret run_cond atN_app seqC_normal seqC_exit seqC_ret seqQ_normal seqQ_exit seqQ_ret blkQ_normal blkQ_exit blkQ_ret runOps_nil runOps_cons runD_nil runD_cons grdO_true grdO_false grdD_true grdD_false ifC_true ifC_false opS_val opS_call opS_two opK_app dS_val dS_call dS_two dK_app kUp_same kUp_ne
attribute [local go_sem] rechks_nil rechks_cons rechk gcase_true gcase_false ex_val ex_val0 gd_none gd_some ev_t ev_c evs_nil evs_cons evo_some evo_none hget_at hget_first hsetB_at hsetB_first hsetL_at hsetL_first ofOpt_some aop aload astore aslice aappend aiaddr aiaddrA afaddr alen alenS acopy amm acall alookup amupdate alenM comma keyEq apick binV binVB binVS isSh intOp strOp boolOp shOp eqC eqF and2 cellsOf setFrom fillA fillS rd rdI elems mk bounds AV.cell List.all_cons List.all_nil Bool.and_true Bool.true_and Bool.and_self List.length_cons List.length_nil List.length_append Nat.reduceAdd Nat.reduceSub Nat.reduceMul Nat.zero_add Nat.add_zero List.cons_append List.nil_append List.append_assoc List.append_nil List.getElem?_cons_zero List.getElem?_cons_succ List.getElem?_nil List.set_cons_zero List.set_cons_succ List.drop_zero List.drop_succ_cons List.take_zero List.take_succ_cons List.take_nil List.drop_nil List.map_cons List.map_nil Option.map_some if_true if_false Bool.false_eq_true and_self true_and and_true Nat.reduceLeDiff Nat.reduceLT Nat.le_refl Nat.reduceEqDiff ite_true ite_false beq_self_eq_true beq_true beq_false Bool.not_true Bool.not_false Bool.true_beq Bool.false_beq map_vs vs_len vs_get vs_take vs_drop vs_snoc1 vs_snoc2 vs_snoc3 vs_snoc5 vs_set1 vs_set2 vs_rep wrap_id le_T lt_T le_F lt_F leI_T ltI_T leI_F ltI_F geI gtI get_T decide_true decide_false room List.getElem?_map List.length_map List.length_take Int.toNat_natCast Nat.min_def Nat.min_self nth_kOf put_kOf put_kNo kOv_cons kOv_nil KHas KArgs List.getElem_cons_zero List.getElem_cons_succ
def iv (v : List Int) : AV := .v (.isl 1 (v.map eI))

end Go.Proofs.Ytilcmenglgdljaa
