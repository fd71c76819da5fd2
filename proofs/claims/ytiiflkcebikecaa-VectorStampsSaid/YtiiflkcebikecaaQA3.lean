/- Texts of one proof, laid together: VL, WP, WQ, VR, VS, VW, VU, E0, F, FW, FN, FI, FP. No condition. -/
import Derived.Test.YtiiflkcebikecaaQA2
import Derived.KernelRfl
import Derived.Test.YtiiflkcebikecaaProg
import Derived.Test.YtiiflkcebikecaaChecked
/- Vectors as lists of numbers: the plain laws of chapter 15. No condition. -/
namespace Go.Proofs.Ytiiflkcebikecaa
set_option linter.unusedVariables false
set_option linter.unusedSimpArgs false

def vBad (n : Int) : Bool := decide (n < 0) || decide (n > 1125899906842624)
def vBadAt (v : List Int) (i : Nat) : Bool := vBad (v.getD i 0)
def isV (v : List Int) : Bool := decide (1 ≤ v.length) && (decide (v.length ≤ 8) && !(List.range v.length).any (vBadAt v))
def bothV (v w : List Int) : Bool := isV v && (isV w && decide (v.length = w.length))
def joinV (v w : List Int) : List Int := List.zipWith max v w
def leqAt (v w : List Int) (i : Nat) : Bool := decide (v.getD i 0 ≤ w.getD i 0)
def leqV (v w : List Int) : Bool := (List.range v.length).all (leqAt v w)
def tickE (v : List Int) (p : Int) : Int := if isV v = false then 1 else if p < 0 ∨ p ≥ v.length then 2 else if v.getD p.toNat 0 = 1125899906842624 then 9 else 0
def tickL (v : List Int) (p : Nat) : List Int := v.set p (v.getD p 0 + 1)
def tickV (v : List Int) (p : Int) : List Int := if tickE v p = 0 then tickL v p.toNat else []
def cmpV (v w : List Int) : Int := if leqV v w = true then (if leqV w v = true then 0 else -1) else if leqV w v = true then 1 else 2

theorem getD_at {α : Type} {l : List α} {i : Nat} {d : α} (h : i < l.length) : l.getD i d = l[i] := by simp [List.getD, h]
theorem isV_open {v : List Int} (h : isV v = true) : 1 ≤ v.length ∧ v.length ≤ 8 ∧ ∀ i, i < v.length → 0 ≤ v.getD i 0 ∧ v.getD i 0 ≤ 1125899906842624 := by
  simp only [isV, Bool.and_eq_true, decide_eq_true_eq, Bool.not_eq_true', List.any_eq_false, List.mem_range, vBadAt, vBad, Bool.or_eq_true, not_or] at h
  refine ⟨h.1, h.2.1, fun i hi => ?_⟩
  have := h.2.2 i hi
  omega
theorem isV_mk {v : List Int} (h1 : 1 ≤ v.length) (h2 : v.length ≤ 8) (h : ∀ i, i < v.length → 0 ≤ v.getD i 0 ∧ v.getD i 0 ≤ 1125899906842624) : isV v = true := by
  simp only [isV, Bool.and_eq_true, decide_eq_true_eq, Bool.not_eq_true', List.any_eq_false, List.mem_range, vBadAt, vBad, Bool.or_eq_true, not_or]
  refine ⟨h1, h2, fun i hi => ?_⟩
  have := h i hi
  omega
theorem bothV_open {v w : List Int} (h : bothV v w = true) : isV v = true ∧ isV w = true ∧ v.length = w.length := by
  simpa [bothV, Bool.and_eq_true] using h
theorem bothV_mk {v w : List Int} (h1 : isV v = true) (h2 : isV w = true) (h : v.length = w.length) : bothV v w = true := by
  simp [bothV, h1, h2, h]
theorem leqV_iff {v w : List Int} : leqV v w = true ↔ ∀ i, i < v.length → v.getD i 0 ≤ w.getD i 0 := by
  simp [leqV, leqAt, List.all_eq_true]
theorem joinV_len {v w : List Int} (h : v.length = w.length) : (joinV v w).length = v.length := by
  simp [joinV, h]
theorem joinV_get {v w : List Int} (h : v.length = w.length) {i : Nat} (hi : i < v.length) : (joinV v w).getD i 0 = max (v.getD i 0) (w.getD i 0) := by
  rw [getD_at (by rw [joinV_len h]; exact hi), getD_at hi, getD_at (by omega)]
  simp [joinV]
theorem ext_getD {v w : List Int} (h : v.length = w.length) (hg : ∀ i, i < v.length → v.getD i 0 = w.getD i 0) : v = w := by
  refine List.ext_getElem h (fun i h1 h2 => ?_)
  have := hg i h1
  rwa [getD_at h1, getD_at h2] at this
theorem isV_join {v w : List Int} (h : bothV v w = true) : isV (joinV v w) = true := by
  obtain ⟨h1, h2, h3⟩ := bothV_open h
  obtain ⟨a1, a2, a3⟩ := isV_open h1
  obtain ⟨b1, b2, b3⟩ := isV_open h2
  have hl := joinV_len h3
  refine isV_mk (by omega) (by omega) (fun i hi => ?_)
  have hi' : i < v.length := by omega
  rw [joinV_get h3 hi']
  have := a3 i hi'
  have := b3 i (by omega)
  omega
theorem joinV_comm {v w : List Int} (h : v.length = w.length) : joinV v w = joinV w v := by
  refine ext_getD (by rw [joinV_len h, joinV_len h.symm, h]) (fun i hi => ?_)
  rw [joinV_len h] at hi
  rw [joinV_get h hi, joinV_get h.symm (by omega)]
  omega
theorem joinV_self {v : List Int} : joinV v v = v := by
  refine ext_getD (joinV_len rfl) (fun i hi => ?_)
  rw [joinV_len rfl] at hi
  rw [joinV_get rfl hi]
  omega
theorem joinV_assoc {u v w : List Int} (h : u.length = v.length) (k : v.length = w.length) : joinV (joinV u v) w = joinV u (joinV v w) := by
  have l1 := joinV_len h
  have l2 := joinV_len k
  have h1 : (joinV u v).length = w.length := by omega
  have h2 : u.length = (joinV v w).length := by omega
  refine ext_getD (by rw [joinV_len h1, joinV_len h2]; omega) (fun i hi => ?_)
  rw [joinV_len h1] at hi
  rw [joinV_get h1 hi, joinV_get h (by omega), joinV_get h2 (by omega), joinV_get k (by omega)]
  omega
theorem leqV_join_left {v w : List Int} (h : v.length = w.length) : leqV v (joinV v w) = true := by
  rw [leqV_iff]; intro i hi; rw [joinV_get h hi]; omega
theorem leqV_join_right {v w : List Int} (h : v.length = w.length) : leqV w (joinV v w) = true := by
  rw [leqV_iff]; intro i hi; rw [joinV_get h (by omega)]; omega
theorem leqV_join_least {u v w : List Int} (h : u.length = v.length) (h1 : leqV u w = true) (h2 : leqV v w = true) : leqV (joinV u v) w = true := by
  rw [leqV_iff] at h1 h2 ⊢
  intro i hi
  rw [joinV_len h] at hi
  rw [joinV_get h hi]
  have := h1 i hi
  have := h2 i (by omega)
  omega
theorem tickE_zero {v : List Int} {p : Int} (h : tickE v p = 0) : isV v = true ∧ 0 ≤ p ∧ p < v.length ∧ v.getD p.toNat 0 ≠ 1125899906842624 := by
  unfold tickE at h
  split at h
  · exact absurd h (by decide)
  · rename_i h1
    split at h
    · exact absurd h (by decide)
    · split at h
      · exact absurd h (by decide)
      · exact ⟨by simpa using h1, by omega, by omega, by assumption⟩
theorem tickL_len {v : List Int} {p : Nat} : (tickL v p).length = v.length := by simp [tickL]
theorem tickL_get {v : List Int} {p i : Nat} (hp : p < v.length) : (tickL v p).getD i 0 = if p = i then v.getD p 0 + 1 else v.getD i 0 := by
  unfold tickL
  by_cases h : p = i
  · subst h; rw [if_pos rfl, getD_at (by simpa using hp)]; simp
  · rw [if_neg h]; simp [List.getD, List.getElem?_set_ne h]
theorem isV_tick {v : List Int} {p : Int} (h : tickE v p = 0) : isV (tickL v p.toNat) = true := by
  obtain ⟨h1, h2, h3, h4⟩ := tickE_zero h
  obtain ⟨a1, a2, a3⟩ := isV_open h1
  refine isV_mk (by rw [tickL_len]; exact a1) (by rw [tickL_len]; exact a2) (fun i hi => ?_)
  rw [tickL_len] at hi
  rw [tickL_get (by omega)]
  have := a3 i hi
  have := a3 p.toNat (by omega)
  split <;> omega
theorem cmp_tick {v : List Int} {p : Int} (h : tickE v p = 0) : cmpV v (tickL v p.toNat) = -1 := by
  obtain ⟨h1, h2, h3, h4⟩ := tickE_zero h
  have hp : p.toNat < v.length := by omega
  have e1 : leqV v (tickL v p.toNat) = true := by
    rw [leqV_iff]; intro i hi; rw [tickL_get hp]; split <;> rename_i hh
    · subst hh; omega
    · omega
  have e2 : ¬ leqV (tickL v p.toNat) v = true := by
    rw [leqV_iff]; intro hh
    have := hh p.toNat (by rw [tickL_len]; exact hp)
    rw [tickL_get hp, if_pos rfl] at this
    omega
  unfold cmpV
  rw [if_pos e1, if_neg e2]
/-- Compare as a test of at most. -/
def leqC (v w : List Int) : Bool := (cmpV v w == 0) || (cmpV v w == -1)
theorem leqC_eq (v w : List Int) : leqC v w = leqV v w := by
  unfold leqC cmpV
  cases leqV v w <;> cases leqV w v <;> rfl

/-! Changes. -/
def chgAt (old v : List Int) (i : Nat) : Bool := v.getD i 0 != old.getD i 0
def chgTo (old v : List Int) (n : Nat) : List (Int × Int) := ((List.range n).filter (chgAt old v)).map fun (i : Nat) => ((i : Int), v.getD i 0)
def chgV (old v : List Int) : List (Int × Int) := chgTo old v v.length
theorem chgTo_succ (old v : List Int) (n : Nat) : chgTo old v (n + 1) = chgTo old v n ++ if chgAt old v n then [((n : Int), v.getD n 0)] else [] := by
  unfold chgTo
  rw [List.range_succ, List.filter_append, List.map_append]
  congr 1
  cases h : chgAt old v n <;> simp [h]
theorem chgTo_len (old v : List Int) (n : Nat) : (chgTo old v n).length ≤ n := by
  unfold chgTo
  rw [List.length_map]
  exact Nat.le_trans (List.length_filter_le _ _) (by simp)
def oor (old : List Int) (x : Int × Int) : Bool := decide (x.1 < 0) || (decide (x.1 ≥ old.length) || (decide (x.2 < 0) || decide (x.2 > 1125899906842624)))
def oorAt (old : List Int) (l : List (Int × Int)) (i : Nat) : Bool := oor old (l.getD i (0, 0))
def badC (old : List Int) (l : List (Int × Int)) (i : Nat) : Bool := (decide (0 < i) && decide ((l.getD (i - 1) (0, 0)).1 ≥ (l.getD i (0, 0)).1)) || old.getD (l.getD i (0, 0)).1.toNat 0 == (l.getD i (0, 0)).2
def appTo (old : List Int) (l : List (Int × Int)) : Nat → List Int
  | 0 => old
  | i + 1 => (appTo old l i).set (l.getD i (0, 0)).1.toNat (l.getD i (0, 0)).2
def appE (old : List Int) (l : List (Int × Int)) : Int := if isV old = false then 1 else if (List.range l.length).any (oorAt old l) = true then 2 else if (List.range l.length).any (badC old l) = true then 3 else 0
def appV (old : List Int) (l : List (Int × Int)) : List Int := if appE old l = 0 then appTo old l l.length else []
theorem appTo_len (old : List Int) (l : List (Int × Int)) : ∀ n, (appTo old l n).length = old.length
  | 0 => rfl
  | n + 1 => by unfold appTo; rw [List.length_set, appTo_len old l n]
theorem appE_zero {old : List Int} {l : List (Int × Int)} (h : appE old l = 0) : isV old = true ∧ (∀ i, i < l.length → oorAt old l i = false) ∧ ∀ i, i < l.length → badC old l i = false := by
  unfold appE at h
  split at h
  · exact absurd h (by decide)
  · rename_i h1
    split at h
    · exact absurd h (by decide)
    · rename_i h2
      split at h
      · exact absurd h (by decide)
      · rename_i h3
        refine ⟨by simpa using h1, ?_, ?_⟩
        · simpa using h2
        · simpa using h3
theorem appE_ok {old : List Int} {l : List (Int × Int)} (h1 : isV old = true) (h2 : ∀ i, i < l.length → oorAt old l i = false) (h3 : ∀ i, i < l.length → badC old l i = false) : appE old l = 0 := by
  unfold appE
  rw [if_neg (by simp [h1]), if_neg (by simpa using h2), if_neg (by simpa using h3)]
theorem oor_open {old : List Int} {x : Int × Int} (h : oor old x = false) : 0 ≤ x.1 ∧ x.1 < old.length ∧ 0 ≤ x.2 ∧ x.2 ≤ 1125899906842624 := by
  simp only [oor, Bool.or_eq_false_iff, decide_eq_false_iff_not] at h
  omega
/-- Rising first numbers. -/
theorem rise {old : List Int} {l : List (Int × Int)} (h : ∀ i, i < l.length → badC old l i = false) : ∀ (i j : Nat), i < j → j < l.length → (l.getD i (0, 0)).1 < (l.getD j (0, 0)).1
  | i, j + 1, hij, hj => by
    have h1 := h (j + 1) hj
    simp only [badC, Bool.or_eq_false_iff, Bool.and_eq_false_imp, decide_eq_true_eq, decide_eq_false_iff_not, Nat.add_sub_cancel] at h1
    have h2 := h1.1 (by omega)
    rcases Nat.lt_or_ge i j with hlt | hge
    · have := rise h i j hlt (by omega)
      omega
    · have : i = j := by omega
      subst this; omega
theorem getD_set_ne {α : Type} {l : List α} {i j : Nat} {x d : α} (h : i ≠ j) : (l.set i x).getD j d = l.getD j d := by
  simp only [List.getD_eq_getElem?_getD, List.getElem?_set_ne h]
theorem appTo_same {old : List Int} {l : List (Int × Int)} {j : Nat} : ∀ {n : Nat}, (∀ i, i < n → (l.getD i (0, 0)).1.toNat ≠ j) → (appTo old l n).getD j 0 = old.getD j 0
  | 0, _ => rfl
  | n + 1, h => by
    have ih := appTo_same (old := old) (n := n) (fun i hi => h i (by omega))
    unfold appTo
    rw [← ih, getD_set_ne (h n (by omega))]
theorem appTo_at {old : List Int} {l : List (Int × Int)} (h2 : ∀ i, i < l.length → oorAt old l i = false) (h3 : ∀ i, i < l.length → badC old l i = false) {i : Nat} : ∀ {n : Nat}, i < n → n ≤ l.length → (appTo old l n).getD (l.getD i (0, 0)).1.toNat 0 = (l.getD i (0, 0)).2
  | n + 1, hi, hn => by
    unfold appTo
    have hb := oor_open (h2 n (by omega))
    have hb2 := oor_open (h2 i (by omega))
    by_cases h : n = i
    · subst h
      have : (l.getD n (0, 0)).1.toNat < ((appTo old l n).set (l.getD n (0, 0)).1.toNat (l.getD n (0, 0)).2).length := by rw [List.length_set, appTo_len]; omega
      rw [getD_at this]; simp
    · have ih := appTo_at h2 h3 (i := i) (n := n) (by omega) (by omega)
      have hr := rise h3 i n (by omega) (by omega)
      have hne : (l.getD n (0, 0)).1.toNat ≠ (l.getD i (0, 0)).1.toNat := by omega
      rw [← ih, getD_set_ne hne]
theorem sorted_ext : ∀ {l k : List (Int × Int)}, l.Pairwise (fun a b => a.1 < b.1) → k.Pairwise (fun a b => a.1 < b.1) → (∀ x, x ∈ l ↔ x ∈ k) → l = k
  | [], [], _, _, _ => rfl
  | [], b :: k, _, _, h => by simpa using (h b).2 (by simp)
  | a :: l, [], _, _, h => by simpa using (h a).1 (by simp)
  | a :: l, b :: k, h1, h2, h => by
    obtain ⟨a1, a2⟩ := List.pairwise_cons.1 h1
    obtain ⟨b1, b2⟩ := List.pairwise_cons.1 h2
    have hab : a = b := by
      rcases List.mem_cons.1 ((h a).1 (by simp)) with e | e
      · exact e
      · rcases List.mem_cons.1 ((h b).2 (by simp)) with e2 | e2
        · exact e2.symm
        · have := b1 a e
          have := a1 b e2
          omega
    subst hab
    rw [sorted_ext a2 b2 (fun x => ⟨fun hx => ?_, fun hx => ?_⟩)]
    · rcases List.mem_cons.1 ((h x).1 (by simp [hx])) with e | e
      · subst e; have := a1 x hx; omega
      · exact e
    · rcases List.mem_cons.1 ((h x).2 (by simp [hx])) with e | e
      · subst e; have := b1 x hx; omega
      · exact e
theorem chgTo_sorted (old v : List Int) : ∀ n, (chgTo old v n).Pairwise (fun a b => a.1 < b.1)
  | 0 => by simp [chgTo]
  | n + 1 => by
    rw [chgTo_succ, List.pairwise_append]
    refine ⟨chgTo_sorted old v n, ?_, ?_⟩
    · split <;> simp
    · intro a ha b hb
      split at hb
      · simp only [List.mem_singleton] at hb
        subst hb
        simp only [chgTo, List.mem_map, List.mem_filter, List.mem_range] at ha
        obtain ⟨i, ⟨hi, _⟩, rfl⟩ := ha
        simp only; omega
      · simp at hb
theorem list_sorted {l : List (Int × Int)} (h : ∀ (i j : Nat), i < j → j < l.length → (l.getD i (0, 0)).1 < (l.getD j (0, 0)).1) : l.Pairwise (fun a b => a.1 < b.1) := by
  rw [List.pairwise_iff_getElem]
  intro i j hi hj hij
  have := h i j hij hj
  rwa [getD_at hi, getD_at hj] at this
theorem chg_app {old : List Int} {l : List (Int × Int)} (h : appE old l = 0) : chgV old (appTo old l l.length) = l := by
  obtain ⟨h1, h2, h3⟩ := appE_zero h
  refine sorted_ext (chgTo_sorted _ _ _) (list_sorted (rise h3)) (fun x => ⟨fun hx => ?_, fun hx => ?_⟩)
  · simp only [chgV, chgTo, List.mem_map, List.mem_filter, List.mem_range, chgAt] at hx
    obtain ⟨j, ⟨hj, hne⟩, rfl⟩ := hx
    by_cases hex : ∃ i, i < l.length ∧ (l.getD i (0, 0)).1.toNat = j
    · obtain ⟨i, hi, rfl⟩ := hex
      have hb := oor_open (h2 i hi)
      rw [appTo_at h2 h3 hi (Nat.le_refl _)]
      have e : (((l.getD i (0, 0)).1.toNat : Int), (l.getD i (0, 0)).2) = l.getD i (0, 0) := Prod.ext (by simp only; omega) rfl
      rw [e, getD_at hi]
      exact List.getElem_mem hi
    · have := appTo_same (old := old) (l := l) (j := j) (n := l.length) (fun i hi e => hex ⟨i, hi, e⟩)
      rw [this] at hne
      simp at hne
  · obtain ⟨i, hi, rfl⟩ := List.mem_iff_getElem.1 hx
    have hg : l[i] = l.getD i (0, 0) := (getD_at hi).symm
    have hb := oor_open (h2 i hi)
    simp only [chgV, chgTo, List.mem_map, List.mem_filter, List.mem_range, chgAt]
    have ha := appTo_at h2 h3 hi (Nat.le_refl _)
    refine ⟨(l.getD i (0, 0)).1.toNat, ⟨by rw [appTo_len]; omega, ?_⟩, ?_⟩
    · rw [ha]
      have h4 := h3 i hi
      simp only [badC, Bool.or_eq_false_iff, beq_eq_false_iff_ne, ne_eq] at h4
      simp only [bne_iff_ne, ne_eq]
      exact fun e => h4.2 e.symm
    · rw [ha, hg]
      exact Prod.ext (by simp only; omega) rfl
theorem isV_app {old : List Int} {l : List (Int × Int)} (h : appE old l = 0) : bothV old (appTo old l l.length) = true := by
  obtain ⟨h1, h2, h3⟩ := appE_zero h
  obtain ⟨a1, a2, a3⟩ := isV_open h1
  have hl := appTo_len old l l.length
  refine bothV_mk h1 (isV_mk (by omega) (by omega) (fun j hj => ?_)) hl.symm
  by_cases hex : ∃ i, i < l.length ∧ (l.getD i (0, 0)).1.toNat = j
  · obtain ⟨i, hi, rfl⟩ := hex
    rw [appTo_at h2 h3 hi (Nat.le_refl _)]
    have hb := oor_open (h2 i hi)
    omega
  · rw [appTo_same (fun i hi e => hex ⟨i, hi, e⟩)]
    exact a3 j (by omega)
theorem getD_mem {l : List (Int × Int)} {i : Nat} (h : i < l.length) : l.getD i (0, 0) ∈ l := by rw [getD_at h]; exact List.getElem_mem h
theorem app_chg {old v : List Int} (h : bothV old v = true) : appE old (chgV old v) = 0 ∧ appTo old (chgV old v) (chgV old v).length = v := by
  obtain ⟨h1, h2, h3⟩ := bothV_open h
  obtain ⟨a1, a2, a3⟩ := isV_open h1
  obtain ⟨b1, b2, b3⟩ := isV_open h2
  have mem : ∀ x ∈ chgV old v, ∃ j : Nat, j < v.length ∧ v.getD j 0 ≠ old.getD j 0 ∧ x = ((j : Int), v.getD j 0) := by
    intro x hx
    simp only [chgV, chgTo, List.mem_map, List.mem_filter, List.mem_range, chgAt, bne_iff_ne] at hx
    obtain ⟨j, ⟨h4, h5⟩, rfl⟩ := hx
    exact ⟨j, h4, h5, rfl⟩
  have g2 : ∀ i, i < (chgV old v).length → oorAt old (chgV old v) i = false := by
    intro i hi
    obtain ⟨j, h4, h5, h6⟩ := mem _ (getD_mem hi)
    unfold oorAt
    rw [h6]
    have := b3 j h4
    simp only [oor, Bool.or_eq_false_iff, decide_eq_false_iff_not]
    omega
  have hs := chgTo_sorted old v v.length
  rw [List.pairwise_iff_getElem] at hs
  have g3 : ∀ i, i < (chgV old v).length → badC old (chgV old v) i = false := by
    intro i hi
    simp only [badC, Bool.or_eq_false_iff, Bool.and_eq_false_imp, decide_eq_true_eq, decide_eq_false_iff_not, beq_eq_false_iff_ne, ne_eq]
    refine ⟨fun h0 => ?_, ?_⟩
    · have := hs (i - 1) i (by show i - 1 < (chgV old v).length; omega) hi (by omega)
      rw [getD_at hi, getD_at (by omega)]
      simp only [chgV]
      omega
    · obtain ⟨j, h4, h5, h6⟩ := mem _ (getD_mem hi)
      rw [h6]
      simp only [Int.toNat_natCast]
      exact fun e => h5 e.symm
  refine ⟨appE_ok h1 g2 g3, ext_getD (by rw [appTo_len]; exact h3) (fun j hj => ?_)⟩
  rw [appTo_len] at hj
  by_cases hc : v.getD j 0 = old.getD j 0
  · rw [appTo_same (fun i hi e => ?_), hc]
    obtain ⟨k, h4, h5, h6⟩ := mem _ (getD_mem hi)
    rw [h6] at e
    simp only [Int.toNat_natCast] at e
    subst e
    exact h5 hc
  · have hm : ((j : Int), v.getD j 0) ∈ chgV old v := by
      simp only [chgV, chgTo, List.mem_map, List.mem_filter, List.mem_range, chgAt, bne_iff_ne]
      exact ⟨j, ⟨by omega, hc⟩, rfl⟩
    obtain ⟨i, hi, he⟩ := List.mem_iff_getElem.1 hm
    have hat := appTo_at g2 g3 hi (Nat.le_refl _)
    rw [getD_at hi, he] at hat
    simpa using hat
end Go.Proofs.Ytiiflkcebikecaa

/- Loops whose frame is written as it stands, but for what the loop assigns. No condition. -/
namespace Go.Proofs.Ytiiflkcebikecaa
set_option linter.unusedVariables false

/-- Slots of which nothing is said. -/
def anyM : List Bool → List AV → List AV
  | true :: m, _ :: l => .any :: anyM m l
  | false :: m, a :: l => a :: anyM m l
  | _, l => l
theorem anyM_t {m : List Bool} {a : AV} {l : List AV} : anyM (true :: m) (a :: l) = .any :: anyM m l := nr rfl
theorem anyM_f {m : List Bool} {a : AV} {l : List AV} : anyM (false :: m) (a :: l) = a :: anyM m l := nr rfl
theorem anyM_nil {l : List AV} : anyM [] l = l := by cases l <;> rfl
def ovr : List (Nat × AV) → List AV → List AV
  | [], e => e
  | (n, x) :: r, e => ovr r (upd e n x)
theorem ovr_nil {e : List AV} : ovr [] e = e := nr rfl
theorem ovr_cons {n : Nat} {x : AV} {r : List (Nat × AV)} {e : List AV} : ovr ((n, x) :: r) e = ovr r (upd e n x) := nr rfl

theorem loop_auto {P : Program} {c : ACode} {Q : AExit → List AV → List Row → List Row → Prop} {e : List AV} {b l : List Row} {ι : Type} (m : List Bool) (ov : ι → List (Nat × AV)) (L : ι → List Row) (Cd : ι → Prop) (μ : ι → Nat) (i0 : ι) (h0 : Cd i0)
    (hw : Weak e b l (ovr (ov i0) (anyM m e)) b (L i0))
    (step : ∀ i, Cd i → run (ACalls P) Weak c (ovr (ov i) (anyM m e)) b (L i) (seqQ (Round (fun i => ovr (ov i) (anyM m e)) (fun _ => b) L Cd μ i) Q)) : run (ACalls P) Weak (.loop c) e b l Q :=
  loop_rule (fun i => ovr (ov i) (anyM m e)) (fun _ => b) L Cd μ i0 h0 hw step
end Go.Proofs.Ytiiflkcebikecaa

/- Runs whose frame is kept as a function of the slot, with what was put since. No condition. -/
namespace Go.Proofs.Ytiiflkcebikecaa
set_option linter.unusedVariables false

/-- The frame of N slots that a function says. -/
def kOf (N : Nat) (f : Nat → AV) : List AV := (List.range N).map f
def kUp (f : Nat → AV) (n : Nat) (x : AV) : Nat → AV := fun m => if n = m then x else f m
theorem kUp_same {f : Nat → AV} {n : Nat} {x : AV} : kUp f n x n = x := by unfold kUp; rw [if_pos rfl]
theorem kUp_ne {f : Nat → AV} {n m : Nat} {x : AV} (h : n ≠ m) : kUp f n x m = f m := by unfold kUp; rw [if_neg h]
theorem kOf_len {N : Nat} {f : Nat → AV} : (kOf N f).length = N := by simp [kOf]
theorem kOf_get {N : Nat} {f : Nat → AV} {i : Nat} : (kOf N f)[i]? = if i < N then some (f i) else none := by
  unfold kOf
  rw [List.getElem?_map]
  split
  · rename_i h; rw [List.getElem?_range h]; rfl
  · rename_i h; rw [List.getElem?_eq_none (by simp; omega)]; rfl
theorem nth_kOf {N : Nat} {f : Nat → AV} {m : Nat} (h : m < N) : nth (kOf N f) m = f m := by
  rw [nth_eq, kOf_get, if_pos h]; rfl
theorem put_kOf {N : Nat} {f : Nat → AV} {n : Nat} {x : AV} : put (kOf N f) (some n) x = kOf N (kUp f n x) := by
  apply List.ext_getElem?
  intro i
  rw [put_some, upd_eq, kOf_get]
  by_cases hi : n = i
  · subst hi
    rw [List.getElem?_set, kOf_len]
    simp only [if_true]
    split
    · rw [kUp_same]
    · rfl
  · rw [List.getElem?_set_ne hi, kOf_get, kUp_ne hi]
theorem put_kNo {N : Nat} {f : Nat → AV} {x : AV} : put (kOf N f) none x = kOf N f := nr rfl

/-- Slots in these stretches are assigned. -/
def kIn : List (Nat × Nat) → Nat → Bool
  | [], _ => false
  | (a, c) :: r, n => (Nat.ble a n && Nat.ble n c) || kIn r n
def kAny (p : List (Nat × Nat)) (f : Nat → AV) : Nat → AV := fun m => if kIn p m = true then .any else f m
theorem kAny_up {p : List (Nat × Nat)} {f : Nat → AV} {n : Nat} {x : AV} (h : kIn p n = true) : kAny p (kUp f n x) = kAny p f := by
  funext m
  unfold kAny kUp
  by_cases hn : n = m
  · subst hn; rw [if_pos h, if_pos h]
  · rw [if_neg hn]
theorem kAny_idem {p : List (Nat × Nat)} {f : Nat → AV} : kAny p (kAny p f) = kAny p f := by
  funext m; unfold kAny; split <;> rfl
theorem kAny_out {p : List (Nat × Nat)} {f : Nat → AV} {n : Nat} (h : kIn p n = false) : kAny p f n = f n := by unfold kAny; rw [h]; simp

/-- The slots that are named hold what is said of them. -/
def KHas (f : Nat → AV) : List (Nat × AV) → Prop
  | [] => True
  | (n, x) :: r => f n = x ∧ KHas f r
def kOv : List (Nat × AV) → (Nat → AV) → Nat → AV
  | [], f => f
  | (n, x) :: r, f => kUp (kOv r f) n x
theorem kOv_nil {f : Nat → AV} : kOv [] f = f := nr rfl
theorem kOv_cons {n : Nat} {x : AV} {r : List (Nat × AV)} {f : Nat → AV} : kOv ((n, x) :: r) f = kUp (kOv r f) n x := nr rfl
def KLt (m : Nat) (f : Nat → AV) : Prop := ∀ i, AVlt m (f i)
theorem KLt.up {m n : Nat} {f : Nat → AV} {x : AV} (h : KLt m f) (hx : AVlt m x) : KLt m (kUp f n x) := by
  intro i; unfold kUp; split
  · exact hx
  · exact h i
theorem KLt.mono {m m' : Nat} {f : Nat → AV} (h : KLt m f) (hm : m ≤ m') : KLt m' f := fun i => (h i).mono hm
theorem KLt.any {m : Nat} {p : List (Nat × Nat)} {f : Nat → AV} (h : KLt m f) : KLt m (kAny p f) := by
  intro i; unfold kAny; split
  · exact .any
  · exact h i
def KOvLt (m : Nat) : List (Nat × AV) → Prop
  | [] => True
  | (_, x) :: r => AVlt m x ∧ KOvLt m r
theorem KLt.ov {m : Nat} {f : Nat → AV} (h : KLt m f) : ∀ {ov : List (Nat × AV)}, KOvLt m ov → KLt m (kOv ov f)
  | [], _ => h
  | (n, x) :: r, ho => by rw [kOv_cons]; exact KLt.up (KLt.ov h ho.2) ho.1
theorem KLt.env {m N : Nat} {f : Nat → AV} (h : KLt m f) : ∀ x ∈ kOf N f, AVlt m x := by
  intro x hx
  unfold kOf at hx
  obtain ⟨i, _, rfl⟩ := List.mem_map.1 hx
  exact h i

theorem kOv_get {f : Nat → AV} {i : Nat} : ∀ {ov : List (Nat × AV)}, kOv ov f i = f i ∨ (i, kOv ov f i) ∈ ov
  | [] => .inl rfl
  | (n, x) :: r => by
    rw [kOv_cons]
    by_cases hi : n = i
    · subst hi; rw [kUp_same]; exact .inr (by simp)
    · rw [kUp_ne hi]; exact (kOv_get (ov := r)).imp id (fun h => by simp [h])
theorem KHas.mem {f : Nat → AV} {n : Nat} {x : AV} : ∀ {ov : List (Nat × AV)}, KHas f ov → (n, x) ∈ ov → f n = x
  | [], _, h => by simp at h
  | (m, y) :: r, hh, h => by
    rcases List.mem_cons.1 h with h | h
    · cases h; exact hh.1
    · exact KHas.mem hh.2 h
theorem Weak.named {N : Nat} {f : Nat → AV} {b l : List Row} (p : List (Nat × Nat)) (ov : List (Nat × AV)) (h : KHas f ov) : Weak (kOf N f) b l (kOf N (kOv ov (kAny p f))) b l := by
  intro F L w a s he
  refine ⟨F, L, s, ⟨he.1, by rw [he.2.1, kOf_len, kOf_len], fun i x v hx hv => ?_⟩, Step.refl _ _ _ _ _, rfl⟩
  rw [kOf_get] at hx
  split at hx
  · rename_i hi
    cases hx
    rcases kOv_get (ov := ov) (f := kAny p f) (i := i) with hg | hg
    · rw [hg]
      unfold kAny
      split
      · exact .any v
      · exact he.2.2 i _ v (by rw [kOf_get, if_pos hi]) hv
    · rw [← h.mem hg]
      exact he.2.2 i _ v (by rw [kOf_get, if_pos hi]) hv
  · cases hx

/-- What a round must hand on. -/
def KRound {ι : Type} (N : Nat) (g : Nat → AV) (ov : ι → List (Nat × AV)) (B : List Row) (L : ι → List Row) (Cd : ι → Prop) (μ : ι → Nat) (i : ι) : List AV → List Row → List Row → Prop :=
  fun e b l => ∃ i', Cd i' ∧ μ i' < μ i ∧ Weak e b l (kOf N (kOv (ov i') g)) B (L i')

theorem loop_kept {P : Program} {c : ACode} {Q : AExit → List AV → List Row → List Row → Prop} {N : Nat} {f : Nat → AV} {b l : List Row} {ι : Type} (p : List (Nat × Nat)) (ov : ι → List (Nat × AV)) (k : Nat) (L : ι → List Row) (Cd : ι → Prop) (μ : ι → Nat) (i0 : ι) (h0 : Cd i0)
    (hlt : KLt (b.length + k) f) (hov : KHas f (ov i0)) (hw : ∀ e, Weak e b l e b (L i0))
    (step : ∀ g, KLt (b.length + k) g → kAny p g = g → (∀ n, kIn p n = false → g n = f n) → ∀ i, Cd i → run (ACalls P) Weak c (kOf N (kOv (ov i) g)) b (L i) (seqQ (KRound N g ov b L Cd μ i) Q)) : run (ACalls P) Weak (.loop c) (kOf N f) b l Q :=
  loop_rule (fun i => kOf N (kOv (ov i) (kAny p f))) (fun _ => b) L Cd μ i0 h0 ((Weak.named p _ hov).trans (hw _))
    (step (kAny p f) hlt.any kAny_idem (fun _ h => kAny_out h))

/-- The end of a round. -/
theorem Weak.kround {N : Nat} {p : List (Nat × Nat)} {ov : List (Nat × AV)} {f g : Nat → AV} {b l l1 junk : List Row} {k : Nat} (he : kAny p f = g) (h : KHas f ov) (hl : l = l1 ++ junk) (hE : KLt (b.length + k) g) (hk : k ≤ l1.length) (ho : KOvLt (b.length + l1.length) ov) (hb : RowsLt b.length b) (h1 : RowsLt (b.length + l1.length) l1) :
    Weak (kOf N f) b l (kOf N (kOv ov g)) b l1 := by
  subst he
  exact (Weak.named p ov h).trans (Weak.trim hl (((hE.mono (by omega)).ov ho).env) (hb.mono (by omega)) h1)

def KArgs (f : Nat → AV) : Nat → List AV → Prop
  | _, [] => True
  | i, a :: r => f i = a ∧ KArgs f (i + 1) r
theorem kArgs_of {args : List AV} : ∀ {r pre : List AV}, args = pre ++ r → KArgs (fun i => args.getD i (.tup [])) pre.length r
  | [], _, _ => trivial
  | a :: r, pre, h => by
    refine ⟨?_, ?_⟩
    · simp only [h, List.getD_eq_getElem?_getD]; rw [List.getElem?_append_right (Nat.le_refl _)]; simp
    · have := kArgs_of (args := args) (r := r) (pre := pre ++ [a]) (by rw [h]; simp)
      simpa using this
theorem calls_kept {P : Program} {f : Nat} {af : AFunc} (hf : cFunc P f = some af) {args : List AV} (ha : args.length = af.nargs) (hn : af.nargs ≤ af.ntmps) {b l : List Row} {Q : AV → List Row → List Row → Prop}
    (h : ∀ B g, B = b ++ l → RowsLt B.length B → KLt B.length g → KArgs g 0 args → run (ACalls P) Weak af.body (kOf af.ntmps g) B [] (Leaves af.res Q b.length)) : ACalls P f args b l Q := by
  refine calls_of hf ha (fun B hB hR hA => ?_)
  have := h B (fun i => args.getD i (.tup [])) hB hR ?_ (kArgs_of (pre := []) rfl)
  · have e : kOf af.ntmps (fun i => args.getD i (.tup [])) = args ++ List.replicate (af.ntmps - args.length) (.tup []) := by
      apply List.ext_getElem?
      intro i
      rw [kOf_get]
      by_cases hi : i < args.length
      · rw [if_pos (by omega), List.getElem?_append_left hi, List.getD_eq_getElem?_getD, List.getElem?_eq_getElem hi]; rfl
      · rw [List.getElem?_append_right (by omega), List.getElem?_replicate, List.getD_eq_getElem?_getD, List.getElem?_eq_none (by omega)]
        by_cases h2 : i < af.ntmps
        · rw [if_pos h2, if_pos (by omega)]; rfl
        · rw [if_neg h2, if_neg (by omega)]
    rw [← e]; exact this
  · intro i
    simp only [List.getD_eq_getElem?_getD]
    cases hq : args[i]? with
    | none => exact .tup _ (by simp)
    | some x => exact hA x (List.mem_of_getElem? hq)
theorem kAny_sub {p q : List (Nat × Nat)} {g f : Nat → AV} (hg : ∀ n, kIn q n = false → g n = f n) (hs : ∀ n, kIn q n = true → kIn p n = true) : kAny p g = kAny p f := by
  funext m
  unfold kAny
  cases hq : kIn q m with
  | true => rw [hs m hq]; simp
  | false => rw [hg m hq]
theorem kIn_one {p : List (Nat × Nat)} {a c n : Nat} : ∀ {p : List (Nat × Nat)}, p.any (fun y => Nat.ble y.1 a && Nat.ble c y.2) = true → a ≤ n → n ≤ c → kIn p n = true
  | [], h, _, _ => by simp at h
  | (x, y) :: r, h, h1, h2 => by
    simp only [List.any_cons, Bool.or_eq_true, Bool.and_eq_true, Nat.ble_eq] at h
    simp only [kIn, Bool.or_eq_true, Bool.and_eq_true, Nat.ble_eq]
    rcases h with h | h
    · exact .inl ⟨by omega, by omega⟩
    · exact .inr (kIn_one (p := p) h h1 h2)
theorem kIn_sub {p : List (Nat × Nat)} : ∀ {q : List (Nat × Nat)}, q.all (fun x => p.any (fun y => Nat.ble y.1 x.1 && Nat.ble x.2 y.2)) = true → ∀ n, kIn q n = true → kIn p n = true
  | [], _, n, hn => by simp [kIn] at hn
  | (a, c) :: r, h, n, hn => by
    simp only [List.all_cons, Bool.and_eq_true] at h
    simp only [kIn, Bool.or_eq_true, Bool.and_eq_true, Nat.ble_eq] at hn
    rcases hn with hn | hn
    · exact kIn_one (p := p) h.1 hn.1 hn.2
    · exact kIn_sub h.2 n hn
end Go.Proofs.Ytiiflkcebikecaa

/- Functions of chapter 15 (vectors), as runs. No condition but on lengths. -/
namespace Go.Proofs.Ytiiflkcebikecaa
set_option linter.unusedVariables false
set_option linter.unusedSimpArgs false
attribute [local go_sem ↓] run_skip run_region run_draw run_seq run_block run_exit run_ret run_cond atN_app seqC_normal seqC_exit seqC_ret seqQ_normal seqQ_exit seqQ_ret blkQ_normal blkQ_exit blkQ_ret runOps_nil runOps_cons runD_nil runD_cons grdO_true grdO_false grdD_true grdD_false ifC_true ifC_false opS_val opS_call opS_two opK_app dS_val dS_call dS_two dK_app kUp_same kUp_ne
attribute [local go_sem] rechks_nil rechks_cons rechk gcase_true gcase_false ex_val ex_val0 gd_none gd_some ev_t ev_c evs_nil evs_cons evo_some evo_none hget_at hget_first hsetB_at hsetB_first hsetL_at hsetL_first ofOpt_some aop aload astore aslice aappend aiaddr aiaddrA afaddr alen alenS acopy amm acall alookup amupdate alenM comma keyEq apick binV binVB binVS isSh intOp strOp boolOp shOp eqC eqF and2 cellsOf setFrom fillA fillS rd rdI elems mk bounds AV.cell List.all_cons List.all_nil Bool.and_true Bool.true_and Bool.and_self List.length_cons List.length_nil List.length_append Nat.reduceAdd Nat.reduceSub Nat.reduceMul Nat.zero_add Nat.add_zero List.cons_append List.nil_append List.append_assoc List.append_nil List.getElem?_cons_zero List.getElem?_cons_succ List.getElem?_nil List.set_cons_zero List.set_cons_succ List.drop_zero List.drop_succ_cons List.take_zero List.take_succ_cons List.take_nil List.drop_nil List.map_cons List.map_nil Option.map_some if_true if_false Bool.false_eq_true and_self true_and and_true Nat.reduceLeDiff Nat.reduceLT Nat.le_refl Nat.reduceEqDiff ite_true ite_false beq_self_eq_true beq_true beq_false Bool.not_true Bool.not_false Bool.true_beq Bool.false_beq map_vs vs_len vs_get vs_take vs_drop vs_snoc1 vs_snoc2 vs_snoc3 vs_snoc5 vs_set1 vs_set2 vs_rep wrap_id le_T lt_T le_F lt_F leI_T ltI_T leI_F ltI_F geI gtI get_T decide_true decide_false room List.getElem?_map List.length_map List.length_take Int.toNat_natCast Nat.min_def Nat.min_self nth_kOf put_kOf put_kNo kOv_cons kOv_nil KHas KArgs List.getElem_cons_zero List.getElem_cons_succ
def a_isc : AFunc := ⟨1, 9, [.tmp 2],
  (.seq (.region [⟨(some 2), .mv (.c (.v (.bool false))), none⟩])
  (.seq (.region [⟨(some 3), .mv (.t 0), none⟩, ⟨(some 4), .bin .lss (.t 3) (.c (.v (.int .i64 0))), none⟩, ⟨(some 5), .mv (.t 4), none⟩, ⟨(some 6), .mv (.t 0), some (5, false)⟩, ⟨(some 7), .bin .gtr (.t 6) (.c (.v (.int .i64 1125899906842624))), some (5, false)⟩, ⟨(some 8), .pick (.t 5) (.c (.v (.bool true))) (.t 7), none⟩, ⟨(some 2), .mv (.t 8), none⟩])
  .ret))⟩
theorem a_isc_ok : cFunc Try.prog 115 = some a_isc := by kernel_rfl
def a_Ind1 : AFunc := ⟨2, 19, [.tmp 4],
  (.seq (.region [⟨(some 4), .mv (.c (.v (.int .i64 0))), none⟩])
  (.seq (.seq (.region [⟨(some 6), .mv (.t 0), none⟩, ⟨(some 7), .len (.t 6), none⟩, ⟨(some 8), .mv (.c (.v (.int .i64 0))), none⟩])
  (.block 0 (.loop (.seq (.region [⟨(some 9), .bin .lss (.t 8) (.t 7), none⟩])
  (.seq (.cond (.t 9) .skip
  (.exit 0))
  (.seq (.block 1 (.seq (.region [⟨(some 10), .mv (.t 8), none⟩, ⟨(some 5), .mv (.t 10), none⟩])
  (.seq (.region [⟨(some 11), .mv (.t 1), none⟩, ⟨(some 12), .mv (.t 0), none⟩, ⟨(some 13), .mv (.t 5), none⟩, ⟨(some 14), .iaddr 1 (.t 12) (.t 13), none⟩, ⟨(some 15), .load none (.t 14), none⟩, ⟨(some 16), .call (.t 11) [(.t 15)], none⟩])
  (.cond (.t 16) (.seq (.region [⟨(some 17), .mv (.t 5), none⟩, ⟨(some 4), .mv (.t 17), none⟩])
  .ret)
  .skip))))
  (.region [⟨(some 18), .bin .add (.t 8) (.c (.v (.int .i64 1))), none⟩, ⟨(some 8), .mv (.t 18), none⟩])))))))
  (.seq (.region [⟨(some 4), .mv (.c (.v (.int .i64 (-1)))), none⟩])
  .ret)))⟩
theorem a_Ind1_ok : cFunc Try.prog 105 = some a_Ind1 := by kernel_rfl
def r_Ind10 : List (Nat × Nat) := [(4, 5), (8, 18)]
def a_Con1 : AFunc := ⟨2, 9, [.tmp 4],
  (.seq (.region [⟨(some 4), .mv (.c (.v (.bool false))), none⟩])
  (.seq (.region [⟨(some 5), .mv (.t 0), none⟩, ⟨(some 6), .mv (.t 1), none⟩, ⟨(some 7), .call (.c (.fn 105 [])) [(.t 5), (.t 6)], none⟩, ⟨(some 8), .bin .geq (.t 7) (.c (.v (.int .i64 0))), none⟩, ⟨(some 4), .mv (.t 8), none⟩])
  .ret))⟩
theorem a_Con1_ok : cFunc Try.prog 62 = some a_Con1 := by kernel_rfl
def a_is : AFunc := ⟨1, 16, [.tmp 2],
  (.seq (.region [⟨(some 2), .mv (.c (.v (.bool false))), none⟩])
  (.seq (.region [⟨(some 3), .mv (.t 0), none⟩, ⟨(some 4), .len (.t 3), none⟩, ⟨(some 5), .bin .geq (.t 4) (.c (.v (.int .i64 1))), none⟩, ⟨(some 6), .mv (.t 5), none⟩, ⟨(some 7), .mv (.t 0), some (6, true)⟩, ⟨(some 8), .len (.t 7), some (6, true)⟩, ⟨(some 9), .bin .leq (.t 8) (.c (.v (.int .i64 8))), some (6, true)⟩, ⟨(some 10), .pick (.t 6) (.t 9) (.c (.v (.bool false))), none⟩, ⟨(some 11), .mv (.t 10), none⟩, ⟨(some 12), .mv (.t 0), some (11, true)⟩, ⟨(some 13), .call (.c (.fn 62 [])) [(.t 12), (.c (.fn 115 []))], some (11, true)⟩, ⟨(some 14), .not (.t 13), some (11, true)⟩, ⟨(some 15), .pick (.t 11) (.t 14) (.c (.v (.bool false))), none⟩, ⟨(some 2), .mv (.t 15), none⟩])
  .ret))⟩
theorem a_is_ok : cFunc Try.prog 81 = some a_is := by kernel_rfl
def a_both : AFunc := ⟨2, 18, [.tmp 4],
  (.seq (.region [⟨(some 4), .mv (.c (.v (.bool false))), none⟩])
  (.seq (.region [⟨(some 5), .mv (.t 0), none⟩, ⟨(some 6), .call (.c (.fn 81 [])) [(.t 5)], none⟩, ⟨(some 7), .mv (.t 6), none⟩, ⟨(some 8), .mv (.t 1), some (7, true)⟩, ⟨(some 9), .call (.c (.fn 81 [])) [(.t 8)], some (7, true)⟩, ⟨(some 10), .pick (.t 7) (.t 9) (.c (.v (.bool false))), none⟩, ⟨(some 11), .mv (.t 10), none⟩, ⟨(some 12), .mv (.t 0), some (11, true)⟩, ⟨(some 13), .len (.t 12), some (11, true)⟩, ⟨(some 14), .mv (.t 1), some (11, true)⟩, ⟨(some 15), .len (.t 14), some (11, true)⟩, ⟨(some 16), .bin .eql (.t 13) (.t 15), some (11, true)⟩, ⟨(some 17), .pick (.t 11) (.t 16) (.c (.v (.bool false))), none⟩, ⟨(some 4), .mv (.t 17), none⟩])
  .ret))⟩
theorem a_both_ok : cFunc Try.prog 86 = some a_both := by kernel_rfl
def a_rValid : AFunc := ⟨1, 30, [.tmp 2],
  (.seq (.region [⟨(some 2), .mv (.c (.v (.bool false))), none⟩])
  (.seq (.seq (.region [⟨(some 4), .mv (.t 0), none⟩, ⟨(some 5), .len (.t 4), none⟩, ⟨(some 6), .bin .lss (.t 5) (.c (.v (.int .i64 1))), none⟩, ⟨(some 7), .mv (.t 6), none⟩, ⟨(some 8), .mv (.t 0), some (7, false)⟩, ⟨(some 9), .len (.t 8), some (7, false)⟩, ⟨(some 10), .bin .gtr (.t 9) (.c (.v (.int .i64 8))), some (7, false)⟩, ⟨(some 11), .pick (.t 7) (.c (.v (.bool true))) (.t 10), none⟩])
  (.cond (.t 11) (.seq (.region [⟨(some 2), .mv (.c (.v (.bool false))), none⟩])
  .ret)
  .skip))
  (.seq (.seq (.region [⟨(some 3), .mv (.c (.v (.int .i64 0))), none⟩])
  (.block 0 (.loop (.seq (.seq (.region [⟨(some 12), .mv (.t 3), none⟩, ⟨(some 13), .mv (.t 0), none⟩, ⟨(some 14), .len (.t 13), none⟩, ⟨(some 15), .bin .lss (.t 12) (.t 14), none⟩])
  (.cond (.t 15) .skip
  (.exit 0)))
  (.seq (.block 1 (.seq (.region [⟨(some 18), .mv (.t 0), none⟩, ⟨(some 19), .mv (.t 3), none⟩, ⟨(some 20), .iaddr 1 (.t 18) (.t 19), none⟩, ⟨(some 21), .load none (.t 20), none⟩, ⟨(some 22), .bin .lss (.t 21) (.c (.v (.int .i64 0))), none⟩, ⟨(some 23), .mv (.t 22), none⟩, ⟨(some 24), .mv (.t 0), some (23, false)⟩, ⟨(some 25), .mv (.t 3), some (23, false)⟩, ⟨(some 26), .iaddr 1 (.t 24) (.t 25), some (23, false)⟩, ⟨(some 27), .load none (.t 26), some (23, false)⟩, ⟨(some 28), .bin .gtr (.t 27) (.c (.v (.int .i64 1125899906842624))), some (23, false)⟩, ⟨(some 29), .pick (.t 23) (.c (.v (.bool true))) (.t 28), none⟩])
  (.cond (.t 29) (.seq (.region [⟨(some 2), .mv (.c (.v (.bool false))), none⟩])
  .ret)
  .skip)))
  (.region [⟨(some 16), .mv (.t 3), none⟩, ⟨(some 17), .bin .add (.t 16) (.c (.v (.int .i64 1))), none⟩, ⟨(some 3), .mv (.t 17), none⟩]))))))
  (.seq (.region [⟨(some 2), .mv (.c (.v (.bool true))), none⟩])
  .ret))))⟩
theorem a_rValid_ok : cFunc Try.prog 85 = some a_rValid := by kernel_rfl
def r_rValid0 : List (Nat × Nat) := [(2, 3), (12, 29)]
def a_rPair : AFunc := ⟨2, 18, [.tmp 4],
  (.seq (.region [⟨(some 4), .mv (.c (.v (.bool false))), none⟩])
  (.seq (.region [⟨(some 5), .mv (.t 0), none⟩, ⟨(some 6), .call (.c (.fn 85 [])) [(.t 5)], none⟩, ⟨(some 7), .mv (.t 6), none⟩, ⟨(some 8), .mv (.t 1), some (7, true)⟩, ⟨(some 9), .call (.c (.fn 85 [])) [(.t 8)], some (7, true)⟩, ⟨(some 10), .pick (.t 7) (.t 9) (.c (.v (.bool false))), none⟩, ⟨(some 11), .mv (.t 10), none⟩, ⟨(some 12), .mv (.t 0), some (11, true)⟩, ⟨(some 13), .len (.t 12), some (11, true)⟩, ⟨(some 14), .mv (.t 1), some (11, true)⟩, ⟨(some 15), .len (.t 14), some (11, true)⟩, ⟨(some 16), .bin .eql (.t 13) (.t 15), some (11, true)⟩, ⟨(some 17), .pick (.t 11) (.t 16) (.c (.v (.bool false))), none⟩, ⟨(some 4), .mv (.t 17), none⟩])
  .ret))⟩
theorem a_rPair_ok : cFunc Try.prog 29 = some a_rPair := by kernel_rfl
def a_Eq1 : AFunc := ⟨2, 26, [.tmp 4],
  (.seq (.region [⟨(some 4), .mv (.c (.v (.bool false))), none⟩])
  (.seq (.seq (.region [⟨(some 6), .mv (.t 0), none⟩, ⟨(some 7), .len (.t 6), none⟩, ⟨(some 8), .mv (.t 1), none⟩, ⟨(some 9), .len (.t 8), none⟩, ⟨(some 10), .bin .neq (.t 7) (.t 9), none⟩])
  (.cond (.t 10) (.seq (.region [⟨(some 4), .mv (.c (.v (.bool false))), none⟩])
  .ret)
  .skip))
  (.seq (.seq (.region [⟨(some 11), .mv (.t 0), none⟩, ⟨(some 12), .len (.t 11), none⟩, ⟨(some 13), .mv (.c (.v (.int .i64 0))), none⟩])
  (.block 0 (.loop (.seq (.region [⟨(some 14), .bin .lss (.t 13) (.t 12), none⟩])
  (.seq (.cond (.t 14) .skip
  (.exit 0))
  (.seq (.block 1 (.seq (.region [⟨(some 15), .mv (.t 13), none⟩, ⟨(some 5), .mv (.t 15), none⟩])
  (.seq (.draw [⟨0, ⟨(some 16), .mv (.t 0), none⟩, []⟩, ⟨1, ⟨(some 17), .mv (.t 5), none⟩, []⟩, ⟨2, ⟨(some 18), .iaddr 1 (.t 16) (.t 17), none⟩, []⟩, ⟨3, ⟨(some 19), .load none (.t 18), none⟩, []⟩, ⟨4, ⟨(some 20), .mv (.t 1), none⟩, []⟩, ⟨5, ⟨(some 21), .mv (.t 5), none⟩, []⟩, ⟨6, ⟨(some 22), .iaddr 1 (.t 20) (.t 21), none⟩, []⟩, ⟨7, ⟨(some 23), .load none (.t 22), none⟩, []⟩, ⟨8, ⟨(some 24), .bin .neq (.t 19) (.t 23), none⟩, []⟩])
  (.cond (.t 24) (.seq (.region [⟨(some 4), .mv (.c (.v (.bool false))), none⟩])
  .ret)
  .skip))))
  (.region [⟨(some 25), .bin .add (.t 13) (.c (.v (.int .i64 1))), none⟩, ⟨(some 13), .mv (.t 25), none⟩])))))))
  (.seq (.region [⟨(some 4), .mv (.c (.v (.bool true))), none⟩])
  .ret))))⟩
theorem a_Eq1_ok : cFunc Try.prog 26 = some a_Eq1 := by kernel_rfl
def r_Eq10 : List (Nat × Nat) := [(4, 5), (13, 25)]
def a_Clo1 : AFunc := ⟨1, 8, [.tmp 2],
  (.seq (.region [⟨(some 2), .mv (.c (.v .zsl)), none⟩])
  (.seq (.seq (.region [⟨(some 3), .mv (.t 0), none⟩, ⟨(some 4), .isnil false (.t 3), none⟩])
  (.cond (.t 4) (.seq (.region [⟨(some 2), .mv (.c (.v .zsl)), none⟩])
  .ret)
  .skip))
  (.seq (.region [⟨(some 5), .bslice 1 [(.v (.int .i64 0))] 0 [], none⟩, ⟨(some 6), .mv (.t 0), none⟩, ⟨(some 7), .append 1 8 (.t 5) (.t 6), none⟩, ⟨(some 2), .mv (.t 7), none⟩])
  .ret)))⟩
theorem a_Clo1_ok : cFunc Try.prog 84 = some a_Clo1 := by kernel_rfl
def a_atMost : AFunc := ⟨2, 21, [.tmp 4],
  (.seq (.region [⟨(some 4), .mv (.c (.v (.bool false))), none⟩])
  (.seq (.seq (.region [⟨(some 7), .mv (.t 0), none⟩, ⟨(some 8), .len (.t 7), none⟩, ⟨(some 9), .mv (.c (.v (.int .i64 0))), none⟩])
  (.block 0 (.loop (.seq (.region [⟨(some 10), .bin .lss (.t 9) (.t 8), none⟩])
  (.seq (.cond (.t 10) .skip
  (.exit 0))
  (.seq (.block 1 (.seq (.region [⟨(some 11), .mv (.t 9), none⟩, ⟨(some 12), .iaddr 1 (.t 7) (.t 9), none⟩, ⟨(some 13), .load none (.t 12), none⟩, ⟨(some 5), .mv (.t 11), none⟩, ⟨(some 6), .mv (.t 13), none⟩])
  (.seq (.region [⟨(some 14), .mv (.t 6), none⟩, ⟨(some 15), .mv (.t 1), none⟩, ⟨(some 16), .mv (.t 5), none⟩, ⟨(some 17), .iaddr 1 (.t 15) (.t 16), none⟩, ⟨(some 18), .load none (.t 17), none⟩, ⟨(some 19), .bin .gtr (.t 14) (.t 18), none⟩])
  (.cond (.t 19) (.seq (.region [⟨(some 4), .mv (.c (.v (.bool false))), none⟩])
  .ret)
  .skip))))
  (.region [⟨(some 20), .bin .add (.t 9) (.c (.v (.int .i64 1))), none⟩, ⟨(some 9), .mv (.t 20), none⟩])))))))
  (.seq (.region [⟨(some 4), .mv (.c (.v (.bool true))), none⟩])
  .ret)))⟩
theorem a_atMost_ok : cFunc Try.prog 87 = some a_atMost := by kernel_rfl
def r_atMost0 : List (Nat × Nat) := [(4, 6), (9, 20)]
def a_Compare : AFunc := ⟨2, 27, [.tmp 4, .tmp 5],
  (.seq (.region [⟨(some 4), .mv (.c (.v (.int .i64 0))), none⟩, ⟨(some 5), .mv (.c (.v (.int .i64 0))), none⟩])
  (.seq (.seq (.region [⟨(some 8), .mv (.t 0), none⟩, ⟨(some 9), .mv (.t 1), none⟩, ⟨(some 10), .call (.c (.fn 86 [])) [(.t 8), (.t 9)], none⟩, ⟨(some 11), .not (.t 10), none⟩])
  (.cond (.t 11) (.seq (.region [⟨(some 4), .mv (.c (.v (.int .i64 0))), none⟩, ⟨(some 5), .mv (.c (.v (.int .i64 1))), none⟩])
  .ret)
  .skip))
  (.seq (.region [⟨(some 12), .mv (.t 0), none⟩, ⟨(some 13), .mv (.t 1), none⟩, ⟨(some 14), .call (.c (.fn 87 [])) [(.t 12), (.t 13)], none⟩, ⟨(some 15), .mv (.t 1), none⟩, ⟨(some 16), .mv (.t 0), none⟩, ⟨(some 17), .call (.c (.fn 87 [])) [(.t 15), (.t 16)], none⟩, ⟨(some 6), .mv (.t 14), none⟩, ⟨(some 7), .mv (.t 17), none⟩])
  (.seq (.block 0 (.seq (.region [⟨(some 19), .mv (.t 6), none⟩, ⟨(some 20), .mv (.t 19), none⟩, ⟨(some 21), .mv (.t 7), some (20, true)⟩, ⟨(some 22), .pick (.t 20) (.t 21) (.c (.v (.bool false))), none⟩, ⟨(some 18), .mv (.t 22), none⟩])
  (.cond (.t 18) (.seq (.region [⟨(some 4), .mv (.c (.v (.int .i64 0))), none⟩, ⟨(some 5), .mv (.c (.v (.int .i64 0))), none⟩])
  .ret)
  (.seq (.region [⟨(some 24), .mv (.t 6), none⟩, ⟨(some 23), .mv (.t 24), none⟩])
  (.cond (.t 23) (.seq (.region [⟨(some 4), .mv (.c (.v (.int .i64 (-1)))), none⟩, ⟨(some 5), .mv (.c (.v (.int .i64 0))), none⟩])
  .ret)
  (.seq (.region [⟨(some 26), .mv (.t 7), none⟩, ⟨(some 25), .mv (.t 26), none⟩])
  (.cond (.t 25) (.seq (.region [⟨(some 4), .mv (.c (.v (.int .i64 1))), none⟩, ⟨(some 5), .mv (.c (.v (.int .i64 0))), none⟩])
  .ret)
  .skip)))))))
  (.seq (.region [⟨(some 4), .mv (.c (.v (.int .i64 2))), none⟩, ⟨(some 5), .mv (.c (.v (.int .i64 0))), none⟩])
  .ret)))))⟩
theorem a_Compare_ok : cFunc Try.prog 32 = some a_Compare := by kernel_rfl
def a_joined : AFunc := ⟨2, 28, [.tmp 4],
  (.seq (.region [⟨(some 4), .mv (.c (.v .zsl)), none⟩])
  (.seq (.region [⟨(some 8), .mv (.t 0), none⟩, ⟨(some 9), .call (.c (.fn 84 [])) [(.t 8)], none⟩, ⟨(some 5), .mv (.t 9), none⟩])
  (.seq (.seq (.region [⟨(some 10), .mv (.t 1), none⟩, ⟨(some 11), .len (.t 10), none⟩, ⟨(some 12), .mv (.c (.v (.int .i64 0))), none⟩])
  (.block 0 (.loop (.seq (.region [⟨(some 13), .bin .lss (.t 12) (.t 11), none⟩])
  (.seq (.cond (.t 13) .skip
  (.exit 0))
  (.seq (.block 1 (.seq (.region [⟨(some 14), .mv (.t 12), none⟩, ⟨(some 15), .iaddr 1 (.t 10) (.t 12), none⟩, ⟨(some 16), .load none (.t 15), none⟩, ⟨(some 6), .mv (.t 14), none⟩, ⟨(some 7), .mv (.t 16), none⟩])
  (.region [⟨(some 17), .mv (.t 5), none⟩, ⟨(some 18), .mv (.t 6), none⟩, ⟨(some 19), .mv (.t 5), none⟩, ⟨(some 20), .mv (.t 6), none⟩, ⟨(some 21), .iaddr 1 (.t 19) (.t 20), none⟩, ⟨(some 22), .load none (.t 21), none⟩, ⟨(some 23), .mv (.t 7), none⟩, ⟨(some 24), .mm true (.t 22) (.t 23), none⟩, ⟨(some 25), .iaddr 1 (.t 17) (.t 18), none⟩, ⟨none, .store 1 (.t 25) (.t 24), none⟩])))
  (.region [⟨(some 26), .bin .add (.t 12) (.c (.v (.int .i64 1))), none⟩, ⟨(some 12), .mv (.t 26), none⟩])))))))
  (.seq (.region [⟨(some 27), .mv (.t 5), none⟩, ⟨(some 4), .mv (.t 27), none⟩])
  .ret))))⟩
theorem a_joined_ok : cFunc Try.prog 88 = some a_joined := by kernel_rfl
def r_joined0 : List (Nat × Nat) := [(6, 7), (12, 26)]
def a_Join : AFunc := ⟨2, 13, [.tmp 4, .tmp 5],
  (.seq (.region [⟨(some 4), .mv (.c (.v .zsl)), none⟩, ⟨(some 5), .mv (.c (.v (.int .i64 0))), none⟩])
  (.seq (.seq (.region [⟨(some 6), .mv (.t 0), none⟩, ⟨(some 7), .mv (.t 1), none⟩, ⟨(some 8), .call (.c (.fn 86 [])) [(.t 6), (.t 7)], none⟩, ⟨(some 9), .not (.t 8), none⟩])
  (.cond (.t 9) (.seq (.region [⟨(some 4), .mv (.c (.v .zsl)), none⟩, ⟨(some 5), .mv (.c (.v (.int .i64 1))), none⟩])
  .ret)
  .skip))
  (.seq (.region [⟨(some 10), .mv (.t 0), none⟩, ⟨(some 11), .mv (.t 1), none⟩, ⟨(some 12), .call (.c (.fn 88 [])) [(.t 10), (.t 11)], none⟩, ⟨(some 4), .mv (.t 12), none⟩, ⟨(some 5), .mv (.c (.v (.int .i64 0))), none⟩])
  .ret)))⟩
theorem a_Join_ok : cFunc Try.prog 33 = some a_Join := by kernel_rfl
def a_Tick : AFunc := ⟨2, 35, [.tmp 4, .tmp 5],
  (.seq (.region [⟨(some 4), .mv (.c (.v .zsl)), none⟩, ⟨(some 5), .mv (.c (.v (.int .i64 0))), none⟩])
  (.seq (.block 0 (.seq (.region [⟨(some 8), .mv (.t 0), none⟩, ⟨(some 9), .call (.c (.fn 81 [])) [(.t 8)], none⟩, ⟨(some 10), .not (.t 9), none⟩, ⟨(some 7), .mv (.t 10), none⟩])
  (.cond (.t 7) (.seq (.region [⟨(some 4), .mv (.c (.v .zsl)), none⟩, ⟨(some 5), .mv (.c (.v (.int .i64 1))), none⟩])
  .ret)
  (.seq (.region [⟨(some 12), .mv (.t 1), none⟩, ⟨(some 13), .bin .lss (.t 12) (.c (.v (.int .i64 0))), none⟩, ⟨(some 14), .mv (.t 13), none⟩, ⟨(some 15), .mv (.t 1), some (14, false)⟩, ⟨(some 16), .mv (.t 0), some (14, false)⟩, ⟨(some 17), .len (.t 16), some (14, false)⟩, ⟨(some 18), .bin .geq (.t 15) (.t 17), some (14, false)⟩, ⟨(some 19), .pick (.t 14) (.c (.v (.bool true))) (.t 18), none⟩, ⟨(some 11), .mv (.t 19), none⟩])
  (.cond (.t 11) (.seq (.region [⟨(some 4), .mv (.c (.v .zsl)), none⟩, ⟨(some 5), .mv (.c (.v (.int .i64 2))), none⟩])
  .ret)
  (.seq (.region [⟨(some 21), .mv (.t 0), none⟩, ⟨(some 22), .mv (.t 1), none⟩, ⟨(some 23), .iaddr 1 (.t 21) (.t 22), none⟩, ⟨(some 24), .load none (.t 23), none⟩, ⟨(some 25), .bin .eql (.t 24) (.c (.v (.int .i64 1125899906842624))), none⟩, ⟨(some 20), .mv (.t 25), none⟩])
  (.cond (.t 20) (.seq (.region [⟨(some 4), .mv (.c (.v .zsl)), none⟩, ⟨(some 5), .mv (.c (.v (.int .i64 9))), none⟩])
  .ret)
  .skip)))))))
  (.seq (.region [⟨(some 26), .mv (.t 0), none⟩, ⟨(some 27), .call (.c (.fn 84 [])) [(.t 26)], none⟩, ⟨(some 6), .mv (.t 27), none⟩])
  (.seq (.region [⟨(some 28), .mv (.t 6), none⟩, ⟨(some 29), .mv (.t 1), none⟩, ⟨(some 30), .iaddr 1 (.t 28) (.t 29), none⟩, ⟨(some 31), .load none (.t 30), none⟩, ⟨(some 32), .bin .add (.t 31) (.c (.v (.int .i64 1))), none⟩, ⟨(some 33), .iaddr 1 (.t 28) (.t 29), none⟩, ⟨none, .store 1 (.t 33) (.t 32), none⟩])
  (.seq (.region [⟨(some 34), .mv (.t 6), none⟩, ⟨(some 4), .mv (.t 34), none⟩, ⟨(some 5), .mv (.c (.v (.int .i64 0))), none⟩])
  .ret)))))⟩
theorem a_Tick_ok : cFunc Try.prog 34 = some a_Tick := by kernel_rfl

/-- A slice of numbers. -/
def iv (v : List Int) : AV := .v (.isl 1 (v.map eI))

theorem isc_spec (n : Int) (b l : List Row) : ACalls Try.prog 115 [.v (.int .i64 n)] b l (fun r b' l' => r = .v (.bool (vBad n)) ∧ b' = b ∧ l' = l) := by
  refine calls_kept a_isc_ok rfl (by decide) ?_
  intro B g hB hR hE hA
  simp only [KArgs] at hA
  by_cases h : n < 0
  · have hd := decide_eq_true h
    simp (disch := (first | decide | omega)) only [a_isc, hA, hd, go_sem]
    exact leave_pure (xs := [.v (.bool true)]) (.inr rfl) (by simp (disch := (first | decide | omega)) only [resVs, resV, go_sem, hA, hd]) (by simp only [one, AVlt_v, AVlt_any, AVlt_sl, AVlt_ptr, AVlt_mp, AVlt_agg, AVlt_tup, AVlt_fn, RowsLt_nil, RowsLt_live, RowsLt_dead, List.mem_cons, List.not_mem_nil, List.forall_mem_cons, List.forall_mem_nil, or_false, false_or, forall_eq_or_imp, forall_eq, vs_lt, Nat.add_lt_add_iff_left, Nat.reduceLT, true_and, and_true, and_self, List.length_cons, List.length_nil, Nat.reduceAdd, Nat.zero_add, implies_true, false_imp_iff, lt_T, List.mem_map]) hR hB ⟨by simp [vBad, h, one], rfl, rfl⟩
  · have hd := decide_eq_false h
    simp (disch := (first | decide | omega)) only [a_isc, hA, hd, go_sem]
    exact leave_pure (xs := [.v (.bool (decide ((n : Int) > 1125899906842624)))]) (.inr rfl) (by simp (disch := (first | decide | omega)) only [resVs, resV, go_sem, hA, hd]) (by simp only [one, AVlt_v, AVlt_any, AVlt_sl, AVlt_ptr, AVlt_mp, AVlt_agg, AVlt_tup, AVlt_fn, RowsLt_nil, RowsLt_live, RowsLt_dead, List.mem_cons, List.not_mem_nil, List.forall_mem_cons, List.forall_mem_nil, or_false, false_or, forall_eq_or_imp, forall_eq, vs_lt, Nat.add_lt_add_iff_left, Nat.reduceLT, true_and, and_true, and_self, List.length_cons, List.length_nil, Nat.reduceAdd, Nat.zero_add, implies_true, false_imp_iff, lt_T, List.mem_map]) hR hB ⟨by simp [vBad, h, one], rfl, rfl⟩

def firstP (p : Nat → Bool) (n : Nat) : Int := match (List.range n).find? p with
  | some i => i
  | none => -1
theorem firstP_at {p : Nat → Bool} {n i : Nat} (h : i < n) (h0 : ∀ j, j < i → p j = false) (hi : p i = true) : firstP p n = i := by
  have hf : (List.range n).find? p = some i := by
    rw [show n = i + (1 + (n - i - 1)) by omega, List.range_add, List.find?_append]
    have : (List.range i).find? p = none := by
      rw [List.find?_eq_none]; intro q hq; simp [h0 q (List.mem_range.1 hq)]
    rw [this, Nat.add_comm 1, List.range_succ_eq_map]
    simp [hi]
  unfold firstP; rw [hf]
theorem firstP_none {p : Nat → Bool} {n : Nat} (h0 : ∀ j, j < n → p j = false) : firstP p n = -1 := by
  have : (List.range n).find? p = none := by
    rw [List.find?_eq_none]; intro q hq; simp [h0 q (List.mem_range.1 hq)]
  unfold firstP; rw [this]
theorem firstP_ge {p : Nat → Bool} {n : Nat} : decide (0 ≤ firstP p n) = (List.range n).any p := by
  unfold firstP
  cases h : (List.range n).find? p with
  | none =>
    have := List.find?_eq_none.1 h
    have hn : (List.range n).any p = false := by rw [List.any_eq_false]; exact this
    rw [hn]; rfl
  | some i =>
    have h1 := List.find?_some h
    have h2 := List.mem_of_find?_eq_some h
    have hn : (List.range n).any p = true := List.any_eq_true.2 ⟨i, h2, h1⟩
    rw [hn]; simp

theorem index1_spec (v : List Int) (k : Nat) (caps : List AV) (p : Nat → Bool) (hn : v.length ≤ 1000000) (b l : List Row)
    (hp : ∀ (i : Nat) (h : i < v.length), ACalls Try.prog k (.v (.int .i64 v[i]) :: caps) (b ++ l) [] (fun r b' l' => r = .v (.bool (p i)) ∧ b' = b ++ l ∧ l' = [])) :
    ACalls Try.prog 105 [.v (.isl 1 (v.map eI)), .fn k caps] b l (fun r b' l' => r = .v (.int .i64 (firstP p v.length)) ∧ b' = b ∧ l' = l) := by
  refine calls_kept a_Ind1_ok rfl (by decide) ?_
  intro B g hB hR hE hA
  simp only [KArgs] at hA
  simp (disch := decide) only [a_Ind1, hA, List.length_map, go_sem]
  refine loop_kept (ι := Nat) r_Ind10 (fun i => [(8, .v (.int .i64 i))]) 0 (fun _ => [])
    (fun i => i ≤ v.length ∧ ∀ j, j < i → p j = false) (fun i => v.length - i) 0 ⟨Nat.zero_le _, fun j hj => by omega⟩ (by (repeat (first | exact hE.mono (by omega) | refine KLt.up ?_ (by simp (disch := omega) only [AVlt_v, AVlt_any, AVlt_sl, AVlt_ptr, AVlt_mp, AVlt_agg, AVlt_tup, AVlt_fn, RowsLt_nil, RowsLt_live, RowsLt_dead, List.mem_cons, List.not_mem_nil, List.forall_mem_cons, List.forall_mem_nil, or_false, false_or, forall_eq_or_imp, forall_eq, vs_lt, Nat.add_lt_add_iff_left, Nat.reduceLT, true_and, and_true, and_self, List.length_cons, List.length_nil, Nat.reduceAdd, Nat.zero_add, implies_true, false_imp_iff, lt_T, List.mem_map])))) (by ((try simp (disch := decide) only [hA, go_sem]) <;> (repeat' (first | exact trivial | refine And.intro ?_ ?_)) <;> (first | rfl | (congr 2; omega)))) (fun e => Weak.refl _ _ _) ?_
  rintro g1 hE1 hEE1 hg1 i ⟨hi, h0⟩
  by_cases hlt : i < v.length
  · simp (disch := (first | decide | omega)) only [hA, hg1, eI, go_sem]
    refine ACalls_mono _ _ _ _ _ _ (hB ▸ hp i hlt) ?_
    rintro r b' l' ⟨rfl, rfl, rfl⟩
    cases hpi : p i
    · simp (disch := (first | decide | omega)) only [hA, hg1, hpi, go_sem]
      refine ⟨i + 1, ⟨hlt, fun j hj => ?_⟩, by simp only; omega, ?_⟩
      · rcases Nat.lt_or_ge j i with hji | hji
        · exact h0 j hji
        · have : j = i := by omega
          rw [this]; exact hpi
      exact Weak.kround (p := r_Ind10) (k := 0) (by ((repeat refine (kAny_up rfl).trans ?_); exact hEE1)) (by ((try simp (disch := decide) only [hA, go_sem]) <;> (repeat' (first | exact trivial | refine And.intro ?_ ?_)) <;> (first | rfl | (congr 2; omega)))) rfl hE1 (by simp) (by simp (disch := omega) only [KOvLt, AVlt_v, AVlt_any, AVlt_sl, AVlt_ptr, AVlt_mp, AVlt_agg, AVlt_tup, AVlt_fn, RowsLt_nil, RowsLt_live, RowsLt_dead, List.mem_cons, List.not_mem_nil, List.forall_mem_cons, List.forall_mem_nil, or_false, false_or, forall_eq_or_imp, forall_eq, vs_lt, Nat.add_lt_add_iff_left, Nat.reduceLT, true_and, and_true, and_self, List.length_cons, List.length_nil, Nat.reduceAdd, Nat.zero_add, implies_true, false_imp_iff, lt_T, List.mem_map]) hR (by simp (disch := omega) only [AVlt_v, AVlt_any, AVlt_sl, AVlt_ptr, AVlt_mp, AVlt_agg, AVlt_tup, AVlt_fn, RowsLt_nil, RowsLt_live, RowsLt_dead, List.mem_cons, List.not_mem_nil, List.forall_mem_cons, List.forall_mem_nil, or_false, false_or, forall_eq_or_imp, forall_eq, vs_lt, Nat.add_lt_add_iff_left, Nat.reduceLT, true_and, and_true, and_self, List.length_cons, List.length_nil, Nat.reduceAdd, Nat.zero_add, implies_true, false_imp_iff, lt_T, List.mem_map])
    · simp (disch := (first | decide | omega)) only [hA, hg1, hpi, go_sem]
      exact leave_pure (xs := [.v (.int .i64 i)]) (.inr rfl) (by simp (disch := (first | decide | omega)) only [resVs, resV, go_sem, hA, hg1]) (by simp only [one, AVlt_v, AVlt_any, AVlt_sl, AVlt_ptr, AVlt_mp, AVlt_agg, AVlt_tup, AVlt_fn, RowsLt_nil, RowsLt_live, RowsLt_dead, List.mem_cons, List.not_mem_nil, List.forall_mem_cons, List.forall_mem_nil, or_false, false_or, forall_eq_or_imp, forall_eq, vs_lt, Nat.add_lt_add_iff_left, Nat.reduceLT, true_and, and_true, and_self, List.length_cons, List.length_nil, Nat.reduceAdd, Nat.zero_add, implies_true, false_imp_iff, lt_T, List.mem_map]) hR hB ⟨by rw [firstP_at hlt h0 hpi]; rfl, rfl, rfl⟩
  · simp (disch := (first | decide | omega)) only [hA, hg1, go_sem]
    obtain rfl : i = v.length := by omega
    exact leave_pure (xs := [.v (.int .i64 (-1))]) (.inr rfl) (by simp (disch := (first | decide | omega)) only [resVs, resV, go_sem, hA, hg1]) (by simp only [one, AVlt_v, AVlt_any, AVlt_sl, AVlt_ptr, AVlt_mp, AVlt_agg, AVlt_tup, AVlt_fn, RowsLt_nil, RowsLt_live, RowsLt_dead, List.mem_cons, List.not_mem_nil, List.forall_mem_cons, List.forall_mem_nil, or_false, false_or, forall_eq_or_imp, forall_eq, vs_lt, Nat.add_lt_add_iff_left, Nat.reduceLT, true_and, and_true, and_self, List.length_cons, List.length_nil, Nat.reduceAdd, Nat.zero_add, implies_true, false_imp_iff, lt_T, List.mem_map]) hR hB ⟨by rw [firstP_none h0]; rfl, rfl, rfl⟩
theorem contains1_spec (v : List Int) (k : Nat) (caps : List AV) (p : Nat → Bool) (hn : v.length ≤ 1000000) (b l : List Row)
    (hp : ∀ (i : Nat) (h : i < v.length), ACalls Try.prog k (.v (.int .i64 v[i]) :: caps) (b ++ l) [] (fun r b' l' => r = .v (.bool (p i)) ∧ b' = b ++ l ∧ l' = [])) :
    ACalls Try.prog 62 [.v (.isl 1 (v.map eI)), .fn k caps] b l (fun r b' l' => r = .v (.bool ((List.range v.length).any p)) ∧ b' = b ∧ l' = l) := by
  refine calls_kept a_Con1_ok rfl (by decide) ?_
  intro B g hB hR hE hA
  simp only [KArgs] at hA
  simp (disch := decide) only [a_Con1, hA, go_sem]
  refine ACalls_mono _ _ _ _ _ _ (index1_spec v k caps p hn B [] (by rw [List.append_nil, hB]; exact hp)) ?_
  rintro r b' l' ⟨rfl, rfl, rfl⟩
  simp (disch := decide) only [hA, go_sem]
  exact leave_pure (xs := [.v (.bool (decide (0 ≤ firstP p v.length)))]) (.inr rfl) (by simp (disch := (first | decide | omega)) only [resVs, resV, go_sem, hA]) (by simp only [one, AVlt_v, AVlt_any, AVlt_sl, AVlt_ptr, AVlt_mp, AVlt_agg, AVlt_tup, AVlt_fn, RowsLt_nil, RowsLt_live, RowsLt_dead, List.mem_cons, List.not_mem_nil, List.forall_mem_cons, List.forall_mem_nil, or_false, false_or, forall_eq_or_imp, forall_eq, vs_lt, Nat.add_lt_add_iff_left, Nat.reduceLT, true_and, and_true, and_self, List.length_cons, List.length_nil, Nat.reduceAdd, Nat.zero_add, implies_true, false_imp_iff, lt_T, List.mem_map]) hR hB ⟨by rw [firstP_ge]; rfl, rfl, rfl⟩
theorem is_spec (v : List Int) (b l : List Row) : ACalls Try.prog 81 [.v (.isl 1 (v.map eI))] b l (fun r b' l' => r = .v (.bool (isV v)) ∧ b' = b ∧ l' = l) := by
  refine calls_kept a_is_ok rfl (by decide) ?_
  intro B g hB hR hE hA
  simp only [KArgs] at hA
  by_cases h1 : 1 ≤ v.length
  · by_cases h2 : v.length ≤ 8
    · simp (disch := (first | decide | omega)) only [a_is, hA, List.length_map, go_sem]
      refine ACalls_mono _ _ _ _ _ _ (contains1_spec v _ [] (vBadAt v) (by omega) _ _ (fun i hi => by unfold vBadAt; rw [getD_at hi]; exact isc_spec _ _ _)) ?_
      rintro r b' l' ⟨rfl, rfl, rfl⟩
      simp (disch := (first | decide | omega)) only [hA, go_sem]
      exact leave_pure (xs := [.v (.bool (!(List.range v.length).any (vBadAt v)))]) (.inr rfl) (by simp (disch := (first | decide | omega)) only [resVs, resV, go_sem, hA]) (by simp only [one, AVlt_v, AVlt_any, AVlt_sl, AVlt_ptr, AVlt_mp, AVlt_agg, AVlt_tup, AVlt_fn, RowsLt_nil, RowsLt_live, RowsLt_dead, List.mem_cons, List.not_mem_nil, List.forall_mem_cons, List.forall_mem_nil, or_false, false_or, forall_eq_or_imp, forall_eq, vs_lt, Nat.add_lt_add_iff_left, Nat.reduceLT, true_and, and_true, and_self, List.length_cons, List.length_nil, Nat.reduceAdd, Nat.zero_add, implies_true, false_imp_iff, lt_T, List.mem_map]) hR hB ⟨by simp [isV, h1, h2, one], rfl, rfl⟩
    · simp (disch := (first | decide | omega)) only [a_is, hA, List.length_map, decide_false, go_sem]
      exact leave_pure (xs := [.v (.bool false)]) (.inr rfl) (by simp (disch := (first | decide | omega)) only [resVs, resV, go_sem, hA]) (by simp only [one, AVlt_v, AVlt_any, AVlt_sl, AVlt_ptr, AVlt_mp, AVlt_agg, AVlt_tup, AVlt_fn, RowsLt_nil, RowsLt_live, RowsLt_dead, List.mem_cons, List.not_mem_nil, List.forall_mem_cons, List.forall_mem_nil, or_false, false_or, forall_eq_or_imp, forall_eq, vs_lt, Nat.add_lt_add_iff_left, Nat.reduceLT, true_and, and_true, and_self, List.length_cons, List.length_nil, Nat.reduceAdd, Nat.zero_add, implies_true, false_imp_iff, lt_T, List.mem_map]) hR hB ⟨by simp [isV, h1, h2, one], rfl, rfl⟩
  · simp (disch := (first | decide | omega)) only [a_is, hA, List.length_map, go_sem]
    exact leave_pure (xs := [.v (.bool false)]) (.inr rfl) (by simp (disch := (first | decide | omega)) only [resVs, resV, go_sem, hA]) (by simp only [one, AVlt_v, AVlt_any, AVlt_sl, AVlt_ptr, AVlt_mp, AVlt_agg, AVlt_tup, AVlt_fn, RowsLt_nil, RowsLt_live, RowsLt_dead, List.mem_cons, List.not_mem_nil, List.forall_mem_cons, List.forall_mem_nil, or_false, false_or, forall_eq_or_imp, forall_eq, vs_lt, Nat.add_lt_add_iff_left, Nat.reduceLT, true_and, and_true, and_self, List.length_cons, List.length_nil, Nat.reduceAdd, Nat.zero_add, implies_true, false_imp_iff, lt_T, List.mem_map]) hR hB ⟨by simp [isV, h1, one], rfl, rfl⟩
theorem both_spec (v w : List Int) (b l : List Row) : ACalls Try.prog 86 [.v (.isl 1 (v.map eI)), .v (.isl 1 (w.map eI))] b l (fun r b' l' => r = .v (.bool (bothV v w)) ∧ b' = b ∧ l' = l) := by
  refine calls_kept a_both_ok rfl (by decide) ?_
  intro B g hB hR hE hA
  simp only [KArgs] at hA
  simp (disch := decide) only [a_both, hA, go_sem]
  refine ACalls_mono _ _ _ _ _ _ (is_spec v _ _) ?_
  rintro r b' l' ⟨rfl, rfl, rfl⟩
  cases h1 : isV v
  · simp (disch := (first | decide | omega)) only [hA, go_sem]
    exact leave_pure (xs := [.v (.bool false)]) (.inr rfl) (by simp (disch := (first | decide | omega)) only [resVs, resV, go_sem, hA]) (by simp only [one, AVlt_v, AVlt_any, AVlt_sl, AVlt_ptr, AVlt_mp, AVlt_agg, AVlt_tup, AVlt_fn, RowsLt_nil, RowsLt_live, RowsLt_dead, List.mem_cons, List.not_mem_nil, List.forall_mem_cons, List.forall_mem_nil, or_false, false_or, forall_eq_or_imp, forall_eq, vs_lt, Nat.add_lt_add_iff_left, Nat.reduceLT, true_and, and_true, and_self, List.length_cons, List.length_nil, Nat.reduceAdd, Nat.zero_add, implies_true, false_imp_iff, lt_T, List.mem_map]) hR hB ⟨by simp [bothV, h1, one], rfl, rfl⟩
  · simp (disch := (first | decide | omega)) only [hA, go_sem]
    refine ACalls_mono _ _ _ _ _ _ (is_spec w _ _) ?_
    rintro r b' l' ⟨rfl, rfl, rfl⟩
    cases h2 : isV w
    · simp (disch := (first | decide | omega)) only [hA, go_sem]
      exact leave_pure (xs := [.v (.bool false)]) (.inr rfl) (by simp (disch := (first | decide | omega)) only [resVs, resV, go_sem, hA]) (by simp only [one, AVlt_v, AVlt_any, AVlt_sl, AVlt_ptr, AVlt_mp, AVlt_agg, AVlt_tup, AVlt_fn, RowsLt_nil, RowsLt_live, RowsLt_dead, List.mem_cons, List.not_mem_nil, List.forall_mem_cons, List.forall_mem_nil, or_false, false_or, forall_eq_or_imp, forall_eq, vs_lt, Nat.add_lt_add_iff_left, Nat.reduceLT, true_and, and_true, and_self, List.length_cons, List.length_nil, Nat.reduceAdd, Nat.zero_add, implies_true, false_imp_iff, lt_T, List.mem_map]) hR hB ⟨by simp [bothV, h1, h2, one], rfl, rfl⟩
    · by_cases h3 : v.length = w.length
      · have hd : ((v.length : Int) == (w.length : Int)) = true := by simp [h3]
        simp (disch := (first | decide | omega)) only [hA, List.length_map, hd, go_sem]
        exact leave_pure (xs := [.v (.bool true)]) (.inr rfl) (by simp (disch := (first | decide | omega)) only [resVs, resV, go_sem, hA]) (by simp only [one, AVlt_v, AVlt_any, AVlt_sl, AVlt_ptr, AVlt_mp, AVlt_agg, AVlt_tup, AVlt_fn, RowsLt_nil, RowsLt_live, RowsLt_dead, List.mem_cons, List.not_mem_nil, List.forall_mem_cons, List.forall_mem_nil, or_false, false_or, forall_eq_or_imp, forall_eq, vs_lt, Nat.add_lt_add_iff_left, Nat.reduceLT, true_and, and_true, and_self, List.length_cons, List.length_nil, Nat.reduceAdd, Nat.zero_add, implies_true, false_imp_iff, lt_T, List.mem_map]) hR hB ⟨by simp [bothV, h1, h2, h3, one], rfl, rfl⟩
      · have hd : ((v.length : Int) == (w.length : Int)) = false := by simp; omega
        simp (disch := (first | decide | omega)) only [hA, List.length_map, hd, go_sem]
        exact leave_pure (xs := [.v (.bool false)]) (.inr rfl) (by simp (disch := (first | decide | omega)) only [resVs, resV, go_sem, hA]) (by simp only [one, AVlt_v, AVlt_any, AVlt_sl, AVlt_ptr, AVlt_mp, AVlt_agg, AVlt_tup, AVlt_fn, RowsLt_nil, RowsLt_live, RowsLt_dead, List.mem_cons, List.not_mem_nil, List.forall_mem_cons, List.forall_mem_nil, or_false, false_or, forall_eq_or_imp, forall_eq, vs_lt, Nat.add_lt_add_iff_left, Nat.reduceLT, true_and, and_true, and_self, List.length_cons, List.length_nil, Nat.reduceAdd, Nat.zero_add, implies_true, false_imp_iff, lt_T, List.mem_map]) hR hB ⟨by simp [bothV, h1, h2, h3, one], rfl, rfl⟩
theorem rValid_spec (v : List Int) (b l : List Row) : ACalls Try.prog 85 [.v (.isl 1 (v.map eI))] b l (fun r b' l' => r = .v (.bool (isV v)) ∧ b' = b ∧ l' = l) := by
  refine calls_kept a_rValid_ok rfl (by decide) ?_
  intro B g hB hR hE hA
  simp only [KArgs] at hA
  by_cases h1 : 1 ≤ v.length
  · by_cases h2 : v.length ≤ 8
    · simp (disch := (first | decide | omega)) only [a_rValid, hA, List.length_map, go_sem]
      refine loop_kept (ι := Nat) r_rValid0 (fun i => [(3, .v (.int .i64 i))]) 0 (fun _ => [])
        (fun i => i ≤ v.length ∧ ∀ j, j < i → vBadAt v j = false) (fun i => v.length - i) 0 ⟨Nat.zero_le _, fun j hj => by omega⟩ (by (repeat (first | exact hE.mono (by omega) | refine KLt.up ?_ (by simp (disch := omega) only [AVlt_v, AVlt_any, AVlt_sl, AVlt_ptr, AVlt_mp, AVlt_agg, AVlt_tup, AVlt_fn, RowsLt_nil, RowsLt_live, RowsLt_dead, List.mem_cons, List.not_mem_nil, List.forall_mem_cons, List.forall_mem_nil, or_false, false_or, forall_eq_or_imp, forall_eq, vs_lt, Nat.add_lt_add_iff_left, Nat.reduceLT, true_and, and_true, and_self, List.length_cons, List.length_nil, Nat.reduceAdd, Nat.zero_add, implies_true, false_imp_iff, lt_T, List.mem_map])))) (by ((try simp (disch := decide) only [hA, go_sem]) <;> (repeat' (first | exact trivial | refine And.intro ?_ ?_)) <;> (first | rfl | (congr 2; omega)))) (fun e => Weak.refl _ _ _) ?_
      rintro g1 hE1 hEE1 hg1 i ⟨hi, h0⟩
      by_cases hlt : i < v.length
      · have next : vBadAt v i = false → ∀ j, j < i + 1 → vBadAt v j = false := fun hh j hj => by
          rcases Nat.lt_or_ge j i with hji | hji
          · exact h0 j hji
          · have : j = i := by omega
            rw [this]; exact hh
        have stop : vBadAt v i = true → isV v = false := fun hh => by
          have : (List.range v.length).any (vBadAt v) = true := List.any_eq_true.2 ⟨i, List.mem_range.2 hlt, hh⟩
          simp [isV, this]
        by_cases c1 : v[i] < 0
        · have hd := decide_eq_true c1
          have hb : vBadAt v i = true := by unfold vBadAt vBad; rw [getD_at hlt, hd]; rfl
          simp (disch := (first | decide | omega)) only [hA, hg1, eI, hd, go_sem]
          exact leave_pure (xs := [.v (.bool false)]) (.inr rfl) (by simp (disch := (first | decide | omega)) only [resVs, resV, go_sem, hA, hg1]) (by simp only [one, AVlt_v, AVlt_any, AVlt_sl, AVlt_ptr, AVlt_mp, AVlt_agg, AVlt_tup, AVlt_fn, RowsLt_nil, RowsLt_live, RowsLt_dead, List.mem_cons, List.not_mem_nil, List.forall_mem_cons, List.forall_mem_nil, or_false, false_or, forall_eq_or_imp, forall_eq, vs_lt, Nat.add_lt_add_iff_left, Nat.reduceLT, true_and, and_true, and_self, List.length_cons, List.length_nil, Nat.reduceAdd, Nat.zero_add, implies_true, false_imp_iff, lt_T, List.mem_map]) hR hB ⟨by rw [stop hb]; rfl, rfl, rfl⟩
        · have hd := decide_eq_false c1
          by_cases c2 : v[i] > 1125899906842624
          · have hd2 := decide_eq_true c2
            have hb : vBadAt v i = true := by unfold vBadAt vBad; rw [getD_at hlt, hd2]; simp
            simp (disch := (first | decide | omega)) only [hA, hg1, eI, hd, hd2, go_sem]
            exact leave_pure (xs := [.v (.bool false)]) (.inr rfl) (by simp (disch := (first | decide | omega)) only [resVs, resV, go_sem, hA, hg1]) (by simp only [one, AVlt_v, AVlt_any, AVlt_sl, AVlt_ptr, AVlt_mp, AVlt_agg, AVlt_tup, AVlt_fn, RowsLt_nil, RowsLt_live, RowsLt_dead, List.mem_cons, List.not_mem_nil, List.forall_mem_cons, List.forall_mem_nil, or_false, false_or, forall_eq_or_imp, forall_eq, vs_lt, Nat.add_lt_add_iff_left, Nat.reduceLT, true_and, and_true, and_self, List.length_cons, List.length_nil, Nat.reduceAdd, Nat.zero_add, implies_true, false_imp_iff, lt_T, List.mem_map]) hR hB ⟨by rw [stop hb]; rfl, rfl, rfl⟩
          · have hd2 := decide_eq_false c2
            have hb : vBadAt v i = false := by unfold vBadAt vBad; rw [getD_at hlt, hd, hd2]; rfl
            simp (disch := (first | decide | omega)) only [hA, hg1, eI, hd, hd2, go_sem]
            refine ⟨i + 1, ⟨hlt, next hb⟩, by simp only; omega, ?_⟩
            exact Weak.kround (p := r_rValid0) (k := 0) (by ((repeat refine (kAny_up rfl).trans ?_); exact hEE1)) (by ((try simp (disch := decide) only [hA, go_sem]) <;> (repeat' (first | exact trivial | refine And.intro ?_ ?_)) <;> (first | rfl | (congr 2; omega)))) rfl hE1 (by simp) (by simp (disch := omega) only [KOvLt, AVlt_v, AVlt_any, AVlt_sl, AVlt_ptr, AVlt_mp, AVlt_agg, AVlt_tup, AVlt_fn, RowsLt_nil, RowsLt_live, RowsLt_dead, List.mem_cons, List.not_mem_nil, List.forall_mem_cons, List.forall_mem_nil, or_false, false_or, forall_eq_or_imp, forall_eq, vs_lt, Nat.add_lt_add_iff_left, Nat.reduceLT, true_and, and_true, and_self, List.length_cons, List.length_nil, Nat.reduceAdd, Nat.zero_add, implies_true, false_imp_iff, lt_T, List.mem_map]) hR (by simp (disch := omega) only [AVlt_v, AVlt_any, AVlt_sl, AVlt_ptr, AVlt_mp, AVlt_agg, AVlt_tup, AVlt_fn, RowsLt_nil, RowsLt_live, RowsLt_dead, List.mem_cons, List.not_mem_nil, List.forall_mem_cons, List.forall_mem_nil, or_false, false_or, forall_eq_or_imp, forall_eq, vs_lt, Nat.add_lt_add_iff_left, Nat.reduceLT, true_and, and_true, and_self, List.length_cons, List.length_nil, Nat.reduceAdd, Nat.zero_add, implies_true, false_imp_iff, lt_T, List.mem_map])
      · simp (disch := (first | decide | omega)) only [hA, hg1, go_sem]
        obtain rfl : i = v.length := by omega
        have ok : isV v = true := by
          simp only [isV, decide_eq_true h1, decide_eq_true h2, Bool.true_and, Bool.not_eq_true', List.any_eq_false, List.mem_range]
          intro j hj; rw [h0 j hj]; simp
        exact leave_pure (xs := [.v (.bool true)]) (.inr rfl) (by simp (disch := (first | decide | omega)) only [resVs, resV, go_sem, hA, hg1]) (by simp only [one, AVlt_v, AVlt_any, AVlt_sl, AVlt_ptr, AVlt_mp, AVlt_agg, AVlt_tup, AVlt_fn, RowsLt_nil, RowsLt_live, RowsLt_dead, List.mem_cons, List.not_mem_nil, List.forall_mem_cons, List.forall_mem_nil, or_false, false_or, forall_eq_or_imp, forall_eq, vs_lt, Nat.add_lt_add_iff_left, Nat.reduceLT, true_and, and_true, and_self, List.length_cons, List.length_nil, Nat.reduceAdd, Nat.zero_add, implies_true, false_imp_iff, lt_T, List.mem_map]) hR hB ⟨by rw [ok]; rfl, rfl, rfl⟩
    · simp (disch := (first | decide | omega)) only [a_rValid, hA, List.length_map, go_sem]
      exact leave_pure (xs := [.v (.bool false)]) (.inr rfl) (by simp (disch := (first | decide | omega)) only [resVs, resV, go_sem, hA]) (by simp only [one, AVlt_v, AVlt_any, AVlt_sl, AVlt_ptr, AVlt_mp, AVlt_agg, AVlt_tup, AVlt_fn, RowsLt_nil, RowsLt_live, RowsLt_dead, List.mem_cons, List.not_mem_nil, List.forall_mem_cons, List.forall_mem_nil, or_false, false_or, forall_eq_or_imp, forall_eq, vs_lt, Nat.add_lt_add_iff_left, Nat.reduceLT, true_and, and_true, and_self, List.length_cons, List.length_nil, Nat.reduceAdd, Nat.zero_add, implies_true, false_imp_iff, lt_T, List.mem_map]) hR hB ⟨by simp [isV, h1, h2, one], rfl, rfl⟩
  · simp (disch := (first | decide | omega)) only [a_rValid, hA, List.length_map, go_sem]
    exact leave_pure (xs := [.v (.bool false)]) (.inr rfl) (by simp (disch := (first | decide | omega)) only [resVs, resV, go_sem, hA]) (by simp only [one, AVlt_v, AVlt_any, AVlt_sl, AVlt_ptr, AVlt_mp, AVlt_agg, AVlt_tup, AVlt_fn, RowsLt_nil, RowsLt_live, RowsLt_dead, List.mem_cons, List.not_mem_nil, List.forall_mem_cons, List.forall_mem_nil, or_false, false_or, forall_eq_or_imp, forall_eq, vs_lt, Nat.add_lt_add_iff_left, Nat.reduceLT, true_and, and_true, and_self, List.length_cons, List.length_nil, Nat.reduceAdd, Nat.zero_add, implies_true, false_imp_iff, lt_T, List.mem_map]) hR hB ⟨by simp [isV, h1, one], rfl, rfl⟩
theorem rPair_spec (v w : List Int) (b l : List Row) : ACalls Try.prog 29 [.v (.isl 1 (v.map eI)), .v (.isl 1 (w.map eI))] b l (fun r b' l' => r = .v (.bool (bothV v w)) ∧ b' = b ∧ l' = l) := by
  refine calls_kept a_rPair_ok rfl (by decide) ?_
  intro B g hB hR hE hA
  simp only [KArgs] at hA
  simp (disch := decide) only [a_rPair, hA, go_sem]
  refine ACalls_mono _ _ _ _ _ _ (rValid_spec v _ _) ?_
  rintro r b' l' ⟨rfl, rfl, rfl⟩
  cases h1 : isV v
  · simp (disch := (first | decide | omega)) only [hA, go_sem]
    exact leave_pure (xs := [.v (.bool false)]) (.inr rfl) (by simp (disch := (first | decide | omega)) only [resVs, resV, go_sem, hA]) (by simp only [one, AVlt_v, AVlt_any, AVlt_sl, AVlt_ptr, AVlt_mp, AVlt_agg, AVlt_tup, AVlt_fn, RowsLt_nil, RowsLt_live, RowsLt_dead, List.mem_cons, List.not_mem_nil, List.forall_mem_cons, List.forall_mem_nil, or_false, false_or, forall_eq_or_imp, forall_eq, vs_lt, Nat.add_lt_add_iff_left, Nat.reduceLT, true_and, and_true, and_self, List.length_cons, List.length_nil, Nat.reduceAdd, Nat.zero_add, implies_true, false_imp_iff, lt_T, List.mem_map]) hR hB ⟨by simp [bothV, h1, one], rfl, rfl⟩
  · simp (disch := (first | decide | omega)) only [hA, go_sem]
    refine ACalls_mono _ _ _ _ _ _ (rValid_spec w _ _) ?_
    rintro r b' l' ⟨rfl, rfl, rfl⟩
    cases h2 : isV w
    · simp (disch := (first | decide | omega)) only [hA, go_sem]
      exact leave_pure (xs := [.v (.bool false)]) (.inr rfl) (by simp (disch := (first | decide | omega)) only [resVs, resV, go_sem, hA]) (by simp only [one, AVlt_v, AVlt_any, AVlt_sl, AVlt_ptr, AVlt_mp, AVlt_agg, AVlt_tup, AVlt_fn, RowsLt_nil, RowsLt_live, RowsLt_dead, List.mem_cons, List.not_mem_nil, List.forall_mem_cons, List.forall_mem_nil, or_false, false_or, forall_eq_or_imp, forall_eq, vs_lt, Nat.add_lt_add_iff_left, Nat.reduceLT, true_and, and_true, and_self, List.length_cons, List.length_nil, Nat.reduceAdd, Nat.zero_add, implies_true, false_imp_iff, lt_T, List.mem_map]) hR hB ⟨by simp [bothV, h1, h2, one], rfl, rfl⟩
    · by_cases h3 : v.length = w.length
      · have hd : ((v.length : Int) == (w.length : Int)) = true := by simp [h3]
        simp (disch := (first | decide | omega)) only [hA, List.length_map, hd, go_sem]
        exact leave_pure (xs := [.v (.bool true)]) (.inr rfl) (by simp (disch := (first | decide | omega)) only [resVs, resV, go_sem, hA]) (by simp only [one, AVlt_v, AVlt_any, AVlt_sl, AVlt_ptr, AVlt_mp, AVlt_agg, AVlt_tup, AVlt_fn, RowsLt_nil, RowsLt_live, RowsLt_dead, List.mem_cons, List.not_mem_nil, List.forall_mem_cons, List.forall_mem_nil, or_false, false_or, forall_eq_or_imp, forall_eq, vs_lt, Nat.add_lt_add_iff_left, Nat.reduceLT, true_and, and_true, and_self, List.length_cons, List.length_nil, Nat.reduceAdd, Nat.zero_add, implies_true, false_imp_iff, lt_T, List.mem_map]) hR hB ⟨by simp [bothV, h1, h2, h3, one], rfl, rfl⟩
      · have hd : ((v.length : Int) == (w.length : Int)) = false := by simp; omega
        simp (disch := (first | decide | omega)) only [hA, List.length_map, hd, go_sem]
        exact leave_pure (xs := [.v (.bool false)]) (.inr rfl) (by simp (disch := (first | decide | omega)) only [resVs, resV, go_sem, hA]) (by simp only [one, AVlt_v, AVlt_any, AVlt_sl, AVlt_ptr, AVlt_mp, AVlt_agg, AVlt_tup, AVlt_fn, RowsLt_nil, RowsLt_live, RowsLt_dead, List.mem_cons, List.not_mem_nil, List.forall_mem_cons, List.forall_mem_nil, or_false, false_or, forall_eq_or_imp, forall_eq, vs_lt, Nat.add_lt_add_iff_left, Nat.reduceLT, true_and, and_true, and_self, List.length_cons, List.length_nil, Nat.reduceAdd, Nat.zero_add, implies_true, false_imp_iff, lt_T, List.mem_map]) hR hB ⟨by simp [bothV, h1, h2, h3, one], rfl, rfl⟩
end Go.Proofs.Ytiiflkcebikecaa

/- Functions of chapter 15 (vectors), as runs: what compares, copies, joins, ticks. No condition but on lengths. -/
namespace Go.Proofs.Ytiiflkcebikecaa
set_option linter.unusedVariables false
set_option linter.unusedSimpArgs false
attribute [local go_sem ↓] run_skip run_region run_draw run_seq run_block run_exit run_ret run_cond atN_app seqC_normal seqC_exit seqC_ret seqQ_normal seqQ_exit seqQ_ret blkQ_normal blkQ_exit blkQ_ret runOps_nil runOps_cons runD_nil runD_cons grdO_true grdO_false grdD_true grdD_false ifC_true ifC_false opS_val opS_call opS_two opK_app dS_val dS_call dS_two dK_app kUp_same kUp_ne
attribute [local go_sem] rechks_nil rechks_cons rechk gcase_true gcase_false ex_val ex_val0 gd_none gd_some ev_t ev_c evs_nil evs_cons evo_some evo_none hget_at hget_first hsetB_at hsetB_first hsetL_at hsetL_first ofOpt_some aop aload astore aslice aappend aiaddr aiaddrA afaddr alen alenS acopy amm acall alookup amupdate alenM comma keyEq apick binV binVB binVS isSh intOp strOp boolOp shOp eqC eqF and2 cellsOf setFrom fillA fillS rd rdI elems mk bounds AV.cell List.all_cons List.all_nil Bool.and_true Bool.true_and Bool.and_self List.length_cons List.length_nil List.length_append Nat.reduceAdd Nat.reduceSub Nat.reduceMul Nat.zero_add Nat.add_zero List.cons_append List.nil_append List.append_assoc List.append_nil List.getElem?_cons_zero List.getElem?_cons_succ List.getElem?_nil List.set_cons_zero List.set_cons_succ List.drop_zero List.drop_succ_cons List.take_zero List.take_succ_cons List.take_nil List.drop_nil List.map_cons List.map_nil Option.map_some if_true if_false Bool.false_eq_true and_self true_and and_true Nat.reduceLeDiff Nat.reduceLT Nat.le_refl Nat.reduceEqDiff ite_true ite_false beq_self_eq_true beq_true beq_false Bool.not_true Bool.not_false Bool.true_beq Bool.false_beq map_vs vs_len vs_get vs_take vs_drop vs_snoc1 vs_snoc2 vs_snoc3 vs_snoc5 vs_set1 vs_set2 vs_rep wrap_id le_T lt_T le_F lt_F leI_T ltI_T leI_F ltI_F geI gtI get_T decide_true decide_false room List.getElem?_map List.length_map List.length_take Int.toNat_natCast Nat.min_def Nat.min_self nth_kOf put_kOf put_kNo kOv_cons kOv_nil KHas KArgs List.getElem_cons_zero List.getElem_cons_succ
/-- The end of a function that hands out its first own row as it is. -/
theorem leave_own {rs : List ARes} {Q : AV → List Row → List Row → Prop} {B e l : _} {ex : AExit} (hex : ex = .normal ∨ ex = .ret) {ver sz n : Nat} {rows : List (List IV)} {junk : List Row} (hx : resVs e B l rs = some [.sl B.length ver 0 n]) (hl : l = [.live ver sz (vs rows)] ++ junk)
    (hR : RowsLt B.length B) {b0 l0 : List Row} (hB : B = b0 ++ l0) (hq : Q (.sl B.length ver 0 n) b0 (l0 ++ [.live ver sz (vs rows)])) : Leaves rs Q b0.length ex e B l := by
  refine leave hex hx (y := .sl B.length ver 0 n) (Weak.trim (l1 := [.live ver sz (vs rows)]) hl ?_ (hR.mono (by omega)) ?_) hB hq
  · intro x hx
    simp [one] at hx
    subst hx
    simp (disch := omega) only [AVlt_v, AVlt_any, AVlt_sl, AVlt_ptr, AVlt_mp, AVlt_agg, AVlt_tup, AVlt_fn, RowsLt_nil, RowsLt_live, RowsLt_dead, List.mem_cons, List.not_mem_nil, List.forall_mem_cons, List.forall_mem_nil, or_false, false_or, forall_eq_or_imp, forall_eq, vs_lt, Nat.add_lt_add_iff_left, Nat.reduceLT, true_and, and_true, and_self, List.length_cons, List.length_nil, Nat.reduceAdd, Nat.zero_add, implies_true, false_imp_iff, lt_T, List.mem_map]
  · simp (disch := omega) only [AVlt_v, AVlt_any, AVlt_sl, AVlt_ptr, AVlt_mp, AVlt_agg, AVlt_tup, AVlt_fn, RowsLt_nil, RowsLt_live, RowsLt_dead, List.mem_cons, List.not_mem_nil, List.forall_mem_cons, List.forall_mem_nil, or_false, false_or, forall_eq_or_imp, forall_eq, vs_lt, Nat.add_lt_add_iff_left, Nat.reduceLT, true_and, and_true, and_self, List.length_cons, List.length_nil, Nat.reduceAdd, Nat.zero_add, implies_true, false_imp_iff, lt_T, List.mem_map]
theorem eq1_spec (v w : List Int) (hv : v.length ≤ 1000000) (b l : List Row) : ACalls Try.prog 26 [.v (.isl 1 (v.map eI)), .v (.isl 1 (w.map eI))] b l (fun r b' l' => r = .v (.bool (decide (v = w))) ∧ b' = b ∧ l' = l) := by
  refine calls_kept a_Eq1_ok rfl (by decide) ?_
  intro B g hB hR hE hA
  simp only [KArgs] at hA
  by_cases hl : v.length = w.length
  · have hd : ((v.length : Int) != (w.length : Int)) = false := by simp [hl]
    simp (disch := (first | decide | omega)) only [a_Eq1, hA, List.length_map, hd, go_sem]
    refine loop_kept (ι := Nat) r_Eq10 (fun i => [(13, .v (.int .i64 i))]) 0 (fun _ => [])
      (fun i => i ≤ v.length ∧ ∀ j, j < i → v.getD j 0 = w.getD j 0) (fun i => v.length - i) 0 ⟨Nat.zero_le _, fun j hj => by omega⟩ (by (repeat (first | exact hE.mono (by omega) | refine KLt.up ?_ (by simp (disch := omega) only [AVlt_v, AVlt_any, AVlt_sl, AVlt_ptr, AVlt_mp, AVlt_agg, AVlt_tup, AVlt_fn, RowsLt_nil, RowsLt_live, RowsLt_dead, List.mem_cons, List.not_mem_nil, List.forall_mem_cons, List.forall_mem_nil, or_false, false_or, forall_eq_or_imp, forall_eq, vs_lt, Nat.add_lt_add_iff_left, Nat.reduceLT, true_and, and_true, and_self, List.length_cons, List.length_nil, Nat.reduceAdd, Nat.zero_add, implies_true, false_imp_iff, lt_T, List.mem_map])))) (by ((try simp (disch := decide) only [hA, go_sem]) <;> (repeat' (first | exact trivial | refine And.intro ?_ ?_)) <;> (first | rfl | (congr 2; omega)))) (fun e => Weak.refl _ _ _) ?_
    rintro g1 hE1 hEE1 hg1 i ⟨hi, h0⟩
    by_cases hlt : i < v.length
    · have hlw : i < w.length := by omega
      by_cases he : v[i] = w[i]
      · have hd2 : (v[i] != w[i]) = false := by simp [he]
        simp (disch := (first | decide | omega)) only [hA, hg1, eI, hd2, go_sem]
        refine ⟨i + 1, ⟨hlt, fun j hj => ?_⟩, by simp only; omega, ?_⟩
        · rcases Nat.lt_or_ge j i with hji | hji
          · exact h0 j hji
          · have : j = i := by omega
            subst this
            rw [getD_at hlt, getD_at hlw, he]
        exact Weak.kround (p := r_Eq10) (k := 0) (by ((repeat refine (kAny_up rfl).trans ?_); exact hEE1)) (by ((try simp (disch := decide) only [hA, go_sem]) <;> (repeat' (first | exact trivial | refine And.intro ?_ ?_)) <;> (first | rfl | (congr 2; omega)))) rfl hE1 (by simp) (by simp (disch := omega) only [KOvLt, AVlt_v, AVlt_any, AVlt_sl, AVlt_ptr, AVlt_mp, AVlt_agg, AVlt_tup, AVlt_fn, RowsLt_nil, RowsLt_live, RowsLt_dead, List.mem_cons, List.not_mem_nil, List.forall_mem_cons, List.forall_mem_nil, or_false, false_or, forall_eq_or_imp, forall_eq, vs_lt, Nat.add_lt_add_iff_left, Nat.reduceLT, true_and, and_true, and_self, List.length_cons, List.length_nil, Nat.reduceAdd, Nat.zero_add, implies_true, false_imp_iff, lt_T, List.mem_map]) hR (by simp (disch := omega) only [AVlt_v, AVlt_any, AVlt_sl, AVlt_ptr, AVlt_mp, AVlt_agg, AVlt_tup, AVlt_fn, RowsLt_nil, RowsLt_live, RowsLt_dead, List.mem_cons, List.not_mem_nil, List.forall_mem_cons, List.forall_mem_nil, or_false, false_or, forall_eq_or_imp, forall_eq, vs_lt, Nat.add_lt_add_iff_left, Nat.reduceLT, true_and, and_true, and_self, List.length_cons, List.length_nil, Nat.reduceAdd, Nat.zero_add, implies_true, false_imp_iff, lt_T, List.mem_map])
      · have hd2 : (v[i] != w[i]) = true := by simp [he]
        have hne : decide (v = w) = false := by
          rw [decide_eq_false_iff_not]; intro h; subst h; exact he rfl
        simp (disch := (first | decide | omega)) only [hA, hg1, eI, hd2, go_sem]
        exact leave_pure (xs := [.v (.bool false)]) (.inr rfl) (by simp (disch := (first | decide | omega)) only [resVs, resV, go_sem, hA, hg1]) (by simp only [one, AVlt_v, AVlt_any, AVlt_sl, AVlt_ptr, AVlt_mp, AVlt_agg, AVlt_tup, AVlt_fn, RowsLt_nil, RowsLt_live, RowsLt_dead, List.mem_cons, List.not_mem_nil, List.forall_mem_cons, List.forall_mem_nil, or_false, false_or, forall_eq_or_imp, forall_eq, vs_lt, Nat.add_lt_add_iff_left, Nat.reduceLT, true_and, and_true, and_self, List.length_cons, List.length_nil, Nat.reduceAdd, Nat.zero_add, implies_true, false_imp_iff, lt_T, List.mem_map]) hR hB ⟨by rw [hne]; rfl, rfl, rfl⟩
    · simp (disch := (first | decide | omega)) only [hA, hg1, go_sem]
      obtain rfl : i = v.length := by omega
      have he : decide (v = w) = true := decide_eq_true (ext_getD hl h0)
      exact leave_pure (xs := [.v (.bool true)]) (.inr rfl) (by simp (disch := (first | decide | omega)) only [resVs, resV, go_sem, hA, hg1]) (by simp only [one, AVlt_v, AVlt_any, AVlt_sl, AVlt_ptr, AVlt_mp, AVlt_agg, AVlt_tup, AVlt_fn, RowsLt_nil, RowsLt_live, RowsLt_dead, List.mem_cons, List.not_mem_nil, List.forall_mem_cons, List.forall_mem_nil, or_false, false_or, forall_eq_or_imp, forall_eq, vs_lt, Nat.add_lt_add_iff_left, Nat.reduceLT, true_and, and_true, and_self, List.length_cons, List.length_nil, Nat.reduceAdd, Nat.zero_add, implies_true, false_imp_iff, lt_T, List.mem_map]) hR hB ⟨by rw [he]; rfl, rfl, rfl⟩
  · have hd : ((v.length : Int) != (w.length : Int)) = true := by simp; omega
    have hne : decide (v = w) = false := by
      rw [decide_eq_false_iff_not]; intro h; subst h; exact hl rfl
    simp (disch := (first | decide | omega)) only [a_Eq1, hA, List.length_map, hd, go_sem]
    exact leave_pure (xs := [.v (.bool false)]) (.inr rfl) (by simp (disch := (first | decide | omega)) only [resVs, resV, go_sem, hA]) (by simp only [one, AVlt_v, AVlt_any, AVlt_sl, AVlt_ptr, AVlt_mp, AVlt_agg, AVlt_tup, AVlt_fn, RowsLt_nil, RowsLt_live, RowsLt_dead, List.mem_cons, List.not_mem_nil, List.forall_mem_cons, List.forall_mem_nil, or_false, false_or, forall_eq_or_imp, forall_eq, vs_lt, Nat.add_lt_add_iff_left, Nat.reduceLT, true_and, and_true, and_self, List.length_cons, List.length_nil, Nat.reduceAdd, Nat.zero_add, implies_true, false_imp_iff, lt_T, List.mem_map]) hR hB ⟨by rw [hne]; rfl, rfl, rfl⟩
theorem clo1_spec (v : List Int) (h1 : 1 ≤ v.length) (ht : v.length ≤ 1000000) (b l : List Row) : ACalls Try.prog 84 [.v (.isl 1 (v.map eI))] b l (fun r b' l' => r = .sl (b.length + l.length) 1 0 v.length ∧ b' = b ∧ l' = l ++ [.live 1 1 (vs (v.map eI))]) := by
  refine calls_kept a_Clo1_ok rfl (by decide) ?_
  intro B g hB hR hE hA
  simp only [KArgs] at hA
  simp (disch := decide) only [a_Clo1, hA, go_sem]
  refine ⟨fun h => ?_, ?_⟩
  · exfalso; rw [List.isEmpty_iff] at h; rw [List.map_eq_nil_iff.1 h] at h1; exact absurd h1 (by decide)
  rw [if_pos (by first | omega | (simp only [List.length_map]; omega))]
  simp (disch := (first | decide | omega)) only [hA, go_sem]
  exact leave_own (.inr rfl) (n := v.length) (rows := v.map eI) (junk := []) (by simp (disch := (first | decide | omega)) only [resVs, resV, hA, List.length_map, go_sem]) (by simp) hR hB ⟨by rw [hB, List.length_append], rfl, rfl⟩
theorem atMost_spec (v w : List Int) (hv : v.length ≤ 1000000) (hl : v.length ≤ w.length) (b l : List Row) : ACalls Try.prog 87 [.v (.isl 1 (v.map eI)), .v (.isl 1 (w.map eI))] b l (fun r b' l' => r = .v (.bool (leqV v w)) ∧ b' = b ∧ l' = l) := by
  refine calls_kept a_atMost_ok rfl (by decide) ?_
  intro B g hB hR hE hA
  simp only [KArgs] at hA
  simp (disch := (first | decide | omega)) only [a_atMost, hA, List.length_map, go_sem]
  refine loop_kept (ι := Nat) r_atMost0 (fun i => [(9, .v (.int .i64 i))]) 0 (fun _ => [])
    (fun i => i ≤ v.length ∧ ∀ j, j < i → v.getD j 0 ≤ w.getD j 0) (fun i => v.length - i) 0 ⟨Nat.zero_le _, fun j hj => by omega⟩ (by (repeat (first | exact hE.mono (by omega) | refine KLt.up ?_ (by simp (disch := omega) only [AVlt_v, AVlt_any, AVlt_sl, AVlt_ptr, AVlt_mp, AVlt_agg, AVlt_tup, AVlt_fn, RowsLt_nil, RowsLt_live, RowsLt_dead, List.mem_cons, List.not_mem_nil, List.forall_mem_cons, List.forall_mem_nil, or_false, false_or, forall_eq_or_imp, forall_eq, vs_lt, Nat.add_lt_add_iff_left, Nat.reduceLT, true_and, and_true, and_self, List.length_cons, List.length_nil, Nat.reduceAdd, Nat.zero_add, implies_true, false_imp_iff, lt_T, List.mem_map])))) (by ((try simp (disch := decide) only [hA, go_sem]) <;> (repeat' (first | exact trivial | refine And.intro ?_ ?_)) <;> (first | rfl | (congr 2; omega)))) (fun e => Weak.refl _ _ _) ?_
  rintro g1 hE1 hEE1 hg1 i ⟨hi, h0⟩
  by_cases hlt : i < v.length
  · have hlw : i < w.length := by omega
    by_cases he : v[i] > w[i]
    · have hd := decide_eq_true he
      have hne : leqV v w = false := by
        rw [Bool.eq_false_iff]; intro h; have := leqV_iff.1 h i hlt; rw [getD_at hlt, getD_at hlw] at this; omega
      simp (disch := (first | decide | omega)) only [hA, hg1, eI, hd, go_sem]
      exact leave_pure (xs := [.v (.bool false)]) (.inr rfl) (by simp (disch := (first | decide | omega)) only [resVs, resV, go_sem, hA, hg1]) (by simp only [one, AVlt_v, AVlt_any, AVlt_sl, AVlt_ptr, AVlt_mp, AVlt_agg, AVlt_tup, AVlt_fn, RowsLt_nil, RowsLt_live, RowsLt_dead, List.mem_cons, List.not_mem_nil, List.forall_mem_cons, List.forall_mem_nil, or_false, false_or, forall_eq_or_imp, forall_eq, vs_lt, Nat.add_lt_add_iff_left, Nat.reduceLT, true_and, and_true, and_self, List.length_cons, List.length_nil, Nat.reduceAdd, Nat.zero_add, implies_true, false_imp_iff, lt_T, List.mem_map]) hR hB ⟨by rw [hne]; rfl, rfl, rfl⟩
    · have hd := decide_eq_false he
      simp (disch := (first | decide | omega)) only [hA, hg1, eI, hd, go_sem]
      refine ⟨i + 1, ⟨hlt, fun j hj => ?_⟩, by simp only; omega, ?_⟩
      · rcases Nat.lt_or_ge j i with hji | hji
        · exact h0 j hji
        · have : j = i := by omega
          subst this
          rw [getD_at hlt, getD_at hlw]; omega
      exact Weak.kround (p := r_atMost0) (k := 0) (by ((repeat refine (kAny_up rfl).trans ?_); exact hEE1)) (by ((try simp (disch := decide) only [hA, go_sem]) <;> (repeat' (first | exact trivial | refine And.intro ?_ ?_)) <;> (first | rfl | (congr 2; omega)))) rfl hE1 (by simp) (by simp (disch := omega) only [KOvLt, AVlt_v, AVlt_any, AVlt_sl, AVlt_ptr, AVlt_mp, AVlt_agg, AVlt_tup, AVlt_fn, RowsLt_nil, RowsLt_live, RowsLt_dead, List.mem_cons, List.not_mem_nil, List.forall_mem_cons, List.forall_mem_nil, or_false, false_or, forall_eq_or_imp, forall_eq, vs_lt, Nat.add_lt_add_iff_left, Nat.reduceLT, true_and, and_true, and_self, List.length_cons, List.length_nil, Nat.reduceAdd, Nat.zero_add, implies_true, false_imp_iff, lt_T, List.mem_map]) hR (by simp (disch := omega) only [AVlt_v, AVlt_any, AVlt_sl, AVlt_ptr, AVlt_mp, AVlt_agg, AVlt_tup, AVlt_fn, RowsLt_nil, RowsLt_live, RowsLt_dead, List.mem_cons, List.not_mem_nil, List.forall_mem_cons, List.forall_mem_nil, or_false, false_or, forall_eq_or_imp, forall_eq, vs_lt, Nat.add_lt_add_iff_left, Nat.reduceLT, true_and, and_true, and_self, List.length_cons, List.length_nil, Nat.reduceAdd, Nat.zero_add, implies_true, false_imp_iff, lt_T, List.mem_map])
  · simp (disch := (first | decide | omega)) only [hA, hg1, go_sem]
    obtain rfl : i = v.length := by omega
    have he : leqV v w = true := leqV_iff.2 h0
    exact leave_pure (xs := [.v (.bool true)]) (.inr rfl) (by simp (disch := (first | decide | omega)) only [resVs, resV, go_sem, hA, hg1]) (by simp only [one, AVlt_v, AVlt_any, AVlt_sl, AVlt_ptr, AVlt_mp, AVlt_agg, AVlt_tup, AVlt_fn, RowsLt_nil, RowsLt_live, RowsLt_dead, List.mem_cons, List.not_mem_nil, List.forall_mem_cons, List.forall_mem_nil, or_false, false_or, forall_eq_or_imp, forall_eq, vs_lt, Nat.add_lt_add_iff_left, Nat.reduceLT, true_and, and_true, and_self, List.length_cons, List.length_nil, Nat.reduceAdd, Nat.zero_add, implies_true, false_imp_iff, lt_T, List.mem_map]) hR hB ⟨by rw [he]; rfl, rfl, rfl⟩
/-- What Compare answers. -/
def cmpR (v w : List Int) : AV := .tup [.v (.int .i64 (if bothV v w = true then cmpV v w else 0)), .v (.int .i64 (if bothV v w = true then 0 else 1))]
theorem compare_spec (v w : List Int) (b l : List Row) : ACalls Try.prog 32 [.v (.isl 1 (v.map eI)), .v (.isl 1 (w.map eI))] b l (fun r b' l' => r = cmpR v w ∧ b' = b ∧ l' = l) := by
  refine calls_kept a_Compare_ok rfl (by decide) ?_
  intro B g hB hR hE hA
  simp only [KArgs] at hA
  simp (disch := decide) only [a_Compare, hA, go_sem]
  refine ACalls_mono _ _ _ _ _ _ (both_spec v w _ _) ?_
  rintro r b' l' ⟨rfl, rfl, rfl⟩
  cases hb : bothV v w
  · simp (disch := (first | decide | omega)) only [hA, go_sem]
    exact leave_pure (xs := [.v (.int .i64 0), .v (.int .i64 1)]) (.inr rfl) (by simp (disch := (first | decide | omega)) only [resVs, resV, go_sem, hA]) (by simp only [one, AVlt_v, AVlt_any, AVlt_sl, AVlt_ptr, AVlt_mp, AVlt_agg, AVlt_tup, AVlt_fn, RowsLt_nil, RowsLt_live, RowsLt_dead, List.mem_cons, List.not_mem_nil, List.forall_mem_cons, List.forall_mem_nil, or_false, false_or, forall_eq_or_imp, forall_eq, vs_lt, Nat.add_lt_add_iff_left, Nat.reduceLT, true_and, and_true, and_self, List.length_cons, List.length_nil, Nat.reduceAdd, Nat.zero_add, implies_true, false_imp_iff, lt_T, List.mem_map]) hR hB ⟨by simp [cmpR, hb, one], rfl, rfl⟩
  · obtain ⟨v1, v2, v3⟩ := bothV_open hb
    have := (isV_open v1).2.1
    simp (disch := (first | decide | omega)) only [hA, go_sem]
    refine ACalls_mono _ _ _ _ _ _ (atMost_spec v w (by omega) (by omega) _ _) ?_
    rintro r b' l' ⟨rfl, rfl, rfl⟩
    simp (disch := (first | decide | omega)) only [hA, go_sem]
    refine ACalls_mono _ _ _ _ _ _ (atMost_spec w v (by omega) (by omega) _ _) ?_
    rintro r b' l' ⟨rfl, rfl, rfl⟩
    cases q1 : leqV v w
    · cases q2 : leqV w v
      · simp (disch := (first | decide | omega)) only [hA, go_sem]
        exact leave_pure (xs := [.v (.int .i64 2), .v (.int .i64 0)]) (.inr rfl) (by simp (disch := (first | decide | omega)) only [resVs, resV, go_sem, hA]) (by simp only [one, AVlt_v, AVlt_any, AVlt_sl, AVlt_ptr, AVlt_mp, AVlt_agg, AVlt_tup, AVlt_fn, RowsLt_nil, RowsLt_live, RowsLt_dead, List.mem_cons, List.not_mem_nil, List.forall_mem_cons, List.forall_mem_nil, or_false, false_or, forall_eq_or_imp, forall_eq, vs_lt, Nat.add_lt_add_iff_left, Nat.reduceLT, true_and, and_true, and_self, List.length_cons, List.length_nil, Nat.reduceAdd, Nat.zero_add, implies_true, false_imp_iff, lt_T, List.mem_map]) hR hB ⟨by simp [cmpR, cmpV, hb, one, q1, q2], rfl, rfl⟩
      · simp (disch := (first | decide | omega)) only [hA, go_sem]
        exact leave_pure (xs := [.v (.int .i64 1), .v (.int .i64 0)]) (.inr rfl) (by simp (disch := (first | decide | omega)) only [resVs, resV, go_sem, hA]) (by simp only [one, AVlt_v, AVlt_any, AVlt_sl, AVlt_ptr, AVlt_mp, AVlt_agg, AVlt_tup, AVlt_fn, RowsLt_nil, RowsLt_live, RowsLt_dead, List.mem_cons, List.not_mem_nil, List.forall_mem_cons, List.forall_mem_nil, or_false, false_or, forall_eq_or_imp, forall_eq, vs_lt, Nat.add_lt_add_iff_left, Nat.reduceLT, true_and, and_true, and_self, List.length_cons, List.length_nil, Nat.reduceAdd, Nat.zero_add, implies_true, false_imp_iff, lt_T, List.mem_map]) hR hB ⟨by simp [cmpR, cmpV, hb, one, q1, q2], rfl, rfl⟩
    · cases q2 : leqV w v
      · simp (disch := (first | decide | omega)) only [hA, go_sem]
        exact leave_pure (xs := [.v (.int .i64 (-1)), .v (.int .i64 0)]) (.inr rfl) (by simp (disch := (first | decide | omega)) only [resVs, resV, go_sem, hA]) (by simp only [one, AVlt_v, AVlt_any, AVlt_sl, AVlt_ptr, AVlt_mp, AVlt_agg, AVlt_tup, AVlt_fn, RowsLt_nil, RowsLt_live, RowsLt_dead, List.mem_cons, List.not_mem_nil, List.forall_mem_cons, List.forall_mem_nil, or_false, false_or, forall_eq_or_imp, forall_eq, vs_lt, Nat.add_lt_add_iff_left, Nat.reduceLT, true_and, and_true, and_self, List.length_cons, List.length_nil, Nat.reduceAdd, Nat.zero_add, implies_true, false_imp_iff, lt_T, List.mem_map]) hR hB ⟨by simp [cmpR, cmpV, hb, one, q1, q2], rfl, rfl⟩
      · simp (disch := (first | decide | omega)) only [hA, go_sem]
        exact leave_pure (xs := [.v (.int .i64 0), .v (.int .i64 0)]) (.inr rfl) (by simp (disch := (first | decide | omega)) only [resVs, resV, go_sem, hA]) (by simp only [one, AVlt_v, AVlt_any, AVlt_sl, AVlt_ptr, AVlt_mp, AVlt_agg, AVlt_tup, AVlt_fn, RowsLt_nil, RowsLt_live, RowsLt_dead, List.mem_cons, List.not_mem_nil, List.forall_mem_cons, List.forall_mem_nil, or_false, false_or, forall_eq_or_imp, forall_eq, vs_lt, Nat.add_lt_add_iff_left, Nat.reduceLT, true_and, and_true, and_self, List.length_cons, List.length_nil, Nat.reduceAdd, Nat.zero_add, implies_true, false_imp_iff, lt_T, List.mem_map]) hR hB ⟨by simp [cmpR, cmpV, hb, one, q1, q2], rfl, rfl⟩
/-! Join. -/
def joTo (v w : List Int) (i : Nat) : List Int := (joinV v w).take i ++ v.drop i
theorem joTo_len {v w : List Int} (h : v.length = w.length) (i : Nat) (hi : i ≤ v.length) : (joTo v w i).length = v.length := by
  unfold joTo; rw [List.length_append, List.length_take, List.length_drop, joinV_len h]; omega
theorem joTo_zero (v w : List Int) : joTo v w 0 = v := by simp [joTo]
theorem joTo_all {v w : List Int} (h : v.length = w.length) : joTo v w v.length = joinV v w := by
  unfold joTo; rw [List.take_of_length_le (by rw [joinV_len h]; exact Nat.le_refl _), List.drop_length, List.append_nil]
theorem joTo_get {v w : List Int} (h : v.length = w.length) {i : Nat} (hi : i < v.length) (h2 : i < (joTo v w i).length) : (joTo v w i)[i] = v[i] := by
  simp only [joTo]
  rw [List.getElem_append_right (by rw [List.length_take, joinV_len h]; omega)]
  simp [joinV_len h, Nat.min_eq_left (Nat.le_of_lt hi)]
theorem joTo_set {v w : List Int} (h : v.length = w.length) {i : Nat} (hi : i < v.length) (hw : i < w.length) : ((joTo v w i).map eI).set i [.int .i64 (max v[i] w[i])] = (joTo v w (i + 1)).map eI := by
  rw [show [IV.int .i64 (max v[i] w[i])] = eI (max v[i] w[i]) from rfl, ← List.map_set]
  congr 1
  refine ext_getD (by rw [List.length_set, joTo_len h _ (by omega), joTo_len h _ hi]) (fun j hj => ?_)
  rw [List.length_set, joTo_len h _ (by omega)] at hj
  have e : ∀ k, k ≤ v.length → ∀ j, j < v.length → (joTo v w k).getD j 0 = if j < k then max (v.getD j 0) (w.getD j 0) else v.getD j 0 := by
    intro k hk j hj
    unfold joTo
    by_cases hjk : j < k
    · rw [if_pos hjk, ← joinV_get h hj]
      simp only [List.getD_eq_getElem?_getD]
      rw [List.getElem?_append_left (by rw [List.length_take, joinV_len h]; omega), List.getElem?_take_of_lt hjk]
    · rw [if_neg hjk]
      simp only [List.getD_eq_getElem?_getD]
      rw [List.getElem?_append_right (by rw [List.length_take, joinV_len h]; omega), List.getElem?_drop, List.length_take, joinV_len h]
      congr 2; omega
  rw [e (i + 1) hi j hj]
  by_cases hij : i = j
  · subst hij
    rw [if_pos (by omega), getD_at (by rw [List.length_set, joTo_len h _ (by omega)]; exact hi), getD_at hi, getD_at hw]
    simp
  · rw [getD_set_ne hij, e i (by omega) j hj]
    by_cases hlt : j < i
    · rw [if_pos hlt, if_pos (by omega)]
    · rw [if_neg hlt, if_neg (by omega)]
theorem joined_spec (v w : List Int) (h1 : 1 ≤ v.length) (h2 : v.length ≤ 1000000) (h : v.length = w.length) (b l : List Row) : ACalls Try.prog 88 [.v (.isl 1 (v.map eI)), .v (.isl 1 (w.map eI))] b l (fun r b' l' => r = .v (.isl 1 ((joinV v w).map eI)) ∧ b' = b ∧ l' = l) := by
  refine calls_kept a_joined_ok rfl (by decide) ?_
  intro B g hB hR hE hA
  simp only [KArgs] at hA
  simp (disch := decide) only [a_joined, hA, go_sem]
  refine ACalls_mono _ _ _ _ _ _ (clo1_spec v h1 h2 _ _) ?_
  rintro r b' l' ⟨rfl, rfl, rfl⟩
  have j0 := joTo_zero v w
  simp (disch := (first | decide | omega)) only [hA, List.length_map, go_sem]
  refine loop_kept (ι := Nat) r_joined0 (fun i => [(12, .v (.int .i64 i))]) 1 (fun i => [.live 1 1 (vs ((joTo v w i).map eI))])
    (fun i => i ≤ v.length) (fun i => v.length - i) 0 (Nat.zero_le _) (by (repeat (first | exact hE.mono (by omega) | refine KLt.up ?_ (by simp (disch := omega) only [AVlt_v, AVlt_any, AVlt_sl, AVlt_ptr, AVlt_mp, AVlt_agg, AVlt_tup, AVlt_fn, RowsLt_nil, RowsLt_live, RowsLt_dead, List.mem_cons, List.not_mem_nil, List.forall_mem_cons, List.forall_mem_nil, or_false, false_or, forall_eq_or_imp, forall_eq, vs_lt, Nat.add_lt_add_iff_left, Nat.reduceLT, true_and, and_true, and_self, List.length_cons, List.length_nil, Nat.reduceAdd, Nat.zero_add, implies_true, false_imp_iff, lt_T, List.mem_map])))) (by ((try simp (disch := decide) only [hA, go_sem]) <;> (repeat' (first | exact trivial | refine And.intro ?_ ?_)) <;> (first | rfl | (congr 2; omega)))) (fun e => by rw [j0]; exact Weak.refl _ _ _) ?_
  intro g1 hE1 hEE1 hg1 i hi
  by_cases hlt : i < v.length
  · have hlw : i < w.length := by omega
    have jl := joTo_len h i hi
    have jg := joTo_get h hlt (by omega)
    have js := joTo_set h hlt hlw
    have hm : (if v[i] < w[i] then w[i] else v[i]) = max v[i] w[i] := by split <;> omega
    simp (disch := (first | decide | omega)) only [hA, hg1, eI, jg, hm, js, jl, go_sem]
    refine ⟨i + 1, hlt, by simp only; omega, ?_⟩
    exact Weak.kround (p := r_joined0) (k := 1) (by ((repeat refine (kAny_up rfl).trans ?_); exact hEE1)) (by ((try simp (disch := decide) only [hA, go_sem]) <;> (repeat' (first | exact trivial | refine And.intro ?_ ?_)) <;> (first | rfl | (congr 2; omega)))) rfl hE1 (by simp) (by simp (disch := omega) only [KOvLt, AVlt_v, AVlt_any, AVlt_sl, AVlt_ptr, AVlt_mp, AVlt_agg, AVlt_tup, AVlt_fn, RowsLt_nil, RowsLt_live, RowsLt_dead, List.mem_cons, List.not_mem_nil, List.forall_mem_cons, List.forall_mem_nil, or_false, false_or, forall_eq_or_imp, forall_eq, vs_lt, Nat.add_lt_add_iff_left, Nat.reduceLT, true_and, and_true, and_self, List.length_cons, List.length_nil, Nat.reduceAdd, Nat.zero_add, implies_true, false_imp_iff, lt_T, List.mem_map]) hR (by simp (disch := omega) only [AVlt_v, AVlt_any, AVlt_sl, AVlt_ptr, AVlt_mp, AVlt_agg, AVlt_tup, AVlt_fn, RowsLt_nil, RowsLt_live, RowsLt_dead, List.mem_cons, List.not_mem_nil, List.forall_mem_cons, List.forall_mem_nil, or_false, false_or, forall_eq_or_imp, forall_eq, vs_lt, Nat.add_lt_add_iff_left, Nat.reduceLT, true_and, and_true, and_self, List.length_cons, List.length_nil, Nat.reduceAdd, Nat.zero_add, implies_true, false_imp_iff, lt_T, List.mem_map])
  · have jl := joTo_len h i hi
    simp (disch := (first | decide | omega)) only [hA, hg1, go_sem]
    obtain rfl : i = v.length := by omega
    exact leave_frz (i := 0) (n := v.length) (rows := (joTo v w v.length).map eI) (.inr rfl) (by simp (disch := (first | decide | omega)) only [resVs, resV, hA, hg1, go_sem]) rfl (by simp [jl]) hR hB ⟨by rw [joTo_all h], rfl, rfl⟩
end Go.Proofs.Ytiiflkcebikecaa

/- Functions of chapter 15 (vectors), as runs: Join, Tick. No condition. -/
namespace Go.Proofs.Ytiiflkcebikecaa
set_option linter.unusedVariables false
set_option linter.unusedSimpArgs false
attribute [local go_sem ↓] run_skip run_region run_draw run_seq run_block run_exit run_ret run_cond atN_app seqC_normal seqC_exit seqC_ret seqQ_normal seqQ_exit seqQ_ret blkQ_normal blkQ_exit blkQ_ret runOps_nil runOps_cons runD_nil runD_cons grdO_true grdO_false grdD_true grdD_false ifC_true ifC_false opS_val opS_call opS_two opK_app dS_val dS_call dS_two dK_app kUp_same kUp_ne
attribute [local go_sem] rechks_nil rechks_cons rechk gcase_true gcase_false ex_val ex_val0 gd_none gd_some ev_t ev_c evs_nil evs_cons evo_some evo_none hget_at hget_first hsetB_at hsetB_first hsetL_at hsetL_first ofOpt_some aop aload astore aslice aappend aiaddr aiaddrA afaddr alen alenS acopy amm acall alookup amupdate alenM comma keyEq apick binV binVB binVS isSh intOp strOp boolOp shOp eqC eqF and2 cellsOf setFrom fillA fillS rd rdI elems mk bounds AV.cell List.all_cons List.all_nil Bool.and_true Bool.true_and Bool.and_self List.length_cons List.length_nil List.length_append Nat.reduceAdd Nat.reduceSub Nat.reduceMul Nat.zero_add Nat.add_zero List.cons_append List.nil_append List.append_assoc List.append_nil List.getElem?_cons_zero List.getElem?_cons_succ List.getElem?_nil List.set_cons_zero List.set_cons_succ List.drop_zero List.drop_succ_cons List.take_zero List.take_succ_cons List.take_nil List.drop_nil List.map_cons List.map_nil Option.map_some if_true if_false Bool.false_eq_true and_self true_and and_true Nat.reduceLeDiff Nat.reduceLT Nat.le_refl Nat.reduceEqDiff ite_true ite_false beq_self_eq_true beq_true beq_false Bool.not_true Bool.not_false Bool.true_beq Bool.false_beq map_vs vs_len vs_get vs_take vs_drop vs_snoc1 vs_snoc2 vs_snoc3 vs_snoc5 vs_set1 vs_set2 vs_rep wrap_id le_T lt_T le_F lt_F leI_T ltI_T leI_F ltI_F geI gtI get_T decide_true decide_false room List.getElem?_map List.length_map List.length_take Int.toNat_natCast Nat.min_def Nat.min_self nth_kOf put_kOf put_kNo kOv_cons kOv_nil KHas KArgs List.getElem_cons_zero List.getElem_cons_succ
theorem join_spec (v w : List Int) (hb : bothV v w = true) (b l : List Row) : ACalls Try.prog 33 [.v (.isl 1 (v.map eI)), .v (.isl 1 (w.map eI))] b l (fun r b' l' => r = .tup [.v (.isl 1 ((joinV v w).map eI)), .v (.int .i64 0)] ∧ b' = b ∧ l' = l) := by
  refine calls_kept a_Join_ok rfl (by decide) ?_
  intro B g hB hR hE hA
  simp only [KArgs] at hA
  simp (disch := decide) only [a_Join, hA, go_sem]
  obtain ⟨v1, v2, v3⟩ := bothV_open hb
  obtain ⟨l1, l2, _⟩ := isV_open v1
  refine ACalls_mono _ _ _ _ _ _ (both_spec v w _ _) ?_
  rintro r b' l' ⟨rfl, rfl, rfl⟩
  rw [hb]
  simp (disch := decide) only [hA, go_sem]
  refine ACalls_mono _ _ _ _ _ _ (joined_spec v w l1 (by omega) v3 _ _) ?_
  rintro r b' l' ⟨rfl, rfl, rfl⟩
  simp (disch := decide) only [hA, go_sem]
  exact leave_pure (xs := [.v (.isl 1 ((joinV v w).map eI)), .v (.int .i64 0)]) (.inr rfl) (by simp (disch := (first | decide | omega)) only [resVs, resV, go_sem, hA]) (by simp only [one, AVlt_v, AVlt_any, AVlt_sl, AVlt_ptr, AVlt_mp, AVlt_agg, AVlt_tup, AVlt_fn, RowsLt_nil, RowsLt_live, RowsLt_dead, List.mem_cons, List.not_mem_nil, List.forall_mem_cons, List.forall_mem_nil, or_false, false_or, forall_eq_or_imp, forall_eq, vs_lt, Nat.add_lt_add_iff_left, Nat.reduceLT, true_and, and_true, and_self, List.length_cons, List.length_nil, Nat.reduceAdd, Nat.zero_add, implies_true, false_imp_iff, lt_T, List.mem_map]) hR hB ⟨rfl, rfl, rfl⟩
theorem join_no (v w : List Int) (hb : bothV v w = false) (b l : List Row) : ACalls Try.prog 33 [.v (.isl 1 (v.map eI)), .v (.isl 1 (w.map eI))] b l (fun r b' l' => r = .tup [.v .zsl, .v (.int .i64 1)] ∧ b' = b ∧ l' = l) := by
  refine calls_kept a_Join_ok rfl (by decide) ?_
  intro B g hB hR hE hA
  simp only [KArgs] at hA
  simp (disch := decide) only [a_Join, hA, go_sem]
  refine ACalls_mono _ _ _ _ _ _ (both_spec v w _ _) ?_
  rintro r b' l' ⟨rfl, rfl, rfl⟩
  rw [hb]
  simp (disch := decide) only [hA, go_sem]
  exact leave_pure (xs := [.v .zsl, .v (.int .i64 1)]) (.inr rfl) (by simp (disch := (first | decide | omega)) only [resVs, resV, go_sem, hA]) (by simp only [one, AVlt_v, AVlt_any, AVlt_sl, AVlt_ptr, AVlt_mp, AVlt_agg, AVlt_tup, AVlt_fn, RowsLt_nil, RowsLt_live, RowsLt_dead, List.mem_cons, List.not_mem_nil, List.forall_mem_cons, List.forall_mem_nil, or_false, false_or, forall_eq_or_imp, forall_eq, vs_lt, Nat.add_lt_add_iff_left, Nat.reduceLT, true_and, and_true, and_self, List.length_cons, List.length_nil, Nat.reduceAdd, Nat.zero_add, implies_true, false_imp_iff, lt_T, List.mem_map]) hR hB ⟨rfl, rfl, rfl⟩
/-- What Tick answers. -/
def tickR (v : List Int) (p : Int) : AV := if tickE v p = 0 then .tup [.v (.isl 1 ((tickL v p.toNat).map eI)), .v (.int .i64 0)] else .tup [.v .zsl, .v (.int .i64 (tickE v p))]
theorem tick_spec (v : List Int) (p : Int) (b l : List Row) : ACalls Try.prog 34 [.v (.isl 1 (v.map eI)), .v (.int .i64 p)] b l (fun r b' l' => r = tickR v p ∧ b' = b ∧ l' = l) := by
  refine calls_kept a_Tick_ok rfl (by decide) ?_
  intro B g hB hR hE hA
  simp only [KArgs] at hA
  simp (disch := decide) only [a_Tick, hA, go_sem]
  refine ACalls_mono _ _ _ _ _ _ (is_spec v _ _) ?_
  rintro r b' l' ⟨rfl, rfl, rfl⟩
  cases h1 : isV v
  · simp (disch := decide) only [hA, go_sem]
    have e : tickE v p = 1 := by simp [tickE, h1]
    exact leave_pure (xs := [.v .zsl, .v (.int .i64 1)]) (.inr rfl) (by simp (disch := (first | decide | omega)) only [resVs, resV, go_sem, hA]) (by simp only [one, AVlt_v, AVlt_any, AVlt_sl, AVlt_ptr, AVlt_mp, AVlt_agg, AVlt_tup, AVlt_fn, RowsLt_nil, RowsLt_live, RowsLt_dead, List.mem_cons, List.not_mem_nil, List.forall_mem_cons, List.forall_mem_nil, or_false, false_or, forall_eq_or_imp, forall_eq, vs_lt, Nat.add_lt_add_iff_left, Nat.reduceLT, true_and, and_true, and_self, List.length_cons, List.length_nil, Nat.reduceAdd, Nat.zero_add, implies_true, false_imp_iff, lt_T, List.mem_map]) hR hB ⟨by simp [tickR, e, one], rfl, rfl⟩
  obtain ⟨l1, l2, l3⟩ := isV_open h1
  by_cases h2 : p < 0
  · have hd := decide_eq_true h2
    have e : tickE v p = 2 := by simp [tickE, h1, h2]
    simp (disch := (first | decide | omega)) only [hA, hd, go_sem]
    exact leave_pure (xs := [.v .zsl, .v (.int .i64 2)]) (.inr rfl) (by simp (disch := (first | decide | omega)) only [resVs, resV, go_sem, hA, hd]) (by simp only [one, AVlt_v, AVlt_any, AVlt_sl, AVlt_ptr, AVlt_mp, AVlt_agg, AVlt_tup, AVlt_fn, RowsLt_nil, RowsLt_live, RowsLt_dead, List.mem_cons, List.not_mem_nil, List.forall_mem_cons, List.forall_mem_nil, or_false, false_or, forall_eq_or_imp, forall_eq, vs_lt, Nat.add_lt_add_iff_left, Nat.reduceLT, true_and, and_true, and_self, List.length_cons, List.length_nil, Nat.reduceAdd, Nat.zero_add, implies_true, false_imp_iff, lt_T, List.mem_map]) hR hB ⟨by simp [tickR, e, one], rfl, rfl⟩
  have hd := decide_eq_false h2
  by_cases h3 : p ≥ v.length
  · have hd2 : decide ((v.length : Int) ≤ p) = true := decide_eq_true h3
    have e : tickE v p = 2 := by simp [tickE, h1, h3]
    simp (disch := (first | decide | omega)) only [hA, List.length_map, hd, hd2, go_sem]
    exact leave_pure (xs := [.v .zsl, .v (.int .i64 2)]) (.inr rfl) (by simp (disch := (first | decide | omega)) only [resVs, resV, go_sem, hA, hd]) (by simp only [one, AVlt_v, AVlt_any, AVlt_sl, AVlt_ptr, AVlt_mp, AVlt_agg, AVlt_tup, AVlt_fn, RowsLt_nil, RowsLt_live, RowsLt_dead, List.mem_cons, List.not_mem_nil, List.forall_mem_cons, List.forall_mem_nil, or_false, false_or, forall_eq_or_imp, forall_eq, vs_lt, Nat.add_lt_add_iff_left, Nat.reduceLT, true_and, and_true, and_self, List.length_cons, List.length_nil, Nat.reduceAdd, Nat.zero_add, implies_true, false_imp_iff, lt_T, List.mem_map]) hR hB ⟨by simp [tickR, e, one], rfl, rfl⟩
  have hd2 : decide ((v.length : Int) ≤ p) = false := decide_eq_false h3
  obtain ⟨n, rfl⟩ : ∃ n : Nat, p = n := ⟨p.toNat, by omega⟩
  have hn : n < v.length := by omega
  have hg := getD_at (d := 0) hn
  have hr := l3 n hn
  rw [hg] at hr
  by_cases h4 : v[n] = 1125899906842624
  · have hd3 : (v[n] == 1125899906842624) = true := by rw [h4]; rfl
    have e : tickE v n = 9 := by
      unfold tickE
      rw [if_neg (by simp [h1]), if_neg (by omega), if_pos (by rw [Int.toNat_natCast, hg]; exact h4)]
    simp (disch := (first | decide | omega)) only [hA, List.length_map, hd, hd2, eI, hd3, go_sem]
    exact leave_pure (xs := [.v .zsl, .v (.int .i64 9)]) (.inr rfl) (by simp (disch := (first | decide | omega)) only [resVs, resV, go_sem, hA, hd]) (by simp only [one, AVlt_v, AVlt_any, AVlt_sl, AVlt_ptr, AVlt_mp, AVlt_agg, AVlt_tup, AVlt_fn, RowsLt_nil, RowsLt_live, RowsLt_dead, List.mem_cons, List.not_mem_nil, List.forall_mem_cons, List.forall_mem_nil, or_false, false_or, forall_eq_or_imp, forall_eq, vs_lt, Nat.add_lt_add_iff_left, Nat.reduceLT, true_and, and_true, and_self, List.length_cons, List.length_nil, Nat.reduceAdd, Nat.zero_add, implies_true, false_imp_iff, lt_T, List.mem_map]) hR hB ⟨by simp [tickR, e, one], rfl, rfl⟩
  have hd3 : (v[n] == 1125899906842624) = false := by simpa using h4
  have e : tickE v n = 0 := by
    unfold tickE
    rw [if_neg (by simp [h1]), if_neg (by omega), if_neg (by rw [Int.toNat_natCast, hg]; exact h4)]
  simp (disch := (first | decide | omega)) only [hA, List.length_map, hd, hd2, eI, hd3, go_sem]
  refine ACalls_mono _ _ _ _ _ _ (clo1_spec v l1 (by omega) _ _) ?_
  rintro r b' l' ⟨rfl, rfl, rfl⟩
  have hs : (v.map eI).set n [.int .i64 (v[n] + 1)] = (tickL v n).map eI := by
    unfold tickL
    rw [List.map_set, hg]; rfl
  simp (disch := (first | decide | omega)) only [hA, List.length_map, eI, hs, go_sem]
  refine leave_frz2 (i := 0) (n := v.length) (rows := (tickL v n).map eI) (z := .int .i64 0) (.inr rfl) (by simp (disch := (first | decide | omega)) only [resVs, resV, hA, go_sem]) rfl (by simp [tickL_len]) hR hB ⟨?_, rfl, rfl⟩
  unfold tickR
  rw [if_pos e]; rfl
end Go.Proofs.Ytiiflkcebikecaa

/- Functions of chapter 15 (vectors), as runs: Join, Tick; the law VectorLattice. No condition. -/
namespace Go.Proofs.Ytiiflkcebikecaa
set_option linter.unusedVariables false
set_option linter.unusedSimpArgs false
attribute [local go_sem ↓] run_skip run_region run_draw run_seq run_block run_exit run_ret run_cond atN_app seqC_normal seqC_exit seqC_ret seqQ_normal seqQ_exit seqQ_ret blkQ_normal blkQ_exit blkQ_ret runOps_nil runOps_cons runD_nil runD_cons grdO_true grdO_false grdD_true grdD_false ifC_true ifC_false opS_val opS_call opS_two opK_app dS_val dS_call dS_two dK_app kUp_same kUp_ne
attribute [local go_sem] rechks_nil rechks_cons rechk gcase_true gcase_false ex_val ex_val0 gd_none gd_some ev_t ev_c evs_nil evs_cons evo_some evo_none hget_at hget_first hsetB_at hsetB_first hsetL_at hsetL_first ofOpt_some aop aload astore aslice aappend aiaddr aiaddrA afaddr alen alenS acopy amm acall alookup amupdate alenM comma keyEq apick binV binVB binVS isSh intOp strOp boolOp shOp eqC eqF and2 cellsOf setFrom fillA fillS rd rdI elems mk bounds AV.cell List.all_cons List.all_nil Bool.and_true Bool.true_and Bool.and_self List.length_cons List.length_nil List.length_append Nat.reduceAdd Nat.reduceSub Nat.reduceMul Nat.zero_add Nat.add_zero List.cons_append List.nil_append List.append_assoc List.append_nil List.getElem?_cons_zero List.getElem?_cons_succ List.getElem?_nil List.set_cons_zero List.set_cons_succ List.drop_zero List.drop_succ_cons List.take_zero List.take_succ_cons List.take_nil List.drop_nil List.map_cons List.map_nil Option.map_some if_true if_false Bool.false_eq_true and_self true_and and_true Nat.reduceLeDiff Nat.reduceLT Nat.le_refl Nat.reduceEqDiff ite_true ite_false beq_self_eq_true beq_true beq_false Bool.not_true Bool.not_false Bool.true_beq Bool.false_beq map_vs vs_len vs_get vs_take vs_drop vs_snoc1 vs_snoc2 vs_snoc3 vs_snoc5 vs_set1 vs_set2 vs_rep wrap_id le_T lt_T le_F lt_F leI_T ltI_T leI_F ltI_F geI gtI get_T decide_true decide_false room List.getElem?_map List.length_map List.length_take Int.toNat_natCast Nat.min_def Nat.min_self nth_kOf put_kOf put_kNo kOv_cons kOv_nil KHas KArgs List.getElem_cons_zero List.getElem_cons_succ
def a_leqc : AFunc := ⟨2, 23, [.tmp 4],
  (.seq (.region [⟨(some 4), .mv (.c (.v (.bool false))), none⟩])
  (.seq (.region [⟨(some 8), .mv (.t 0), none⟩, ⟨(some 9), .mv (.t 1), none⟩, ⟨(some 10), .call (.c (.fn 32 [])) [(.t 8), (.t 9)], none⟩, ⟨(some 7), .mv (.t 10), none⟩, ⟨(some 11), .extract 0 (.t 7), none⟩, ⟨(some 12), .extract 1 (.t 7), none⟩, ⟨(some 5), .mv (.t 11), none⟩, ⟨(some 6), .mv (.t 12), none⟩])
  (.seq (.region [⟨(some 13), .mv (.t 6), none⟩, ⟨(some 14), .bin .eql (.t 13) (.c (.v (.int .i64 0))), none⟩, ⟨(some 15), .mv (.t 14), none⟩, ⟨(some 16), .mv (.t 5), some (15, true)⟩, ⟨(some 17), .bin .eql (.t 16) (.c (.v (.int .i64 0))), some (15, true)⟩, ⟨(some 18), .mv (.t 17), some (15, true)⟩, ⟨(some 19), .mv (.t 5), some (18, false)⟩, ⟨(some 20), .bin .eql (.t 19) (.c (.v (.int .i64 (-1)))), some (18, false)⟩, ⟨(some 21), .pick (.t 18) (.c (.v (.bool true))) (.t 20), some (15, true)⟩, ⟨(some 22), .pick (.t 15) (.t 21) (.c (.v (.bool false))), none⟩, ⟨(some 4), .mv (.t 22), none⟩])
  .ret)))⟩
theorem a_leqc_ok : cFunc Try.prog 31 = some a_leqc := by kernel_rfl
def a_VectorLattice : AFunc := ⟨4, 168, [.tmp 8],
  (.seq (.region [⟨(some 8), .mv (.c (.v (.bool false))), none⟩])
  (.seq (.seq (.region [⟨(some 26), .call (.c (.fn 15 [])) [], none⟩, ⟨(some 27), .not (.t 26), none⟩])
  (.cond (.t 27) (.seq (.region [⟨(some 8), .mv (.c (.v (.bool false))), none⟩])
  .ret)
  .skip))
  (.seq (.seq (.region [⟨(some 28), .mv (.t 0), none⟩, ⟨(some 29), .mv (.t 1), none⟩, ⟨(some 30), .call (.c (.fn 29 [])) [(.t 28), (.t 29)], none⟩, ⟨(some 31), .not (.t 30), none⟩, ⟨(some 32), .mv (.t 31), none⟩, ⟨(some 33), .mv (.t 1), some (32, false)⟩, ⟨(some 34), .mv (.t 2), some (32, false)⟩, ⟨(some 35), .call (.c (.fn 29 [])) [(.t 33), (.t 34)], some (32, false)⟩, ⟨(some 36), .not (.t 35), some (32, false)⟩, ⟨(some 37), .pick (.t 32) (.c (.v (.bool true))) (.t 36), none⟩])
  (.cond (.t 37) (.seq (.region [⟨(some 8), .mv (.c (.v (.bool true))), none⟩])
  .ret)
  .skip))
  (.seq (.region [⟨(some 9), .mv (.c (.fn 31 [])), none⟩])
  (.seq (.region [⟨(some 39), .mv (.t 0), none⟩, ⟨(some 40), .mv (.t 1), none⟩, ⟨(some 41), .call (.c (.fn 33 [])) [(.t 39), (.t 40)], none⟩, ⟨(some 38), .mv (.t 41), none⟩, ⟨(some 42), .extract 0 (.t 38), none⟩, ⟨(some 43), .extract 1 (.t 38), none⟩, ⟨(some 10), .mv (.t 42), none⟩, ⟨(some 11), .mv (.t 43), none⟩])
  (.seq (.region [⟨(some 45), .mv (.t 1), none⟩, ⟨(some 46), .mv (.t 0), none⟩, ⟨(some 47), .call (.c (.fn 33 [])) [(.t 45), (.t 46)], none⟩, ⟨(some 44), .mv (.t 47), none⟩, ⟨(some 48), .extract 0 (.t 44), none⟩, ⟨(some 49), .extract 1 (.t 44), none⟩, ⟨(some 12), .mv (.t 48), none⟩, ⟨(some 13), .mv (.t 49), none⟩])
  (.seq (.region [⟨(some 51), .mv (.t 10), none⟩, ⟨(some 52), .mv (.t 2), none⟩, ⟨(some 53), .call (.c (.fn 33 [])) [(.t 51), (.t 52)], none⟩, ⟨(some 50), .mv (.t 53), none⟩, ⟨(some 54), .extract 0 (.t 50), none⟩, ⟨(some 55), .extract 1 (.t 50), none⟩, ⟨(some 14), .mv (.t 54), none⟩, ⟨(some 15), .mv (.t 55), none⟩])
  (.seq (.region [⟨(some 57), .mv (.t 1), none⟩, ⟨(some 58), .mv (.t 2), none⟩, ⟨(some 59), .call (.c (.fn 33 [])) [(.t 57), (.t 58)], none⟩, ⟨(some 56), .mv (.t 59), none⟩, ⟨(some 60), .extract 0 (.t 56), none⟩, ⟨(some 61), .extract 1 (.t 56), none⟩, ⟨(some 16), .mv (.t 60), none⟩, ⟨(some 17), .mv (.t 61), none⟩])
  (.seq (.region [⟨(some 63), .mv (.t 0), none⟩, ⟨(some 64), .mv (.t 16), none⟩, ⟨(some 65), .call (.c (.fn 33 [])) [(.t 63), (.t 64)], none⟩, ⟨(some 62), .mv (.t 65), none⟩, ⟨(some 66), .extract 0 (.t 62), none⟩, ⟨(some 67), .extract 1 (.t 62), none⟩, ⟨(some 18), .mv (.t 66), none⟩, ⟨(some 19), .mv (.t 67), none⟩])
  (.seq (.region [⟨(some 69), .mv (.t 0), none⟩, ⟨(some 70), .mv (.t 0), none⟩, ⟨(some 71), .call (.c (.fn 33 [])) [(.t 69), (.t 70)], none⟩, ⟨(some 68), .mv (.t 71), none⟩, ⟨(some 72), .extract 0 (.t 68), none⟩, ⟨(some 73), .extract 1 (.t 68), none⟩, ⟨(some 20), .mv (.t 72), none⟩, ⟨(some 21), .mv (.t 73), none⟩])
  (.seq (.seq (.region [⟨(some 74), .mv (.t 11), none⟩, ⟨(some 75), .bin .neq (.t 74) (.c (.v (.int .i64 0))), none⟩, ⟨(some 76), .mv (.t 75), none⟩, ⟨(some 77), .mv (.t 13), some (76, false)⟩, ⟨(some 78), .bin .neq (.t 77) (.c (.v (.int .i64 0))), some (76, false)⟩, ⟨(some 79), .pick (.t 76) (.c (.v (.bool true))) (.t 78), none⟩, ⟨(some 80), .mv (.t 79), none⟩, ⟨(some 81), .mv (.t 15), some (80, false)⟩, ⟨(some 82), .bin .neq (.t 81) (.c (.v (.int .i64 0))), some (80, false)⟩, ⟨(some 83), .pick (.t 80) (.c (.v (.bool true))) (.t 82), none⟩, ⟨(some 84), .mv (.t 83), none⟩, ⟨(some 85), .mv (.t 17), some (84, false)⟩, ⟨(some 86), .bin .neq (.t 85) (.c (.v (.int .i64 0))), some (84, false)⟩, ⟨(some 87), .pick (.t 84) (.c (.v (.bool true))) (.t 86), none⟩, ⟨(some 88), .mv (.t 87), none⟩, ⟨(some 89), .mv (.t 19), some (88, false)⟩, ⟨(some 90), .bin .neq (.t 89) (.c (.v (.int .i64 0))), some (88, false)⟩, ⟨(some 91), .pick (.t 88) (.c (.v (.bool true))) (.t 90), none⟩, ⟨(some 92), .mv (.t 91), none⟩, ⟨(some 93), .mv (.t 21), some (92, false)⟩, ⟨(some 94), .bin .neq (.t 93) (.c (.v (.int .i64 0))), some (92, false)⟩, ⟨(some 95), .pick (.t 92) (.c (.v (.bool true))) (.t 94), none⟩, ⟨(some 96), .mv (.t 95), none⟩, ⟨(some 97), .mv (.t 10), some (96, false)⟩, ⟨(some 98), .mv (.t 12), some (96, false)⟩, ⟨(some 99), .call (.c (.fn 26 [])) [(.t 97), (.t 98)], some (96, false)⟩, ⟨(some 100), .not (.t 99), some (96, false)⟩, ⟨(some 101), .pick (.t 96) (.c (.v (.bool true))) (.t 100), none⟩, ⟨(some 102), .mv (.t 101), none⟩, ⟨(some 103), .mv (.t 14), some (102, false)⟩, ⟨(some 104), .mv (.t 18), some (102, false)⟩, ⟨(some 105), .call (.c (.fn 26 [])) [(.t 103), (.t 104)], some (102, false)⟩, ⟨(some 106), .not (.t 105), some (102, false)⟩, ⟨(some 107), .pick (.t 102) (.c (.v (.bool true))) (.t 106), none⟩, ⟨(some 108), .mv (.t 107), none⟩, ⟨(some 109), .mv (.t 20), some (108, false)⟩, ⟨(some 110), .mv (.t 0), some (108, false)⟩, ⟨(some 111), .call (.c (.fn 26 [])) [(.t 109), (.t 110)], some (108, false)⟩, ⟨(some 112), .not (.t 111), some (108, false)⟩, ⟨(some 113), .pick (.t 108) (.c (.v (.bool true))) (.t 112), none⟩])
  (.cond (.t 113) (.seq (.region [⟨(some 8), .mv (.c (.v (.bool false))), none⟩])
  .ret)
  .skip))
  (.seq (.seq (.region [⟨(some 114), .mv (.t 9), none⟩, ⟨(some 115), .mv (.t 0), none⟩, ⟨(some 116), .mv (.t 10), none⟩, ⟨(some 117), .call (.t 114) [(.t 115), (.t 116)], none⟩, ⟨(some 118), .not (.t 117), none⟩, ⟨(some 119), .mv (.t 118), none⟩, ⟨(some 120), .mv (.t 9), some (119, false)⟩, ⟨(some 121), .mv (.t 1), some (119, false)⟩, ⟨(some 122), .mv (.t 10), some (119, false)⟩, ⟨(some 123), .call (.t 120) [(.t 121), (.t 122)], some (119, false)⟩, ⟨(some 124), .not (.t 123), some (119, false)⟩, ⟨(some 125), .pick (.t 119) (.c (.v (.bool true))) (.t 124), none⟩, ⟨(some 126), .mv (.t 125), none⟩, ⟨(some 127), .mv (.t 9), some (126, false)⟩, ⟨(some 128), .mv (.t 0), some (126, false)⟩, ⟨(some 129), .mv (.t 2), some (126, false)⟩, ⟨(some 130), .call (.t 127) [(.t 128), (.t 129)], some (126, false)⟩, ⟨(some 131), .mv (.t 130), some (126, false)⟩, ⟨(some 132), .mv (.t 9), some (131, true)⟩, ⟨(some 133), .mv (.t 1), some (131, true)⟩, ⟨(some 134), .mv (.t 2), some (131, true)⟩, ⟨(some 135), .call (.t 132) [(.t 133), (.t 134)], some (131, true)⟩, ⟨(some 136), .pick (.t 131) (.t 135) (.c (.v (.bool false))), some (126, false)⟩, ⟨(some 137), .mv (.t 136), some (126, false)⟩, ⟨(some 138), .mv (.t 9), some (137, true)⟩, ⟨(some 139), .mv (.t 10), some (137, true)⟩, ⟨(some 140), .mv (.t 2), some (137, true)⟩, ⟨(some 141), .call (.t 138) [(.t 139), (.t 140)], some (137, true)⟩, ⟨(some 142), .not (.t 141), some (137, true)⟩, ⟨(some 143), .pick (.t 137) (.t 142) (.c (.v (.bool false))), some (126, false)⟩, ⟨(some 144), .pick (.t 126) (.c (.v (.bool true))) (.t 143), none⟩])
  (.cond (.t 144) (.seq (.region [⟨(some 8), .mv (.c (.v (.bool false))), none⟩])
  .ret)
  .skip))
  (.seq (.region [⟨(some 146), .mv (.t 0), none⟩, ⟨(some 147), .mv (.t 3), none⟩, ⟨(some 148), .call (.c (.fn 34 [])) [(.t 146), (.t 147)], none⟩, ⟨(some 145), .mv (.t 148), none⟩, ⟨(some 149), .extract 0 (.t 145), none⟩, ⟨(some 150), .extract 1 (.t 145), none⟩, ⟨(some 22), .mv (.t 149), none⟩, ⟨(some 23), .mv (.t 150), none⟩])
  (.seq (.seq (.region [⟨(some 151), .mv (.t 23), none⟩, ⟨(some 152), .bin .neq (.t 151) (.c (.v (.int .i64 0))), none⟩])
  (.cond (.t 152) (.seq (.region [⟨(some 153), .mv (.t 22), none⟩, ⟨(some 154), .len (.t 153), none⟩, ⟨(some 155), .bin .eql (.t 154) (.c (.v (.int .i64 0))), none⟩, ⟨(some 8), .mv (.t 155), none⟩])
  .ret)
  .skip))
  (.seq (.region [⟨(some 157), .mv (.t 0), none⟩, ⟨(some 158), .mv (.t 22), none⟩, ⟨(some 159), .call (.c (.fn 32 [])) [(.t 157), (.t 158)], none⟩, ⟨(some 156), .mv (.t 159), none⟩, ⟨(some 160), .extract 0 (.t 156), none⟩, ⟨(some 161), .extract 1 (.t 156), none⟩, ⟨(some 24), .mv (.t 160), none⟩, ⟨(some 25), .mv (.t 161), none⟩])
  (.seq (.region [⟨(some 162), .mv (.t 25), none⟩, ⟨(some 163), .bin .eql (.t 162) (.c (.v (.int .i64 0))), none⟩, ⟨(some 164), .mv (.t 163), none⟩, ⟨(some 165), .mv (.t 24), some (164, true)⟩, ⟨(some 166), .bin .eql (.t 165) (.c (.v (.int .i64 (-1)))), some (164, true)⟩, ⟨(some 167), .pick (.t 164) (.t 166) (.c (.v (.bool false))), none⟩, ⟨(some 8), .mv (.t 167), none⟩])
  .ret))))))))))))))))⟩
theorem a_VectorLattice_ok : cFunc Try.prog 5 = some a_VectorLattice := by kernel_rfl

/-- A call whose contract says result and rows: the run goes on with them. -/
theorem ACalls.next {P : Program} {f : Nat} {args : List AV} {b l B' L' : List Row} {x : AV} {K : AV → List Row → List Row → Prop} (h : ACalls P f args b l (fun r b' l' => r = x ∧ b' = B' ∧ l' = L')) (k : K x B' L') : ACalls P f args b l K := by
  refine ACalls_mono _ _ _ _ _ _ h ?_
  rintro r b' l' ⟨rfl, rfl, rfl⟩
  exact k
theorem leqc_spec (v w : List Int) (hb : bothV v w = true) (b l : List Row) : ACalls Try.prog 31 [.v (.isl 1 (v.map eI)), .v (.isl 1 (w.map eI))] b l (fun r b' l' => r = .v (.bool (leqV v w)) ∧ b' = b ∧ l' = l) := by
  refine calls_kept a_leqc_ok rfl (by decide) ?_
  intro B g hB hR hE hA
  simp only [KArgs] at hA
  simp (disch := decide) only [a_leqc, hA, go_sem]
  refine ACalls_mono _ _ _ _ _ _ (compare_spec v w _ _) ?_
  rintro r b' l' ⟨rfl, rfl, rfl⟩
  have n1 : ((1 : Int) == 0) = false := rfl
  have n2 : ((1 : Int) == -1) = false := rfl
  have n3 : ((2 : Int) == 0) = false := rfl
  have n4 : ((2 : Int) == -1) = false := rfl
  have n5 : ((-1 : Int) == 0) = false := rfl
  cases q1 : leqV v w
  · cases q2 : leqV w v
    · simp only [cmpR, cmpV, hb, q1, q2, if_true, Bool.false_eq_true, if_false]
      simp (disch := (first | decide | omega)) only [hA, n1, n2, n3, n4, n5, go_sem]
      exact leave_pure (xs := [.v (.bool false)]) (.inr rfl) (by simp (disch := (first | decide | omega)) only [resVs, resV, go_sem, hA]) (by simp only [one, AVlt_v, AVlt_any, AVlt_sl, AVlt_ptr, AVlt_mp, AVlt_agg, AVlt_tup, AVlt_fn, RowsLt_nil, RowsLt_live, RowsLt_dead, List.mem_cons, List.not_mem_nil, List.forall_mem_cons, List.forall_mem_nil, or_false, false_or, forall_eq_or_imp, forall_eq, vs_lt, Nat.add_lt_add_iff_left, Nat.reduceLT, true_and, and_true, and_self, List.length_cons, List.length_nil, Nat.reduceAdd, Nat.zero_add, implies_true, false_imp_iff, lt_T, List.mem_map]) hR hB ⟨rfl, rfl, rfl⟩
    · simp only [cmpR, cmpV, hb, q1, q2, if_true, Bool.false_eq_true, if_false]
      simp (disch := (first | decide | omega)) only [hA, n1, n2, n3, n4, n5, go_sem]
      exact leave_pure (xs := [.v (.bool false)]) (.inr rfl) (by simp (disch := (first | decide | omega)) only [resVs, resV, go_sem, hA]) (by simp only [one, AVlt_v, AVlt_any, AVlt_sl, AVlt_ptr, AVlt_mp, AVlt_agg, AVlt_tup, AVlt_fn, RowsLt_nil, RowsLt_live, RowsLt_dead, List.mem_cons, List.not_mem_nil, List.forall_mem_cons, List.forall_mem_nil, or_false, false_or, forall_eq_or_imp, forall_eq, vs_lt, Nat.add_lt_add_iff_left, Nat.reduceLT, true_and, and_true, and_self, List.length_cons, List.length_nil, Nat.reduceAdd, Nat.zero_add, implies_true, false_imp_iff, lt_T, List.mem_map]) hR hB ⟨rfl, rfl, rfl⟩
  · cases q2 : leqV w v
    · simp only [cmpR, cmpV, hb, q1, q2, if_true, Bool.false_eq_true, if_false]
      simp (disch := (first | decide | omega)) only [hA, n1, n2, n3, n4, n5, go_sem]
      exact leave_pure (xs := [.v (.bool true)]) (.inr rfl) (by simp (disch := (first | decide | omega)) only [resVs, resV, go_sem, hA]) (by simp only [one, AVlt_v, AVlt_any, AVlt_sl, AVlt_ptr, AVlt_mp, AVlt_agg, AVlt_tup, AVlt_fn, RowsLt_nil, RowsLt_live, RowsLt_dead, List.mem_cons, List.not_mem_nil, List.forall_mem_cons, List.forall_mem_nil, or_false, false_or, forall_eq_or_imp, forall_eq, vs_lt, Nat.add_lt_add_iff_left, Nat.reduceLT, true_and, and_true, and_self, List.length_cons, List.length_nil, Nat.reduceAdd, Nat.zero_add, implies_true, false_imp_iff, lt_T, List.mem_map]) hR hB ⟨rfl, rfl, rfl⟩
    · simp only [cmpR, cmpV, hb, q1, q2, if_true, Bool.false_eq_true, if_false]
      simp (disch := (first | decide | omega)) only [hA, n1, n2, n3, n4, n5, go_sem]
      exact leave_pure (xs := [.v (.bool true)]) (.inr rfl) (by simp (disch := (first | decide | omega)) only [resVs, resV, go_sem, hA]) (by simp only [one, AVlt_v, AVlt_any, AVlt_sl, AVlt_ptr, AVlt_mp, AVlt_agg, AVlt_tup, AVlt_fn, RowsLt_nil, RowsLt_live, RowsLt_dead, List.mem_cons, List.not_mem_nil, List.forall_mem_cons, List.forall_mem_nil, or_false, false_or, forall_eq_or_imp, forall_eq, vs_lt, Nat.add_lt_add_iff_left, Nat.reduceLT, true_and, and_true, and_self, List.length_cons, List.length_nil, Nat.reduceAdd, Nat.zero_add, implies_true, false_imp_iff, lt_T, List.mem_map]) hR hB ⟨rfl, rfl, rfl⟩
set_option maxRecDepth 20000 in
set_option maxHeartbeats 1000000 in
theorem vectorLattice_run (u v w : List Int) (p : Int) (b l : List Row)
    (hw : ∀ b l, ACalls Try.prog 15 [] b l (fun r b' l' => r = .v (.bool true) ∧ b' = b ∧ l' = l)) :
    ACalls Try.prog 5 [.v (.isl 1 (u.map eI)), .v (.isl 1 (v.map eI)), .v (.isl 1 (w.map eI)), .v (.int .i64 p)] b l (fun r b' l' => r = .v (.bool true) ∧ b' = b ∧ l' = l) := by
  refine calls_kept a_VectorLattice_ok rfl (by decide) ?_
  intro B g hB hR hE hA
  simp only [KArgs] at hA
  simp (disch := decide) only [a_VectorLattice, hA, go_sem]
  refine ACalls.next (hw _ _) ?_
  simp (disch := decide) only [hA, go_sem]
  refine ACalls.next (rPair_spec u v _ _) ?_
  cases h1 : bothV u v
  · simp (disch := decide) only [hA, go_sem]
    exact leave_pure (xs := [.v (.bool true)]) (.inr rfl) (by simp (disch := (first | decide | omega)) only [resVs, resV, go_sem, hA]) (by simp only [one, AVlt_v, AVlt_any, AVlt_sl, AVlt_ptr, AVlt_mp, AVlt_agg, AVlt_tup, AVlt_fn, RowsLt_nil, RowsLt_live, RowsLt_dead, List.mem_cons, List.not_mem_nil, List.forall_mem_cons, List.forall_mem_nil, or_false, false_or, forall_eq_or_imp, forall_eq, vs_lt, Nat.add_lt_add_iff_left, Nat.reduceLT, true_and, and_true, and_self, List.length_cons, List.length_nil, Nat.reduceAdd, Nat.zero_add, implies_true, false_imp_iff, lt_T, List.mem_map]) hR hB ⟨rfl, rfl, rfl⟩
  simp (disch := decide) only [hA, go_sem]
  refine ACalls.next (rPair_spec v w _ _) ?_
  cases h2 : bothV v w
  · simp (disch := decide) only [hA, go_sem]
    exact leave_pure (xs := [.v (.bool true)]) (.inr rfl) (by simp (disch := (first | decide | omega)) only [resVs, resV, go_sem, hA]) (by simp only [one, AVlt_v, AVlt_any, AVlt_sl, AVlt_ptr, AVlt_mp, AVlt_agg, AVlt_tup, AVlt_fn, RowsLt_nil, RowsLt_live, RowsLt_dead, List.mem_cons, List.not_mem_nil, List.forall_mem_cons, List.forall_mem_nil, or_false, false_or, forall_eq_or_imp, forall_eq, vs_lt, Nat.add_lt_add_iff_left, Nat.reduceLT, true_and, and_true, and_self, List.length_cons, List.length_nil, Nat.reduceAdd, Nat.zero_add, implies_true, false_imp_iff, lt_T, List.mem_map]) hR hB ⟨rfl, rfl, rfl⟩
  simp (disch := decide) only [hA, go_sem]
  obtain ⟨u1, u2, u3⟩ := bothV_open h1
  obtain ⟨v1, v2, v3⟩ := bothV_open h2
  have vu : bothV v u = true := bothV_mk u2 u1 u3.symm
  have uu : bothV u u = true := bothV_mk u1 u1 rfl
  have ux := isV_join h1
  have lx := joinV_len u3
  have xw : bothV (joinV u v) w = true := bothV_mk ux v2 (by omega)
  have vx := isV_join h2
  have lv := joinV_len v3
  have uvw : bothV u (joinV v w) = true := bothV_mk u1 vx (by omega)
  have hux : bothV u (joinV u v) = true := bothV_mk u1 ux (by omega)
  have hvx : bothV v (joinV u v) = true := bothV_mk u2 ux (by omega)
  have uw : bothV u w = true := bothV_mk u1 v2 (by omega)
  have nes : ∀ n : Int, (n != n) = false := by intro n; simp
  have beqs : ∀ n : Int, (n == n) = true := by intro n; simp
  have len8 : ∀ x, isV x = true → x.length ≤ 1000000 := fun x hx => by have := (isV_open hx).2.1; omega
  refine ACalls.next (join_spec u v h1 _ _) ?_
  simp (disch := decide) only [hA, go_sem]
  refine ACalls.next (join_spec v u vu _ _) ?_
  simp (disch := decide) only [hA, go_sem]
  refine ACalls.next (join_spec (joinV u v) w xw _ _) ?_
  simp (disch := decide) only [hA, go_sem]
  refine ACalls.next (join_spec v w h2 _ _) ?_
  simp (disch := decide) only [hA, go_sem]
  refine ACalls.next (join_spec u (joinV v w) uvw _ _) ?_
  simp (disch := decide) only [hA, go_sem]
  refine ACalls.next (join_spec u u uu _ _) ?_
  simp (disch := decide) only [hA, nes, go_sem]
  refine ACalls.next (eq1_spec (joinV u v) (joinV v u) (len8 _ ux) _ _) ?_
  rw [decide_eq_true (joinV_comm u3)]
  simp (disch := decide) only [hA, go_sem]
  have lj := joinV_len (show (joinV u v).length = w.length by omega)
  refine ACalls.next (eq1_spec (joinV (joinV u v) w) (joinV u (joinV v w)) (len8 _ (isV_join xw)) _ _) ?_
  rw [decide_eq_true (joinV_assoc u3 v3)]
  simp (disch := decide) only [hA, go_sem]
  refine ACalls.next (eq1_spec (joinV u u) u (len8 _ (isV_join uu)) _ _) ?_
  rw [decide_eq_true (joinV_self (v := u))]
  simp (disch := decide) only [hA, go_sem]
  refine ACalls.next (leqc_spec u (joinV u v) hux _ _) ?_
  rw [leqV_join_left u3]
  simp (disch := decide) only [hA, go_sem]
  refine ACalls.next (leqc_spec v (joinV u v) hvx _ _) ?_
  rw [leqV_join_right u3]
  simp (disch := decide) only [hA, go_sem]
  refine ACalls.next (leqc_spec u w uw _ _) ?_
  have fin : ∀ e : AV, True := fun _ => trivial
  have tail : ∀ (q : Bool), q = true ∨ q = false := fun q => by cases q <;> simp
  cases q1 : leqV u w
  · simp (disch := decide) only [hA, go_sem]
    refine ACalls.next (tick_spec u p _ _) ?_
    by_cases ht : tickE u p = 0
    · simp only [tickR, if_pos ht]
      simp (disch := decide) only [hA, nes, go_sem]
      refine ACalls.next (compare_spec u (tickL u p.toNat) _ _) ?_
      have hb : bothV u (tickL u p.toNat) = true := bothV_mk u1 (isV_tick ht) tickL_len.symm
      simp only [cmpR, hb, cmp_tick ht, if_true]
      simp (disch := decide) only [hA, beqs, go_sem]
      exact leave_pure (xs := [.v (.bool true)]) (.inr rfl) (by simp (disch := (first | decide | omega)) only [resVs, resV, go_sem, hA]) (by simp only [one, AVlt_v, AVlt_any, AVlt_sl, AVlt_ptr, AVlt_mp, AVlt_agg, AVlt_tup, AVlt_fn, RowsLt_nil, RowsLt_live, RowsLt_dead, List.mem_cons, List.not_mem_nil, List.forall_mem_cons, List.forall_mem_nil, or_false, false_or, forall_eq_or_imp, forall_eq, vs_lt, Nat.add_lt_add_iff_left, Nat.reduceLT, true_and, and_true, and_self, List.length_cons, List.length_nil, Nat.reduceAdd, Nat.zero_add, implies_true, false_imp_iff, lt_T, List.mem_map]) hR hB ⟨rfl, rfl, rfl⟩
    · have hne : (tickE u p != 0) = true := by simp [ht]
      simp only [tickR, if_neg ht]
      simp (disch := decide) only [hA, hne, go_sem]
      exact leave_pure (xs := [.v (.bool true)]) (.inr rfl) (by simp (disch := (first | decide | omega)) only [resVs, resV, go_sem, hA]) (by simp only [one, AVlt_v, AVlt_any, AVlt_sl, AVlt_ptr, AVlt_mp, AVlt_agg, AVlt_tup, AVlt_fn, RowsLt_nil, RowsLt_live, RowsLt_dead, List.mem_cons, List.not_mem_nil, List.forall_mem_cons, List.forall_mem_nil, or_false, false_or, forall_eq_or_imp, forall_eq, vs_lt, Nat.add_lt_add_iff_left, Nat.reduceLT, true_and, and_true, and_self, List.length_cons, List.length_nil, Nat.reduceAdd, Nat.zero_add, implies_true, false_imp_iff, lt_T, List.mem_map]) hR hB ⟨rfl, rfl, rfl⟩
  · simp (disch := decide) only [hA, go_sem]
    refine ACalls.next (leqc_spec v w h2 _ _) ?_
    cases q2 : leqV v w
    · simp (disch := decide) only [hA, go_sem]
      refine ACalls.next (tick_spec u p _ _) ?_
      by_cases ht : tickE u p = 0
      · simp only [tickR, if_pos ht]
        simp (disch := decide) only [hA, nes, go_sem]
        refine ACalls.next (compare_spec u (tickL u p.toNat) _ _) ?_
        have hb : bothV u (tickL u p.toNat) = true := bothV_mk u1 (isV_tick ht) tickL_len.symm
        simp only [cmpR, hb, cmp_tick ht, if_true]
        simp (disch := decide) only [hA, beqs, go_sem]
        exact leave_pure (xs := [.v (.bool true)]) (.inr rfl) (by simp (disch := (first | decide | omega)) only [resVs, resV, go_sem, hA]) (by simp only [one, AVlt_v, AVlt_any, AVlt_sl, AVlt_ptr, AVlt_mp, AVlt_agg, AVlt_tup, AVlt_fn, RowsLt_nil, RowsLt_live, RowsLt_dead, List.mem_cons, List.not_mem_nil, List.forall_mem_cons, List.forall_mem_nil, or_false, false_or, forall_eq_or_imp, forall_eq, vs_lt, Nat.add_lt_add_iff_left, Nat.reduceLT, true_and, and_true, and_self, List.length_cons, List.length_nil, Nat.reduceAdd, Nat.zero_add, implies_true, false_imp_iff, lt_T, List.mem_map]) hR hB ⟨rfl, rfl, rfl⟩
      · have hne : (tickE u p != 0) = true := by simp [ht]
        simp only [tickR, if_neg ht]
        simp (disch := decide) only [hA, hne, go_sem]
        exact leave_pure (xs := [.v (.bool true)]) (.inr rfl) (by simp (disch := (first | decide | omega)) only [resVs, resV, go_sem, hA]) (by simp only [one, AVlt_v, AVlt_any, AVlt_sl, AVlt_ptr, AVlt_mp, AVlt_agg, AVlt_tup, AVlt_fn, RowsLt_nil, RowsLt_live, RowsLt_dead, List.mem_cons, List.not_mem_nil, List.forall_mem_cons, List.forall_mem_nil, or_false, false_or, forall_eq_or_imp, forall_eq, vs_lt, Nat.add_lt_add_iff_left, Nat.reduceLT, true_and, and_true, and_self, List.length_cons, List.length_nil, Nat.reduceAdd, Nat.zero_add, implies_true, false_imp_iff, lt_T, List.mem_map]) hR hB ⟨rfl, rfl, rfl⟩
    · simp (disch := decide) only [hA, go_sem]
      refine ACalls.next (leqc_spec (joinV u v) w xw _ _) ?_
      rw [leqV_join_least u3 q1 q2]
      simp (disch := decide) only [hA, go_sem]
      refine ACalls.next (tick_spec u p _ _) ?_
      by_cases ht : tickE u p = 0
      · simp only [tickR, if_pos ht]
        simp (disch := decide) only [hA, nes, go_sem]
        refine ACalls.next (compare_spec u (tickL u p.toNat) _ _) ?_
        have hb : bothV u (tickL u p.toNat) = true := bothV_mk u1 (isV_tick ht) tickL_len.symm
        simp only [cmpR, hb, cmp_tick ht, if_true]
        simp (disch := decide) only [hA, beqs, go_sem]
        exact leave_pure (xs := [.v (.bool true)]) (.inr rfl) (by simp (disch := (first | decide | omega)) only [resVs, resV, go_sem, hA]) (by simp only [one, AVlt_v, AVlt_any, AVlt_sl, AVlt_ptr, AVlt_mp, AVlt_agg, AVlt_tup, AVlt_fn, RowsLt_nil, RowsLt_live, RowsLt_dead, List.mem_cons, List.not_mem_nil, List.forall_mem_cons, List.forall_mem_nil, or_false, false_or, forall_eq_or_imp, forall_eq, vs_lt, Nat.add_lt_add_iff_left, Nat.reduceLT, true_and, and_true, and_self, List.length_cons, List.length_nil, Nat.reduceAdd, Nat.zero_add, implies_true, false_imp_iff, lt_T, List.mem_map]) hR hB ⟨rfl, rfl, rfl⟩
      · have hne : (tickE u p != 0) = true := by simp [ht]
        simp only [tickR, if_neg ht]
        simp (disch := decide) only [hA, hne, go_sem]
        exact leave_pure (xs := [.v (.bool true)]) (.inr rfl) (by simp (disch := (first | decide | omega)) only [resVs, resV, go_sem, hA]) (by simp only [one, AVlt_v, AVlt_any, AVlt_sl, AVlt_ptr, AVlt_mp, AVlt_agg, AVlt_tup, AVlt_fn, RowsLt_nil, RowsLt_live, RowsLt_dead, List.mem_cons, List.not_mem_nil, List.forall_mem_cons, List.forall_mem_nil, or_false, false_or, forall_eq_or_imp, forall_eq, vs_lt, Nat.add_lt_add_iff_left, Nat.reduceLT, true_and, and_true, and_self, List.length_cons, List.length_nil, Nat.reduceAdd, Nat.zero_add, implies_true, false_imp_iff, lt_T, List.mem_map]) hR hB ⟨rfl, rfl, rfl⟩
end Go.Proofs.Ytiiflkcebikecaa

/- Concrete runs of abstract programs, computed; what is computed is what the model does. No condition. -/
namespace Go.Proofs.Ytiiflkcebikecaa
set_option linter.unusedVariables false

/-! Equality of values. -/
def eqL {α : Type} (f : α → α → Bool) : List α → List α → Bool
  | [], [] => true
  | a :: az, c :: cs => f a c && eqL f az cs
  | _, _ => false
theorem eqL_eq {α : Type} {f : α → α → Bool} (hf : ∀ a c, f a c = true → a = c) : ∀ {az cs : List α}, eqL f az cs = true → az = cs
  | [], [], _ => rfl
  | a :: az, c :: cs, h => by
    simp only [eqL, Bool.and_eq_true] at h
    rw [hf a c h.1, eqL_eq hf h.2]
  | [], _ :: _, h => by simp [eqL] at h
  | _ :: _, [], h => by simp [eqL] at h
def eqI : Nat → IV → IV → Bool
  | 0, _, _ => false
  | n + 1, x, y => match x, y with
    | .int k a, .int k' c => decide (k = k') && decide (a = c)
    | .bool a, .bool c => decide (a = c)
    | .str a, .str c => decide (a = c)
    | .zsl, .zsl => true
    | .isl s r, .isl s' r' => decide (s = s') && eqL (eqL (eqI n)) r r'
    | .iptr r j, .iptr r' j' => decide (j = j') && eqL (eqI n) r r'
    | .nilp, .nilp => true
    | .nilm, .nilm => true
    | .nilf, .nilf => true
    | _, _ => false
theorem eqI_eq : ∀ (n : Nat) (x y : IV), eqI n x y = true → x = y
  | 0, _, _, h => by simp [eqI] at h
  | n + 1, x, y, h => by
    have ih := eqI_eq n
    unfold eqI at h
    split at h <;> (try simp only [Bool.and_eq_true, decide_eq_true_eq, Bool.false_eq_true] at h)
    · rw [h.1, h.2]
    · rw [h]
    · rw [h]
    · rfl
    · rw [h.1, eqL_eq (fun a c hac => eqL_eq ih hac) h.2]
    · rw [h.1, eqL_eq ih h.2]
    · rfl
    · rfl
    · rfl
def eqA : Nat → AV → AV → Bool
  | 0, _, _ => false
  | n + 1, x, y => match x, y with
    | .any, .any => true
    | .v a, .v c => eqI n a c
    | .agg a, .agg c => eqL (eqA n) a c
    | .tup a, .tup c => eqL (eqA n) a c
    | .sl a b c d, .sl a' b' c' d' => decide (a = a') && decide (b = b') && decide (c = c') && decide (d = d')
    | .ptr a b c d, .ptr a' b' c' d' => decide (a = a') && decide (b = b') && decide (c = c') && decide (d = d')
    | .fn a c, .fn a' c' => decide (a = a') && eqL (eqA n) c c'
    | .mp a b, .mp a' b' => decide (a = a') && decide (b = b')
    | _, _ => false
theorem eqA_eq : ∀ (n : Nat) (x y : AV), eqA n x y = true → x = y
  | 0, _, _, h => by simp [eqA] at h
  | n + 1, x, y, h => by
    have ih := eqA_eq n
    unfold eqA at h
    split at h <;> (try simp only [Bool.and_eq_true, decide_eq_true_eq, Bool.false_eq_true] at h)
    · rfl
    · rw [eqI_eq n _ _ h]
    · rw [eqL_eq ih h]
    · rw [eqL_eq ih h]
    · rw [h.1.1.1, h.1.1.2, h.1.2, h.2]
    · rw [h.1.1.1, h.1.1.2, h.1.2, h.2]
    · rw [h.1, eqL_eq ih h.2]
    · rw [h.1, h.2]

/-- Every reference lies below row m. -/
def ltB (m : Nat) : Nat → AV → Bool
  | 0, _ => false
  | n + 1, x => match x with
    | .any => true
    | .v _ => true
    | .agg cs => cs.all (ltB m n)
    | .tup cs => cs.all (ltB m n)
    | .sl id _ _ _ => decide (id < m)
    | .ptr id _ _ _ => decide (id < m)
    | .fn _ cs => cs.all (ltB m n)
    | .mp id _ => decide (id < m)
theorem ltB_ok {m : Nat} : ∀ (n : Nat) (x : AV), ltB m n x = true → AVlt m x
  | 0, _, h => by simp [ltB] at h
  | n + 1, x, h => by
    have ih := ltB_ok (m := m) n
    unfold ltB at h
    split at h <;> (try simp only [decide_eq_true_eq, List.all_eq_true] at h)
    · exact .any
    · exact .v _
    · exact .agg _ (fun c hc => ih c (h c hc))
    · exact .tup _ (fun c hc => ih c (h c hc))
    · exact .sl _ _ _ _ h
    · exact .ptr _ _ _ _ h
    · exact .fn _ _ (fun c hc => ih c (h c hc))
    · exact .mp _ _ h

/-! Steps. -/
inductive XR where
  | bad
  | ok (ex : AExit) (e : List AV) (b l : List Row) (t : Bool)
inductive XV where
  | bad
  | ok (y : AV) (b l : List Row) (t : Bool)

/-- Whether an operation may write below row m. -/
def wrB (e : List AV) (m : Nat) : AOp → Bool
  | .store _ x _ => match ev e x with
    | .ptr id _ _ _ => decide (id < m)
    | _ => true
  | .append _ _ s _ => match ev e s with
    | .sl id _ _ _ => decide (id < m)
    | _ => false
  | .copy _ x _ => match ev e x with
    | .sl id _ _ _ => decide (id < m)
    | _ => true
  | .alloc _ => false
  | .box _ => false
  | .bslice .. => false
  | .mkslice .. => false
  | .call .. => true
  | .isnil .. => true
  | .mkmap => false
  | .mupdate _ x _ _ => match ev e x with
    | .mp id _ => decide (id < m)
    | _ => true
  | _ => false

theorem hsetB_same {b : List Row} {id : Nat} {r : Row} (h : decide (id < b.length) = false) : hsetB b id r = b := by
  unfold hsetB
  rw [if_neg (by simpa using h)]

theorem wrB_ok {e : List AV} {b l : List Row} {op : AOp} {x : AV} {b' l' : List Row} (h : aop e b l op = .val x b' l') (hw : wrB e b.length op = false) : b' = b := by
  by_cases hq : op.quiet = true
  · exact (quiet_keeps hq h).1
  · cases op <;> simp only [AOp.quiet, not_true_eq_false] at hq
    case alloc zs => simp only [aop, mk, OpR.val.injEq] at h; exact h.2.1.symm
    case box x =>
      simp only [aop] at h
      split at h
      · split at h
        · simp only [mk, OpR.val.injEq] at h; exact h.2.1.symm
        · cases h
      · cases h
    case bslice =>
      simp only [aop] at h
      split at h
      · simp only [mk, OpR.val.injEq] at h; exact h.2.1.symm
      · cases h
    case store n x y =>
      simp only [aop, astore] at h
      simp only [wrB] at hw
      split at h
      · rename_i hx _
        rw [hx] at hw
        split at h
        · split at h
          · split at h
            · split at h
              · cases h; exact hsetB_same hw
              · cases h
            · cases h
          · cases h
        · cases h
      · cases h
    case append sz bytes s x =>
      simp only [aop, aappend] at h
      simp only [wrB] at hw
      split at h
      · cases h
      · split at h
        · split at h
          · cases h; rfl
          · split at h
            · simp only [mk, OpR.val.injEq] at h; exact h.2.1.symm
            · cases h
        · rename_i hs
          rw [hs] at hw
          split at h
          · split at h
            · cases h; exact hsetB_same hw
            · cases h
          · cases h
        · cases h
    case mkslice =>
      simp only [aop] at h
      split at h
      · split at h
        · simp only [mk, OpR.val.injEq] at h; exact h.2.1.symm
        · cases h
      · cases h
    case call f args => simp [wrB] at hw
    case copy sz x y =>
      simp only [aop, acopy] at h
      simp only [wrB] at hw
      split at h
      · cases h
      · split at h
        · rename_i hs
          rw [hs] at hw
          split at h
          · split at h
            · cases h; exact hsetB_same hw
            · cases h
          · cases h
        · cases h
    case isnil => simp [wrB] at hw
    case mkmap => simp only [aop, mk, OpR.val.injEq] at h; exact h.2.1.symm
    case mupdate kk m x y =>
      simp only [aop, amupdate] at h
      simp only [wrB] at hw
      split at h
      case isFalse => cases h
      split at h
      · rename_i hx
        rw [hx] at hw
        split at h
        · split at h
          · split at h
            · cases h; exact hsetB_same hw
            · cases h
          · cases h
        · cases h
      · cases h

abbrev XCall := Nat → List AV → List Row → List Row → XV

def xops (call : XCall) : List AOper → List AV → List Row → List Row → Bool → XR
  | [], e, b, l, t => .ok .normal e b l t
  | o :: os, e, b, l, t => match gd e o.guard with
    | some true => match aop e b l o.op with
      | .val x b' l' => xops call os (put e o.dst x) b' l' (t || wrB e b.length o.op)
      | .two c x y => if c = true then .bad else xops call os (put e o.dst y) b l t
      | .call f args => match call f args b l with
        | .ok y b' l' t' => xops call os (put e o.dst y) b' l' (t || t')
        | .bad => .bad
      | .bad => .bad
    | some false => xops call os (put e o.dst (.tup [])) b l t
    | none => .bad

def rechkB (e : List AV) (b l : List Row) (r : AOper) : Bool := match gd e r.guard with
  | some true => match aop e b l r.op with
    | .val v _ _ => r.op.quiet && (match r.dst with
      | some d => eqA 40 (nth e d) v || decide (e.length ≤ d)
      | none => true)
    | _ => false
  | some false => true
  | none => false
theorem rechkB_ok {e : List AV} {b l : List Row} {r : AOper} (h : rechkB e b l r = true) : rechk e b l r := by
  unfold rechkB at h
  unfold rechk gcase
  split at h
  · rename_i hg
    rw [hg]
    simp only [if_true]
    split at h
    · rename_i v b' l' ha
      simp only [Bool.and_eq_true] at h
      obtain ⟨k1, k2⟩ := quiet_keeps h.1 ha
      subst k1; subst k2
      refine ⟨v, ha, ?_⟩
      cases hd : r.dst with
      | none => trivial
      | some d =>
        have h2 := h.2
        rw [hd] at h2
        simp only [Bool.or_eq_true, decide_eq_true_eq] at h2
        exact h2.imp (fun h => eqA_eq _ _ _ h) id
    · cases h
  · rename_i hg; rw [hg]; simp
  · cases h
theorem rechksB_ok {e : List AV} {b l : List Row} : ∀ {rs : List AOper}, rs.all (rechkB e b l) = true → rechks e b l rs
  | [], _ => trivial
  | r :: rs, h => by
    simp only [List.all_cons, Bool.and_eq_true] at h
    exact ⟨rechkB_ok h.1, rechksB_ok h.2⟩

def xdraw (call : XCall) : List DOper → List AV → List Row → List Row → Bool → XR
  | [], e, b, l, t => .ok .normal e b l t
  | d :: ds, e, b, l, t => match gd e d.o.guard with
    | some true => match aop e b l d.o.op with
      | .val x b' l' => if d.re.all (rechkB e b' l') = true then xdraw call ds (put e d.o.dst x) b' l' (t || wrB e b.length d.o.op) else .bad
      | .two c x y => .bad
      | .call f args => match call f args b l with
        | .ok y b' l' t' => if d.re.all (rechkB e b' l') = true then xdraw call ds (put e d.o.dst y) b' l' (t || t') else .bad
        | .bad => .bad
      | .bad => .bad
    | some false => xdraw call ds (put e d.o.dst (.tup [])) b l t
    | none => .bad

/-! Results that are handed out as values. -/
def unV : AV → Option IV
  | .v x => some x
  | _ => none
def mapO {α β : Type} (f : α → Option β) : List α → Option (List β)
  | [] => some []
  | a :: az => match f a, mapO f az with
    | some x, some xs => some (x :: xs)
    | _, _ => none
theorem unV_row : ∀ {row : List AV} {r : List IV}, mapO unV row = some r → row = r.map .v
  | [], r, h => by simp [mapO] at h; subst h; rfl
  | a :: row, r, h => by
    unfold mapO at h
    split at h
    · rename_i x xs h1 h2
      cases h
      cases a <;> simp [unV] at h1
      subst h1
      rw [unV_row h2]; rfl
    · cases h
theorem unV_els : ∀ {els : List (List AV)} {rows : List (List IV)}, mapO (mapO unV) els = some rows → els = vs rows
  | [], r, h => by simp [mapO] at h; subst h; rfl
  | a :: row, r, h => by
    unfold mapO at h
    split at h
    · rename_i x xs h1 h2
      cases h
      rw [unV_row h1, unV_els h2]; rfl
    · cases h

/-- All of a value turned. -/
def deep (g : AV → AV) : Nat → AV → AV
  | 0, x => x
  | n + 1, x => match x with
    | .agg cs => .agg (cs.map (deep g n))
    | .tup cs => .tup (cs.map (deep g n))
    | x => g x
theorem deep_rep {w : World} {F : Nat → Prop} {L : LMap} {g : AV → AV} (hg : ∀ (x : AV) (v : Value), RepA w F L x v → RepA w F L (g x) v) : ∀ (n : Nat) (x : AV) (v : Value), RepA w F L x v → RepA w F L (deep g n x) v
  | 0, x, v, h => h
  | n + 1, x, v, h => by
    have ih := deep_rep hg n
    unfold deep
    have hl : ∀ {cs : List AV} {vs : List Value}, RepL w F L cs vs → RepL w F L (cs.map (deep g n)) vs := by
      intro cs vs h
      refine ⟨by simpa using h.1, fun j x v hx hv => ?_⟩
      rw [List.getElem?_map] at hx
      cases hq : cs[j]? with
      | none => simp [hq] at hx
      | some y => simp [hq] at hx; subst hx; exact ih y v (h.2 j y v hq hv)
    split
    · obtain ⟨vs, rfl, h2⟩ := h.aggL
      exact RepL.agg (hl h2)
    · obtain ⟨vs, rfl, h2⟩ := h.tupL
      exact RepL.tup (hl h2)
    · exact hg x v h

theorem Weak.freezeDeep {y : AV} {b l : List Row} {i ver sz : Nat} {rows : List (List IV)} (n : Nat) (hi : l[i]? = some (.live ver sz (vs rows))) :
    Weak [y] b l [deep (frz0 (b.length + i) ver sz rows) n y] b ((l.set i (.dead ver)).map (rowMap (frz0 (b.length + i) ver sz rows))) := by
  intro F L w a s hea
  obtain ⟨F', h1, h2, h3, h4⟩ := freeze_core hi F L w a s hea
  obtain ⟨s2, own⟩ := h1.mapRows h4 (fun x hx => frz0_cell x hx)
  refine ⟨F', L, s2, ⟨h2.1, by simpa using hea.2.1, fun j x v hx hv => ?_⟩, ⟨h3.imm, h3.loc, h3.os, h3.tape, h3.output, h3.size, h3.block, fun k hk ho => h3.own k hk (own k ho), fun id hid v hv => ?_, h3.fnew⟩, rfl⟩
  · cases j with
    | zero =>
      simp at hx; subst hx
      exact deep_rep h4 n y v ((hea.2.2 0 y v rfl hv).mono h3.imm (fun _ _ => rfl) (fun _ _ _ h => h))
    | succ j => simp at hx
  · have := h3.base id hid v hv
    rw [List.getElem?_append_left hid] at this ⊢
    exact this

/-- The rows of the call's own that hold plain values are frozen, in this order. -/
def frzRows (nb : Nat) : List Nat → AV → List Row → AV × List Row
  | [], y, l => (y, l)
  | i :: is, y, l => match l[i]? with
    | some (.live ver sz els) => match mapO (mapO unV) els with
      | some rows => frzRows nb is (deep (frz0 (nb + i) ver sz rows) 6 y) ((l.set i (.dead ver)).map (rowMap (frz0 (nb + i) ver sz rows)))
      | none => frzRows nb is y l
    | _ => frzRows nb is y l
theorem frzRows_ok {b : List Row} : ∀ (is : List Nat) (y : AV) (l : List Row), Weak [y] b l [(frzRows b.length is y l).1] b (frzRows b.length is y l).2
  | [], y, l => Weak.refl _ _ _
  | i :: is, y, l => by
    unfold frzRows
    split
    · rename_i ver sz els hi
      split
      · rename_i rows hr
        have := unV_els hr
        subst this
        exact (Weak.freezeDeep 6 hi).trans (frzRows_ok is _ _)
      · exact frzRows_ok is _ _
    · exact frzRows_ok is _ _
def times {α : Type} : Nat → List α → List α
  | 0, _ => []
  | n + 1, l => l ++ times n l

/-- What a function leaves: z, how often its rows are gone through to be frozen. -/
def fin (z : Nat) (b l : List Row) (y : AV) (B l' : List Row) (t : Bool) : XV :=
  let p := frzRows (b.length + l.length) (times z (List.range l'.length).reverse) y l'
  if t = false ∧ ltB (b.length + l.length) 20 p.1 = true then .ok p.1 b l false
  else if B.length = b.length + l.length then .ok p.1 (B.take b.length) (B.drop b.length ++ p.2) t else .bad

section
variable (T : Nat → Option AFunc) (O : Nat → List AV → Option AV) (Z : Nat → Nat)
def xcall (ex : ACode → List AV → List Row → List Row → Bool → XR) : XCall := fun f args b l => match O f args with
  | some y => .ok y b l false
  | none => match T f with
    | some af => if args.length = af.nargs then
        match ex af.body (args ++ List.replicate (af.ntmps - args.length) (.tup [])) (b ++ l) [] false with
        | .ok (.exit _) _ _ _ _ => .bad
        | .ok _ e B l' t => match resVs e B l' af.res with
          | some xs => fin (Z f) b l (one xs) B l' t
          | none => .bad
        | .bad => .bad
      else .bad
    | none => .bad
def execS (ex : ACode → List AV → List Row → List Row → Bool → XR) : ACode → List AV → List Row → List Row → Bool → XR
  | .skip, e, b, l, t => .ok .normal e b l t
  | .region ops, e, b, l, t => xops (xcall T O Z ex) ops e b l t
  | .draw ds, e, b, l, t => xdraw (xcall T O Z ex) ds e b l t
  | .seq x y, e, b, l, t => match ex x e b l t with
    | .ok .normal e b l t => ex y e b l t
    | r => r
  | .cond c x y, e, b, l, t => match ev e c with
    | .v (.bool true) => ex x e b l t
    | .v (.bool false) => ex y e b l t
    | _ => .bad
  | .block id c, e, b, l, t => match ex c e b l t with
    | .ok (.exit i) e b l t => if i = id then .ok .normal e b l t else .ok (.exit i) e b l t
    | r => r
  | .loop c, e, b, l, t => match ex c e b l t with
    | .ok .normal e b l t => ex (.loop c) e b l t
    | r => r
  | .exit i, e, b, l, t => .ok (.exit i) e b l t
  | .ret, e, b, l, t => .ok .ret e b l t
def exec : Nat → ACode → List AV → List Row → List Row → Bool → XR
  | 0 => fun _ _ _ _ _ => .bad
  | n + 1 => execS T O Z (exec n)
end

/-! What is computed is what a run does. -/
section
variable {P : Program} {T : Nat → Option AFunc} {O : Nat → List AV → Option AV} {Z : Nat → Nat}

def XCallOk (P : Program) (call : XCall) : Prop := ∀ f args b l y b' l' t, call f args b l = .ok y b' l' t → (t = false → b' = b) ∧ ACalls P f args b l (fun x b1 l1 => x = y ∧ b1 = b' ∧ l1 = l')
def CodeOk (P : Program) (ex : ACode → List AV → List Row → List Row → Bool → XR) : Prop := ∀ c e b l t x e' b' l' t', ex c e b l t = .ok x e' b' l' t' → (t' = false → t = false ∧ b' = b) ∧ ∀ Q : AExit → List AV → List Row → List Row → Prop, Q x e' b' l' → run (ACalls P) Weak c e b l Q

theorem xops_ok {call : XCall} (hc : XCallOk P call) : ∀ (os : List AOper) (e : List AV) (b l : List Row) (t : Bool) (x : AExit) (e' : List AV) (b' l' : List Row) (t' : Bool), xops call os e b l t = .ok x e' b' l' t' →
    x = .normal ∧ (t' = false → t = false ∧ b' = b) ∧ ∀ K : List AV → List Row → List Row → Prop, K e' b' l' → runOps (ACalls P) os e b l K
  | [], e, b, l, t, x, e', b', l', t', h => by
    simp only [xops, XR.ok.injEq] at h
    obtain ⟨rfl, rfl, rfl, rfl, rfl⟩ := h
    exact ⟨rfl, fun h => ⟨h, rfl⟩, fun K hK => hK⟩
  | o :: os, e, b, l, t, x, e', b', l', t', h => by
    unfold xops at h
    simp only [runOps]
    unfold gcase
    split at h
    · rename_i hg
      rw [hg]
      simp only [if_true]
      split at h
      · rename_i v b1 l1 ha
        rw [ha]
        obtain ⟨k1, k2, k3⟩ := xops_ok hc os _ _ _ _ _ _ _ _ _ h
        refine ⟨k1, fun ht => ?_, fun K hK => k3 K hK⟩
        obtain ⟨h1, h2⟩ := k2 ht
        simp only [Bool.or_eq_false_iff] at h1
        exact ⟨h1.1, by rw [h2, wrB_ok ha h1.2]⟩
      · rename_i c v y ha
        rw [ha]
        split at h
        · cases h
        · rename_i hcf
          obtain ⟨k1, k2, k3⟩ := xops_ok hc os _ _ _ _ _ _ _ _ _ h
          exact ⟨k1, k2, fun K hK => ⟨fun hh => absurd hh hcf, k3 K hK⟩⟩
      · rename_i f args ha
        rw [ha]
        split at h
        · rename_i y b1 l1 t1 hcall
          obtain ⟨g1, g2⟩ := hc _ _ _ _ _ _ _ _ hcall
          obtain ⟨k1, k2, k3⟩ := xops_ok hc os _ _ _ _ _ _ _ _ _ h
          refine ⟨k1, fun ht => ?_, fun K hK => ?_⟩
          · obtain ⟨h1, h2⟩ := k2 ht
            simp only [Bool.or_eq_false_iff] at h1
            exact ⟨h1.1, by rw [h2, g1 h1.2]⟩
          · refine ACalls_mono _ _ _ _ _ _ g2 ?_
            rintro x b2 l2 ⟨rfl, rfl, rfl⟩
            exact k3 K hK
        · cases h
      · cases h
    · rename_i hg
      rw [hg]
      simp only [Bool.false_eq_true, if_false]
      exact xops_ok hc os _ _ _ _ _ _ _ _ _ h
    · cases h

theorem xdraw_ok {call : XCall} (hc : XCallOk P call) : ∀ (os : List DOper) (e : List AV) (b l : List Row) (t : Bool) (x : AExit) (e' : List AV) (b' l' : List Row) (t' : Bool), xdraw call os e b l t = .ok x e' b' l' t' →
    x = .normal ∧ (t' = false → t = false ∧ b' = b) ∧ ∀ K : List AV → List Row → List Row → Prop, K e' b' l' → runD (ACalls P) os e b l K
  | [], e, b, l, t, x, e', b', l', t', h => by
    simp only [xdraw, XR.ok.injEq] at h
    obtain ⟨rfl, rfl, rfl, rfl, rfl⟩ := h
    exact ⟨rfl, fun h => ⟨h, rfl⟩, fun K hK => hK⟩
  | o :: os, e, b, l, t, x, e', b', l', t', h => by
    unfold xdraw at h
    simp only [runD]
    unfold gcase
    split at h
    · rename_i hg
      rw [hg]
      simp only [if_true]
      split at h
      · rename_i v b1 l1 ha
        rw [ha]
        split at h
        case isFalse => cases h
        rename_i hre
        obtain ⟨k1, k2, k3⟩ := xdraw_ok hc os _ _ _ _ _ _ _ _ _ h
        refine ⟨k1, fun ht => ?_, fun K hK => ⟨rechksB_ok hre, k3 K hK⟩⟩
        obtain ⟨h1, h2⟩ := k2 ht
        simp only [Bool.or_eq_false_iff] at h1
        exact ⟨h1.1, by rw [h2, wrB_ok ha h1.2]⟩
      · cases h
      · rename_i f args ha
        rw [ha]
        split at h
        · rename_i y b1 l1 t1 hcall
          split at h
          case isFalse => cases h
          rename_i hre
          obtain ⟨g1, g2⟩ := hc _ _ _ _ _ _ _ _ hcall
          obtain ⟨k1, k2, k3⟩ := xdraw_ok hc os _ _ _ _ _ _ _ _ _ h
          refine ⟨k1, fun ht => ?_, fun K hK => ?_⟩
          · obtain ⟨h1, h2⟩ := k2 ht
            simp only [Bool.or_eq_false_iff] at h1
            exact ⟨h1.1, by rw [h2, g1 h1.2]⟩
          · refine ACalls_mono _ _ _ _ _ _ g2 ?_
            rintro x b2 l2 ⟨rfl, rfl, rfl⟩
            exact ⟨rechksB_ok hre, k3 K hK⟩
        · cases h
      · cases h
    · rename_i hg
      rw [hg]
      simp only [Bool.false_eq_true, if_false]
      exact xdraw_ok hc os _ _ _ _ _ _ _ _ _ h
    · cases h

theorem xcall_ok (hT : ∀ f af, T f = some af → cFunc P f = some af) (hO : ∀ f args y, O f args = some y → ∀ b l, ACalls P f args b l (fun r b' l' => r = y ∧ b' = b ∧ l' = l))
    {ex : ACode → List AV → List Row → List Row → Bool → XR} (hx : CodeOk P ex) : XCallOk P (xcall T O Z ex) := by
  intro f args b l y b' l' t h
  unfold xcall at h
  split at h
  · rename_i y' ho
    simp only [XV.ok.injEq] at h
    obtain ⟨rfl, rfl, rfl, rfl⟩ := h
    exact ⟨fun _ => rfl, hO _ _ _ ho b l⟩
  · split at h
    case h_2 => cases h
    rename_i af haf
    split at h
    case isFalse => cases h
    rename_i hlen
    split at h
    · cases h
    · rename_i x e B l1 t1 hne hrun
      split at h
      case h_2 => cases h
      rename_i xs hxs
      obtain ⟨k1, k2⟩ := hx _ _ _ _ _ _ _ _ _ _ hrun
      have hex : x = .normal ∨ x = .ret := by
        cases x with
        | normal => exact .inl rfl
        | ret => exact .inr rfl
        | exit i => exact absurd rfl (hne i)
      have hfz := frzRows_ok (b := B) (times (Z f) (List.range l1.length).reverse) (one xs) l1
      unfold fin at h
      simp only at h
      split at h
      · rename_i hc
        obtain ⟨rfl, hlt⟩ := hc
        simp only [XV.ok.injEq] at h
        obtain ⟨rfl, rfl, rfl, rfl⟩ := h
        have hB := (k1 rfl).2
        refine ⟨fun _ => rfl, calls_of (hT _ _ haf) hlen ?_⟩
        intro B0 hB0 hR _
        subst hB0
        refine k2 _ ⟨hex, xs, hxs, (frzRows (b.length + l.length) (times (Z f) (List.range l1.length).reverse) (one xs) l1).1, B, [], ?_, ?_⟩
        · have hlenB : (b ++ l).length = b.length + l.length := by simp
          rw [hB] at hfz ⊢
          rw [← hlenB] at hlt ⊢
          refine hfz.trans (Weak.trim (l1 := []) rfl ?_ (by simpa using hR) RowsLt_nil)
          intro z hz
          simp only [List.mem_singleton] at hz
          subst hz
          simpa using ltB_ok _ _ hlt
        · rw [hB]; simp
      · split at h
        case isFalse => cases h
        rename_i hl
        simp only [XV.ok.injEq] at h
        obtain ⟨rfl, rfl, rfl, rfl⟩ := h
        refine ⟨fun ht => ?_, calls_of (hT _ _ haf) hlen ?_⟩
        · have hB := (k1 ht).2
          rw [hB]; simp
        · intro B0 hB0 hR _
          subst hB0
          refine k2 _ ⟨hex, xs, hxs, (frzRows (b.length + l.length) (times (Z f) (List.range l1.length).reverse) (one xs) l1).1, B, (frzRows (b.length + l.length) (times (Z f) (List.range l1.length).reverse) (one xs) l1).2, ?_, ?_⟩
          · exact hl ▸ hfz
          · simp
    · cases h

theorem exec_ok (hT : ∀ f af, T f = some af → cFunc P f = some af) (hO : ∀ f args y, O f args = some y → ∀ b l, ACalls P f args b l (fun r b' l' => r = y ∧ b' = b ∧ l' = l)) :
    ∀ n, CodeOk P (exec T O Z n)
  | 0 => fun c e b l t x e' b' l' t' h => by simp [exec] at h
  | n + 1 => by
    have ih := exec_ok hT hO n
    have hcall := xcall_ok (Z := Z) hT hO ih
    intro c e b l t x e' b' l' t' h
    cases c with
    | skip =>
      simp only [exec, execS, XR.ok.injEq] at h
      obtain ⟨rfl, rfl, rfl, rfl, rfl⟩ := h
      exact ⟨fun h => ⟨h, rfl⟩, fun Q hQ => hQ⟩
    | exit i =>
      simp only [exec, execS, XR.ok.injEq] at h
      obtain ⟨rfl, rfl, rfl, rfl, rfl⟩ := h
      exact ⟨fun h => ⟨h, rfl⟩, fun Q hQ => hQ⟩
    | ret =>
      simp only [exec, execS, XR.ok.injEq] at h
      obtain ⟨rfl, rfl, rfl, rfl, rfl⟩ := h
      exact ⟨fun h => ⟨h, rfl⟩, fun Q hQ => hQ⟩
    | region ops =>
      simp only [exec, execS] at h
      obtain ⟨rfl, h2, h3⟩ := xops_ok hcall ops e b l t x e' b' l' t' h
      exact ⟨h2, fun Q hQ => h3 (Q .normal) hQ⟩
    | draw ds =>
      simp only [exec, execS] at h
      obtain ⟨rfl, h2, h3⟩ := xdraw_ok hcall ds e b l t x e' b' l' t' h
      exact ⟨h2, fun Q hQ => h3 (Q .normal) hQ⟩
    | seq c1 c2 =>
      simp only [exec, execS] at h
      split at h
      · rename_i e1 b1 l1 t1 h1
        obtain ⟨k1, k2⟩ := ih _ _ _ _ _ _ _ _ _ _ h1
        obtain ⟨g1, g2⟩ := ih _ _ _ _ _ _ _ _ _ _ h
        refine ⟨fun ht => ?_, fun Q hQ => k2 _ (g2 Q hQ)⟩
        obtain ⟨q1, q2⟩ := g1 ht
        obtain ⟨q3, q4⟩ := k1 q1
        exact ⟨q3, by rw [q2, q4]⟩
      · rename_i hne
        obtain ⟨k1, k2⟩ := ih _ _ _ _ _ _ _ _ _ _ h
        refine ⟨k1, fun Q hQ => k2 _ ?_⟩
        cases x with
        | normal => exact absurd h (hne _ _ _ _)
        | exit i => exact hQ
        | ret => exact hQ
    | cond c c1 c2 =>
      simp only [exec, execS] at h
      simp only [run]
      split at h
      · rename_i hc
        rw [hc]
        exact ih _ _ _ _ _ _ _ _ _ _ h
      · rename_i hc
        rw [hc]
        exact ih _ _ _ _ _ _ _ _ _ _ h
      · cases h
    | block id c =>
      simp only [exec, execS] at h
      split at h
      · rename_i i e1 b1 l1 t1 h1
        obtain ⟨k1, k2⟩ := ih _ _ _ _ _ _ _ _ _ _ h1
        split at h
        · rename_i hi
          simp only [XR.ok.injEq] at h
          obtain ⟨rfl, rfl, rfl, rfl, rfl⟩ := h
          refine ⟨k1, fun Q hQ => k2 _ ?_⟩
          simp only [blkQ]; rw [if_pos hi]; exact hQ
        · rename_i hi
          simp only [XR.ok.injEq] at h
          obtain ⟨rfl, rfl, rfl, rfl, rfl⟩ := h
          refine ⟨k1, fun Q hQ => k2 _ ?_⟩
          simp only [blkQ]; rw [if_neg hi]; exact hQ
      · rename_i hne
        obtain ⟨k1, k2⟩ := ih _ _ _ _ _ _ _ _ _ _ h
        refine ⟨k1, fun Q hQ => k2 _ ?_⟩
        cases x with
        | normal => exact hQ
        | exit i => exact absurd h (hne _ _ _ _ _)
        | ret => exact hQ
    | loop c =>
      have key : ∀ m, m ≤ n + 1 → ∀ e b l t x e' b' l' t', exec T O Z m (.loop c) e b l t = .ok x e' b' l' t' → (t' = false → t = false ∧ b' = b) ∧ ∃ k, m = k + 1 ∧
          ∀ Q : AExit → List AV → List Row → List Row → Prop, Q x e' b' l' → run (ACalls P) Weak c e b l (seqQ (fun e1 b1 l1 => ∃ t1, exec T O Z k (.loop c) e1 b1 l1 t1 = .ok x e' b' l' t') Q) := by
        intro m hm e b l t x e' b' l' t' h
        cases m with
        | zero => simp [exec] at h
        | succ m =>
          have ihm := exec_ok hT hO m
          simp only [exec, execS] at h
          split at h
          · rename_i e1 b1 l1 t1 h1
            obtain ⟨k1, k2⟩ := ihm _ _ _ _ _ _ _ _ _ _ h1
            obtain ⟨g1, g2⟩ := ihm _ _ _ _ _ _ _ _ _ _ h
            refine ⟨fun ht => ?_, m, rfl, fun Q hQ => k2 _ ⟨t1, h⟩⟩
            obtain ⟨q1, q2⟩ := g1 ht
            obtain ⟨q3, q4⟩ := k1 q1
            exact ⟨q3, by rw [q2, q4]⟩
          · rename_i hne
            obtain ⟨k1, k2⟩ := ihm _ _ _ _ _ _ _ _ _ _ h
            refine ⟨k1, m, rfl, fun Q hQ => k2 _ ?_⟩
            cases x with
            | normal => exact absurd h (hne _ _ _ _)
            | exit i => exact hQ
            | ret => exact hQ
      refine ⟨(key _ (Nat.le_refl _) _ _ _ _ _ _ _ _ _ h).1, fun Q hQ => ?_⟩
      refine ⟨fun e b l m => m ≤ n + 1 ∧ ∃ t, exec T O Z m (.loop c) e b l t = .ok x e' b' l' t', ⟨e, b, l, n + 1, Weak.refl _ _ _, Nat.le_refl _, t, h⟩, ?_⟩
      rintro e1 b1 l1 m ⟨hm, t1, h1⟩
      obtain ⟨_, k, rfl, hk⟩ := key m hm _ _ _ _ _ _ _ _ _ h1
      refine run_mono' ACalls_mono (hk Q hQ) ?_
      intro ex e2 b2 l2 h2
      cases ex with
      | normal =>
        obtain ⟨t2, h3⟩ := h2
        exact ⟨e2, b2, l2, k, Weak.refl _ _ _, ⟨by omega, t2, h3⟩, by omega⟩
      | exit j => exact h2
      | ret => exact h2

/-- A function without arguments that answers with a plain value: in every world. -/
theorem ACalls.of_exec (hT : ∀ f af, T f = some af → cFunc P f = some af) (hO : ∀ f args y, O f args = some y → ∀ b l, ACalls P f args b l (fun r b' l' => r = y ∧ b' = b ∧ l' = l))
    {n f : Nat} {x : IV} {b1 l1 : List Row} {t : Bool} (h : xcall T O Z (exec T O Z n) f [] [] [] = .ok (.v x) b1 l1 t) : ACalls P f [] [] [] (fun r b' l' => r = .v x) := by
  refine ACalls_mono _ _ _ _ _ _ (xcall_ok hT hO (exec_ok hT hO n) f [] [] [] _ _ _ _ h).2 ?_
  rintro r b' l' ⟨rfl, _, _⟩
  rfl
end
end Go.Proofs.Ytiiflkcebikecaa

/- The fault of a trace, as plain functions. No program, no condition. -/
namespace Go.Proofs.Ytiiflkcebikecaa
set_option linter.unusedVariables false

def letterB (c : UInt8) : Bool := (decide ((97 : Int) ≤ (c.toNat : Int)) && decide ((c.toNat : Int) ≤ 122)) || (decide ((65 : Int) ≤ (c.toNat : Int)) && decide ((c.toNat : Int) ≤ 90))
def digitB (c : UInt8) : Bool := decide ((48 : Int) ≤ (c.toNat : Int)) && decide ((c.toNat : Int) ≤ 57)
def charB (c : UInt8) : Bool := letterB c || digitB c || (c.toNat : Int) == 95
def nameL (l : List UInt8) : Bool := decide (1 ≤ l.length) && decide (l.length ≤ 16) && letterB (l.getD 0 0) && l.all charB
def nameB (s : ByteArray) : Bool := nameL s.data.toList
def valB (n : Int) : Bool := decide (-1073741824 ≤ n) && decide (n ≤ 1073741824)
def inB (x lo hi : Int) : Bool := decide (lo ≤ x) && decide (x ≤ hi)

/-- The first of f 0, f 1, .. that is not 0. -/
def firstNZ (f : Nat → Nat) : Nat → Nat
  | 0 => 0
  | n + 1 => if firstNZ f n = 0 then f n else firstNZ f n
theorem firstNZ_zero {f : Nat → Nat} : ∀ {n : Nat}, firstNZ f n = 0 ↔ ∀ i, i < n → f i = 0
  | 0 => by simp [firstNZ]
  | n + 1 => by
    rw [firstNZ]
    split
    · rename_i h
      have := (firstNZ_zero (n := n)).1 h
      constructor
      · intro h2 i hi
        rcases Nat.lt_succ_iff_lt_or_eq.1 hi with h3 | rfl
        · exact this i h3
        · exact h2
      · intro h2; exact h2 n (Nat.lt_succ_self n)
    · rename_i h
      constructor
      · intro h2; exact absurd h2 h
      · intro h2; exact absurd ((firstNZ_zero (n := n)).2 fun i hi => h2 i (Nat.lt_succ_of_lt hi)) h
theorem firstNZ_hit {f : Nat → Nat} {k : Nat} (h0 : firstNZ f k = 0) (hk : f k ≠ 0) : ∀ {n : Nat}, k < n → firstNZ f n = f k
  | 0, h => absurd h (Nat.not_lt_zero _)
  | n + 1, h => by
    rcases Nat.lt_succ_iff_lt_or_eq.1 h with h1 | rfl
    · have := firstNZ_hit h0 hk h1
      rw [firstNZ, if_neg (by rw [this]; exact hk), this]
    · rw [firstNZ, if_pos h0]
theorem firstNZ_step {f : Nat → Nat} {k : Nat} (h0 : firstNZ f k = 0) (hk : f k = 0) : firstNZ f (k + 1) = 0 := by rw [firstNZ, if_pos h0]; exact hk

def dfVr : Vr := ⟨ByteArray.empty, 0⟩
def dfAsg : Asg := ⟨0, 0⟩
def dfEv : Ev := ⟨0, 0, 0, 0, []⟩
def dfPr : Pr := ⟨ByteArray.empty, [], []⟩

def varF (vs : List Vr) (i : Nat) : Nat :=
  if !nameB (vs.getD i dfVr).name || (vs.take i).any (fun y => y.name.toList == (vs.getD i dfVr).name.toList) then 13
  else if !valB (vs.getD i dfVr).init then 2 else 0
def headF (t : Tr) (p : Nat) : Nat :=
  if !nameB (t.getD p dfPr).name || (t.take p).any (fun y => y.name.toList == (t.getD p dfPr).name.toList) then 13
  else if 8 < (t.getD p dfPr).vars.length then 5
  else if firstNZ (varF (t.getD p dfPr).vars) (t.getD p dfPr).vars.length ≠ 0 then firstNZ (varF (t.getD p dfPr).vars) (t.getD p dfPr).vars.length
  else if 64 < (t.getD p dfPr).evs.length then 5 else 0

def asgF (nv : Nat) (l : List Asg) (k : Nat) : Nat :=
  if !(inB (l.getD k dfAsg).v 0 ((nv : Int) - 1)) || !valB (l.getD k dfAsg).val then 2
  else if (l.take k).any (fun b => b.v == (l.getD k dfAsg).v) then 8 else 0
def formedB (np p : Nat) (e : Ev) : Bool :=
  if e.kind == 1 then e.peer == 0 && e.msg == 0
  else if e.kind == 2 || e.kind == 3 then inB e.peer 0 ((np : Int) - 1) && e.peer != (p : Int) && inB e.msg 0 199 else false
/-- The events of a process; an event by its process and its index from 1 on. -/
def evsOf (t : Tr) (p : Nat) : List Ev := (t.getD p dfPr).evs
def evAt (t : Tr) (x : Nat × Nat) : Ev := (evsOf t x.1).getD (x.2 - 1) dfEv
def lastT (t : Tr) (x : Nat × Nat) : Int := if 1 < x.2 then ((evsOf t x.1).getD (x.2 - 2) dfEv).time else 0
def formF (t : Tr) (x : Nat × Nat) : Nat :=
  if !formedB t.length x.1 (evAt t x) then 3
  else if !(inB (evAt t x).time 0 1099511627776) || decide ((evAt t x).time < lastT t x) then 11
  else if 8 < (evAt t x).asg.length then 5
  else firstNZ (asgF (t.getD x.1 dfPr).vars.length (evAt t x).asg) (evAt t x).asg.length

/-- All events, in order: first those of the first process. -/
def idsOf (t : Tr) (p : Nat) : List (Nat × Nat) := (List.range (evsOf t p).length).map fun i => (p, i + 1)
def ids (t : Tr) : List (Nat × Nat) := (List.range t.length).flatMap (idsOf t)

/-- The first event of a kind with a number. -/
def findL (t : Tr) (kind msg : Int) : Option (Nat × Nat) := (ids t).find? fun x => (evAt t x).kind == kind && (evAt t x).msg == msg
def sendsB (t : Tr) (p : Nat) (m : Int) (to : Int) : Bool := (evsOf t p).any fun e => e.kind == 2 && e.msg == m && e.peer == to
def pairF (t : Tr) (x : Nat × Nat) : Nat :=
  if (evAt t x).kind == 2 then (if findL t 2 (evAt t x).msg == some x then 0 else 8)
  else if (evAt t x).kind == 3 then
    (if findL t 3 (evAt t x).msg == some x then (if sendsB t (evAt t x).peer.toNat (evAt t x).msg x.1 then 0 else 7) else 8)
  else 0

/-- y comes directly after x: the next one of its process, or the receipt of what x sends. -/
def Dir (t : Tr) (x y : Nat × Nat) : Prop :=
  (y = (x.1, x.2 + 1) ∧ x.2 < (evsOf t x.1).length) ∨ ((evAt t x).kind = 2 ∧ findL t 3 (evAt t x).msg = some y)
/-- Happened before. -/
inductive Hb (t : Tr) : Nat × Nat → Nat × Nat → Prop
  | one {x y : Nat × Nat} : Dir t x y → Hb t x y
  | more {x y z : Nat × Nat} : Hb t x y → Dir t y z → Hb t x z

open Classical in
/-- The fault of a trace: an event (or a process with index 0), and an error. -/
noncomputable def faultL (t : Tr) : (Nat × Nat) × Nat :=
  if t.length < 1 ∨ 8 < t.length then ((0, 0), 1)
  else match (List.range t.length).find? (fun p => headF t p != 0) with
    | some p => ((p, 0), headF t p)
    | none => match (ids t).find? (fun x => formF t x != 0) with
      | some x => (x, formF t x)
      | none => match (ids t).find? (fun x => pairF t x != 0) with
        | some x => (x, pairF t x)
        | none => match (ids t).find? (fun x => decide (Hb t x x)) with
          | some x => (x, 10)
          | none => ((0, 0), 0)
noncomputable def validL (t : Tr) : Bool := (faultL t).2 == 0
end Go.Proofs.Ytiiflkcebikecaa

/- Walks of the leaves of the fault of a trace. No condition. -/
namespace Go.Proofs.Ytiiflkcebikecaa
open Go.RowKit
set_option linter.unusedVariables false

theorem in_any (x lo hi : Int) (w : World) : Calls Try.prog 120 #[.int .i64 x, .int .i64 lo, .int .i64 hi] w fun e w' => e = .returned (.bool (inB x lo hi)) ∧ w = w' := by
  have hc : ((decide (lo ≤ x)) = false) ∨ ((decide (lo ≤ x)) = true ∧ (decide (x ≤ hi)) = false) ∨ ((decide (lo ≤ x)) = true ∧ (decide (x ≤ hi)) = true) := by
    cases hc0 : (decide (lo ≤ x)) <;> cases hc1 : (decide (x ≤ hi)) <;> simp
  rcases hc with hc1 | ⟨hc1, hc2⟩ | ⟨hc1, hc2⟩
  all_goals
    go_enter Try.func120, Try.ntmps120
    go_wp2
    all_goals
      go_ret
      exact ⟨by simp [inB, *], rfl⟩

theorem letter_any (c : UInt8) (w : World) : Calls Try.prog 144 #[byt c] w fun e w' => e = .returned (.bool (letterB c)) ∧ w = w' := by
  unfold byt
  have hc : ((decide ((97 : Int) ≤ (c.toNat : Int))) = true ∧ (decide ((c.toNat : Int) ≤ 122)) = true) ∨ ((decide ((97 : Int) ≤ (c.toNat : Int))) = false ∧ (decide ((65 : Int) ≤ (c.toNat : Int))) = true ∧ (decide ((c.toNat : Int) ≤ 90)) = true) ∨ ((decide ((97 : Int) ≤ (c.toNat : Int))) = true ∧ (decide ((c.toNat : Int) ≤ 122)) = false ∧ (decide ((65 : Int) ≤ (c.toNat : Int))) = true ∧ (decide ((c.toNat : Int) ≤ 90)) = true) ∨ ((decide ((97 : Int) ≤ (c.toNat : Int))) = false ∧ (decide ((65 : Int) ≤ (c.toNat : Int))) = false) ∨ ((decide ((97 : Int) ≤ (c.toNat : Int))) = false ∧ (decide ((65 : Int) ≤ (c.toNat : Int))) = true ∧ (decide ((c.toNat : Int) ≤ 90)) = false) ∨ ((decide ((97 : Int) ≤ (c.toNat : Int))) = true ∧ (decide ((c.toNat : Int) ≤ 122)) = false ∧ (decide ((65 : Int) ≤ (c.toNat : Int))) = false) ∨ ((decide ((97 : Int) ≤ (c.toNat : Int))) = true ∧ (decide ((c.toNat : Int) ≤ 122)) = false ∧ (decide ((65 : Int) ≤ (c.toNat : Int))) = true ∧ (decide ((c.toNat : Int) ≤ 90)) = false) := by
    cases hc0 : (decide ((97 : Int) ≤ (c.toNat : Int))) <;> cases hc1 : (decide ((c.toNat : Int) ≤ 122)) <;> cases hc2 : (decide ((65 : Int) ≤ (c.toNat : Int))) <;> cases hc3 : (decide ((c.toNat : Int) ≤ 90)) <;> simp
  rcases hc with ⟨hc1, hc2⟩ | ⟨hc1, hc2, hc3⟩ | ⟨hc1, hc2, hc3, hc4⟩ | ⟨hc1, hc2⟩ | ⟨hc1, hc2, hc3⟩ | ⟨hc1, hc2, hc3⟩ | ⟨hc1, hc2, hc3, hc4⟩
  all_goals
    go_enter Try.func144, Try.ntmps144
    go_wp2
    all_goals
      go_ret
      exact ⟨by simp [letterB, *], rfl⟩

theorem digit_any (c : UInt8) (w : World) : Calls Try.prog 145 #[byt c] w fun e w' => e = .returned (.bool (digitB c)) ∧ w = w' := by
  unfold byt
  have hc : ((decide ((48 : Int) ≤ (c.toNat : Int))) = false) ∨ ((decide ((48 : Int) ≤ (c.toNat : Int))) = true ∧ (decide ((c.toNat : Int) ≤ 57)) = false) ∨ ((decide ((48 : Int) ≤ (c.toNat : Int))) = true ∧ (decide ((c.toNat : Int) ≤ 57)) = true) := by
    cases hc0 : (decide ((48 : Int) ≤ (c.toNat : Int))) <;> cases hc1 : (decide ((c.toNat : Int) ≤ 57)) <;> simp
  rcases hc with hc1 | ⟨hc1, hc2⟩ | ⟨hc1, hc2⟩
  all_goals
    go_enter Try.func145, Try.ntmps145
    go_wp2
    all_goals
      go_ret
      exact ⟨by simp [digitB, *], rfl⟩

theorem rletter_any (c : UInt8) (w : World) : Calls Try.prog 141 #[byt c] w fun e w' => e = .returned (.bool (letterB c)) ∧ w = w' := by
  unfold byt
  have hc : ((decide ((65 : Int) ≤ (c.toNat : Int))) = true ∧ (decide ((c.toNat : Int) ≤ 90)) = true) ∨ ((decide ((65 : Int) ≤ (c.toNat : Int))) = false ∧ (decide ((97 : Int) ≤ (c.toNat : Int))) = true ∧ (decide ((c.toNat : Int) ≤ 122)) = true) ∨ ((decide ((65 : Int) ≤ (c.toNat : Int))) = true ∧ (decide ((c.toNat : Int) ≤ 90)) = false ∧ (decide ((97 : Int) ≤ (c.toNat : Int))) = true ∧ (decide ((c.toNat : Int) ≤ 122)) = true) ∨ ((decide ((65 : Int) ≤ (c.toNat : Int))) = false ∧ (decide ((97 : Int) ≤ (c.toNat : Int))) = false) ∨ ((decide ((65 : Int) ≤ (c.toNat : Int))) = false ∧ (decide ((97 : Int) ≤ (c.toNat : Int))) = true ∧ (decide ((c.toNat : Int) ≤ 122)) = false) ∨ ((decide ((65 : Int) ≤ (c.toNat : Int))) = true ∧ (decide ((c.toNat : Int) ≤ 90)) = false ∧ (decide ((97 : Int) ≤ (c.toNat : Int))) = false) ∨ ((decide ((65 : Int) ≤ (c.toNat : Int))) = true ∧ (decide ((c.toNat : Int) ≤ 90)) = false ∧ (decide ((97 : Int) ≤ (c.toNat : Int))) = true ∧ (decide ((c.toNat : Int) ≤ 122)) = false) := by
    cases hc0 : (decide ((65 : Int) ≤ (c.toNat : Int))) <;> cases hc1 : (decide ((c.toNat : Int) ≤ 90)) <;> cases hc2 : (decide ((97 : Int) ≤ (c.toNat : Int))) <;> cases hc3 : (decide ((c.toNat : Int) ≤ 122)) <;> simp
  rcases hc with ⟨hc1, hc2⟩ | ⟨hc1, hc2, hc3⟩ | ⟨hc1, hc2, hc3, hc4⟩ | ⟨hc1, hc2⟩ | ⟨hc1, hc2, hc3⟩ | ⟨hc1, hc2, hc3⟩ | ⟨hc1, hc2, hc3, hc4⟩
  all_goals
    go_enter Try.func141, Try.ntmps141
    go_wp2
    all_goals
      go_ret
      exact ⟨by simp [letterB, *], rfl⟩

theorem rdigit_any (c : UInt8) (w : World) : Calls Try.prog 142 #[byt c] w fun e w' => e = .returned (.bool (digitB c)) ∧ w = w' := by
  unfold byt
  have hc : ((decide ((48 : Int) ≤ (c.toNat : Int))) = false) ∨ ((decide ((48 : Int) ≤ (c.toNat : Int))) = true ∧ (decide ((c.toNat : Int) ≤ 57)) = false) ∨ ((decide ((48 : Int) ≤ (c.toNat : Int))) = true ∧ (decide ((c.toNat : Int) ≤ 57)) = true) := by
    cases hc0 : (decide ((48 : Int) ≤ (c.toNat : Int))) <;> cases hc1 : (decide ((c.toNat : Int) ≤ 57)) <;> simp
  rcases hc with hc1 | ⟨hc1, hc2⟩ | ⟨hc1, hc2⟩
  all_goals
    go_enter Try.func142, Try.ntmps142
    go_wp2
    all_goals
      go_ret
      exact ⟨by simp [digitB, *], rfl⟩

theorem value_any (x : Int) (w : World) : Calls Try.prog 127 #[.int .i64 x] w fun e w' => e = .returned (.bool (valB x)) ∧ w = w' := by
  have hc : ((decide (-1073741824 ≤ x)) = false) ∨ ((decide (-1073741824 ≤ x)) = true ∧ (decide (x ≤ 1073741824)) = false) ∨ ((decide (-1073741824 ≤ x)) = true ∧ (decide (x ≤ 1073741824)) = true) := by
    cases hc0 : (decide (-1073741824 ≤ x)) <;> cases hc1 : (decide (x ≤ 1073741824)) <;> simp
  rcases hc with hc1 | ⟨hc1, hc2⟩ | ⟨hc1, hc2⟩
  all_goals
    go_enter Try.func127, Try.ntmps127
    go_wp2
    all_goals
      go_ret
      exact ⟨by simp [valB, *], rfl⟩
end Go.Proofs.Ytiiflkcebikecaa

/- Walks of names. No condition but on lengths. -/
namespace Go.Proofs.Ytiiflkcebikecaa
open Go.RowKit
set_option linter.unusedVariables false

theorem str_getD (s : ByteArray) (k : Nat) (h : k < s.size) : s.data.toList.getD k 0 = s[k] := by
  simp [List.getD, List.getElem?_eq_getElem (show k < s.data.toList.length from h)]; rfl
theorem str_take (s : ByteArray) (k : Nat) (h : k < s.size) : s.data.toList.take (k + 1) = s.data.toList.take k ++ [s[k]] := by
  rw [List.take_succ_eq_append_getElem (by simpa using h)]; rfl
theorem str_mem (s : ByteArray) (k : Nat) (h : k < s.size) : s[k] ∈ s.data.toList := by
  have : s[k] = s.data.toList[k]'(by simpa using h) := rfl
  rw [this]; exact List.getElem_mem _
theorem str_empty (s : ByteArray) : s.toList.isEmpty = decide (s.size = 0) := by
  rw [ByteArray.toList_eq]
  cases h : s.data.toList with
  | nil => have h2 : s.data.toList.length = 0 := by rw [h]; rfl
           have : s.size = 0 := by simpa using h2
           simp [this]
  | cons a l => have h2 : s.data.toList.length = l.length + 1 := by rw [h]; rfl
                have : s.size = l.length + 1 := by simpa using h2
                simp [this]
theorem nameB_len {s : ByteArray} (h : ¬ (1 ≤ s.size ∧ s.size ≤ 16)) : nameB s = false := by
  unfold nameB nameL
  have e : s.data.toList.length = s.size := rfl
  rw [e]
  rcases Nat.lt_or_ge s.size 1 with h1 | h1
  · rw [decide_eq_false (by omega)]; simp
  · rw [decide_eq_true h1, decide_eq_false (by omega)]; simp
theorem nameB_head {s : ByteArray} (h0 : 0 < s.size) (h : letterB s[0] = false) : nameB s = false := by
  unfold nameB nameL; rw [str_getD s 0 h0, h]; simp
theorem nameB_char {s : ByteArray} {k : Nat} (hk : k < s.size) (h : charB s[k] = false) : nameB s = false := by
  unfold nameB nameL
  have : s.data.toList.all charB = false := by
    rw [List.all_eq_false]
    exact ⟨_, str_mem s k hk, by rw [h]; simp⟩
  rw [this]; simp
theorem nameB_all {s : ByteArray} (h0 : 0 < s.size) (h1 : s.size ≤ 16) (hl : letterB s[0] = true) (h : (s.data.toList.take s.size).all charB = true) : nameB s = true := by
  unfold nameB nameL
  have e : s.data.toList.length = s.size := rfl
  rw [List.take_of_length_le (Nat.le_of_eq e)] at h
  rw [e, str_getD s 0 h0, hl, h, decide_eq_true (by omega), decide_eq_true h1]; rfl
theorem all_step {s : ByteArray} {k : Nat} (hk : k < s.size) (h : (s.data.toList.take k).all charB = true) (hc : charB s[k] = true) : (s.data.toList.take (k + 1)).all charB = true := by
  rw [str_take s k hk, List.all_append, h]; simp [hc]
theorem char_letter {c : UInt8} (h : letterB c = true) : charB c = true := by simp [charB, h]

set_option maxHeartbeats 1000000 in
theorem isName_any (s : ByteArray) (w : World) (hm : s.size ≤ maxLen) : Calls Try.prog 131 #[.string s] w fun e w' => e = .returned (.bool (nameB s)) ∧ w = w' := by
  unfold maxLen at hm
  have he := str_empty s
  by_cases h0 : 0 < s.size
  · have he0 : s.toList.isEmpty = false := by rw [he, decide_eq_false (by omega)]
    have hlt1 : decide ((s.size : Int) < 1) = false := by simp; omega
    clear he
    by_cases h16 : s.size ≤ 16
    · have hd : decide ((16 : Int) < (s.size : Int)) = false := by simp; omega
      have HL := hide (fun w => letter_any s[0] w)
      cases hl : letterB s[0]
      · rw [hl] at HL
        have E := hide (nameB_head h0 hl)
        clear hl
        go_enter Try.func131, Try.ntmps131
        go_wp2_with fail
        refine (HL.out _).mono ?_
        rintro e w1 ⟨rfl, rfl⟩
        go_wp2_with fail
        go_ret
        exact ⟨by rw [E.out]; rfl, rfl⟩
      · rw [hl] at HL
        have HL0 := hide hl
        go_enter Try.func131, Try.ntmps131
        go_wp2_with fail
        refine (HL.out _).mono ?_
        rintro e w1 ⟨rfl, rfl⟩
        clear hl
        go_wp2_with fail
        go_loop [19] (Rel1 fun (k : Nat) i => k ≤ s.size ∧ i = .int .i64 k ∧ (s.data.toList.take k).all charB = true) (fun i => s.size - (intOf i).toNat)
        case atStart => exact Rel1.mk 0 ⟨Nat.zero_le _, rfl, rfl⟩
        case round =>
          obtain ⟨k, hk, rfl, hall⟩ := hrel
          have HALL := hide hall
          clear hall
          by_cases hlt : k < s.size
          · have H1 := hide (fun w => letter_any s[k] w)
            have H2 := hide (fun w => digit_any s[k] w)
            have hc : (Hx (letterB s[k] = true) ∧ Hx (charB s[k] = true)) ∨ (Hx (letterB s[k] = false) ∧ Hx (digitB s[k] = true) ∧ Hx (charB s[k] = true)) ∨ (Hx (letterB s[k] = false) ∧ Hx (digitB s[k] = false) ∧ (((s[k].toNat : Int) != 95)) = false ∧ Hx (charB s[k] = true)) ∨ (Hx (letterB s[k] = false) ∧ Hx (digitB s[k] = false) ∧ (((s[k].toNat : Int) != 95)) = true ∧ Hx (charB s[k] = false)) := by
              unfold Hx charB
              cases letterB s[k] <;> cases digitB s[k] <;> cases hz : ((s[k].toNat : Int) != 95) <;> simp_all
            rcases hc with ⟨q0, qr⟩ | ⟨q0, q1, qr⟩ | ⟨q0, q1, q2, qr⟩ | ⟨q0, q1, q2, qr⟩
            · go_wp2_with fail
              refine (H1.out _).mono ?_
              rintro e w1 ⟨rfl, rfl⟩
              rw [q0.out]
              go_wp2_with fail
              go_round
              case rel => exact Rel1.mk (k + 1) ⟨hlt, by go_num, all_step hlt HALL.out qr.out⟩
              case measure => simp [intOf]; omega
            · go_wp2_with fail
              refine (H1.out _).mono ?_
              rintro e w1 ⟨rfl, rfl⟩
              rw [q0.out]
              go_wp2_with fail
              refine (H2.out _).mono ?_
              rintro e w1 ⟨rfl, rfl⟩
              rw [q1.out]
              go_wp2_with fail
              go_round
              case rel => exact Rel1.mk (k + 1) ⟨hlt, by go_num, all_step hlt HALL.out qr.out⟩
              case measure => simp [intOf]; omega
            · go_wp2_with fail
              refine (H1.out _).mono ?_
              rintro e w1 ⟨rfl, rfl⟩
              rw [q0.out]
              go_wp2_with fail
              refine (H2.out _).mono ?_
              rintro e w1 ⟨rfl, rfl⟩
              rw [q1.out]
              go_wp2_with fail
              go_round
              case rel => exact Rel1.mk (k + 1) ⟨hlt, by go_num, all_step hlt HALL.out qr.out⟩
              case measure => simp [intOf]; omega
            · go_wp2_with fail
              refine (H1.out _).mono ?_
              rintro e w1 ⟨rfl, rfl⟩
              rw [q0.out]
              go_wp2_with fail
              refine (H2.out _).mono ?_
              rintro e w1 ⟨rfl, rfl⟩
              rw [q1.out]
              go_wp2_with fail
              go_ret
              exact ⟨by rw [nameB_char hlt qr.out]; rfl, rfl⟩
          · obtain rfl : k = s.size := by omega
            have E := hide (nameB_all h0 h16 HL0.out HALL.out)
            go_wp2_with fail
            go_ret
            exact ⟨by rw [E.out]; rfl, rfl⟩
    · have hd : decide ((16 : Int) < (s.size : Int)) = true := by simp; omega
      have E := hide (nameB_len (s := s) (by omega))
      go_enter Try.func131, Try.ntmps131
      go_wp2_with fail
      go_ret
      exact ⟨by rw [E.out]; rfl, rfl⟩
  · have he0 : s.toList.isEmpty = true := by rw [he, decide_eq_true (by omega)]
    have hlt1 : decide ((s.size : Int) < 1) = true := by simp; omega
    clear he
    have E := hide (nameB_len (s := s) (by omega))
    go_enter Try.func131, Try.ntmps131
    go_wp2_with fail
    go_ret
    exact ⟨by rw [E.out]; rfl, rfl⟩

set_option maxHeartbeats 1000000 in
theorem rName_any (s : ByteArray) (w : World) (hm : s.size ≤ maxLen) : Calls Try.prog 126 #[.string s] w fun e w' => e = .returned (.bool (nameB s)) ∧ w = w' := by
  unfold maxLen at hm
  have he := str_empty s
  by_cases h0 : 0 < s.size
  · have he0 : s.toList.isEmpty = false := by rw [he, decide_eq_false (by omega)]
    have hlt1 : decide ((s.size : Int) < 1) = false := by simp; omega
    clear he
    by_cases h16 : s.size ≤ 16
    · have hd : decide ((16 : Int) < (s.size : Int)) = false := by simp; omega
      have HL := hide (fun w => rletter_any s[0] w)
      cases hl : letterB s[0]
      · rw [hl] at HL
        have E := hide (nameB_head h0 hl)
        clear hl
        go_enter Try.func126, Try.ntmps126
        go_wp2_with fail
        refine (HL.out _).mono ?_
        rintro e w1 ⟨rfl, rfl⟩
        go_wp2_with fail
        go_ret
        exact ⟨by rw [E.out]; rfl, rfl⟩
      · rw [hl] at HL
        have HL0 := hide hl
        go_enter Try.func126, Try.ntmps126
        go_wp2_with fail
        refine (HL.out _).mono ?_
        rintro e w1 ⟨rfl, rfl⟩
        clear hl
        go_wp2_with fail
        go_loop [3] (Rel1 fun (k : Nat) i => k ≤ s.size ∧ i = .int .i64 k ∧ (s.data.toList.take k).all charB = true) (fun i => s.size - (intOf i).toNat)
        case atStart => exact Rel1.mk 1 ⟨h0, rfl, by rw [show (1 : Nat) = 0 + 1 from rfl]; exact all_step (k := 0) h0 rfl (char_letter HL0.out)⟩
        case round =>
          obtain ⟨k, hk, rfl, hall⟩ := hrel
          have HALL := hide hall
          clear hall
          by_cases hlt : k < s.size
          · have H1 := hide (fun w => rletter_any s[k] w)
            have H2 := hide (fun w => rdigit_any s[k] w)
            have hc : (Hx (letterB s[k] = true) ∧ Hx (charB s[k] = true)) ∨ (Hx (letterB s[k] = false) ∧ Hx (digitB s[k] = true) ∧ Hx (charB s[k] = true)) ∨ (Hx (letterB s[k] = false) ∧ Hx (digitB s[k] = false) ∧ (((s[k].toNat : Int) != 95)) = false ∧ Hx (charB s[k] = true)) ∨ (Hx (letterB s[k] = false) ∧ Hx (digitB s[k] = false) ∧ (((s[k].toNat : Int) != 95)) = true ∧ Hx (charB s[k] = false)) := by
              unfold Hx charB
              cases letterB s[k] <;> cases digitB s[k] <;> cases hz : ((s[k].toNat : Int) != 95) <;> simp_all
            rcases hc with ⟨q0, qr⟩ | ⟨q0, q1, qr⟩ | ⟨q0, q1, q2, qr⟩ | ⟨q0, q1, q2, qr⟩
            · go_wp2_with fail
              refine (H1.out _).mono ?_
              rintro e w1 ⟨rfl, rfl⟩
              rw [q0.out]
              go_wp2_with fail
              go_round
              case rel => exact Rel1.mk (k + 1) ⟨hlt, by go_num, all_step hlt HALL.out qr.out⟩
              case measure => simp [intOf]; omega
            · go_wp2_with fail
              refine (H1.out _).mono ?_
              rintro e w1 ⟨rfl, rfl⟩
              rw [q0.out]
              go_wp2_with fail
              refine (H2.out _).mono ?_
              rintro e w1 ⟨rfl, rfl⟩
              rw [q1.out]
              go_wp2_with fail
              go_round
              case rel => exact Rel1.mk (k + 1) ⟨hlt, by go_num, all_step hlt HALL.out qr.out⟩
              case measure => simp [intOf]; omega
            · go_wp2_with fail
              refine (H1.out _).mono ?_
              rintro e w1 ⟨rfl, rfl⟩
              rw [q0.out]
              go_wp2_with fail
              refine (H2.out _).mono ?_
              rintro e w1 ⟨rfl, rfl⟩
              rw [q1.out]
              go_wp2_with fail
              go_round
              case rel => exact Rel1.mk (k + 1) ⟨hlt, by go_num, all_step hlt HALL.out qr.out⟩
              case measure => simp [intOf]; omega
            · go_wp2_with fail
              refine (H1.out _).mono ?_
              rintro e w1 ⟨rfl, rfl⟩
              rw [q0.out]
              go_wp2_with fail
              refine (H2.out _).mono ?_
              rintro e w1 ⟨rfl, rfl⟩
              rw [q1.out]
              go_wp2_with fail
              go_ret
              exact ⟨by rw [nameB_char hlt qr.out]; rfl, rfl⟩
          · obtain rfl : k = s.size := by omega
            have E := hide (nameB_all h0 h16 HL0.out HALL.out)
            go_wp2_with fail
            go_ret
            exact ⟨by rw [E.out]; rfl, rfl⟩
    · have hd : decide ((16 : Int) < (s.size : Int)) = true := by simp; omega
      have E := hide (nameB_len (s := s) (by omega))
      go_enter Try.func126, Try.ntmps126
      go_wp2_with fail
      go_ret
      exact ⟨by rw [E.out]; rfl, rfl⟩
  · have he0 : s.toList.isEmpty = true := by rw [he, decide_eq_true (by omega)]
    have hlt1 : decide ((s.size : Int) < 1) = true := by simp; omega
    clear he
    have E := hide (nameB_len (s := s) (by omega))
    go_enter Try.func126, Try.ntmps126
    go_wp2_with fail
    go_ret
    exact ⟨by rw [E.out]; rfl, rfl⟩

end Go.Proofs.Ytiiflkcebikecaa

/- Walks of slices.IndexFunc and slices.ContainsFunc at the element types of traces. No condition but on lengths. -/
namespace Go.Proofs.Ytiiflkcebikecaa
open Go.RowKit
set_option linter.unusedVariables false

/-- The first k below n with P k, or -1. -/
def idxF (P : Nat → Bool) : Nat → Int
  | 0 => -1
  | n + 1 => if idxF P n = -1 then (if P n then (n : Int) else -1) else idxF P n
theorem idxF_none {P : Nat → Bool} : ∀ {n : Nat}, (∀ j, j < n → P j = false) → idxF P n = -1
  | 0, _ => rfl
  | n + 1, h => by rw [idxF, if_pos (idxF_none fun j hj => h j (Nat.lt_succ_of_lt hj)), h n (Nat.lt_succ_self n)]; rfl
theorem idxF_hit {P : Nat → Bool} {k : Nat} (h0 : ∀ j, j < k → P j = false) (hk : P k = true) : ∀ {n : Nat}, k < n → idxF P n = k
  | 0, h => absurd h (Nat.not_lt_zero _)
  | n + 1, h => by
    rcases Nat.lt_succ_iff_lt_or_eq.1 h with h1 | rfl
    · have := idxF_hit h0 hk h1
      rw [idxF, if_neg (by rw [this]; omega), this]
    · rw [idxF, if_pos (idxF_none h0), hk]; rfl
def anyF (P : Nat → Bool) (n : Nat) : Bool := (List.range n).any P
theorem least (P : Nat → Bool) : ∀ n : Nat, (∀ j, j < n → P j = false) ∨ ∃ k, k < n ∧ P k = true ∧ ∀ j, j < k → P j = false
  | 0 => .inl fun j hj => absurd hj (Nat.not_lt_zero _)
  | n + 1 => by
    rcases least P n with h | ⟨k, hk, hp, h0⟩
    · cases hn : P n
      · exact .inl fun j hj => by
          rcases Nat.lt_succ_iff_lt_or_eq.1 hj with h1 | rfl
          · exact h j h1
          · exact hn
      · exact .inr ⟨n, Nat.lt_succ_self n, hn, h⟩
    · exact .inr ⟨k, Nat.lt_succ_of_lt hk, hp, h0⟩
theorem least_step {P : Nat → Bool} {k : Nat} (h : ∀ j, j < k → P j = false) (hk : P k = false) : ∀ j, j < k + 1 → P j = false := fun j hj => by
  rcases Nat.lt_succ_iff_lt_or_eq.1 hj with h1 | rfl
  · exact h j h1
  · exact hk
theorem anyF_none {P : Nat → Bool} {n : Nat} (h : ∀ j, j < n → P j = false) : anyF P n = false := by
  unfold anyF; rw [List.any_eq_false]
  intro j hj
  rw [h j (List.mem_range.1 hj)]; simp
theorem anyF_hit {P : Nat → Bool} {n k : Nat} (hk : k < n) (hp : P k = true) : anyF P n = true := by
  unfold anyF; rw [List.any_eq_true]
  exact ⟨k, List.mem_range.2 hk, hp⟩
theorem anyF_idx (P : Nat → Bool) (n : Nat) : decide (0 ≤ idxF P n) = anyF P n := by
  rcases least P n with h | ⟨k, hk, hp, h0⟩
  · rw [idxF_none h, anyF_none h]; rfl
  · rw [idxF_hit h0 hp hk, anyF_hit hk hp]; simp

def IdxRel (P : Nat → Bool) (n : Nat) (w : World) (i : Value) (wr : World) : Prop := ∃ k : Nat, k ≤ n ∧ i = .int .i64 k ∧ (∀ j, j < k → P j = false) ∧ Ext w wr

set_option maxRecDepth 100000 in
set_option maxHeartbeats 1000000 in
theorem indexProc_any (v : Value) (xs : List Pr) (F : Nat) (caps : Array Value) (P : Nat → Bool) (w : World) (hl : xs.length ≤ 1000000) (hs : SlR 3 RPr w v xs)
    (hcf : ∀ (args : Array Value) (w : World), (callFunc F args).run Try.prog w = .ok (.enter F args) w)
    (hF : ∀ (k : Nat) (hk : k < xs.length) (v1 v2 : Value) (w' : World), Ext w w' → Calls Try.prog F (#[.agg #[.string xs[k].name, v1, v2]] ++ caps) w' fun e w'' => e = .returned (.bool (P k)) ∧ Ext w' w'') :
    Calls Try.prog 106 #[v, .func (.func F) #[] caps] w fun e w' => e = .returned (.int .i64 (idxF P xs.length)) ∧ Ext w w' := by
  obtain ⟨A, c, rfl, _, _, hc⟩ := hs.at_
  clear hs
  have HF := hide hF
  clear hF
  go_enter Try.func106, Try.ntmps106
  go_wp2_with fail
  go_loopw [8] (IdxRel P xs.length w) (fun i _ => xs.length - (intOf i).toNat)
  case atStart => exact ⟨0, Nat.zero_le _, rfl, fun j hj => absurd hj (Nat.not_lt_zero _), Ext.refl _⟩
  case round =>
    obtain ⟨k, hk, rfl, hno, hext⟩ := hrel
    have HN := hide hno
    clear hno
    by_cases hlt : k < xs.length
    · obtain ⟨b, off, rfl, hel⟩ := hc (by omega)
      obtain ⟨⟨c0, _⟩, ⟨v1, c1, _⟩, v2, c2, _⟩ := RPr.keeps _ _ _ _ _ hext (hel k hlt)
      clear hel hc
      go_wp2_with fail
      refine (HF.out k hlt v1 v2 _ ?_).mono ?_
      · (repeat (first | exact Ext.refl _ | assumption | apply Ext.alloc | apply Ext.drew | apply Ext.drewN | (refine Ext.trans ?_ (by assumption))))
      rintro e w1 ⟨rfl, he1⟩
      cases hpk : P k
      · go_wp2_with fail
        go_roundw
        case rel => exact ⟨k + 1, hlt, by go_num, least_step HN.out hpk, hext.trans he1⟩
        case measure => simp [intOf]; omega
      · go_wp2_with fail
        go_ret
        exact ⟨by rw [idxF_hit HN.out hpk hlt]; rfl, hext.trans he1⟩
    · have hkn : k = xs.length := by omega
      subst hkn
      go_wp2_with fail
      go_ret
      exact ⟨by rw [idxF_none HN.out]; rfl, hext⟩
set_option maxHeartbeats 1000000 in
theorem containsProc_any (v : Value) (xs : List Pr) (F : Nat) (caps : Array Value) (P : Nat → Bool) (w : World) (hl : xs.length ≤ 1000000) (hs : SlR 3 RPr w v xs)
    (hcf : ∀ (args : Array Value) (w : World), (callFunc F args).run Try.prog w = .ok (.enter F args) w)
    (hF : ∀ (k : Nat) (hk : k < xs.length) (v1 v2 : Value) (w' : World), Ext w w' → Calls Try.prog F (#[.agg #[.string xs[k].name, v1, v2]] ++ caps) w' fun e w'' => e = .returned (.bool (P k)) ∧ Ext w' w'') :
    Calls Try.prog 67 #[v, .func (.func F) #[] caps] w fun e w' => e = .returned (.bool (anyF P xs.length)) ∧ Ext w w' := by
  have HI := hide (indexProc_any v xs F caps P w hl hs hcf hF)
  have HD := hide (anyF_idx P xs.length)
  clear hF hs hcf
  go_enter Try.func67, Try.ntmps67
  go_wp2_with fail
  refine HI.out.mono ?_
  rintro e w1 ⟨rfl, he⟩
  go_wp2_with fail
  go_ret
  exact ⟨by rw [HD.out]; rfl, he⟩
set_option maxRecDepth 100000 in
set_option maxHeartbeats 1000000 in
theorem indexVar_any (v : Value) (xs : List Vr) (F : Nat) (caps : Array Value) (P : Nat → Bool) (w : World) (hl : xs.length ≤ 1000000) (hs : SlR 2 RVr w v xs)
    (hcf : ∀ (args : Array Value) (w : World), (callFunc F args).run Try.prog w = .ok (.enter F args) w)
    (hF : ∀ (k : Nat) (hk : k < xs.length) (w' : World), Ext w w' → Calls Try.prog F (#[.agg #[.string xs[k].name, .int .i64 xs[k].init]] ++ caps) w' fun e w'' => e = .returned (.bool (P k)) ∧ Ext w' w'') :
    Calls Try.prog 146 #[v, .func (.func F) #[] caps] w fun e w' => e = .returned (.int .i64 (idxF P xs.length)) ∧ Ext w w' := by
  obtain ⟨A, c, rfl, _, _, hc⟩ := hs.at_
  clear hs
  have HF := hide hF
  clear hF
  go_enter Try.func146, Try.ntmps146
  go_wp2_with fail
  go_loopw [8] (IdxRel P xs.length w) (fun i _ => xs.length - (intOf i).toNat)
  case atStart => exact ⟨0, Nat.zero_le _, rfl, fun j hj => absurd hj (Nat.not_lt_zero _), Ext.refl _⟩
  case round =>
    obtain ⟨k, hk, rfl, hno, hext⟩ := hrel
    have HN := hide hno
    clear hno
    by_cases hlt : k < xs.length
    · obtain ⟨b, off, rfl, hel⟩ := hc (by omega)
      obtain ⟨c0, c1, _⟩ := RVr.keeps _ _ _ _ _ hext (hel k hlt)
      clear hel hc
      go_wp2_with fail
      refine (HF.out k hlt  _ ?_).mono ?_
      · (repeat (first | exact Ext.refl _ | assumption | apply Ext.alloc | apply Ext.drew | apply Ext.drewN | (refine Ext.trans ?_ (by assumption))))
      rintro e w1 ⟨rfl, he1⟩
      cases hpk : P k
      · go_wp2_with fail
        go_roundw
        case rel => exact ⟨k + 1, hlt, by go_num, least_step HN.out hpk, hext.trans he1⟩
        case measure => simp [intOf]; omega
      · go_wp2_with fail
        go_ret
        exact ⟨by rw [idxF_hit HN.out hpk hlt]; rfl, hext.trans he1⟩
    · have hkn : k = xs.length := by omega
      subst hkn
      go_wp2_with fail
      go_ret
      exact ⟨by rw [idxF_none HN.out]; rfl, hext⟩
set_option maxHeartbeats 1000000 in
theorem containsVar_any (v : Value) (xs : List Vr) (F : Nat) (caps : Array Value) (P : Nat → Bool) (w : World) (hl : xs.length ≤ 1000000) (hs : SlR 2 RVr w v xs)
    (hcf : ∀ (args : Array Value) (w : World), (callFunc F args).run Try.prog w = .ok (.enter F args) w)
    (hF : ∀ (k : Nat) (hk : k < xs.length) (w' : World), Ext w w' → Calls Try.prog F (#[.agg #[.string xs[k].name, .int .i64 xs[k].init]] ++ caps) w' fun e w'' => e = .returned (.bool (P k)) ∧ Ext w' w'') :
    Calls Try.prog 133 #[v, .func (.func F) #[] caps] w fun e w' => e = .returned (.bool (anyF P xs.length)) ∧ Ext w w' := by
  have HI := hide (indexVar_any v xs F caps P w hl hs hcf hF)
  have HD := hide (anyF_idx P xs.length)
  clear hF hs hcf
  go_enter Try.func133, Try.ntmps133
  go_wp2_with fail
  refine HI.out.mono ?_
  rintro e w1 ⟨rfl, he⟩
  go_wp2_with fail
  go_ret
  exact ⟨by rw [HD.out]; rfl, he⟩
set_option maxRecDepth 100000 in
set_option maxHeartbeats 1000000 in
theorem indexAssign_any (v : Value) (xs : List Asg) (F : Nat) (caps : Array Value) (P : Nat → Bool) (w : World) (hl : xs.length ≤ 1000000) (hs : SlR 2 RAsg w v xs)
    (hcf : ∀ (args : Array Value) (w : World), (callFunc F args).run Try.prog w = .ok (.enter F args) w)
    (hF : ∀ (k : Nat) (hk : k < xs.length) (w' : World), Ext w w' → Calls Try.prog F (#[.agg #[.int .i64 xs[k].v, .int .i64 xs[k].val]] ++ caps) w' fun e w'' => e = .returned (.bool (P k)) ∧ Ext w' w'') :
    Calls Try.prog 147 #[v, .func (.func F) #[] caps] w fun e w' => e = .returned (.int .i64 (idxF P xs.length)) ∧ Ext w w' := by
  obtain ⟨A, c, rfl, _, _, hc⟩ := hs.at_
  clear hs
  have HF := hide hF
  clear hF
  go_enter Try.func147, Try.ntmps147
  go_wp2_with fail
  go_loopw [8] (IdxRel P xs.length w) (fun i _ => xs.length - (intOf i).toNat)
  case atStart => exact ⟨0, Nat.zero_le _, rfl, fun j hj => absurd hj (Nat.not_lt_zero _), Ext.refl _⟩
  case round =>
    obtain ⟨k, hk, rfl, hno, hext⟩ := hrel
    have HN := hide hno
    clear hno
    by_cases hlt : k < xs.length
    · obtain ⟨b, off, rfl, hel⟩ := hc (by omega)
      obtain ⟨c0, c1⟩ := RAsg.keeps _ _ _ _ _ hext (hel k hlt)
      clear hel hc
      go_wp2_with fail
      refine (HF.out k hlt  _ ?_).mono ?_
      · (repeat (first | exact Ext.refl _ | assumption | apply Ext.alloc | apply Ext.drew | apply Ext.drewN | (refine Ext.trans ?_ (by assumption))))
      rintro e w1 ⟨rfl, he1⟩
      cases hpk : P k
      · go_wp2_with fail
        go_roundw
        case rel => exact ⟨k + 1, hlt, by go_num, least_step HN.out hpk, hext.trans he1⟩
        case measure => simp [intOf]; omega
      · go_wp2_with fail
        go_ret
        exact ⟨by rw [idxF_hit HN.out hpk hlt]; rfl, hext.trans he1⟩
    · have hkn : k = xs.length := by omega
      subst hkn
      go_wp2_with fail
      go_ret
      exact ⟨by rw [idxF_none HN.out]; rfl, hext⟩
set_option maxHeartbeats 1000000 in
theorem containsAssign_any (v : Value) (xs : List Asg) (F : Nat) (caps : Array Value) (P : Nat → Bool) (w : World) (hl : xs.length ≤ 1000000) (hs : SlR 2 RAsg w v xs)
    (hcf : ∀ (args : Array Value) (w : World), (callFunc F args).run Try.prog w = .ok (.enter F args) w)
    (hF : ∀ (k : Nat) (hk : k < xs.length) (w' : World), Ext w w' → Calls Try.prog F (#[.agg #[.int .i64 xs[k].v, .int .i64 xs[k].val]] ++ caps) w' fun e w'' => e = .returned (.bool (P k)) ∧ Ext w' w'') :
    Calls Try.prog 137 #[v, .func (.func F) #[] caps] w fun e w' => e = .returned (.bool (anyF P xs.length)) ∧ Ext w w' := by
  have HI := hide (indexAssign_any v xs F caps P w hl hs hcf hF)
  have HD := hide (anyF_idx P xs.length)
  clear hF hs hcf
  go_enter Try.func137, Try.ntmps137
  go_wp2_with fail
  refine HI.out.mono ?_
  rintro e w1 ⟨rfl, he⟩
  go_wp2_with fail
  go_ret
  exact ⟨by rw [HD.out]; rfl, he⟩
set_option maxRecDepth 100000 in
set_option maxHeartbeats 1000000 in
theorem indexEvent_any (v : Value) (xs : List Ev) (F : Nat) (caps : Array Value) (P : Nat → Bool) (w : World) (hl : xs.length ≤ 1000000) (hs : SlR 5 REv w v xs)
    (hcf : ∀ (args : Array Value) (w : World), (callFunc F args).run Try.prog w = .ok (.enter F args) w)
    (hF : ∀ (k : Nat) (hk : k < xs.length) (v1 : Value) (w' : World), Ext w w' → Calls Try.prog F (#[.agg #[.int .i64 xs[k].kind, .int .i64 xs[k].peer, .int .i64 xs[k].msg, .int .i64 xs[k].time, v1]] ++ caps) w' fun e w'' => e = .returned (.bool (P k)) ∧ Ext w' w'') :
    Calls Try.prog 107 #[v, .func (.func F) #[] caps] w fun e w' => e = .returned (.int .i64 (idxF P xs.length)) ∧ Ext w w' := by
  obtain ⟨A, c, rfl, _, _, hc⟩ := hs.at_
  clear hs
  have HF := hide hF
  clear hF
  go_enter Try.func107, Try.ntmps107
  go_wp2_with fail
  go_loopw [8] (IdxRel P xs.length w) (fun i _ => xs.length - (intOf i).toNat)
  case atStart => exact ⟨0, Nat.zero_le _, rfl, fun j hj => absurd hj (Nat.not_lt_zero _), Ext.refl _⟩
  case round =>
    obtain ⟨k, hk, rfl, hno, hext⟩ := hrel
    have HN := hide hno
    clear hno
    by_cases hlt : k < xs.length
    · obtain ⟨b, off, rfl, hel⟩ := hc (by omega)
      obtain ⟨c0, c1, c2, c3, v1, c4, _⟩ := REv.keeps _ _ _ _ _ hext (hel k hlt)
      clear hel hc
      go_wp2_with fail
      refine (HF.out k hlt v1 _ ?_).mono ?_
      · (repeat (first | exact Ext.refl _ | assumption | apply Ext.alloc | apply Ext.drew | apply Ext.drewN | (refine Ext.trans ?_ (by assumption))))
      rintro e w1 ⟨rfl, he1⟩
      cases hpk : P k
      · go_wp2_with fail
        go_roundw
        case rel => exact ⟨k + 1, hlt, by go_num, least_step HN.out hpk, hext.trans he1⟩
        case measure => simp [intOf]; omega
      · go_wp2_with fail
        go_ret
        exact ⟨by rw [idxF_hit HN.out hpk hlt]; rfl, hext.trans he1⟩
    · have hkn : k = xs.length := by omega
      subst hkn
      go_wp2_with fail
      go_ret
      exact ⟨by rw [idxF_none HN.out]; rfl, hext⟩
set_option maxHeartbeats 1000000 in
theorem containsEvent_any (v : Value) (xs : List Ev) (F : Nat) (caps : Array Value) (P : Nat → Bool) (w : World) (hl : xs.length ≤ 1000000) (hs : SlR 5 REv w v xs)
    (hcf : ∀ (args : Array Value) (w : World), (callFunc F args).run Try.prog w = .ok (.enter F args) w)
    (hF : ∀ (k : Nat) (hk : k < xs.length) (v1 : Value) (w' : World), Ext w w' → Calls Try.prog F (#[.agg #[.int .i64 xs[k].kind, .int .i64 xs[k].peer, .int .i64 xs[k].msg, .int .i64 xs[k].time, v1]] ++ caps) w' fun e w'' => e = .returned (.bool (P k)) ∧ Ext w' w'') :
    Calls Try.prog 69 #[v, .func (.func F) #[] caps] w fun e w' => e = .returned (.bool (anyF P xs.length)) ∧ Ext w w' := by
  have HI := hide (indexEvent_any v xs F caps P w hl hs hcf hF)
  have HD := hide (anyF_idx P xs.length)
  clear hF hs hcf
  go_enter Try.func69, Try.ntmps69
  go_wp2_with fail
  refine HI.out.mono ?_
  rintro e w1 ⟨rfl, he⟩
  go_wp2_with fail
  go_ret
  exact ⟨by rw [HD.out]; rfl, he⟩
end Go.Proofs.Ytiiflkcebikecaa

/- Walk of processFault. No condition but on lengths. -/
namespace Go.Proofs.Ytiiflkcebikecaa
open Go.RowKit
set_option linter.unusedVariables false

theorem callFunc_enter {P : Program} {f : FuncId} {fn : Func} {c : Code} (hf : P.funcs[f]? = some fn) (hname : (fn.name == "runtime.NumGoroutine") = false) (hb : fn.body = some c) (args : Array Value) (w : World) :
    (callFunc f args).run P w = .ok (.enter f args) w := by
  have h1 : fn.name ≠ "runtime.NumGoroutine" := by simpa using hname
  simp [callFunc, hf, h1, hb]
theorem cf_p1 (args : Array Value) (w : World) : (callFunc 132 args).run Try.prog w = .ok (.enter 132 args) w :=
  callFunc_enter Try.func132 (by decide) rfl args w
theorem cf_p2 (args : Array Value) (w : World) : (callFunc 134 args).run Try.prog w = .ok (.enter 134 args) w :=
  callFunc_enter Try.func134 (by decide) rfl args w
set_option maxHeartbeats 1000000 in
theorem p1_any (a b : ByteArray) (v1 v2 : Value) (bk : Nat) (w : World) (hx : w.cell? ⟨bk, 0, none⟩ = some (.string b)) :
    Calls Try.prog 132 #[.agg #[.string a, v1, v2], .pointer (some ⟨bk, 0, none⟩)] w fun e w' => e = .returned (.bool (a.toList == b.toList)) ∧ Ext w w' := by
  have hlt := lt_of_cell hx
  go_enter Try.func132, Try.ntmps132
  go_wp2_with fail
  go_ret
  exact ⟨rfl, (Ext.refl w).alloc _⟩
set_option maxHeartbeats 1000000 in
theorem p2_any (a b : ByteArray) (v1 : Value) (bk : Nat) (w : World) (hx : w.cell? ⟨bk, 0, none⟩ = some (.string b)) :
    Calls Try.prog 134 #[.agg #[.string a, v1], .pointer (some ⟨bk, 0, none⟩)] w fun e w' => e = .returned (.bool (a.toList == b.toList)) ∧ Ext w w' := by
  have hlt := lt_of_cell hx
  go_enter Try.func134, Try.ntmps134
  go_wp2_with fail
  go_ret
  exact ⟨rfl, (Ext.refl w).alloc _⟩
theorem take_any {α : Type} (d : α) (f : α → Bool) (l : List α) (p : Nat) (hp : p ≤ l.length) : (l.take p).any f = anyF (fun k => f (l.getD k d)) p := by
  unfold anyF
  rw [Bool.eq_iff_iff, List.any_eq_true, List.any_eq_true]
  constructor
  · rintro ⟨x, hx, hf⟩
    obtain ⟨k, hk, he⟩ := List.mem_take_iff_getElem.1 hx
    refine ⟨k, List.mem_range.2 (by omega), ?_⟩
    rw [show l.getD k d = x by rw [List.getD_eq_getElem?_getD, List.getElem?_eq_getElem (by omega), he]; rfl]
    exact hf
  · rintro ⟨k, hk, hf⟩
    have hk := List.mem_range.1 hk
    refine ⟨l.getD k d, ?_, hf⟩
    rw [List.mem_take_iff_getElem]
    exact ⟨k, by omega, by rw [List.getD_eq_getElem?_getD, List.getElem?_eq_getElem (by omega)]; rfl⟩

theorem box_at (w : World) (cs : Array Value) (e : TypeId) {g j : Nat} {v : Value} (hg : g = w.heap.size) (h : cs[j]? = some v) : (w.alloc (.cells cs e)).cell? ⟨g, j, none⟩ = some v := by
  have h0 : (w.alloc (.cells cs e)).heap[w.heap.size]? = some (.cells cs e) := heap_alloc_new w _
  subst hg
  unfold World.cell?
  rw [h0]
  exact h
theorem any_anyF {α : Type} (d : α) (f : α → Bool) (l : List α) : l.any f = anyF (fun k => f (l.getD k d)) l.length := by
  have := take_any d f l l.length (Nat.le_refl _)
  rwa [List.take_of_length_le (Nat.le_refl _)] at this
theorem getD_lt {α : Type} (d : α) (l : List α) {k : Nat} (h : k < l.length) : l.getD k d = l[k] := by
  rw [List.getD_eq_getElem?_getD, List.getElem?_eq_getElem h]; rfl
theorem SlR.take {α : Type} {size : Nat} {R : World → Nat → Nat → α → Prop} {w : World} {A : Option Addr} {n c : Nat} {xs : List α} (h : SlR size R w (.slice A n c) xs) (k : Nat) (hk : k ≤ n) : SlR size R w (.slice A k c) (xs.take k) := by
  obtain ⟨A', c', hv, h1, h2, h3⟩ := h
  injection hv with e1 e2 e3
  subst e1; subst e3; subst e2
  have hl : (xs.take k).length = k := by rw [List.length_take]; omega
  refine ⟨A, c, by rw [hl], by omega, h2, fun h0 => ?_⟩
  obtain ⟨b, off, hA, hj⟩ := h3 (by omega)
  exact ⟨b, off, hA, fun j x hx => hj j x (by
    rw [List.getElem?_take] at hx
    split at hx
    · exact hx
    · cases hx)⟩
theorem has_name (v : Value) (xs : List Pr) (s : ByteArray) (bk : Nat) (w : World) (hl : xs.length ≤ 1000000) (hs : SlR 3 RPr w v xs) (hx : w.cell? ⟨bk, 0, none⟩ = some (.string s)) :
    Calls Try.prog 67 #[v, .func (.func 132) #[] #[.pointer (some ⟨bk, 0, none⟩)]] w fun e w' => e = .returned (.bool (xs.any fun y => y.name.toList == s.toList)) ∧ Ext w w' := by
  rw [any_anyF dfPr]
  refine containsProc_any v xs _ _ _ w hl hs cf_p1 fun k hk v1 v2 w' he => ?_
  simp only [getD_lt dfPr xs hk]
  exact p1_any _ s v1 v2 bk w' (he.cellAt hx)
theorem has_var (v : Value) (xs : List Vr) (s : ByteArray) (bk : Nat) (w : World) (hl : xs.length ≤ 1000000) (hs : SlR 2 RVr w v xs) (hx : w.cell? ⟨bk, 0, none⟩ = some (.string s)) :
    Calls Try.prog 133 #[v, .func (.func 134) #[] #[.pointer (some ⟨bk, 0, none⟩)]] w fun e w' => e = .returned (.bool (xs.any fun y => y.name.toList == s.toList)) ∧ Ext w w' := by
  rw [any_anyF dfVr]
  refine containsVar_any v xs _ _ _ w hl hs cf_p2 fun k hk w' he => ?_
  simp only [getD_lt dfVr xs hk]
  exact p2_any _ s _ bk w' (he.cellAt hx)
theorem headF_eq (t : Tr) (p : Nat) (hp : p < t.length) : headF t p = if !nameB t[p].name || (t.take p).any (fun y => y.name.toList == t[p].name.toList) then 13
  else if 8 < t[p].vars.length then 5
  else if firstNZ (varF t[p].vars) t[p].vars.length ≠ 0 then firstNZ (varF t[p].vars) t[p].vars.length
  else if 64 < t[p].evs.length then 5 else 0 := by
  unfold headF; rw [getD_lt dfPr t hp]
theorem varF_eq (vs : List Vr) (i : Nat) (hi : i < vs.length) : varF vs i = if !nameB vs[i].name || (vs.take i).any (fun y => y.name.toList == vs[i].name.toList) then 13
  else if !valB vs[i].init then 2 else 0 := by
  unfold varF; rw [getD_lt dfVr vs hi]
def VarRel (vs : List Vr) (w : World) (i : Value) (wr : World) : Prop := ∃ k : Nat, k ≤ vs.length ∧ i = .int .i64 k ∧ firstNZ (varF vs) k = 0 ∧ Ext w wr

set_option maxRecDepth 100000 in
set_option maxHeartbeats 1000000 in
theorem processFault_any (u : Value) (t : Tr) (p : Nat) (w : World) (hp : p < t.length) (hl : t.length ≤ 1000000) (hv : t[p].vars.length ≤ 1000000) (he : t[p].evs.length ≤ 1000000) (hs : SlR 3 RPr w u t) :
    Calls Try.prog 121 #[.agg #[u], .int .i64 p] w fun e w' => e = .returned (.int .i64 (headF t p)) ∧ Ext w w' := by
  obtain ⟨A, c, rfl, h1, h2, hc⟩ := hs.at_
  obtain ⟨b, off, rfl, hel⟩ := hc (by omega)
  obtain ⟨⟨c0, hm⟩, ⟨v1, c1, hs1⟩, v2, c2, hs2⟩ := hel p hp
  have hb := lt_of_cell c0
  have HS := hide hs
  have HS1 := hide hs1
  have HS2 := hide hs2
  obtain ⟨A1, k1, rfl, _, _, _⟩ := hs1.at_
  obtain ⟨A2, k2, rfl, _, _, _⟩ := hs2.at_
  clear hs hs1 hs2
  have HN := hide (fun w => isName_any t[p].name w hm)
  clear hel hc
  go_enter Try.func121, Try.ntmps121
  go_wp2_with fail
  refine (HN.out _).mono ?_
  rintro e w1 ⟨rfl, rfl⟩
  cases hn : nameB t[p].name
  · go_wp2_with fail
    go_ret
    exact ⟨by rw [headF_eq t p hp, hn]; rfl, ((Ext.refl _).alloc _).alloc _⟩
  · go_wp2_with fail
    refine (has_name _ (t.take p) t[p].name _ _ ?_ ?_ ?_).mono ?_
    · rw [List.length_take]; omega
    · exact ((HS.out).take p (by omega)).ext RPr.keeps (((Ext.refl _).alloc _).alloc _)
    · exact box_at _ _ _ (by simp) rfl
    rintro e w1 ⟨rfl, he1⟩
    cases ha : (t.take p).any fun y => y.name.toList == t[p].name.toList
    · have d1 : w1.cell? ⟨w.heap.size + 1, 1, none⟩ = _ := he1.cellAt (box_at _ _ _ (by simp) rfl)
      have d2 : w1.cell? ⟨w.heap.size + 1, 2, none⟩ = _ := he1.cellAt (box_at _ _ _ (by simp) rfl)
      have hw1 := (((Ext.refl w).alloc _).alloc _).trans he1
      have HE := hide (headF_eq t p hp)
      by_cases h8 : 8 < t[p].vars.length
      · go_wp2_with fail
        go_ret
        exact ⟨by rw [HE.out, hn, ha]; simp [h8], hw1⟩
      · go_wp2_with fail
        go_loopw [34] (VarRel t[p].vars w1) (fun i _ => t[p].vars.length - (intOf i).toNat)
        case atStart => exact ⟨0, Nat.zero_le _, rfl, rfl, Ext.refl _⟩
        case round =>
          obtain ⟨k, hk, rfl, hz, hext⟩ := hrel
          have HZ := hide hz
          clear hz
          have d1' := hext.cellAt d1
          have d2' := hext.cellAt d2
          by_cases hlt : k < t[p].vars.length
          · have HSk := hide (HS1.out.ext RVr.keeps (hw1.trans hext))
            obtain ⟨A1', k1', ev, g1, g2, g3⟩ := HSk.out.at_
            obtain ⟨b1, off1, rfl, hel⟩ := g3 (by omega)
            injection ev with ev1 ev2 ev3
            subst ev1; subst ev3
            obtain ⟨f0, f1, fm⟩ := hel k hlt
            have hb1 := lt_of_cell f0
            have hb2 := lt_of_cell d1'
            have HV := hide (varF_eq t[p].vars k hlt)
            have HN2 := hide (fun w => isName_any t[p].vars[k].name w fm)
            have HI := hide (fun w => in_any t[p].vars[k].init (-1073741824) 1073741824 w)
            clear hel g3 ev2
            go_wp2_with fail
            refine (HN2.out _).mono ?_
            rintro e w2 ⟨rfl, rfl⟩
            cases hn2 : nameB t[p].vars[k].name
            · have HF13 := hide (show varF t[p].vars k = 13 by rw [HV.out, hn2]; rfl)
              have HR := hide (firstNZ_hit (n := t[p].vars.length) HZ.out (by rw [HF13.out]; decide) hlt)
              go_wp2_with fail
              go_ret
              exact ⟨by rw [HE.out, hn, ha, HR.out, HF13.out]; simp [h8], (hw1.trans hext).alloc _⟩
            · go_wp2_with fail
              refine (has_var _ (t[p].vars.take k) t[p].vars[k].name _ _ ?_ ?_ ?_).mono ?_
              · rw [List.length_take]; omega
              · exact ((HSk.out).take k (by omega)).ext RVr.keeps ((Ext.refl _).alloc _)
              · exact box_at _ _ _ rfl rfl
              rintro e w3 ⟨rfl, he3⟩
              have he4 := ((Ext.refl wr).alloc _).trans he3
              cases ha2 : (t[p].vars.take k).any fun y => y.name.toList == t[p].vars[k].name.toList
              · have d3 : w3.cell? ⟨wr.heap.size, 1, none⟩ = _ := he3.cellAt (box_at _ _ _ rfl rfl)
                go_wp2_with fail
                refine (HI.out _).mono ?_
                rintro e w4 ⟨rfl, rfl⟩
                cases hv2 : inB t[p].vars[k].init (-1073741824) 1073741824
                · have HF2 := hide (show varF t[p].vars k = 2 by rw [HV.out, hn2, ha2, show valB t[p].vars[k].init = false from hv2]; rfl)
                  have HR := hide (firstNZ_hit (n := t[p].vars.length) HZ.out (by rw [HF2.out]; decide) hlt)
                  go_wp2_with fail
                  go_ret
                  exact ⟨by rw [HE.out, hn, ha, HR.out, HF2.out]; simp [h8], (hw1.trans hext).trans he4⟩
                · have HF0 := hide (show varF t[p].vars k = 0 by rw [HV.out, hn2, ha2, show valB t[p].vars[k].init = true from hv2]; rfl)
                  go_wp2_with fail
                  go_roundw
                  case rel => exact ⟨k + 1, hlt, by go_num, firstNZ_step HZ.out HF0.out, hext.trans he4⟩
                  case measure => simp [intOf]; omega
              · have HF13 := hide (show varF t[p].vars k = 13 by rw [HV.out, hn2, ha2]; rfl)
                have HR := hide (firstNZ_hit (n := t[p].vars.length) HZ.out (by rw [HF13.out]; decide) hlt)
                go_wp2_with fail
                go_ret
                exact ⟨by rw [HE.out, hn, ha, HR.out, HF13.out]; simp [h8], (hw1.trans hext).trans he4⟩
          · have hkn : k = t[p].vars.length := by omega
            subst hkn
            by_cases h64 : 64 < t[p].evs.length
            · go_wp2_with fail
              go_ret
              exact ⟨by rw [HE.out, hn, ha]; simp [h8, h64, HZ.out], hw1.trans hext⟩
            · go_wp2_with fail
              go_ret
              exact ⟨by rw [HE.out, hn, ha]; simp [h8, h64, HZ.out], hw1.trans hext⟩
    · go_wp2_with fail
      go_ret
      exact ⟨by rw [headF_eq t p hp, hn, ha]; rfl, (((Ext.refl _).alloc _).alloc _).trans he1⟩
end Go.Proofs.Ytiiflkcebikecaa
