/- Texts of one proof, laid together: HA, VL, WG, VR, VS, VU, RW, TR, MS, MT, MU, RV, WV, VA, VB, HM, HB, VD. No condition. -/
import Derived.Test.YtoaopldaleaijaaSB6
import Derived.Test.YtoaopldaleaijaaSB2
import Derived.Test.YtoaopldaleaijaaSB3
import Derived.Test.YtoaopldaleaijaaSB7
import Derived.Test.YtoaopldaleaijaaSB5
import Derived.KernelRfl
import Derived.Test.YtoaopldaleaijaaProg
namespace Go.Proofs.Ytoaopldaleaijaa
set_option linter.unusedVariables false
set_option linter.unusedSimpArgs false
theorem vc_mono {t : Tr} {x y : Nat × Nat} (h : Le t x y) (j : Nat) : vc t x j ≤ vc t y j := by
  unfold vc
  refine List.countP_mono_left (fun i _ hi => ?_)
  rw [leB_iff] at hi ⊢
  exact hi.trans h
/-- What is left unmarked in the processes before n. -/
def lftN (len c : Nat → Nat) : Nat → Nat
  | 0 => 0
  | n + 1 => lftN len c n + (len n - c n)
theorem lftN_up {len c : Nat → Nat} {p v : Nat} : ∀ {n : Nat}, n ≤ p → lftN len (fUp c p v) n = lftN len c n
  | 0, _ => rfl
  | n + 1, h => by
    unfold lftN
    rw [lftN_up (by omega), fUp_ne (by omega)]
theorem lftN_step {len c : Nat → Nat} {p v : Nat} (h1 : c p ≤ v) (h2 : v ≤ len p) : ∀ {n : Nat}, p < n → lftN len (fUp c p v) n + (v - c p) = lftN len c n
  | 0, h => by omega
  | n + 1, h => by
    unfold lftN
    by_cases hp : p < n
    · have := lftN_step (n := n) h1 h2 hp
      rw [fUp_ne (by omega)]; omega
    · obtain rfl : p = n := by omega
      rw [lftN_up (Nat.le_refl _), fUp_same]; omega
def lft (t : Tr) (c : Nat → Nat) : Nat := lftN (fun p => (evsOf t p).length) c t.length
theorem lft_step {t : Tr} {c : Nat → Nat} {p v : Nat} (hp : p < t.length) (h1 : c p ≤ v) (h2 : v ≤ (evsOf t p).length) : lft t (fUp c p v) + (v - c p) = lft t c := lftN_step (len := fun p => (evsOf t p).length) h1 h2 hp
/-- What the events of a process from number n down to i + 1 have directly before them. -/
noncomputable def bkL (t : Tr) (p n i : Nat) : List (Nat × Nat) := (List.range (n - i)).flatMap fun k => backL t (p, n - k)
theorem bkL_nil {t : Tr} {p n : Nat} : bkL t p n n = [] := by unfold bkL; simp
theorem bkL_step {t : Tr} {p n i : Nat} (h : i < n) : bkL t p n i = bkL t p n (i + 1) ++ backL t (p, i + 1) := by
  unfold bkL
  rw [show n - i = (n - (i + 1)) + 1 by omega, List.range_succ, List.flatMap_append]
  simp only [List.flatMap_cons, List.flatMap_nil, List.append_nil]
  rw [show n - (n - (i + 1)) = i + 1 by omega]
theorem bkL_len {t : Tr} {p n i : Nat} (h : i ≤ n) : (bkL t p n i).length ≤ 2 * (n - i) := by
  obtain ⟨d, rfl⟩ : ∃ d, n = i + d := ⟨n - i, by omega⟩
  induction d generalizing i with
  | zero => rw [Nat.add_zero, bkL_nil]; simp
  | succ d ih =>
    rw [bkL_step (by omega), List.length_append, show i + (d + 1) = (i + 1) + d by omega]
    have h1 := ih (i := i + 1) (by omega)
    have h2 := backL_len t (p, i + 1)
    omega
theorem mem_bkL {t : Tr} {p n i : Nat} {y : Nat × Nat} (h : y ∈ bkL t p n i) : ∃ j, i < j ∧ j ≤ n ∧ y ∈ backL t (p, j) := by
  unfold bkL at h
  obtain ⟨k, hk, hy⟩ := List.mem_flatMap.1 h
  have := List.mem_range.1 hk
  exact ⟨n - k, by omega, by omega, hy⟩
theorem bkL_mem {t : Tr} {p n i j : Nat} {y : Nat × Nat} (h1 : i < j) (h2 : j ≤ n) (hy : y ∈ backL t (p, j)) : y ∈ bkL t p n i := by
  unfold bkL
  exact List.mem_flatMap.2 ⟨n - j, List.mem_range.2 (by omega), by rwa [show n - (n - j) = j by omega]⟩
/-- What the search keeps: counts c of what is marked, queue Q. -/
structure Pst (t : Tr) (x : Nat × Nat) (c : Nat → Nat) (Q : List (Nat × Nat)) : Prop where
  q : ∀ y ∈ Q, y ∈ ids t ∧ Le t y x
  le : ∀ p i, i < c p → p < t.length ∧ i < (evsOf t p).length ∧ Le t (p, i + 1) x
  src : x ∈ Q ∨ x.2 ≤ c x.1
  cl : ∀ z ∈ ids t, z.2 ≤ c z.1 → ∀ y ∈ backL t z, y ∈ Q ∨ y.2 ≤ c y.1
theorem Pst.start {t : Tr} {x : Nat × Nat} (hx : x ∈ ids t) : Pst t x (fun _ => 0) [x] := by
  refine ⟨fun y hy => ?_, fun p i h => by simp at h, .inl (by simp), fun z hz h => ?_⟩
  · simp only [List.mem_singleton] at hy; subst hy; exact ⟨hx, .refl _⟩
  · have := (mem_ids.1 hz).2.1
    omega
theorem Pst.cle {t : Tr} {x : Nat × Nat} {c : Nat → Nat} {Q : List (Nat × Nat)} (h : Pst t x c Q) (p : Nat) : c p ≤ (evsOf t p).length := by
  cases hc : c p with
  | zero => omega
  | succ n => have := (h.le p n (by omega)).2.1; omega
theorem Pst.skip {t : Tr} {x y : Nat × Nat} {c : Nat → Nat} {Q : List (Nat × Nat)} (h : Pst t x c (y :: Q)) (hc : y.2 ≤ c y.1) : Pst t x c Q := by
  refine ⟨fun z hz => h.q z (by simp [hz]), h.le, ?_, fun z hz hzc w hw => ?_⟩
  · rcases h.src with h1 | h1
    · rcases List.mem_cons.1 h1 with rfl | h2
      · exact .inr hc
      · exact .inl h2
    · exact .inr h1
  · rcases h.cl z hz hzc w hw with h1 | h1
    · rcases List.mem_cons.1 h1 with rfl | h2
      · exact .inr hc
      · exact .inl h2
    · exact .inr h1
theorem Pst.mark {t : Tr} (hv : Vok t) {x : Nat × Nat} {p n : Nat} {c : Nat → Nat} {Q : List (Nat × Nat)} (h : Pst t x c ((p, n) :: Q)) (hc : c p < n) : Pst t x (fUp c p n) (Q ++ bkL t p n (c p)) := by
  obtain ⟨hy, hl⟩ := h.q (p, n) (by simp)
  obtain ⟨n, rfl⟩ : ∃ k, n = k + 1 := ⟨n - 1, by have := (mem_ids.1 hy).2.1; simp only at this; omega⟩
  obtain ⟨hp, hn⟩ := mem_ids2.1 hy
  have up : ∀ q, c q ≤ fUp c p (n + 1) q := fun q => by
    by_cases hq : q = p
    · subst hq; rw [fUp_same]; omega
    · rw [fUp_ne hq]; exact Nat.le_refl _
  refine ⟨fun z hz => ?_, fun q i hi => ?_, ?_, fun z hz hzc w hw => ?_⟩
  · rcases List.mem_append.1 hz with hz | hz
    · exact h.q z (by simp [hz])
    · obtain ⟨j, h1, h2, h3⟩ := mem_bkL hz
      obtain ⟨j, rfl⟩ : ∃ k, j = k + 1 := ⟨j - 1, by omega⟩
      obtain ⟨h4, h5⟩ := back_mem hv (mem_ids2.2 ⟨hp, by omega⟩) h3
      exact ⟨h4, Le.trans (.inr h5) ((le_row h2 (by omega)).trans hl)⟩
  · by_cases hq : q = p
    · subst hq
      rw [fUp_same] at hi
      exact ⟨hp, by omega, (le_row (by omega) (by omega)).trans hl⟩
    · rw [fUp_ne hq] at hi
      exact h.le q i hi
  · rcases h.src with h1 | h1
    · rcases List.mem_cons.1 h1 with rfl | h2
      · exact .inr (by simp only; rw [fUp_same]; omega)
      · exact .inl (List.mem_append.2 (.inl h2))
    · exact .inr (Nat.le_trans h1 (up _))
  · have old : z.2 ≤ c z.1 → w ∈ Q ++ bkL t p (n + 1) (c p) ∨ w.2 ≤ fUp c p (n + 1) w.1 := fun h0 => by
      rcases h.cl z hz h0 w hw with h1 | h1
      · rcases List.mem_cons.1 h1 with rfl | h2
        · exact .inr (by simp only; rw [fUp_same]; omega)
        · exact .inl (List.mem_append.2 (.inl h2))
      · exact .inr (Nat.le_trans h1 (up _))
    obtain ⟨zp, zi⟩ := z
    by_cases hq : zp = p
    · subst hq
      simp only at hzc
      rw [fUp_same] at hzc
      by_cases h0 : zi ≤ c zp
      · exact old h0
      · exact .inl (List.mem_append.2 (.inr (bkL_mem (by omega) hzc hw)))
    · simp only at hzc
      rw [fUp_ne hq] at hzc
      exact old hzc
theorem Pst.all {t : Tr} (hv : Vok t) {x : Nat × Nat} {c : Nat → Nat} (h : Pst t x c []) : ∀ n z, rk t z = n → z ∈ ids t → z.2 ≤ c z.1 → ∀ w ∈ ids t, Le t w z → w.2 ≤ c w.1 := by
  intro n
  induction n using Nat.strongRecOn with
  | _ n ih =>
    intro z hn hz hzc w hw hl
    rcases (le_back hv hz hw).1 hl with rfl | ⟨y, hy, hl2⟩
    · exact hzc
    · obtain ⟨h1, h2⟩ := back_mem hv hz hy
      rcases h.cl z hz hzc y hy with h3 | h3
      · simp at h3
      · exact ih (rk t y) (by rw [← hn]; exact rk_lt hv hz h2) y rfl h1 h3 w hw hl2
theorem Pst.done {t : Tr} (hv : Vok t) {x : Nat × Nat} (hx : x ∈ ids t) {c : Nat → Nat} (h : Pst t x c []) {p : Nat} (hp : p < t.length) : c p = vc t x p := by
  refine thresh (n := (evsOf t p).length) (h.cle p) vc_le (fun j hj => ?_)
  rw [← vc_iff hj]
  constructor
  · exact fun hl => (h.le p j hl).2.2
  · intro hl
    have hs : x.2 ≤ c x.1 := h.src.resolve_left (by simp)
    have := h.all hv (rk t x) x rfl hx hs (p, j + 1) (mem_ids2.2 ⟨hp, hj⟩) hl
    exact this
end Go.Proofs.Ytoaopldaleaijaa

namespace Go.Proofs.Ytoaopldaleaijaa
set_option linter.unusedVariables false
set_option linter.unusedSimpArgs false

def vBad (n : Int) : Bool := decide (n < 0) || decide (n > 1125899906842624)
def vBadAt (v : List Int) (i : Nat) : Bool := vBad (v.getD i 0)
def joinV (v w : List Int) : List Int := List.zipWith max v w
theorem getD_at {α : Type} {l : List α} {i : Nat} {d : α} (h : i < l.length) : l.getD i d = l[i] := by simp [List.getD, h]
theorem joinV_len {v w : List Int} (h : v.length = w.length) : (joinV v w).length = v.length := by
  simp [joinV, h]
theorem joinV_get {v w : List Int} (h : v.length = w.length) {i : Nat} (hi : i < v.length) : (joinV v w).getD i 0 = max (v.getD i 0) (w.getD i 0) := by
  rw [getD_at (by rw [joinV_len h]; exact hi), getD_at hi, getD_at (by omega)]
  simp [joinV]
theorem ext_getD {v w : List Int} (h : v.length = w.length) (hg : ∀ i, i < v.length → v.getD i 0 = w.getD i 0) : v = w := by
  refine List.ext_getElem h (fun i h1 h2 => ?_)
  have := hg i h1
  rwa [getD_at h1, getD_at h2] at this
theorem getD_set_ne {α : Type} {l : List α} {i j : Nat} {x d : α} (h : i ≠ j) : (l.set i x).getD j d = l.getD j d := by
  simp only [List.getD_eq_getElem?_getD, List.getElem?_set_ne h]
end Go.Proofs.Ytoaopldaleaijaa

namespace Go.Proofs.Ytoaopldaleaijaa
open Go.RowKit
set_option linter.unusedVariables false

section
variable {w : World} {F : Nat → Prop}
/-- Cells in a row that read as plain values. -/
def RowR (w : World) (F : Nat → Prop) (b o : Nat) (row : List IV) : Prop := ∀ (j : Nat) (a : IV), row[j]? = some a → ∃ v, w.cell? ⟨b, o + j, none⟩ = some v ∧ RepI w F a v

theorem repI_isl {sz : Nat} {rows : List (List IV)} {v : Value} (h : RepI w F (.isl sz rows) v) :
    ∃ A c, v = .slice A rows.length c ∧ rows.length ≤ c ∧ c ≤ maxLen ∧ (0 < rows.length → ∃ b off, A = some ⟨b, off, none⟩ ∧ F b ∧ ∀ (k : Nat) (row : List IV), rows[k]? = some row → row.length = sz ∧ RowR w F b (off + k * sz) row) := by
  cases h with
  | isl0 _ a c hm => exact ⟨a, c, rfl, Nat.zero_le _, hm, fun h => by simp at h⟩
  | isl _ b off _ c val hF hc hm hsz hcell hrep =>
    exact ⟨_, c, rfl, hc, hm, fun _ => ⟨b, off, rfl, hF, fun k row hk => ⟨hsz k row hk, fun j a hj => ⟨_, hcell k row j a hk hj, hrep k row j a hk hj⟩⟩⟩⟩

theorem isl_repI {sz : Nat} {rows : List (List IV)} {A : Option Addr} {c : Nat} (h1 : rows.length ≤ c) (h2 : c ≤ maxLen)
    (h : 0 < rows.length → ∃ b off, A = some ⟨b, off, none⟩ ∧ F b ∧ ∀ (k : Nat) (row : List IV), rows[k]? = some row → row.length = sz ∧ RowR w F b (off + k * sz) row) : RepI w F (.isl sz rows) (.slice A rows.length c) := by
  by_cases h0 : 0 < rows.length
  · obtain ⟨b, off, rfl, hF, hr⟩ := h h0
    have cell : ∀ (k : Nat) (row : List IV) (j : Nat) (a : IV), rows[k]? = some row → row[j]? = some a → w.cell? ⟨b, off + k * sz + j, none⟩ = some ((w.cell? ⟨b, off + k * sz + j, none⟩).getD undef) := by
      intro k row j a hk hj
      obtain ⟨v, hv, _⟩ := (hr k row hk).2 j a hj
      rw [hv]; rfl
    exact .isl rows b off sz c (fun k j => (w.cell? ⟨b, off + k * sz + j, none⟩).getD undef) hF h1 h2 (fun k row hk => (hr k row hk).1) cell (fun k row j a hk hj => by
      obtain ⟨v, hv, hr⟩ := (hr k row hk).2 j a hj
      rw [hv]; exact hr)
  · have : rows = [] := List.eq_nil_of_length_eq_zero (by omega)
    subst this
    exact .isl0 _ _ _ h2

section
variable {α : Type} {sz : Nat} {R : World → Nat → Nat → α → Prop} {enc : α → List IV} {xs : List α} {v : Value}
theorem slr_of_rep (hR : ∀ b o x, x ∈ xs → RowR w F b o (enc x) → R w b o x) (h : RepI w F (.isl sz (xs.map enc)) v) : SlR sz R w v xs := by
  obtain ⟨A, c, h1, h2, h3, h4⟩ := repI_isl h
  rw [List.length_map] at h1 h2 h4
  refine ⟨A, c, h1, h2, h3, fun h0 => ?_⟩
  obtain ⟨b, off, h5, h6, h7⟩ := h4 h0
  refine ⟨b, off, h5, fun j x hx => hR _ _ _ (List.mem_of_getElem? hx) (h7 j (enc x) (by rw [List.getElem?_map, hx]; rfl)).2⟩

end

def eAsg (a : Asg) : List IV := [.int .i64 a.v, .int .i64 a.val]
def eEv (e : Ev) : List IV := [.int .i64 e.kind, .int .i64 e.peer, .int .i64 e.msg, .int .i64 e.time, .isl 2 (e.asg.map eAsg)]
def eVr (v : Vr) : List IV := [.str v.name, .int .i64 v.init]
def ePr (p : Pr) : List IV := [.str p.name, .isl 2 (p.vars.map eVr), .isl 5 (p.evs.map eEv)]
def eT (t : Tr) : IV := .isl 3 (t.map ePr)
def eI (n : Int) : List IV := [.int .i64 n]
/-- Names are no longer than a string may be. -/
def Nm (t : Tr) : Prop := ∀ p ∈ t, p.name.size ≤ maxLen ∧ ∀ v ∈ p.vars, v.name.size ≤ maxLen

theorem rowInt {k : IntKind} {n : Int} {b o j : Nat} {row : List IV} (h : RowR w F b o row) (hj : row[j]? = some (.int k n)) : w.cell? ⟨b, o + j, none⟩ = some (.int k n) := by
  obtain ⟨v, hv, hr⟩ := h j _ hj
  cases hr; exact hv
theorem rowStr {s : ByteArray} {b o j : Nat} {row : List IV} (h : RowR w F b o row) (hj : row[j]? = some (.str s)) : w.cell? ⟨b, o + j, none⟩ = some (.string s) := by
  obtain ⟨v, hv, hr⟩ := h j _ hj
  cases hr; exact hv
theorem asg_in {b o : Nat} {x : Asg} (h : RowR w F b o (eAsg x)) : RAsg w b o x := ⟨rowInt (j := 0) h rfl, rowInt (j := 1) h rfl⟩
theorem vr_in {b o : Nat} {x : Vr} (hx : x.name.size ≤ maxLen) (h : RowR w F b o (eVr x)) : RVr w b o x := ⟨rowStr (j := 0) h rfl, rowInt (j := 1) h rfl, hx⟩
theorem ev_in {b o : Nat} {x : Ev} (h : RowR w F b o (eEv x)) : REv w b o x := by
  obtain ⟨v, h1, h2⟩ := h 4 _ rfl
  exact ⟨rowInt (j := 0) h rfl, rowInt (j := 1) h rfl, rowInt (j := 2) h rfl, rowInt (j := 3) h rfl, v, h1, slr_of_rep (fun _ _ _ _ h => asg_in h) h2⟩
theorem pr_in {b o : Nat} {x : Pr} (hx : x.name.size ≤ maxLen ∧ ∀ v ∈ x.vars, v.name.size ≤ maxLen) (h : RowR w F b o (ePr x)) : RPr w b o x := by
  obtain ⟨v, h1, h2⟩ := h 1 _ rfl
  obtain ⟨u, h3, h4⟩ := h 2 _ rfl
  exact ⟨⟨rowStr (j := 0) h rfl, hx.1⟩, ⟨v, h1, slr_of_rep (fun _ _ y hy h => vr_in (hx.2 y hy) h) h2⟩, u, h3, slr_of_rep (fun _ _ _ _ h => ev_in h) h4⟩
/-- A trace as plain data lies in memory as a trace. -/
theorem tr_in {t : Tr} {v : Value} (hn : Nm t) (h : RepI w F (eT t) v) : SlR 3 RPr w v t := slr_of_rep (fun _ _ x hx h => pr_in (hn x hx) h) h

section
end
end

section
variable {P : Program}
/-- A contract that only makes memory, in the words of runs. -/
theorem ACalls.of_ext {f : Nat} {args : List AV} {b l : List Row} {Q : AV → List Row → List Row → Prop} (hf : ∃ fn, P.funcs[f]? = some fn ∧ (fn.name == "runtime.NumGoroutine") = false ∧ fn.body.isSome = true)
    (h : ∀ F L w (vs : Array Value), RepL w F L args vs.toList → Calls P f vs w fun en w' => Ext w w' ∧ ∃ v x, en = .returned v ∧ RepA w' F L x v ∧ Q x b l) : ACalls P f args b l Q := by
  refine ⟨hf, fun F L w vs s hr => Calls.mono (h F L w vs hr) ?_⟩
  rintro en w' ⟨he, v, x, h1, h2, h3⟩
  have hblk : ∀ k, k < w.heap.size → w'.heap[k]? = w.heap[k]? := he.block
  refine ⟨v, x, b, l, F, L, h1, h2, ⟨fun i v z els hi => ?_, s.born, s.apart, fun k hk => ⟨Nat.lt_of_lt_of_le (s.imm k hk).1 he.size, (s.imm k hk).2⟩⟩,
    ⟨fun _ h => h, fun _ _ _ _ h => h, he.os, he.tape, he.output, he.size, fun k hk _ => hblk k hk, fun _ _ h => h, fun _ _ _ h => h, fun _ _ h => .inl h⟩, rfl, h3⟩
  obtain ⟨q, g1, g2⟩ := s.row i v z els hi
  exact ⟨q, g1, g2.mono (fun k hk => hblk k (g2.lt hk)) (fun _ _ hx => hx.mono (fun _ h => h) (fun k hk => hblk k (s.imm k hk).1) (fun _ _ _ h => h))⟩

/-- A contract in the words of runs, used in a walk: arguments are plain values. -/
theorem ACalls.calls {f : Nat} {args : List AV} {Q : AV → List Row → List Row → Prop} (h : ACalls P f args [] [] Q) {w : World} {vs : Array Value} (hr : RepL w (fun b => b < w.heap.size) (fun _ _ => none) args vs.toList) :
    Calls P f vs w fun en w' => ∃ v x b' l' F' L', en = .returned v ∧ RepA w' F' L' x v ∧ Ext w w' ∧ Q x b' l' := by
  have no : ∀ k, ¬ Owned (fun _ _ => none) [] k := by rintro k ⟨i, v, s, e1, q, h1, h2, h3⟩; cases h2
  refine Calls.mono (h.2 _ _ w vs ⟨fun i v z els hi => by simp at hi, fun i v q hq => (by cases hq), fun i i' v v' z z' e1 e2 bb q1 q2 h1 => by simp at h1, fun b hb => ⟨hb, no b⟩⟩ hr) ?_
  rintro en w' ⟨v, x, b', l', F', L', h1, h2, h3, h4, h5, h6⟩
  exact ⟨v, x, b', l', F', L', h1, h2, ⟨h4.os, h4.tape, h4.output, h4.size, fun k hk => h4.block k hk (no k)⟩, h6⟩
end
end Go.Proofs.Ytoaopldaleaijaa

namespace Go.Proofs.Ytoaopldaleaijaa
set_option linter.unusedVariables false
set_option linter.unusedSimpArgs false
attribute [local go_sem ↓] run_skip run_region run_draw run_seq run_block run_exit run_ret run_cond atN_app seqC_normal seqC_exit seqC_ret seqQ_normal seqQ_exit seqQ_ret blkQ_normal blkQ_exit blkQ_ret runOps_nil runOps_cons runD_nil runD_cons grdO_true grdO_false grdD_true grdD_false ifC_true ifC_false opS_val opS_call opS_two opK_app dS_val dS_call dS_two dK_app kUp_same kUp_ne
attribute [local go_sem] rechks_nil rechks_cons rechk gcase_true gcase_false ex_val ex_val0 gd_none gd_some ev_t ev_c evs_nil evs_cons evo_some evo_none hget_at hget_first hsetB_at hsetB_first hsetL_at hsetL_first ofOpt_some aop aload astore aslice aappend aiaddr aiaddrA afaddr alen alenS acopy amm acall alookup amupdate alenM comma keyEq apick binV binVB binVS isSh intOp strOp boolOp shOp eqC eqF and2 cellsOf setFrom fillA fillS rd rdI elems mk bounds AV.cell List.all_cons List.all_nil Bool.and_true Bool.true_and Bool.and_self List.length_cons List.length_nil List.length_append Nat.reduceAdd Nat.reduceSub Nat.reduceMul Nat.zero_add Nat.add_zero List.cons_append List.nil_append List.append_assoc List.append_nil List.getElem?_cons_zero List.getElem?_cons_succ List.getElem?_nil List.set_cons_zero List.set_cons_succ List.drop_zero List.drop_succ_cons List.take_zero List.take_succ_cons List.take_nil List.drop_nil List.map_cons List.map_nil Option.map_some if_true if_false Bool.false_eq_true and_self true_and and_true Nat.reduceLeDiff Nat.reduceLT Nat.le_refl Nat.reduceEqDiff ite_true ite_false beq_self_eq_true beq_true beq_false Bool.not_true Bool.not_false Bool.true_beq Bool.false_beq map_vs vs_len vs_get vs_take vs_drop vs_snoc1 vs_snoc2 vs_snoc3 vs_snoc5 vs_set1 vs_set2 vs_rep wrap_id le_T lt_T le_F lt_F leI_T ltI_T leI_F ltI_F geI gtI get_T decide_true decide_false room List.getElem?_map List.length_map List.length_take Int.toNat_natCast Nat.min_def Nat.min_self nth_kOf put_kOf put_kNo kOv_cons kOv_nil KHas KArgs List.getElem_cons_zero List.getElem_cons_succ
def a_Ind1 : AFunc := ⟨2, 19, [.tmp 4],
  (.seq (.region [⟨(some 4), .mv (.c (.v (.int .i64 0))), none⟩])
  (.seq (.seq (.region [⟨(some 6), .mv (.t 0), none⟩, ⟨(some 7), .len (.t 6), none⟩, ⟨(some 8), .mv (.c (.v (.int .i64 0))), none⟩])
  (.block 0 (.loop (.seq (.region [⟨(some 9), .bin .lss (.t 8) (.t 7), none⟩])
  (.seq (.cond (.t 9) .skip
  (.exit 0))
  (.seq (.block 1 (.seq (.region [⟨(some 10), .mv (.t 8), none⟩, ⟨(some 5), .mv (.t 10), none⟩])
  (.seq (.region [⟨(some 11), .mv (.t 1), none⟩, ⟨(some 12), .mv (.t 0), none⟩, ⟨(some 13), .mv (.t 5), none⟩, ⟨(some 14), .iaddr 1 (.t 12) (.t 13), none⟩, ⟨(some 15), .load none (.t 14), none⟩, ⟨(some 16), .call (.t 11) [(.t 15)], none⟩])
  (.cond (.t 16) (.seq (.region [⟨(some 17), .mv (.t 5), none⟩, ⟨(some 4), .mv (.t 17), none⟩])
  .ret)
  .skip))))
  (.region [⟨(some 18), .bin .add (.t 8) (.c (.v (.int .i64 1))), none⟩, ⟨(some 8), .mv (.t 18), none⟩])))))))
  (.seq (.region [⟨(some 4), .mv (.c (.v (.int .i64 (-1)))), none⟩])
  .ret)))⟩
theorem a_Ind1_ok : cFunc Try.prog 87 = some a_Ind1 := by kernel_rfl
def r_Ind10 : List (Nat × Nat) := [(4, 5), (8, 18)]
def a_Con1 : AFunc := ⟨2, 9, [.tmp 4],
  (.seq (.region [⟨(some 4), .mv (.c (.v (.bool false))), none⟩])
  (.seq (.region [⟨(some 5), .mv (.t 0), none⟩, ⟨(some 6), .mv (.t 1), none⟩, ⟨(some 7), .call (.c (.fn 87 [])) [(.t 5), (.t 6)], none⟩, ⟨(some 8), .bin .geq (.t 7) (.c (.v (.int .i64 0))), none⟩, ⟨(some 4), .mv (.t 8), none⟩])
  .ret))⟩
theorem a_Con1_ok : cFunc Try.prog 30 = some a_Con1 := by kernel_rfl
def a_Eq1 : AFunc := ⟨2, 26, [.tmp 4],
  (.seq (.region [⟨(some 4), .mv (.c (.v (.bool false))), none⟩])
  (.seq (.seq (.region [⟨(some 6), .mv (.t 0), none⟩, ⟨(some 7), .len (.t 6), none⟩, ⟨(some 8), .mv (.t 1), none⟩, ⟨(some 9), .len (.t 8), none⟩, ⟨(some 10), .bin .neq (.t 7) (.t 9), none⟩])
  (.cond (.t 10) (.seq (.region [⟨(some 4), .mv (.c (.v (.bool false))), none⟩])
  .ret)
  .skip))
  (.seq (.seq (.region [⟨(some 11), .mv (.t 0), none⟩, ⟨(some 12), .len (.t 11), none⟩, ⟨(some 13), .mv (.c (.v (.int .i64 0))), none⟩])
  (.block 0 (.loop (.seq (.region [⟨(some 14), .bin .lss (.t 13) (.t 12), none⟩])
  (.seq (.cond (.t 14) .skip
  (.exit 0))
  (.seq (.block 1 (.seq (.region [⟨(some 15), .mv (.t 13), none⟩, ⟨(some 5), .mv (.t 15), none⟩])
  (.seq (.draw [⟨0, ⟨(some 16), .mv (.t 0), none⟩, []⟩, ⟨1, ⟨(some 17), .mv (.t 5), none⟩, []⟩, ⟨2, ⟨(some 18), .iaddr 1 (.t 16) (.t 17), none⟩, []⟩, ⟨3, ⟨(some 19), .load none (.t 18), none⟩, []⟩, ⟨4, ⟨(some 20), .mv (.t 1), none⟩, []⟩, ⟨5, ⟨(some 21), .mv (.t 5), none⟩, []⟩, ⟨6, ⟨(some 22), .iaddr 1 (.t 20) (.t 21), none⟩, []⟩, ⟨7, ⟨(some 23), .load none (.t 22), none⟩, []⟩, ⟨8, ⟨(some 24), .bin .neq (.t 19) (.t 23), none⟩, []⟩])
  (.cond (.t 24) (.seq (.region [⟨(some 4), .mv (.c (.v (.bool false))), none⟩])
  .ret)
  .skip))))
  (.region [⟨(some 25), .bin .add (.t 13) (.c (.v (.int .i64 1))), none⟩, ⟨(some 13), .mv (.t 25), none⟩])))))))
  (.seq (.region [⟨(some 4), .mv (.c (.v (.bool true))), none⟩])
  .ret))))⟩
theorem a_Eq1_ok : cFunc Try.prog 39 = some a_Eq1 := by kernel_rfl
def r_Eq10 : List (Nat × Nat) := [(4, 5), (13, 25)]
def a_Clo1 : AFunc := ⟨1, 8, [.tmp 2],
  (.seq (.region [⟨(some 2), .mv (.c (.v .zsl)), none⟩])
  (.seq (.seq (.region [⟨(some 3), .mv (.t 0), none⟩, ⟨(some 4), .isnil false (.t 3), none⟩])
  (.cond (.t 4) (.seq (.region [⟨(some 2), .mv (.c (.v .zsl)), none⟩])
  .ret)
  .skip))
  (.seq (.region [⟨(some 5), .bslice 1 [(.v (.int .i64 0))] 0 [], none⟩, ⟨(some 6), .mv (.t 0), none⟩, ⟨(some 7), .append 1 8 (.t 5) (.t 6), none⟩, ⟨(some 2), .mv (.t 7), none⟩])
  .ret)))⟩
theorem a_Clo1_ok : cFunc Try.prog 114 = some a_Clo1 := by kernel_rfl
def a_joined : AFunc := ⟨2, 28, [.tmp 4],
  (.seq (.region [⟨(some 4), .mv (.c (.v .zsl)), none⟩])
  (.seq (.region [⟨(some 8), .mv (.t 0), none⟩, ⟨(some 9), .call (.c (.fn 114 [])) [(.t 8)], none⟩, ⟨(some 5), .mv (.t 9), none⟩])
  (.seq (.seq (.region [⟨(some 10), .mv (.t 1), none⟩, ⟨(some 11), .len (.t 10), none⟩, ⟨(some 12), .mv (.c (.v (.int .i64 0))), none⟩])
  (.block 0 (.loop (.seq (.region [⟨(some 13), .bin .lss (.t 12) (.t 11), none⟩])
  (.seq (.cond (.t 13) .skip
  (.exit 0))
  (.seq (.block 1 (.seq (.region [⟨(some 14), .mv (.t 12), none⟩, ⟨(some 15), .iaddr 1 (.t 10) (.t 12), none⟩, ⟨(some 16), .load none (.t 15), none⟩, ⟨(some 6), .mv (.t 14), none⟩, ⟨(some 7), .mv (.t 16), none⟩])
  (.region [⟨(some 17), .mv (.t 5), none⟩, ⟨(some 18), .mv (.t 6), none⟩, ⟨(some 19), .mv (.t 5), none⟩, ⟨(some 20), .mv (.t 6), none⟩, ⟨(some 21), .iaddr 1 (.t 19) (.t 20), none⟩, ⟨(some 22), .load none (.t 21), none⟩, ⟨(some 23), .mv (.t 7), none⟩, ⟨(some 24), .mm true (.t 22) (.t 23), none⟩, ⟨(some 25), .iaddr 1 (.t 17) (.t 18), none⟩, ⟨none, .store 1 (.t 25) (.t 24), none⟩])))
  (.region [⟨(some 26), .bin .add (.t 12) (.c (.v (.int .i64 1))), none⟩, ⟨(some 12), .mv (.t 26), none⟩])))))))
  (.seq (.region [⟨(some 27), .mv (.t 5), none⟩, ⟨(some 4), .mv (.t 27), none⟩])
  .ret))))⟩
theorem a_joined_ok : cFunc Try.prog 139 = some a_joined := by kernel_rfl
def r_joined0 : List (Nat × Nat) := [(6, 7), (12, 26)]

/-- A slice of numbers. -/
def iv (v : List Int) : AV := .v (.isl 1 (v.map eI))

def firstP (p : Nat → Bool) (n : Nat) : Int := match (List.range n).find? p with
  | some i => i
  | none => -1
theorem firstP_at {p : Nat → Bool} {n i : Nat} (h : i < n) (h0 : ∀ j, j < i → p j = false) (hi : p i = true) : firstP p n = i := by
  have hf : (List.range n).find? p = some i := by
    rw [show n = i + (1 + (n - i - 1)) by omega, List.range_add, List.find?_append]
    have : (List.range i).find? p = none := by
      rw [List.find?_eq_none]; intro q hq; simp [h0 q (List.mem_range.1 hq)]
    rw [this, Nat.add_comm 1, List.range_succ_eq_map]
    simp [hi]
  unfold firstP; rw [hf]
theorem firstP_none {p : Nat → Bool} {n : Nat} (h0 : ∀ j, j < n → p j = false) : firstP p n = -1 := by
  have : (List.range n).find? p = none := by
    rw [List.find?_eq_none]; intro q hq; simp [h0 q (List.mem_range.1 hq)]
  unfold firstP; rw [this]
theorem firstP_ge {p : Nat → Bool} {n : Nat} : decide (0 ≤ firstP p n) = (List.range n).any p := by
  unfold firstP
  cases h : (List.range n).find? p with
  | none =>
    have := List.find?_eq_none.1 h
    have hn : (List.range n).any p = false := by rw [List.any_eq_false]; exact this
    rw [hn]; rfl
  | some i =>
    have h1 := List.find?_some h
    have h2 := List.mem_of_find?_eq_some h
    have hn : (List.range n).any p = true := List.any_eq_true.2 ⟨i, h2, h1⟩
    rw [hn]; simp

theorem index1_spec (v : List Int) (k : Nat) (caps : List AV) (p : Nat → Bool) (hn : v.length ≤ 1000000) (b l : List Row)
    (hp : ∀ (i : Nat) (h : i < v.length), ACalls Try.prog k (.v (.int .i64 v[i]) :: caps) (b ++ l) [] (fun r b' l' => r = .v (.bool (p i)) ∧ b' = b ++ l ∧ l' = [])) :
    ACalls Try.prog 87 [.v (.isl 1 (v.map eI)), .fn k caps] b l (fun r b' l' => r = .v (.int .i64 (firstP p v.length)) ∧ b' = b ∧ l' = l) := by
  refine calls_kept a_Ind1_ok rfl (by decide) ?_
  intro B g hB hR hE hA
  simp only [KArgs] at hA
  simp (disch := decide) only [a_Ind1, hA, List.length_map, go_sem]
  refine loop_kept (ι := Nat) r_Ind10 (fun i => [(8, .v (.int .i64 i))]) 0 (fun _ => [])
    (fun i => i ≤ v.length ∧ ∀ j, j < i → p j = false) (fun i => v.length - i) 0 ⟨Nat.zero_le _, fun j hj => by omega⟩ (by (repeat (first | exact hE.mono (by omega) | refine KLt.up ?_ (by simp (disch := omega) only [AVlt_v, AVlt_any, AVlt_sl, AVlt_ptr, AVlt_mp, AVlt_agg, AVlt_tup, AVlt_fn, RowsLt_nil, RowsLt_live, RowsLt_dead, List.mem_cons, List.not_mem_nil, List.forall_mem_cons, List.forall_mem_nil, or_false, false_or, forall_eq_or_imp, forall_eq, vs_lt, Nat.add_lt_add_iff_left, Nat.reduceLT, true_and, and_true, and_self, List.length_cons, List.length_nil, Nat.reduceAdd, Nat.zero_add, implies_true, false_imp_iff, lt_T, List.mem_map])))) (by ((try simp (disch := decide) only [hA, go_sem]) <;> (repeat' (first | exact trivial | refine And.intro ?_ ?_)) <;> (first | rfl | (congr 2; omega)))) (fun e => Weak.refl _ _ _) ?_
  rintro g1 hE1 hEE1 hg1 i ⟨hi, h0⟩
  by_cases hlt : i < v.length
  · simp (disch := (first | decide | omega)) only [hA, hg1, eI, go_sem]
    refine ACalls_mono _ _ _ _ _ _ (hB ▸ hp i hlt) ?_
    rintro r b' l' ⟨rfl, rfl, rfl⟩
    cases hpi : p i
    · simp (disch := (first | decide | omega)) only [hA, hg1, hpi, go_sem]
      refine ⟨i + 1, ⟨hlt, fun j hj => ?_⟩, by simp only; omega, ?_⟩
      · rcases Nat.lt_or_ge j i with hji | hji
        · exact h0 j hji
        · have : j = i := by omega
          rw [this]; exact hpi
      exact Weak.kround (p := r_Ind10) (k := 0) (by ((repeat refine (kAny_up rfl).trans ?_); exact hEE1)) (by ((try simp (disch := decide) only [hA, go_sem]) <;> (repeat' (first | exact trivial | refine And.intro ?_ ?_)) <;> (first | rfl | (congr 2; omega)))) rfl hE1 (by simp) (by simp (disch := omega) only [KOvLt, AVlt_v, AVlt_any, AVlt_sl, AVlt_ptr, AVlt_mp, AVlt_agg, AVlt_tup, AVlt_fn, RowsLt_nil, RowsLt_live, RowsLt_dead, List.mem_cons, List.not_mem_nil, List.forall_mem_cons, List.forall_mem_nil, or_false, false_or, forall_eq_or_imp, forall_eq, vs_lt, Nat.add_lt_add_iff_left, Nat.reduceLT, true_and, and_true, and_self, List.length_cons, List.length_nil, Nat.reduceAdd, Nat.zero_add, implies_true, false_imp_iff, lt_T, List.mem_map]) hR (by simp (disch := omega) only [AVlt_v, AVlt_any, AVlt_sl, AVlt_ptr, AVlt_mp, AVlt_agg, AVlt_tup, AVlt_fn, RowsLt_nil, RowsLt_live, RowsLt_dead, List.mem_cons, List.not_mem_nil, List.forall_mem_cons, List.forall_mem_nil, or_false, false_or, forall_eq_or_imp, forall_eq, vs_lt, Nat.add_lt_add_iff_left, Nat.reduceLT, true_and, and_true, and_self, List.length_cons, List.length_nil, Nat.reduceAdd, Nat.zero_add, implies_true, false_imp_iff, lt_T, List.mem_map])
    · simp (disch := (first | decide | omega)) only [hA, hg1, hpi, go_sem]
      exact leave_pure (xs := [.v (.int .i64 i)]) (.inr rfl) (by simp (disch := (first | decide | omega)) only [resVs, resV, go_sem, hA, hg1]) (by simp only [one, AVlt_v, AVlt_any, AVlt_sl, AVlt_ptr, AVlt_mp, AVlt_agg, AVlt_tup, AVlt_fn, RowsLt_nil, RowsLt_live, RowsLt_dead, List.mem_cons, List.not_mem_nil, List.forall_mem_cons, List.forall_mem_nil, or_false, false_or, forall_eq_or_imp, forall_eq, vs_lt, Nat.add_lt_add_iff_left, Nat.reduceLT, true_and, and_true, and_self, List.length_cons, List.length_nil, Nat.reduceAdd, Nat.zero_add, implies_true, false_imp_iff, lt_T, List.mem_map]) hR hB ⟨by rw [firstP_at hlt h0 hpi]; rfl, rfl, rfl⟩
  · simp (disch := (first | decide | omega)) only [hA, hg1, go_sem]
    obtain rfl : i = v.length := by omega
    exact leave_pure (xs := [.v (.int .i64 (-1))]) (.inr rfl) (by simp (disch := (first | decide | omega)) only [resVs, resV, go_sem, hA, hg1]) (by simp only [one, AVlt_v, AVlt_any, AVlt_sl, AVlt_ptr, AVlt_mp, AVlt_agg, AVlt_tup, AVlt_fn, RowsLt_nil, RowsLt_live, RowsLt_dead, List.mem_cons, List.not_mem_nil, List.forall_mem_cons, List.forall_mem_nil, or_false, false_or, forall_eq_or_imp, forall_eq, vs_lt, Nat.add_lt_add_iff_left, Nat.reduceLT, true_and, and_true, and_self, List.length_cons, List.length_nil, Nat.reduceAdd, Nat.zero_add, implies_true, false_imp_iff, lt_T, List.mem_map]) hR hB ⟨by rw [firstP_none h0]; rfl, rfl, rfl⟩
theorem contains1_spec (v : List Int) (k : Nat) (caps : List AV) (p : Nat → Bool) (hn : v.length ≤ 1000000) (b l : List Row)
    (hp : ∀ (i : Nat) (h : i < v.length), ACalls Try.prog k (.v (.int .i64 v[i]) :: caps) (b ++ l) [] (fun r b' l' => r = .v (.bool (p i)) ∧ b' = b ++ l ∧ l' = [])) :
    ACalls Try.prog 30 [.v (.isl 1 (v.map eI)), .fn k caps] b l (fun r b' l' => r = .v (.bool ((List.range v.length).any p)) ∧ b' = b ∧ l' = l) := by
  refine calls_kept a_Con1_ok rfl (by decide) ?_
  intro B g hB hR hE hA
  simp only [KArgs] at hA
  simp (disch := decide) only [a_Con1, hA, go_sem]
  refine ACalls_mono _ _ _ _ _ _ (index1_spec v k caps p hn B [] (by rw [List.append_nil, hB]; exact hp)) ?_
  rintro r b' l' ⟨rfl, rfl, rfl⟩
  simp (disch := decide) only [hA, go_sem]
  exact leave_pure (xs := [.v (.bool (decide (0 ≤ firstP p v.length)))]) (.inr rfl) (by simp (disch := (first | decide | omega)) only [resVs, resV, go_sem, hA]) (by simp only [one, AVlt_v, AVlt_any, AVlt_sl, AVlt_ptr, AVlt_mp, AVlt_agg, AVlt_tup, AVlt_fn, RowsLt_nil, RowsLt_live, RowsLt_dead, List.mem_cons, List.not_mem_nil, List.forall_mem_cons, List.forall_mem_nil, or_false, false_or, forall_eq_or_imp, forall_eq, vs_lt, Nat.add_lt_add_iff_left, Nat.reduceLT, true_and, and_true, and_self, List.length_cons, List.length_nil, Nat.reduceAdd, Nat.zero_add, implies_true, false_imp_iff, lt_T, List.mem_map]) hR hB ⟨by rw [firstP_ge]; rfl, rfl, rfl⟩
end Go.Proofs.Ytoaopldaleaijaa

namespace Go.Proofs.Ytoaopldaleaijaa
set_option linter.unusedVariables false
set_option linter.unusedSimpArgs false
attribute [local go_sem ↓] run_skip run_region run_draw run_seq run_block run_exit run_ret run_cond atN_app seqC_normal seqC_exit seqC_ret seqQ_normal seqQ_exit seqQ_ret blkQ_normal blkQ_exit blkQ_ret runOps_nil runOps_cons runD_nil runD_cons grdO_true grdO_false grdD_true grdD_false ifC_true ifC_false opS_val opS_call opS_two opK_app dS_val dS_call dS_two dK_app kUp_same kUp_ne
attribute [local go_sem] rechks_nil rechks_cons rechk gcase_true gcase_false ex_val ex_val0 gd_none gd_some ev_t ev_c evs_nil evs_cons evo_some evo_none hget_at hget_first hsetB_at hsetB_first hsetL_at hsetL_first ofOpt_some aop aload astore aslice aappend aiaddr aiaddrA afaddr alen alenS acopy amm acall alookup amupdate alenM comma keyEq apick binV binVB binVS isSh intOp strOp boolOp shOp eqC eqF and2 cellsOf setFrom fillA fillS rd rdI elems mk bounds AV.cell List.all_cons List.all_nil Bool.and_true Bool.true_and Bool.and_self List.length_cons List.length_nil List.length_append Nat.reduceAdd Nat.reduceSub Nat.reduceMul Nat.zero_add Nat.add_zero List.cons_append List.nil_append List.append_assoc List.append_nil List.getElem?_cons_zero List.getElem?_cons_succ List.getElem?_nil List.set_cons_zero List.set_cons_succ List.drop_zero List.drop_succ_cons List.take_zero List.take_succ_cons List.take_nil List.drop_nil List.map_cons List.map_nil Option.map_some if_true if_false Bool.false_eq_true and_self true_and and_true Nat.reduceLeDiff Nat.reduceLT Nat.le_refl Nat.reduceEqDiff ite_true ite_false beq_self_eq_true beq_true beq_false Bool.not_true Bool.not_false Bool.true_beq Bool.false_beq map_vs vs_len vs_get vs_take vs_drop vs_snoc1 vs_snoc2 vs_snoc3 vs_snoc5 vs_set1 vs_set2 vs_rep wrap_id le_T lt_T le_F lt_F leI_T ltI_T leI_F ltI_F geI gtI get_T decide_true decide_false room List.getElem?_map List.length_map List.length_take Int.toNat_natCast Nat.min_def Nat.min_self nth_kOf put_kOf put_kNo kOv_cons kOv_nil KHas KArgs List.getElem_cons_zero List.getElem_cons_succ
/-- The end of a function that hands out its first own row as it is. -/
theorem leave_own {rs : List ARes} {Q : AV → List Row → List Row → Prop} {B e l : _} {ex : AExit} (hex : ex = .normal ∨ ex = .ret) {ver sz n : Nat} {rows : List (List IV)} {junk : List Row} (hx : resVs e B l rs = some [.sl B.length ver 0 n]) (hl : l = [.live ver sz (vs rows)] ++ junk)
    (hR : RowsLt B.length B) {b0 l0 : List Row} (hB : B = b0 ++ l0) (hq : Q (.sl B.length ver 0 n) b0 (l0 ++ [.live ver sz (vs rows)])) : Leaves rs Q b0.length ex e B l := by
  refine leave hex hx (y := .sl B.length ver 0 n) (Weak.trim (l1 := [.live ver sz (vs rows)]) hl ?_ (hR.mono (by omega)) ?_) hB hq
  · intro x hx
    simp [one] at hx
    subst hx
    simp (disch := omega) only [AVlt_v, AVlt_any, AVlt_sl, AVlt_ptr, AVlt_mp, AVlt_agg, AVlt_tup, AVlt_fn, RowsLt_nil, RowsLt_live, RowsLt_dead, List.mem_cons, List.not_mem_nil, List.forall_mem_cons, List.forall_mem_nil, or_false, false_or, forall_eq_or_imp, forall_eq, vs_lt, Nat.add_lt_add_iff_left, Nat.reduceLT, true_and, and_true, and_self, List.length_cons, List.length_nil, Nat.reduceAdd, Nat.zero_add, implies_true, false_imp_iff, lt_T, List.mem_map]
  · simp (disch := omega) only [AVlt_v, AVlt_any, AVlt_sl, AVlt_ptr, AVlt_mp, AVlt_agg, AVlt_tup, AVlt_fn, RowsLt_nil, RowsLt_live, RowsLt_dead, List.mem_cons, List.not_mem_nil, List.forall_mem_cons, List.forall_mem_nil, or_false, false_or, forall_eq_or_imp, forall_eq, vs_lt, Nat.add_lt_add_iff_left, Nat.reduceLT, true_and, and_true, and_self, List.length_cons, List.length_nil, Nat.reduceAdd, Nat.zero_add, implies_true, false_imp_iff, lt_T, List.mem_map]
theorem eq1_spec (v w : List Int) (hv : v.length ≤ 1000000) (b l : List Row) : ACalls Try.prog 39 [.v (.isl 1 (v.map eI)), .v (.isl 1 (w.map eI))] b l (fun r b' l' => r = .v (.bool (decide (v = w))) ∧ b' = b ∧ l' = l) := by
  refine calls_kept a_Eq1_ok rfl (by decide) ?_
  intro B g hB hR hE hA
  simp only [KArgs] at hA
  by_cases hl : v.length = w.length
  · have hd : ((v.length : Int) != (w.length : Int)) = false := by simp [hl]
    simp (disch := (first | decide | omega)) only [a_Eq1, hA, List.length_map, hd, go_sem]
    refine loop_kept (ι := Nat) r_Eq10 (fun i => [(13, .v (.int .i64 i))]) 0 (fun _ => [])
      (fun i => i ≤ v.length ∧ ∀ j, j < i → v.getD j 0 = w.getD j 0) (fun i => v.length - i) 0 ⟨Nat.zero_le _, fun j hj => by omega⟩ (by (repeat (first | exact hE.mono (by omega) | refine KLt.up ?_ (by simp (disch := omega) only [AVlt_v, AVlt_any, AVlt_sl, AVlt_ptr, AVlt_mp, AVlt_agg, AVlt_tup, AVlt_fn, RowsLt_nil, RowsLt_live, RowsLt_dead, List.mem_cons, List.not_mem_nil, List.forall_mem_cons, List.forall_mem_nil, or_false, false_or, forall_eq_or_imp, forall_eq, vs_lt, Nat.add_lt_add_iff_left, Nat.reduceLT, true_and, and_true, and_self, List.length_cons, List.length_nil, Nat.reduceAdd, Nat.zero_add, implies_true, false_imp_iff, lt_T, List.mem_map])))) (by ((try simp (disch := decide) only [hA, go_sem]) <;> (repeat' (first | exact trivial | refine And.intro ?_ ?_)) <;> (first | rfl | (congr 2; omega)))) (fun e => Weak.refl _ _ _) ?_
    rintro g1 hE1 hEE1 hg1 i ⟨hi, h0⟩
    by_cases hlt : i < v.length
    · have hlw : i < w.length := by omega
      by_cases he : v[i] = w[i]
      · have hd2 : (v[i] != w[i]) = false := by simp [he]
        simp (disch := (first | decide | omega)) only [hA, hg1, eI, hd2, go_sem]
        refine ⟨i + 1, ⟨hlt, fun j hj => ?_⟩, by simp only; omega, ?_⟩
        · rcases Nat.lt_or_ge j i with hji | hji
          · exact h0 j hji
          · have : j = i := by omega
            subst this
            rw [getD_at hlt, getD_at hlw, he]
        exact Weak.kround (p := r_Eq10) (k := 0) (by ((repeat refine (kAny_up rfl).trans ?_); exact hEE1)) (by ((try simp (disch := decide) only [hA, go_sem]) <;> (repeat' (first | exact trivial | refine And.intro ?_ ?_)) <;> (first | rfl | (congr 2; omega)))) rfl hE1 (by simp) (by simp (disch := omega) only [KOvLt, AVlt_v, AVlt_any, AVlt_sl, AVlt_ptr, AVlt_mp, AVlt_agg, AVlt_tup, AVlt_fn, RowsLt_nil, RowsLt_live, RowsLt_dead, List.mem_cons, List.not_mem_nil, List.forall_mem_cons, List.forall_mem_nil, or_false, false_or, forall_eq_or_imp, forall_eq, vs_lt, Nat.add_lt_add_iff_left, Nat.reduceLT, true_and, and_true, and_self, List.length_cons, List.length_nil, Nat.reduceAdd, Nat.zero_add, implies_true, false_imp_iff, lt_T, List.mem_map]) hR (by simp (disch := omega) only [AVlt_v, AVlt_any, AVlt_sl, AVlt_ptr, AVlt_mp, AVlt_agg, AVlt_tup, AVlt_fn, RowsLt_nil, RowsLt_live, RowsLt_dead, List.mem_cons, List.not_mem_nil, List.forall_mem_cons, List.forall_mem_nil, or_false, false_or, forall_eq_or_imp, forall_eq, vs_lt, Nat.add_lt_add_iff_left, Nat.reduceLT, true_and, and_true, and_self, List.length_cons, List.length_nil, Nat.reduceAdd, Nat.zero_add, implies_true, false_imp_iff, lt_T, List.mem_map])
      · have hd2 : (v[i] != w[i]) = true := by simp [he]
        have hne : decide (v = w) = false := by
          rw [decide_eq_false_iff_not]; intro h; subst h; exact he rfl
        simp (disch := (first | decide | omega)) only [hA, hg1, eI, hd2, go_sem]
        exact leave_pure (xs := [.v (.bool false)]) (.inr rfl) (by simp (disch := (first | decide | omega)) only [resVs, resV, go_sem, hA, hg1]) (by simp only [one, AVlt_v, AVlt_any, AVlt_sl, AVlt_ptr, AVlt_mp, AVlt_agg, AVlt_tup, AVlt_fn, RowsLt_nil, RowsLt_live, RowsLt_dead, List.mem_cons, List.not_mem_nil, List.forall_mem_cons, List.forall_mem_nil, or_false, false_or, forall_eq_or_imp, forall_eq, vs_lt, Nat.add_lt_add_iff_left, Nat.reduceLT, true_and, and_true, and_self, List.length_cons, List.length_nil, Nat.reduceAdd, Nat.zero_add, implies_true, false_imp_iff, lt_T, List.mem_map]) hR hB ⟨by rw [hne]; rfl, rfl, rfl⟩
    · simp (disch := (first | decide | omega)) only [hA, hg1, go_sem]
      obtain rfl : i = v.length := by omega
      have he : decide (v = w) = true := decide_eq_true (ext_getD hl h0)
      exact leave_pure (xs := [.v (.bool true)]) (.inr rfl) (by simp (disch := (first | decide | omega)) only [resVs, resV, go_sem, hA, hg1]) (by simp only [one, AVlt_v, AVlt_any, AVlt_sl, AVlt_ptr, AVlt_mp, AVlt_agg, AVlt_tup, AVlt_fn, RowsLt_nil, RowsLt_live, RowsLt_dead, List.mem_cons, List.not_mem_nil, List.forall_mem_cons, List.forall_mem_nil, or_false, false_or, forall_eq_or_imp, forall_eq, vs_lt, Nat.add_lt_add_iff_left, Nat.reduceLT, true_and, and_true, and_self, List.length_cons, List.length_nil, Nat.reduceAdd, Nat.zero_add, implies_true, false_imp_iff, lt_T, List.mem_map]) hR hB ⟨by rw [he]; rfl, rfl, rfl⟩
  · have hd : ((v.length : Int) != (w.length : Int)) = true := by simp; omega
    have hne : decide (v = w) = false := by
      rw [decide_eq_false_iff_not]; intro h; subst h; exact hl rfl
    simp (disch := (first | decide | omega)) only [a_Eq1, hA, List.length_map, hd, go_sem]
    exact leave_pure (xs := [.v (.bool false)]) (.inr rfl) (by simp (disch := (first | decide | omega)) only [resVs, resV, go_sem, hA]) (by simp only [one, AVlt_v, AVlt_any, AVlt_sl, AVlt_ptr, AVlt_mp, AVlt_agg, AVlt_tup, AVlt_fn, RowsLt_nil, RowsLt_live, RowsLt_dead, List.mem_cons, List.not_mem_nil, List.forall_mem_cons, List.forall_mem_nil, or_false, false_or, forall_eq_or_imp, forall_eq, vs_lt, Nat.add_lt_add_iff_left, Nat.reduceLT, true_and, and_true, and_self, List.length_cons, List.length_nil, Nat.reduceAdd, Nat.zero_add, implies_true, false_imp_iff, lt_T, List.mem_map]) hR hB ⟨by rw [hne]; rfl, rfl, rfl⟩
theorem clo1_spec (v : List Int) (h1 : 1 ≤ v.length) (ht : v.length ≤ 1000000) (b l : List Row) : ACalls Try.prog 114 [.v (.isl 1 (v.map eI))] b l (fun r b' l' => r = .sl (b.length + l.length) 1 0 v.length ∧ b' = b ∧ l' = l ++ [.live 1 1 (vs (v.map eI))]) := by
  refine calls_kept a_Clo1_ok rfl (by decide) ?_
  intro B g hB hR hE hA
  simp only [KArgs] at hA
  simp (disch := decide) only [a_Clo1, hA, go_sem]
  refine ⟨fun h => ?_, ?_⟩
  · exfalso; rw [List.isEmpty_iff] at h; rw [List.map_eq_nil_iff.1 h] at h1; exact absurd h1 (by decide)
  rw [if_pos (by first | omega | (simp only [List.length_map]; omega))]
  simp (disch := (first | decide | omega)) only [hA, go_sem]
  exact leave_own (.inr rfl) (n := v.length) (rows := v.map eI) (junk := []) (by simp (disch := (first | decide | omega)) only [resVs, resV, hA, List.length_map, go_sem]) (by simp) hR hB ⟨by rw [hB, List.length_append], rfl, rfl⟩
def joTo (v w : List Int) (i : Nat) : List Int := (joinV v w).take i ++ v.drop i
theorem joTo_len {v w : List Int} (h : v.length = w.length) (i : Nat) (hi : i ≤ v.length) : (joTo v w i).length = v.length := by
  unfold joTo; rw [List.length_append, List.length_take, List.length_drop, joinV_len h]; omega
theorem joTo_zero (v w : List Int) : joTo v w 0 = v := by simp [joTo]
theorem joTo_all {v w : List Int} (h : v.length = w.length) : joTo v w v.length = joinV v w := by
  unfold joTo; rw [List.take_of_length_le (by rw [joinV_len h]; exact Nat.le_refl _), List.drop_length, List.append_nil]
theorem joTo_get {v w : List Int} (h : v.length = w.length) {i : Nat} (hi : i < v.length) (h2 : i < (joTo v w i).length) : (joTo v w i)[i] = v[i] := by
  simp only [joTo]
  rw [List.getElem_append_right (by rw [List.length_take, joinV_len h]; omega)]
  simp [joinV_len h, Nat.min_eq_left (Nat.le_of_lt hi)]
theorem joTo_set {v w : List Int} (h : v.length = w.length) {i : Nat} (hi : i < v.length) (hw : i < w.length) : ((joTo v w i).map eI).set i [.int .i64 (max v[i] w[i])] = (joTo v w (i + 1)).map eI := by
  rw [show [IV.int .i64 (max v[i] w[i])] = eI (max v[i] w[i]) from rfl, ← List.map_set]
  congr 1
  refine ext_getD (by rw [List.length_set, joTo_len h _ (by omega), joTo_len h _ hi]) (fun j hj => ?_)
  rw [List.length_set, joTo_len h _ (by omega)] at hj
  have e : ∀ k, k ≤ v.length → ∀ j, j < v.length → (joTo v w k).getD j 0 = if j < k then max (v.getD j 0) (w.getD j 0) else v.getD j 0 := by
    intro k hk j hj
    unfold joTo
    by_cases hjk : j < k
    · rw [if_pos hjk, ← joinV_get h hj]
      simp only [List.getD_eq_getElem?_getD]
      rw [List.getElem?_append_left (by rw [List.length_take, joinV_len h]; omega), List.getElem?_take_of_lt hjk]
    · rw [if_neg hjk]
      simp only [List.getD_eq_getElem?_getD]
      rw [List.getElem?_append_right (by rw [List.length_take, joinV_len h]; omega), List.getElem?_drop, List.length_take, joinV_len h]
      congr 2; omega
  rw [e (i + 1) hi j hj]
  by_cases hij : i = j
  · subst hij
    rw [if_pos (by omega), getD_at (by rw [List.length_set, joTo_len h _ (by omega)]; exact hi), getD_at hi, getD_at hw]
    simp
  · rw [getD_set_ne hij, e i (by omega) j hj]
    by_cases hlt : j < i
    · rw [if_pos hlt, if_pos (by omega)]
    · rw [if_neg hlt, if_neg (by omega)]
end Go.Proofs.Ytoaopldaleaijaa

namespace Go.Proofs.Ytoaopldaleaijaa
set_option linter.unusedVariables false
set_option linter.unusedSimpArgs false
attribute [local go_sem ↓] run_skip run_region run_draw run_seq run_block run_exit run_ret run_cond atN_app seqC_normal seqC_exit seqC_ret seqQ_normal seqQ_exit seqQ_ret blkQ_normal blkQ_exit blkQ_ret runOps_nil runOps_cons runD_nil runD_cons grdO_true grdO_false grdD_true grdD_false ifC_true ifC_false opS_val opS_call opS_two opK_app dS_val dS_call dS_two dK_app kUp_same kUp_ne
attribute [local go_sem] rechks_nil rechks_cons rechk gcase_true gcase_false ex_val ex_val0 gd_none gd_some ev_t ev_c evs_nil evs_cons evo_some evo_none hget_at hget_first hsetB_at hsetB_first hsetL_at hsetL_first ofOpt_some aop aload astore aslice aappend aiaddr aiaddrA afaddr alen alenS acopy amm acall alookup amupdate alenM comma keyEq apick binV binVB binVS isSh intOp strOp boolOp shOp eqC eqF and2 cellsOf setFrom fillA fillS rd rdI elems mk bounds AV.cell List.all_cons List.all_nil Bool.and_true Bool.true_and Bool.and_self List.length_cons List.length_nil List.length_append Nat.reduceAdd Nat.reduceSub Nat.reduceMul Nat.zero_add Nat.add_zero List.cons_append List.nil_append List.append_assoc List.append_nil List.getElem?_cons_zero List.getElem?_cons_succ List.getElem?_nil List.set_cons_zero List.set_cons_succ List.drop_zero List.drop_succ_cons List.take_zero List.take_succ_cons List.take_nil List.drop_nil List.map_cons List.map_nil Option.map_some if_true if_false Bool.false_eq_true and_self true_and and_true Nat.reduceLeDiff Nat.reduceLT Nat.le_refl Nat.reduceEqDiff ite_true ite_false beq_self_eq_true beq_true beq_false Bool.not_true Bool.not_false Bool.true_beq Bool.false_beq map_vs vs_len vs_get vs_take vs_drop vs_snoc1 vs_snoc2 vs_snoc3 vs_snoc5 vs_set1 vs_set2 vs_rep wrap_id le_T lt_T le_F lt_F leI_T ltI_T leI_F ltI_F geI gtI get_T decide_true decide_false room List.getElem?_map List.length_map List.length_take Int.toNat_natCast Nat.min_def Nat.min_self nth_kOf put_kOf put_kNo kOv_cons kOv_nil KHas KArgs List.getElem_cons_zero List.getElem_cons_succ
/-- A call whose contract says result and rows: the run goes on with them. -/
theorem ACalls.next {P : Program} {f : Nat} {args : List AV} {b l B' L' : List Row} {x : AV} {K : AV → List Row → List Row → Prop} (h : ACalls P f args b l (fun r b' l' => r = x ∧ b' = B' ∧ l' = L')) (k : K x B' L') : ACalls P f args b l K := by
  refine ACalls_mono _ _ _ _ _ _ h ?_
  rintro r b' l' ⟨rfl, rfl, rfl⟩
  exact k
end Go.Proofs.Ytoaopldaleaijaa

namespace Go.Proofs.Ytoaopldaleaijaa
open Go.RowKit Go.ChangeShapes Go.WideShapes Go.Deep
set_option linter.unusedVariables false

/-- Cells that read as a row of plain values. -/
def RIs (w : World) (F : Nat → Prop) (row : List IV) (cs : List Value) : Prop := row.length = cs.length ∧ ∀ (j : Nat) (a : IV) (v : Value), row[j]? = some a → cs[j]? = some v → RepI w F a v
theorem RIs.nil {w : World} {F : Nat → Prop} : RIs w F [] [] := ⟨rfl, fun j a v h => by simp at h⟩
theorem RIs.one {w : World} {F : Nat → Prop} {a : IV} {v : Value} (h : RepI w F a v) : RIs w F [a] [v] := by
  refine ⟨rfl, fun j x u hx hu => ?_⟩
  cases j with
  | zero => simp at hx hu; subst hx; subst hu; exact h
  | succ j => simp at hx
theorem RIs.append {w : World} {F : Nat → Prop} {r s : List IV} {cs ds : List Value} (h : RIs w F r cs) (k : RIs w F s ds) : RIs w F (r ++ s) (cs ++ ds) := by
  refine ⟨by simp [h.1, k.1], fun j a v ha hv => ?_⟩
  by_cases hj : j < r.length
  · rw [List.getElem?_append_left hj] at ha
    rw [List.getElem?_append_left (by rw [← h.1]; exact hj)] at hv
    exact h.2 j a v ha hv
  · rw [List.getElem?_append_right (by omega)] at ha
    rw [List.getElem?_append_right (by rw [← h.1]; omega), ← h.1] at hv
    exact k.2 _ a v ha hv
theorem RIs.repL {w : World} {F : Nat → Prop} {L : LMap} {r : List IV} {cs : List Value} (h : RIs w F r cs) : RepL w F L (r.map .v) cs := by
  refine ⟨by simpa using h.1, fun j x v hx hv => ?_⟩
  rw [List.getElem?_map] at hx
  cases hq : r[j]? with
  | none => simp [hq] at hx
  | some y => simp [hq] at hx; subst hx; exact .v _ _ (h.2 j y v hq hv)

def Low (w : World) : Nat → Prop := fun b => b < w.heap.size

/-- Values of a type read as rows of plain values. -/
def TR {α : Type} (P : Program) (t : TypeId) (n : Nat) (enc : α → List IV) (good : α → Prop) : Prop :=
  ∀ (H : Type) (en : TypeId × Value → H) (w : World) (base : Nat) (spare : Nat → Bool) (held : Bool) (fuel : Nat) (cs : List Value) (x : DataW H × List MemPlace), cs.length = n → DataW.trod en P w base spare held fuel t cs = some x →
    ∃ y, good y ∧ RIs w (Low w) (enc y) cs

section
variable {P : Program} {α β : Type}
theorem TR.map {t : TypeId} {n : Nat} {enc : α → List IV} {good : α → Prop} (h : TR P t n enc good) {enc' : β → List IV} {good' : β → Prop} (f : α → β) (he : ∀ y, enc' (f y) = enc y) (hg : ∀ y, good y → good' (f y)) : TR P t n enc' good' := by
  intro H en w base spare held fuel cs x hl hx
  obtain ⟨y, g, r⟩ := h H en w base spare held fuel cs x hl hx
  exact ⟨f y, hg y g, by rw [he]; exact r⟩
theorem tr_int {t : TypeId} {k : IntKind} (ht : P.underlying t = some (.int k)) : TR P t 1 (fun n : Int => [.int k n]) (fun n => (Lit.int k n).wf = true) := by
  intro H en w base spare held fuel cs x hl hx
  obtain ⟨n, rfl, _, hw⟩ := DataW.trod_int ht hx
  exact ⟨n, hw, RIs.one (.int _ _)⟩
theorem tr_string {t : TypeId} (ht : P.underlying t = some .string) : TR P t 1 (fun s : ByteArray => [.str s]) (fun s => s.size ≤ maxLen) := by
  intro H en w base spare held fuel cs x hl hx
  obtain ⟨n, rfl, _, hm⟩ := DataW.trod_string ht hx
  exact ⟨n, hm, RIs.one (.str _)⟩
theorem tr_slice {t e : TypeId} {n : Nat} {enc : α → List IV} {good : α → Prop} (h : TR P e n enc good) (ht : P.underlying t = some (.slice e)) (hC : P.cellsOf e = n) (h0 : 0 < n) :
    TR P t 1 (fun ys : List α => [.isl n (ys.map enc)]) (fun ys => ys.length ≤ maxLen ∧ ∀ y ∈ ys, good y) := by
  intro H en w base spare held fuel cs x hl hx
  rcases open_slice ht hx with ⟨hv, _⟩ | ⟨a, len, cap, m, f, D, Pl, hv, hb, hll, hm, hmm, _, hel⟩
  · subst hv
    exact ⟨[], ⟨by simp [maxLen], fun y hy => by simp at hy⟩, RIs.one (.isl0 _ _ _ (by simp [maxLen]))⟩
  · subst hv
    have hle : len ≤ m := by rw [hmm]; split <;> omega
    have key : ∀ i, i < len → ∃ y, (good y ∧ ∃ b off, a = ⟨b, off, none⟩ ∧ (enc y).length = n ∧ ∀ (j : Nat) (c : IV), (enc y)[j]? = some c → ∃ v, w.cell? ⟨b, off + i * n + j, none⟩ = some v ∧ RepI w (Low w) c v) := by
      intro i hi
      obtain ⟨cs', hc, ht'⟩ := hel i (by omega)
      rw [hC] at hc
      obtain ⟨_, hcl, hat⟩ := World.cells?_some hc
      obtain ⟨cs0, hc0, _⟩ := hel 0 (by omega)
      rw [hC] at hc0
      obtain ⟨_, hcl0, hat0⟩ := World.cells?_some hc0
      have h00 := hat0 0 h0
      have e00 : (a.add (0 * n)).add 0 = a := by simp [Addr.add]
      rw [e00, List.getElem?_eq_getElem (show 0 < cs0.length by omega)] at h00
      have hsp := spot_none h00
      obtain ⟨b, off, sp⟩ := a
      simp only at hsp
      subst hsp
      obtain ⟨y, hg, hy⟩ := h H en w base spare held f cs' (D i, Pl i) hcl ht'
      refine ⟨y, hg, b, off, rfl, by rw [hy.1, hcl], fun j c hj => ?_⟩
      have hjl : j < cs'.length := by rw [← hy.1]; exact (List.getElem?_eq_some_iff.1 hj).1
      have := hat j (by omega)
      have e1 : ((⟨b, off, none⟩ : Addr).add (i * n)).add j = ⟨b, off + i * n + j, none⟩ := by
        unfold Addr.add
        by_cases h1 : i * n = 0 <;> by_cases h2 : j = 0 <;> simp [h1, h2]
      rw [e1, List.getElem?_eq_getElem hjl] at this
      exact ⟨_, this, hy.2 j c _ hj (List.getElem?_eq_getElem hjl)⟩
    obtain ⟨xs, hxl, hxs⟩ := list_of len key
    subst hxl
    refine ⟨xs, ⟨by omega, fun y hy => ?_⟩, RIs.one ?_⟩
    · obtain ⟨i, hi⟩ := List.mem_iff_getElem?.1 hy
      exact (hxs i y hi).1
    · by_cases hpos : 0 < xs.length
      · obtain ⟨_, b, off, ha, _⟩ := hxs 0 xs[0] (List.getElem?_eq_getElem hpos)
        subst ha
        have hfacts : ∀ (k : Nat) (row : List IV), (xs.map enc)[k]? = some row → row.length = n ∧ ∀ (j : Nat) (c : IV), row[j]? = some c → ∃ v, w.cell? ⟨b, off + k * n + j, none⟩ = some v ∧ RepI w (Low w) c v := by
          intro k row hk
          rw [List.getElem?_map] at hk
          cases hq : xs[k]? with
          | none => rw [hq] at hk; cases hk
          | some y =>
            rw [hq] at hk; cases hk
            obtain ⟨_, b', off', hh, h1, h2⟩ := hxs k y hq
            injection hh with g1 g2
            subst g1; subst g2
            exact ⟨h1, h2⟩
        have hlow : Low w b := by
          obtain ⟨r1, r2⟩ := hfacts 0 (enc xs[0]) (by rw [List.getElem?_map, List.getElem?_eq_getElem hpos]; rfl)
          obtain ⟨v, hv, _⟩ := r2 0 (enc xs[0])[0] (List.getElem?_eq_getElem (by omega))
          exact lt_of_cell hv
        have := RepI.isl (w := w) (F := Low w) (xs.map enc) b off n cap (fun k j => (w.cell? ⟨b, off + k * n + j, none⟩).getD undef) hlow (by simpa using hll) hm (fun k row hk => (hfacts k row hk).1)
          (fun k row j c hk hj => by
            obtain ⟨v, hv, _⟩ := (hfacts k row hk).2 j c hj
            rw [hv]; rfl)
          (fun k row j c hk hj => by
            obtain ⟨v, hv, hr⟩ := (hfacts k row hk).2 j c hj
            rw [hv]; exact hr)
        rw [List.length_map] at this
        exact this
      · have : xs = [] := List.eq_nil_of_length_eq_zero (by omega)
        subst this
        exact .isl0 _ _ _ hm

/-- Fields from a place on. -/
def TRF (P : Program) (fs : List Field) (o n : Nat) (enc : α → List IV) (good : α → Prop) : Prop :=
  ∀ (H : Type) (en : TypeId × Value → H) (w : World) (base : Nat) (spare : Nat → Bool) (held : Bool) (fuel : Nat) (cs : List Value), cs.length = o + n → (∀ f ∈ fs, ∃ x, DataW.trod en P w base spare held fuel f.type ((cs.drop f.offset).take (P.cellsOf f.type)) = some x) →
    ∃ y, good y ∧ RIs w (Low w) (enc y) (cs.drop o)
theorem trf_nil {o : Nat} : TRF P [] o 0 (fun _ : Unit => []) (fun _ => True) := by
  intro H en w base spare held fuel cs hl _
  refine ⟨(), trivial, ?_⟩
  rw [List.drop_eq_nil_of_le (by omega)]
  exact RIs.nil
theorem trf_cons {f : Field} {fs : List Field} {o n m : Nat} {enc : α → List IV} {good : α → Prop} {enc' : β → List IV} {good' : β → Prop} (h : TR P f.type n enc good) (hC : P.cellsOf f.type = n) (ho : f.offset = o) (k : TRF P fs (o + n) m enc' good') :
    TRF P (f :: fs) o (n + m) (fun y : α × β => enc y.1 ++ enc' y.2) (fun y => good y.1 ∧ good' y.2) := by
  intro H en w base spare held fuel cs hl hfs
  obtain ⟨x, hx⟩ := hfs f (by simp)
  rw [ho, hC] at hx
  obtain ⟨y, hg, hy⟩ := h H en w base spare held fuel _ x (by simp; omega) hx
  obtain ⟨z, hg', hz⟩ := k H en w base spare held fuel cs (by omega) (fun f hf => hfs f (by simp [hf]))
  refine ⟨(y, z), ⟨hg, hg'⟩, ?_⟩
  have : cs.drop o = (cs.drop o).take n ++ cs.drop (o + n) := by rw [← List.drop_drop, List.take_append_drop]
  rw [this]
  exact hy.append hz
theorem tr_struct {t : TypeId} {fs : Array Field} {n : Nat} {enc : α → List IV} {good : α → Prop} (ht : P.underlying t = some (.struct fs)) (h : TRF P fs.toList 0 n enc good) : TR P t n enc good := by
  intro H en w base spare held fuel cs x hl hx
  obtain ⟨xs, m, _, _, _, hlen, hf⟩ := DataW.trod_struct ht hx
  obtain ⟨y, hg, hy⟩ := h H en w base spare held m cs (by omega) (fun f hm => by
    obtain ⟨i, hi⟩ := List.mem_iff_getElem?.1 hm
    have hi' : fs[i]? = some f := by simpa using hi
    have hlt : i < xs.length := by rw [hlen]; exact (Array.getElem?_eq_some_iff.1 hi').1
    exact ⟨_, (hf i f hi').trans (List.getElem?_eq_getElem hlt)⟩)
  exact ⟨y, hg, by simpa using hy⟩
theorem TR.one {t : TypeId} {enc : α → IV} {good : α → Prop} (h : TR P t 1 (fun y => [enc y]) good) {H : Type} {en : TypeId × Value → H} {w : World} {v : Value} {d : DataW H} {p : List MemPlace} {base : Nat} {spare : Nat → Bool} {held : Bool}
    (hv : v.cells = #[v]) (hT : DataW.Trod en P w base spare held t v d p) : ∃ y, good y ∧ RepI w (Low w) (enc y) v := by
  obtain ⟨fuel, hf⟩ := hT
  rw [hv] at hf
  obtain ⟨y, hg, hy⟩ := h H en w base spare held fuel [v] (d, p) rfl hf
  exact ⟨y, hg, hy.2 0 _ _ rfl rfl⟩
theorem TR.agg {t : TypeId} {n : Nat} {enc : α → List IV} {good : α → Prop} (h : TR P t n enc good) {fs : Array Field} (hs : P.underlying t = some (.struct fs)) (hC : P.cellsOf t = n) {H : Type} {en : TypeId × Value → H} {w : World} {v : Value} {d : DataW H} {p : List MemPlace} {base b0 : Nat} {r : Reach} {spare : Nat → Bool} {held : Bool}
    (hv : Value.okWide P w r b0 t v) (hT : DataW.Trod en P w base spare held t v d p) : ∃ y, good y ∧ RepA w (Low w) (fun _ _ => none) (.agg ((enc y).map .v)) v := by
  obtain ⟨cs, rfl, hsz⟩ := okWide_struct hs hv
  obtain ⟨fuel, hf⟩ := hT
  obtain ⟨y, hg, hy⟩ := h H en w base spare held fuel _ (d, p) (by simpa [Value.cells] using hsz.trans hC) hf
  exact ⟨y, hg, RepL.agg hy.repL⟩
end
end Go.Proofs.Ytoaopldaleaijaa

namespace Go.Proofs.Ytoaopldaleaijaa
open Go.RowKit
set_option linter.unusedVariables false
theorem tr_i : TR Try.prog 3 1 (fun n : Int => [.int .i64 n]) (fun n => (Lit.int .i64 n).wf = true) := tr_int Try.underlying3
theorem tr_s : TR Try.prog 9 1 (fun s : ByteArray => [.str s]) (fun s => s.size ≤ maxLen) := tr_string Try.underlying9
theorem tr_asg : TR Try.prog 180 2 eAsg (fun _ => True) :=
  (tr_struct Try.underlying180 (trf_cons tr_i (by kernel_rfl) rfl (trf_cons tr_i (by kernel_rfl) rfl trf_nil))).map (fun y => ⟨y.1, y.2.1⟩) (fun _ => rfl) (fun _ _ => trivial)
theorem tr_asgs : TR Try.prog 38 1 (fun l : List Asg => [.isl 2 (l.map eAsg)]) (fun l => l.length ≤ maxLen) :=
  (tr_slice tr_asg Try.underlying38 (by kernel_rfl) (by decide)).map id (fun _ => rfl) (fun _ h => h.1)
theorem tr_ev : TR Try.prog 40 5 eEv (fun _ => True) :=
  (tr_struct Try.underlying40 (trf_cons tr_i (by kernel_rfl) rfl (trf_cons tr_i (by kernel_rfl) rfl (trf_cons tr_i (by kernel_rfl) rfl (trf_cons tr_i (by kernel_rfl) rfl (trf_cons tr_asgs (by kernel_rfl) rfl trf_nil)))))).map
    (fun y => ⟨y.1, y.2.1, y.2.2.1, y.2.2.2.1, y.2.2.2.2.1⟩) (fun _ => rfl) (fun _ _ => trivial)
theorem tr_evs : TR Try.prog 42 1 (fun l : List Ev => [.isl 5 (l.map eEv)]) (fun l => l.length ≤ maxLen) :=
  (tr_slice tr_ev Try.underlying42 (by kernel_rfl) (by decide)).map id (fun _ => rfl) (fun _ h => h.1)
theorem tr_var : TR Try.prog 141 2 eVr (fun v => v.name.size ≤ maxLen) :=
  (tr_struct Try.underlying141 (trf_cons tr_s (by kernel_rfl) rfl (trf_cons tr_i (by kernel_rfl) rfl trf_nil))).map (fun y => ⟨y.1, y.2.1⟩) (fun _ => rfl) (fun _ h => h.1)
theorem tr_vars : TR Try.prog 41 1 (fun l : List Vr => [.isl 2 (l.map eVr)]) (fun l => l.length ≤ maxLen ∧ ∀ v ∈ l, v.name.size ≤ maxLen) :=
  tr_slice tr_var Try.underlying41 (by kernel_rfl) (by decide)
def OkPr (p : Pr) : Prop := (p.name.size ≤ maxLen ∧ ∀ v ∈ p.vars, v.name.size ≤ maxLen) ∧ p.vars.length ≤ maxLen ∧ p.evs.length ≤ maxLen
theorem tr_proc : TR Try.prog 44 3 ePr OkPr :=
  (tr_struct Try.underlying44 (trf_cons tr_s (by kernel_rfl) rfl (trf_cons tr_vars (by kernel_rfl) rfl (trf_cons tr_evs (by kernel_rfl) rfl trf_nil)))).map
    (fun y => ⟨y.1, y.2.1, y.2.2.1⟩) (fun _ => rfl) (fun _ h => ⟨⟨h.1, h.2.1.2⟩, h.2.1.1, h.2.2.1⟩)
/-- What is known of a trace that comes in. -/
def OkTr (t : Tr) : Prop := t.length ≤ maxLen ∧ ∀ p ∈ t, OkPr p
theorem tr_trace : TR Try.prog 24 1 (fun t : Tr => [eT t]) OkTr :=
  (tr_struct Try.underlying24 (trf_cons (tr_slice tr_proc Try.underlying22 (by kernel_rfl) (by decide)) (by kernel_rfl) rfl trf_nil)).map (fun y => y.1) (fun _ => rfl) (fun _ h => h.1)
theorem OkTr.nm {t : Tr} (h : OkTr t) : Nm t := fun p hp => (h.2 p hp).1
theorem maxLen_eq : maxLen = 9223372036854775807 := by decide
end Go.Proofs.Ytoaopldaleaijaa

namespace Go.Proofs.Ytoaopldaleaijaa
set_option linter.unusedVariables false
def eRw (r : List Int) : List IV := [.isl 1 (r.map eI)]
theorem fl_next {α : Type} {n : Nat} {f : Nat → α} {x : α} (h : f n = x) : fl n f ++ [x] = fl (n + 1) f := by
  rw [fl_snoc]
  refine fl_congr (fun j hj => ?_)
  unfold fUp
  by_cases hj2 : j = n
  · rw [if_pos hj2, hj2, h]
  · rw [if_neg hj2]
end Go.Proofs.Ytoaopldaleaijaa

namespace Go.Proofs.Ytoaopldaleaijaa
set_option linter.unusedVariables false
set_option linter.unusedSimpArgs false
attribute [local go_sem ↓] run_skip run_region run_draw run_seq run_block run_exit run_ret run_cond atN_app seqC_normal seqC_exit seqC_ret seqQ_normal seqQ_exit seqQ_ret blkQ_normal blkQ_exit blkQ_ret runOps_nil runOps_cons runD_nil runD_cons grdO_true grdO_false grdD_true grdD_false ifC_true ifC_false opS_val opS_call opS_two opK_app dS_val dS_call dS_two dK_app kUp_same kUp_ne
attribute [local go_sem] rechks_nil rechks_cons rechk gcase_true gcase_false ex_val ex_val0 gd_none gd_some ev_t ev_c evs_nil evs_cons evo_some evo_none hget_at hget_first hsetB_at hsetB_first hsetL_at hsetL_first ofOpt_some aop aload astore aslice aappend aiaddr aiaddrA afaddr alen alenS acopy amm acall alookup amupdate alenM comma keyEq apick binV binVB binVS isSh intOp strOp boolOp shOp eqC eqF and2 cellsOf setFrom fillA fillS rd rdI elems mk bounds AV.cell List.all_cons List.all_nil Bool.and_true Bool.true_and Bool.and_self List.length_cons List.length_nil List.length_append Nat.reduceAdd Nat.reduceSub Nat.reduceMul Nat.zero_add Nat.add_zero List.cons_append List.nil_append List.append_assoc List.append_nil List.getElem?_cons_zero List.getElem?_cons_succ List.getElem?_nil List.set_cons_zero List.set_cons_succ List.drop_zero List.drop_succ_cons List.take_zero List.take_succ_cons List.take_nil List.drop_nil List.map_cons List.map_nil Option.map_some if_true if_false Bool.false_eq_true and_self true_and and_true Nat.reduceLeDiff Nat.reduceLT Nat.le_refl Nat.reduceEqDiff ite_true ite_false beq_self_eq_true beq_true beq_false Bool.not_true Bool.not_false Bool.true_beq Bool.false_beq map_vs vs_len vs_get vs_take vs_drop vs_snoc1 vs_snoc2 vs_snoc3 vs_snoc5 vs_set1 vs_set2 vs_rep wrap_id le_T lt_T le_F lt_F leI_T ltI_T leI_F ltI_F geI gtI get_T decide_true decide_false room List.getElem?_map List.length_map List.length_take Int.toNat_natCast Nat.min_def Nat.min_self nth_kOf put_kOf put_kNo kOv_cons kOv_nil KHas KArgs List.getElem_cons_zero List.getElem_cons_succ
def a_mZero : AFunc := ⟨1, 26, [.tmp 2, .tmp 3],
  (.seq (.region [⟨(some 2), .mv (.c (.v .zsl)), none⟩, ⟨(some 3), .mv (.c (.v (.int .i64 0))), none⟩])
  (.seq (.seq (.region [⟨(some 6), .mv (.t 0), none⟩, ⟨(some 7), .bin .lss (.t 6) (.c (.v (.int .i64 1))), none⟩, ⟨(some 8), .mv (.t 7), none⟩, ⟨(some 9), .mv (.t 0), some (8, false)⟩, ⟨(some 10), .bin .gtr (.t 9) (.c (.v (.int .i64 8))), some (8, false)⟩, ⟨(some 11), .pick (.t 8) (.c (.v (.bool true))) (.t 10), none⟩])
  (.cond (.t 11) (.seq (.region [⟨(some 2), .mv (.c (.v .zsl)), none⟩, ⟨(some 3), .mv (.c (.v (.int .i64 2))), none⟩])
  .ret)
  .skip))
  (.seq (.region [⟨(some 12), .mv (.t 0), none⟩, ⟨(some 13), .mkslice 1 [(.v .zsl)] 24 (.t 12) (.t 12), none⟩, ⟨(some 4), .mv (.t 13), none⟩])
  (.seq (.seq (.region [⟨(some 14), .mv (.t 4), none⟩, ⟨(some 15), .len (.t 14), none⟩, ⟨(some 16), .mv (.c (.v (.int .i64 0))), none⟩])
  (.block 0 (.loop (.seq (.region [⟨(some 17), .bin .lss (.t 16) (.t 15), none⟩])
  (.seq (.cond (.t 17) .skip
  (.exit 0))
  (.seq (.block 1 (.seq (.region [⟨(some 18), .mv (.t 16), none⟩, ⟨(some 5), .mv (.t 18), none⟩])
  (.region [⟨(some 19), .mv (.t 4), none⟩, ⟨(some 20), .mv (.t 5), none⟩, ⟨(some 21), .mv (.t 0), none⟩, ⟨(some 22), .mkslice 1 [(.v (.int .i64 0))] 8 (.t 21) (.t 21), none⟩, ⟨(some 23), .iaddr 1 (.t 19) (.t 20), none⟩, ⟨none, .store 1 (.t 23) (.t 22), none⟩])))
  (.region [⟨(some 24), .bin .add (.t 16) (.c (.v (.int .i64 1))), none⟩, ⟨(some 16), .mv (.t 24), none⟩])))))))
  (.seq (.region [⟨(some 25), .mv (.t 4), none⟩, ⟨(some 2), .mv (.t 25), none⟩, ⟨(some 3), .mv (.c (.v (.int .i64 0))), none⟩])
  .ret)))))⟩
theorem a_mZero_ok : cFunc Try.prog 141 = some a_mZero := by kernel_rfl
def r_mZero0 : List (Nat × Nat) := [(5, 5), (16, 24)]
def a_mValid : AFunc := ⟨1, 15, [.tmp 2],
  (.seq (.region [⟨(some 1), .box (.t 0), none⟩, ⟨(some 2), .mv (.c (.v (.bool false))), none⟩])
  (.seq (.seq (.region [⟨(some 3), .load none (.t 1), none⟩, ⟨(some 4), .len (.t 3), none⟩, ⟨(some 5), .bin .lss (.t 4) (.c (.v (.int .i64 1))), none⟩, ⟨(some 6), .mv (.t 5), none⟩, ⟨(some 7), .load none (.t 1), some (6, false)⟩, ⟨(some 8), .len (.t 7), some (6, false)⟩, ⟨(some 9), .bin .gtr (.t 8) (.c (.v (.int .i64 8))), some (6, false)⟩, ⟨(some 10), .pick (.t 6) (.c (.v (.bool true))) (.t 9), none⟩])
  (.cond (.t 10) (.seq (.region [⟨(some 2), .mv (.c (.v (.bool false))), none⟩])
  .ret)
  .skip))
  (.seq (.region [⟨(some 11), .load none (.t 1), none⟩, ⟨(some 12), .mkfn 146 [(.t 1)], none⟩, ⟨(some 13), .call (.c (.fn 59 [])) [(.t 11), (.t 12)], none⟩, ⟨(some 14), .not (.t 13), none⟩, ⟨(some 2), .mv (.t 14), none⟩])
  .ret)))⟩
theorem a_mValid_ok : cFunc Try.prog 113 = some a_mValid := by kernel_rfl
def a_vc1 : AFunc := ⟨2, 13, [.tmp 3],
  (.seq (.region [⟨(some 3), .mv (.c (.v (.bool false))), none⟩])
  (.seq (.region [⟨(some 4), .mv (.t 0), none⟩, ⟨(some 5), .len (.t 4), none⟩, ⟨(some 6), .load none (.t 1), none⟩, ⟨(some 7), .len (.t 6), none⟩, ⟨(some 8), .bin .neq (.t 5) (.t 7), none⟩, ⟨(some 9), .mv (.t 8), none⟩, ⟨(some 10), .mv (.t 0), some (9, false)⟩, ⟨(some 11), .call (.c (.fn 30 [])) [(.t 10), (.c (.fn 147 []))], some (9, false)⟩, ⟨(some 12), .pick (.t 9) (.c (.v (.bool true))) (.t 11), none⟩, ⟨(some 3), .mv (.t 12), none⟩])
  .ret))⟩
theorem a_vc1_ok : cFunc Try.prog 146 = some a_vc1 := by kernel_rfl
def a_vc11 : AFunc := ⟨1, 9, [.tmp 2],
  (.seq (.region [⟨(some 2), .mv (.c (.v (.bool false))), none⟩])
  (.seq (.region [⟨(some 3), .mv (.t 0), none⟩, ⟨(some 4), .bin .lss (.t 3) (.c (.v (.int .i64 0))), none⟩, ⟨(some 5), .mv (.t 4), none⟩, ⟨(some 6), .mv (.t 0), some (5, false)⟩, ⟨(some 7), .bin .gtr (.t 6) (.c (.v (.int .i64 1125899906842624))), some (5, false)⟩, ⟨(some 8), .pick (.t 5) (.c (.v (.bool true))) (.t 7), none⟩, ⟨(some 2), .mv (.t 8), none⟩])
  .ret))⟩
theorem a_vc11_ok : cFunc Try.prog 147 = some a_vc11 := by kernel_rfl
def a_ConM : AFunc := ⟨2, 9, [.tmp 4],
  (.seq (.region [⟨(some 4), .mv (.c (.v (.bool false))), none⟩])
  (.seq (.region [⟨(some 5), .mv (.t 0), none⟩, ⟨(some 6), .mv (.t 1), none⟩, ⟨(some 7), .call (.c (.fn 112 [])) [(.t 5), (.t 6)], none⟩, ⟨(some 8), .bin .geq (.t 7) (.c (.v (.int .i64 0))), none⟩, ⟨(some 4), .mv (.t 8), none⟩])
  .ret))⟩
theorem a_ConM_ok : cFunc Try.prog 59 = some a_ConM := by kernel_rfl
def a_IndM : AFunc := ⟨2, 19, [.tmp 4],
  (.seq (.region [⟨(some 4), .mv (.c (.v (.int .i64 0))), none⟩])
  (.seq (.seq (.region [⟨(some 6), .mv (.t 0), none⟩, ⟨(some 7), .len (.t 6), none⟩, ⟨(some 8), .mv (.c (.v (.int .i64 0))), none⟩])
  (.block 0 (.loop (.seq (.region [⟨(some 9), .bin .lss (.t 8) (.t 7), none⟩])
  (.seq (.cond (.t 9) .skip
  (.exit 0))
  (.seq (.block 1 (.seq (.region [⟨(some 10), .mv (.t 8), none⟩, ⟨(some 5), .mv (.t 10), none⟩])
  (.seq (.region [⟨(some 11), .mv (.t 1), none⟩, ⟨(some 12), .mv (.t 0), none⟩, ⟨(some 13), .mv (.t 5), none⟩, ⟨(some 14), .iaddr 1 (.t 12) (.t 13), none⟩, ⟨(some 15), .load none (.t 14), none⟩, ⟨(some 16), .call (.t 11) [(.t 15)], none⟩])
  (.cond (.t 16) (.seq (.region [⟨(some 17), .mv (.t 5), none⟩, ⟨(some 4), .mv (.t 17), none⟩])
  .ret)
  .skip))))
  (.region [⟨(some 18), .bin .add (.t 8) (.c (.v (.int .i64 1))), none⟩, ⟨(some 8), .mv (.t 18), none⟩])))))))
  (.seq (.region [⟨(some 4), .mv (.c (.v (.int .i64 (-1)))), none⟩])
  .ret)))⟩
theorem a_IndM_ok : cFunc Try.prog 112 = some a_IndM := by kernel_rfl
def r_IndM0 : List (Nat × Nat) := [(4, 5), (8, 18)]
def a_copied : AFunc := ⟨1, 23, [.tmp 2],
  (.seq (.region [⟨(some 2), .mv (.c (.v .zsl)), none⟩])
  (.seq (.region [⟨(some 6), .mv (.t 0), none⟩, ⟨(some 7), .len (.t 6), none⟩, ⟨(some 8), .mkslice 1 [(.v .zsl)] 24 (.t 7) (.t 7), none⟩, ⟨(some 3), .mv (.t 8), none⟩])
  (.seq (.seq (.region [⟨(some 9), .mv (.t 0), none⟩, ⟨(some 10), .len (.t 9), none⟩, ⟨(some 11), .mv (.c (.v (.int .i64 0))), none⟩])
  (.block 0 (.loop (.seq (.region [⟨(some 12), .bin .lss (.t 11) (.t 10), none⟩])
  (.seq (.cond (.t 12) .skip
  (.exit 0))
  (.seq (.block 1 (.seq (.region [⟨(some 13), .mv (.t 11), none⟩, ⟨(some 14), .iaddr 1 (.t 9) (.t 11), none⟩, ⟨(some 15), .load none (.t 14), none⟩, ⟨(some 4), .mv (.t 13), none⟩, ⟨(some 5), .mv (.t 15), none⟩])
  (.region [⟨(some 16), .mv (.t 3), none⟩, ⟨(some 17), .mv (.t 4), none⟩, ⟨(some 18), .mv (.t 5), none⟩, ⟨(some 19), .call (.c (.fn 114 [])) [(.t 18)], none⟩, ⟨(some 20), .iaddr 1 (.t 16) (.t 17), none⟩, ⟨none, .store 1 (.t 20) (.t 19), none⟩])))
  (.region [⟨(some 21), .bin .add (.t 11) (.c (.v (.int .i64 1))), none⟩, ⟨(some 11), .mv (.t 21), none⟩])))))))
  (.seq (.region [⟨(some 22), .mv (.t 3), none⟩, ⟨(some 2), .mv (.t 22), none⟩])
  .ret))))⟩
theorem a_copied_ok : cFunc Try.prog 107 = some a_copied := by kernel_rfl
def r_copied0 : List (Nat × Nat) := [(4, 5), (11, 21)]
def a_join : AFunc := ⟨2, 23, [],
  (.seq (.region [⟨(some 5), .mv (.t 0), none⟩, ⟨(some 6), .len (.t 5), none⟩, ⟨(some 7), .mv (.c (.v (.int .i64 0))), none⟩])
  (.block 0 (.loop (.seq (.region [⟨(some 8), .bin .lss (.t 7) (.t 6), none⟩])
  (.seq (.cond (.t 8) .skip
  (.exit 0))
  (.seq (.block 1 (.seq (.region [⟨(some 9), .mv (.t 7), none⟩, ⟨(some 4), .mv (.t 9), none⟩])
  (.draw [⟨0, ⟨(some 10), .mv (.t 0), none⟩, []⟩, ⟨1, ⟨(some 11), .mv (.t 4), none⟩, []⟩, ⟨2, ⟨(some 12), .mv (.t 0), none⟩, []⟩, ⟨3, ⟨(some 13), .mv (.t 4), none⟩, []⟩, ⟨4, ⟨(some 14), .iaddr 1 (.t 12) (.t 13), none⟩, []⟩, ⟨5, ⟨(some 15), .load none (.t 14), none⟩, []⟩, ⟨6, ⟨(some 16), .mv (.t 1), none⟩, []⟩, ⟨7, ⟨(some 17), .mv (.t 4), none⟩, []⟩, ⟨8, ⟨(some 18), .iaddr 1 (.t 16) (.t 17), none⟩, []⟩, ⟨9, ⟨(some 19), .load none (.t 18), none⟩, []⟩, ⟨10, ⟨(some 20), .mm true (.t 15) (.t 19), none⟩, []⟩, ⟨11, ⟨(some 21), .iaddr 1 (.t 10) (.t 11), none⟩, []⟩, ⟨12, ⟨none, .store 1 (.t 21) (.t 20), none⟩, []⟩])))
  (.region [⟨(some 22), .bin .add (.t 7) (.c (.v (.int .i64 1))), none⟩, ⟨(some 7), .mv (.t 22), none⟩])))))))⟩
theorem a_join_ok : cFunc Try.prog 163 = some a_join := by kernel_rfl
def r_join0 : List (Nat × Nat) := [(4, 4), (7, 22)]
def a_mTick : AFunc := ⟨2, 40, [.tmp 4, .tmp 5],
  (.seq (.region [⟨(some 4), .mv (.c (.v .zsl)), none⟩, ⟨(some 5), .mv (.c (.v (.int .i64 0))), none⟩])
  (.seq (.block 0 (.seq (.region [⟨(some 7), .mv (.t 0), none⟩, ⟨(some 8), .call (.c (.fn 113 [])) [(.t 7)], none⟩, ⟨(some 9), .not (.t 8), none⟩, ⟨(some 6), .mv (.t 9), none⟩])
  (.cond (.t 6) (.seq (.region [⟨(some 4), .mv (.c (.v .zsl)), none⟩, ⟨(some 5), .mv (.c (.v (.int .i64 1))), none⟩])
  .ret)
  (.seq (.region [⟨(some 11), .mv (.t 1), none⟩, ⟨(some 12), .bin .lss (.t 11) (.c (.v (.int .i64 0))), none⟩, ⟨(some 13), .mv (.t 12), none⟩, ⟨(some 14), .mv (.t 1), some (13, false)⟩, ⟨(some 15), .mv (.t 0), some (13, false)⟩, ⟨(some 16), .len (.t 15), some (13, false)⟩, ⟨(some 17), .bin .geq (.t 14) (.t 16), some (13, false)⟩, ⟨(some 18), .pick (.t 13) (.c (.v (.bool true))) (.t 17), none⟩, ⟨(some 10), .mv (.t 18), none⟩])
  (.cond (.t 10) (.seq (.region [⟨(some 4), .mv (.c (.v .zsl)), none⟩, ⟨(some 5), .mv (.c (.v (.int .i64 2))), none⟩])
  .ret)
  (.seq (.region [⟨(some 20), .mv (.t 0), none⟩, ⟨(some 21), .mv (.t 1), none⟩, ⟨(some 22), .iaddr 1 (.t 20) (.t 21), none⟩, ⟨(some 23), .load none (.t 22), none⟩, ⟨(some 24), .mv (.t 1), none⟩, ⟨(some 25), .iaddr 1 (.t 23) (.t 24), none⟩, ⟨(some 26), .load none (.t 25), none⟩, ⟨(some 27), .bin .geq (.t 26) (.c (.v (.int .i64 1125899906842624))), none⟩, ⟨(some 19), .mv (.t 27), none⟩])
  (.cond (.t 19) (.seq (.region [⟨(some 4), .mv (.c (.v .zsl)), none⟩, ⟨(some 5), .mv (.c (.v (.int .i64 9))), none⟩])
  .ret)
  .skip)))))))
  (.seq (.region [⟨(some 28), .mv (.t 0), none⟩, ⟨(some 29), .call (.c (.fn 107 [])) [(.t 28)], none⟩, ⟨(some 0), .mv (.t 29), none⟩])
  (.seq (.region [⟨(some 30), .mv (.t 0), none⟩, ⟨(some 31), .mv (.t 1), none⟩, ⟨(some 32), .iaddr 1 (.t 30) (.t 31), none⟩, ⟨(some 33), .load none (.t 32), none⟩, ⟨(some 34), .mv (.t 1), none⟩, ⟨(some 35), .iaddr 1 (.t 33) (.t 34), none⟩, ⟨(some 36), .load none (.t 35), none⟩, ⟨(some 37), .bin .add (.t 36) (.c (.v (.int .i64 1))), none⟩, ⟨(some 38), .iaddr 1 (.t 33) (.t 34), none⟩, ⟨none, .store 1 (.t 38) (.t 37), none⟩])
  (.seq (.region [⟨(some 39), .mv (.t 0), none⟩, ⟨(some 4), .mv (.t 39), none⟩, ⟨(some 5), .mv (.c (.v (.int .i64 0))), none⟩])
  .ret)))))⟩
theorem a_mTick_ok : cFunc Try.prog 144 = some a_mTick := by kernel_rfl
def a_mKnown : AFunc := ⟨1, 41, [.tmp 2, .tmp 3],
  (.seq (.region [⟨(some 2), .mv (.c (.v .zsl)), none⟩, ⟨(some 3), .mv (.c (.v (.int .i64 0))), none⟩])
  (.seq (.seq (.region [⟨(some 9), .mv (.t 0), none⟩, ⟨(some 10), .call (.c (.fn 113 [])) [(.t 9)], none⟩, ⟨(some 11), .not (.t 10), none⟩])
  (.cond (.t 11) (.seq (.region [⟨(some 2), .mv (.c (.v .zsl)), none⟩, ⟨(some 3), .mv (.c (.v (.int .i64 1))), none⟩])
  .ret)
  .skip))
  (.seq (.region [⟨(some 12), .mv (.t 0), none⟩, ⟨(some 13), .iaddr 1 (.t 12) (.c (.v (.int .i64 0))), none⟩, ⟨(some 14), .load none (.t 13), none⟩, ⟨(some 15), .call (.c (.fn 114 [])) [(.t 14)], none⟩, ⟨(some 4), .mv (.t 15), none⟩])
  (.seq (.seq (.region [⟨(some 16), .mv (.t 0), none⟩, ⟨(some 17), .len (.t 16), none⟩, ⟨(some 18), .mv (.c (.v (.int .i64 0))), none⟩])
  (.block 0 (.loop (.seq (.region [⟨(some 19), .bin .lss (.t 18) (.t 17), none⟩])
  (.seq (.cond (.t 19) .skip
  (.exit 0))
  (.seq (.block 1 (.seq (.region [⟨(some 20), .iaddr 1 (.t 16) (.t 18), none⟩, ⟨(some 21), .load none (.t 20), none⟩, ⟨(some 6), .mv (.t 21), none⟩])
  (.seq (.region [⟨(some 22), .mv (.t 6), none⟩, ⟨(some 23), .len (.t 22), none⟩, ⟨(some 24), .mv (.c (.v (.int .i64 0))), none⟩])
  (.block 2 (.loop (.seq (.region [⟨(some 25), .bin .lss (.t 24) (.t 23), none⟩])
  (.seq (.cond (.t 25) .skip
  (.exit 2))
  (.seq (.block 3 (.seq (.region [⟨(some 26), .mv (.t 24), none⟩, ⟨(some 27), .iaddr 1 (.t 22) (.t 24), none⟩, ⟨(some 28), .load none (.t 27), none⟩, ⟨(some 7), .mv (.t 26), none⟩, ⟨(some 8), .mv (.t 28), none⟩])
  (.region [⟨(some 29), .mv (.t 4), none⟩, ⟨(some 30), .mv (.t 7), none⟩, ⟨(some 31), .mv (.t 4), none⟩, ⟨(some 32), .mv (.t 7), none⟩, ⟨(some 33), .iaddr 1 (.t 31) (.t 32), none⟩, ⟨(some 34), .load none (.t 33), none⟩, ⟨(some 35), .mv (.t 8), none⟩, ⟨(some 36), .mm false (.t 34) (.t 35), none⟩, ⟨(some 37), .iaddr 1 (.t 29) (.t 30), none⟩, ⟨none, .store 1 (.t 37) (.t 36), none⟩])))
  (.region [⟨(some 38), .bin .add (.t 24) (.c (.v (.int .i64 1))), none⟩, ⟨(some 24), .mv (.t 38), none⟩])))))))))
  (.region [⟨(some 39), .bin .add (.t 18) (.c (.v (.int .i64 1))), none⟩, ⟨(some 18), .mv (.t 39), none⟩])))))))
  (.seq (.region [⟨(some 40), .mv (.t 4), none⟩, ⟨(some 2), .mv (.t 40), none⟩, ⟨(some 3), .mv (.c (.v (.int .i64 0))), none⟩])
  .ret)))))⟩
theorem a_mKnown_ok : cFunc Try.prog 62 = some a_mKnown := by kernel_rfl
def r_mKnown0 : List (Nat × Nat) := [(6, 8), (18, 39)]
def r_mKnown1 : List (Nat × Nat) := [(7, 8), (24, 38)]
def a_mReceive : AFunc := ⟨4, 82, [.tmp 8, .tmp 9],
  (.seq (.region [⟨(some 8), .mv (.c (.v .zsl)), none⟩, ⟨(some 9), .mv (.c (.v (.int .i64 0))), none⟩])
  (.seq (.region [⟨(some 12), .mv (.t 0), none⟩, ⟨(some 13), .len (.t 12), none⟩, ⟨(some 10), .mv (.t 13), none⟩])
  (.seq (.block 0 (.seq (.region [⟨(some 15), .mv (.t 0), none⟩, ⟨(some 16), .call (.c (.fn 113 [])) [(.t 15)], none⟩, ⟨(some 17), .not (.t 16), none⟩, ⟨(some 18), .mv (.t 17), none⟩, ⟨(some 19), .mv (.t 2), some (18, false)⟩, ⟨(some 20), .call (.c (.fn 113 [])) [(.t 19)], some (18, false)⟩, ⟨(some 21), .not (.t 20), some (18, false)⟩, ⟨(some 22), .pick (.t 18) (.c (.v (.bool true))) (.t 21), none⟩, ⟨(some 23), .mv (.t 22), none⟩, ⟨(some 24), .mv (.t 2), some (23, false)⟩, ⟨(some 25), .len (.t 24), some (23, false)⟩, ⟨(some 26), .mv (.t 10), some (23, false)⟩, ⟨(some 27), .bin .neq (.t 25) (.t 26), some (23, false)⟩, ⟨(some 28), .pick (.t 23) (.c (.v (.bool true))) (.t 27), none⟩, ⟨(some 14), .mv (.t 28), none⟩])
  (.cond (.t 14) (.seq (.region [⟨(some 8), .mv (.c (.v .zsl)), none⟩, ⟨(some 9), .mv (.c (.v (.int .i64 1))), none⟩])
  .ret)
  (.seq (.region [⟨(some 30), .mv (.t 1), none⟩, ⟨(some 31), .bin .lss (.t 30) (.c (.v (.int .i64 0))), none⟩, ⟨(some 32), .mv (.t 31), none⟩, ⟨(some 33), .mv (.t 1), some (32, false)⟩, ⟨(some 34), .mv (.t 10), some (32, false)⟩, ⟨(some 35), .bin .geq (.t 33) (.t 34), some (32, false)⟩, ⟨(some 36), .pick (.t 32) (.c (.v (.bool true))) (.t 35), none⟩, ⟨(some 37), .mv (.t 36), none⟩, ⟨(some 38), .mv (.t 3), some (37, false)⟩, ⟨(some 39), .bin .lss (.t 38) (.c (.v (.int .i64 0))), some (37, false)⟩, ⟨(some 40), .pick (.t 37) (.c (.v (.bool true))) (.t 39), none⟩, ⟨(some 41), .mv (.t 40), none⟩, ⟨(some 42), .mv (.t 3), some (41, false)⟩, ⟨(some 43), .mv (.t 10), some (41, false)⟩, ⟨(some 44), .bin .geq (.t 42) (.t 43), some (41, false)⟩, ⟨(some 45), .pick (.t 41) (.c (.v (.bool true))) (.t 44), none⟩, ⟨(some 46), .mv (.t 45), none⟩, ⟨(some 47), .mv (.t 1), some (46, false)⟩, ⟨(some 48), .mv (.t 3), some (46, false)⟩, ⟨(some 49), .bin .eql (.t 47) (.t 48), some (46, false)⟩, ⟨(some 50), .pick (.t 46) (.c (.v (.bool true))) (.t 49), none⟩, ⟨(some 29), .mv (.t 50), none⟩])
  (.cond (.t 29) (.seq (.region [⟨(some 8), .mv (.c (.v .zsl)), none⟩, ⟨(some 9), .mv (.c (.v (.int .i64 2))), none⟩])
  .ret)
  .skip)))))
  (.seq (.region [⟨(some 51), .mv (.t 0), none⟩, ⟨(some 52), .call (.c (.fn 107 [])) [(.t 51)], none⟩, ⟨(some 0), .mv (.t 52), none⟩])
  (.seq (.seq (.region [⟨(some 53), .mv (.t 0), none⟩, ⟨(some 54), .len (.t 53), none⟩, ⟨(some 55), .mv (.c (.v (.int .i64 0))), none⟩])
  (.block 1 (.loop (.seq (.region [⟨(some 56), .bin .lss (.t 55) (.t 54), none⟩])
  (.seq (.cond (.t 56) .skip
  (.exit 1))
  (.seq (.block 2 (.seq (.region [⟨(some 57), .mv (.t 55), none⟩, ⟨(some 11), .mv (.t 57), none⟩])
  (.draw [⟨0, ⟨(some 58), .mv (.t 0), none⟩, []⟩, ⟨1, ⟨(some 59), .mv (.t 11), none⟩, []⟩, ⟨2, ⟨(some 60), .iaddr 1 (.t 58) (.t 59), none⟩, []⟩, ⟨3, ⟨(some 61), .load none (.t 60), none⟩, []⟩, ⟨4, ⟨(some 62), .mv (.t 2), none⟩, []⟩, ⟨5, ⟨(some 63), .mv (.t 11), none⟩, []⟩, ⟨6, ⟨(some 64), .iaddr 1 (.t 62) (.t 63), none⟩, []⟩, ⟨7, ⟨(some 65), .load none (.t 64), none⟩, []⟩, ⟨8, ⟨(some 66), .call (.c (.fn 163 [])) [(.t 61), (.t 65)], none⟩, []⟩])))
  (.region [⟨(some 67), .bin .add (.t 55) (.c (.v (.int .i64 1))), none⟩, ⟨(some 55), .mv (.t 67), none⟩])))))))
  (.seq (.draw [⟨0, ⟨(some 68), .mv (.t 0), none⟩, []⟩, ⟨1, ⟨(some 69), .mv (.t 1), none⟩, []⟩, ⟨2, ⟨(some 70), .iaddr 1 (.t 68) (.t 69), none⟩, []⟩, ⟨3, ⟨(some 71), .load none (.t 70), none⟩, []⟩, ⟨4, ⟨(some 72), .mv (.t 2), none⟩, []⟩, ⟨5, ⟨(some 73), .mv (.t 3), none⟩, []⟩, ⟨6, ⟨(some 74), .iaddr 1 (.t 72) (.t 73), none⟩, []⟩, ⟨7, ⟨(some 75), .load none (.t 74), none⟩, []⟩, ⟨8, ⟨(some 76), .call (.c (.fn 163 [])) [(.t 71), (.t 75)], none⟩, []⟩])
  (.seq (.region [⟨(some 77), .mv (.t 0), none⟩, ⟨(some 78), .mv (.t 1), none⟩, ⟨(some 79), .call (.c (.fn 144 [])) [(.t 77), (.t 78)], none⟩, ⟨(some 80), .extract 0 (.t 79), none⟩, ⟨(some 81), .extract 1 (.t 79), none⟩, ⟨(some 8), .mv (.t 80), none⟩, ⟨(some 9), .mv (.t 81), none⟩])
  .ret)))))))⟩
theorem a_mReceive_ok : cFunc Try.prog 143 = some a_mReceive := by kernel_rfl
def r_mReceive0 : List (Nat × Nat) := [(11, 11), (55, 67)]

def rowAt (m : List (List Int)) (i : Nat) : List Int := m.getD i []
def badRow (n : Nat) (r : List Int) : Bool := (r.length != n) || (List.range r.length).any (vBadAt r)
def badRowAt (m : List (List Int)) (i : Nat) : Bool := badRow m.length (rowAt m i)
def isM (m : List (List Int)) : Bool := decide (1 ≤ m.length) && (decide (m.length ≤ 8) && !(List.range m.length).any (badRowAt m))
theorem rowAt_at {m : List (List Int)} {i : Nat} (h : i < m.length) : rowAt m i = m[i] := getD_at h
theorem isM_open {m : List (List Int)} (h : isM m = true) : 1 ≤ m.length ∧ m.length ≤ 8 ∧ (∀ i, i < m.length → (rowAt m i).length = m.length) ∧ ∀ i j, i < m.length → j < m.length → 0 ≤ (rowAt m i).getD j 0 ∧ (rowAt m i).getD j 0 ≤ 1125899906842624 := by
  simp only [isM, Bool.and_eq_true, decide_eq_true_eq, Bool.not_eq_true', List.any_eq_false, List.mem_range, badRowAt, badRow, Bool.or_eq_true, not_or, bne_iff_ne, ne_eq, Decidable.not_not, vBadAt, vBad, List.any_eq_true, not_exists, not_and] at h
  refine ⟨h.1, h.2.1, fun i hi => (h.2.2 i hi).1, fun i j hi hj => ?_⟩
  obtain ⟨h1, h2⟩ := h.2.2 i hi
  have := h2 j (by omega)
  omega

theorem indexM_spec (v : List (List Int)) (k : Nat) (caps : List AV) (p : Nat → Bool) (hn : v.length ≤ 1000000) (b l : List Row)
    (hp : ∀ (i : Nat) (h : i < v.length), ACalls Try.prog k (.v (.isl 1 (v[i].map eI)) :: caps) (b ++ l) [] (fun r b' l' => r = .v (.bool (p i)) ∧ b' = b ++ l ∧ l' = [])) :
    ACalls Try.prog 112 [.v (.isl 1 (v.map eRw)), .fn k caps] b l (fun r b' l' => r = .v (.int .i64 (firstP p v.length)) ∧ b' = b ∧ l' = l) := by
  refine calls_kept a_IndM_ok rfl (by decide) ?_
  intro B g hB hR hE hA
  simp only [KArgs] at hA
  simp (disch := decide) only [a_IndM, hA, List.length_map, go_sem]
  refine loop_kept (ι := Nat) r_IndM0 (fun i => [(8, .v (.int .i64 i))]) 0 (fun _ => [])
    (fun i => i ≤ v.length ∧ ∀ j, j < i → p j = false) (fun i => v.length - i) 0 ⟨Nat.zero_le _, fun j hj => by omega⟩ (by (repeat (first | exact hE.mono (by omega) | refine KLt.up ?_ (by simp (disch := omega) only [AVlt_v, AVlt_any, AVlt_sl, AVlt_ptr, AVlt_mp, AVlt_agg, AVlt_tup, AVlt_fn, RowsLt_nil, RowsLt_live, RowsLt_dead, List.mem_cons, List.not_mem_nil, List.forall_mem_cons, List.forall_mem_nil, or_false, false_or, forall_eq_or_imp, forall_eq, vs_lt, Nat.add_lt_add_iff_left, Nat.reduceLT, true_and, and_true, and_self, List.length_cons, List.length_nil, Nat.reduceAdd, Nat.zero_add, implies_true, false_imp_iff, lt_T, List.mem_map])))) (by ((try simp (disch := decide) only [hA, go_sem]) <;> (repeat' (first | exact trivial | refine And.intro ?_ ?_)) <;> (first | rfl | (congr 2; omega)))) (fun e => Weak.refl _ _ _) ?_
  rintro g1 hE1 hEE1 hg1 i ⟨hi, h0⟩
  by_cases hlt : i < v.length
  · simp (disch := (first | decide | omega)) only [hA, hg1, eRw, go_sem]
    refine ACalls_mono _ _ _ _ _ _ (hB ▸ hp i hlt) ?_
    rintro r b' l' ⟨rfl, rfl, rfl⟩
    cases hpi : p i
    · simp (disch := (first | decide | omega)) only [hA, hg1, hpi, go_sem]
      refine ⟨i + 1, ⟨hlt, fun j hj => ?_⟩, by simp only; omega, ?_⟩
      · rcases Nat.lt_or_ge j i with hji | hji
        · exact h0 j hji
        · have : j = i := by omega
          rw [this]; exact hpi
      exact Weak.kround (p := r_IndM0) (k := 0) (by ((repeat refine (kAny_up rfl).trans ?_); exact hEE1)) (by ((try simp (disch := decide) only [hA, go_sem]) <;> (repeat' (first | exact trivial | refine And.intro ?_ ?_)) <;> (first | rfl | (congr 2; omega)))) rfl hE1 (by simp) (by simp (disch := omega) only [KOvLt, AVlt_v, AVlt_any, AVlt_sl, AVlt_ptr, AVlt_mp, AVlt_agg, AVlt_tup, AVlt_fn, RowsLt_nil, RowsLt_live, RowsLt_dead, List.mem_cons, List.not_mem_nil, List.forall_mem_cons, List.forall_mem_nil, or_false, false_or, forall_eq_or_imp, forall_eq, vs_lt, Nat.add_lt_add_iff_left, Nat.reduceLT, true_and, and_true, and_self, List.length_cons, List.length_nil, Nat.reduceAdd, Nat.zero_add, implies_true, false_imp_iff, lt_T, List.mem_map]) hR (by simp (disch := omega) only [AVlt_v, AVlt_any, AVlt_sl, AVlt_ptr, AVlt_mp, AVlt_agg, AVlt_tup, AVlt_fn, RowsLt_nil, RowsLt_live, RowsLt_dead, List.mem_cons, List.not_mem_nil, List.forall_mem_cons, List.forall_mem_nil, or_false, false_or, forall_eq_or_imp, forall_eq, vs_lt, Nat.add_lt_add_iff_left, Nat.reduceLT, true_and, and_true, and_self, List.length_cons, List.length_nil, Nat.reduceAdd, Nat.zero_add, implies_true, false_imp_iff, lt_T, List.mem_map])
    · simp (disch := (first | decide | omega)) only [hA, hg1, hpi, go_sem]
      exact leave_pure (xs := [.v (.int .i64 i)]) (.inr rfl) (by simp (disch := (first | decide | omega)) only [resVs, resV, go_sem, hA, hg1]) (by simp only [one, AVlt_v, AVlt_any, AVlt_sl, AVlt_ptr, AVlt_mp, AVlt_agg, AVlt_tup, AVlt_fn, RowsLt_nil, RowsLt_live, RowsLt_dead, List.mem_cons, List.not_mem_nil, List.forall_mem_cons, List.forall_mem_nil, or_false, false_or, forall_eq_or_imp, forall_eq, vs_lt, Nat.add_lt_add_iff_left, Nat.reduceLT, true_and, and_true, and_self, List.length_cons, List.length_nil, Nat.reduceAdd, Nat.zero_add, implies_true, false_imp_iff, lt_T, List.mem_map]) hR hB ⟨by rw [firstP_at hlt h0 hpi]; rfl, rfl, rfl⟩
  · simp (disch := (first | decide | omega)) only [hA, hg1, go_sem]
    obtain rfl : i = v.length := by omega
    exact leave_pure (xs := [.v (.int .i64 (-1))]) (.inr rfl) (by simp (disch := (first | decide | omega)) only [resVs, resV, go_sem, hA, hg1]) (by simp only [one, AVlt_v, AVlt_any, AVlt_sl, AVlt_ptr, AVlt_mp, AVlt_agg, AVlt_tup, AVlt_fn, RowsLt_nil, RowsLt_live, RowsLt_dead, List.mem_cons, List.not_mem_nil, List.forall_mem_cons, List.forall_mem_nil, or_false, false_or, forall_eq_or_imp, forall_eq, vs_lt, Nat.add_lt_add_iff_left, Nat.reduceLT, true_and, and_true, and_self, List.length_cons, List.length_nil, Nat.reduceAdd, Nat.zero_add, implies_true, false_imp_iff, lt_T, List.mem_map]) hR hB ⟨by rw [firstP_none h0]; rfl, rfl, rfl⟩
theorem containsM_spec (v : List (List Int)) (k : Nat) (caps : List AV) (p : Nat → Bool) (hn : v.length ≤ 1000000) (b l : List Row)
    (hp : ∀ (i : Nat) (h : i < v.length), ACalls Try.prog k (.v (.isl 1 (v[i].map eI)) :: caps) (b ++ l) [] (fun r b' l' => r = .v (.bool (p i)) ∧ b' = b ++ l ∧ l' = [])) :
    ACalls Try.prog 59 [.v (.isl 1 (v.map eRw)), .fn k caps] b l (fun r b' l' => r = .v (.bool ((List.range v.length).any p)) ∧ b' = b ∧ l' = l) := by
  refine calls_kept a_ConM_ok rfl (by decide) ?_
  intro B g hB hR hE hA
  simp only [KArgs] at hA
  simp (disch := decide) only [a_ConM, hA, go_sem]
  refine ACalls.nxt (indexM_spec v k caps p hn B [] (by rw [List.append_nil, hB]; exact hp)) ?_
  simp (disch := decide) only [hA, go_sem]
  exact leave_pure (xs := [.v (.bool (decide (0 ≤ firstP p v.length)))]) (.inr rfl) (by simp (disch := (first | decide | omega)) only [resVs, resV, go_sem, hA]) (by simp only [one, AVlt_v, AVlt_any, AVlt_sl, AVlt_ptr, AVlt_mp, AVlt_agg, AVlt_tup, AVlt_fn, RowsLt_nil, RowsLt_live, RowsLt_dead, List.mem_cons, List.not_mem_nil, List.forall_mem_cons, List.forall_mem_nil, or_false, false_or, forall_eq_or_imp, forall_eq, vs_lt, Nat.add_lt_add_iff_left, Nat.reduceLT, true_and, and_true, and_self, List.length_cons, List.length_nil, Nat.reduceAdd, Nat.zero_add, implies_true, false_imp_iff, lt_T, List.mem_map]) hR hB ⟨by rw [firstP_ge]; rfl, rfl, rfl⟩
theorem vc11_spec (n : Int) (b l : List Row) : ACalls Try.prog 147 [.v (.int .i64 n)] b l (fun r b' l' => r = .v (.bool (vBad n)) ∧ b' = b ∧ l' = l) := by
  refine calls_kept a_vc11_ok rfl (by decide) ?_
  intro B g hB hR hE hA
  simp only [KArgs] at hA
  by_cases h : n < 0
  · have hd := decide_eq_true h
    simp (disch := (first | decide | omega)) only [a_vc11, hA, hd, go_sem]
    exact leave_pure (xs := [.v (.bool true)]) (.inr rfl) (by simp (disch := (first | decide | omega)) only [resVs, resV, go_sem, hA, hd]) (by simp only [one, AVlt_v, AVlt_any, AVlt_sl, AVlt_ptr, AVlt_mp, AVlt_agg, AVlt_tup, AVlt_fn, RowsLt_nil, RowsLt_live, RowsLt_dead, List.mem_cons, List.not_mem_nil, List.forall_mem_cons, List.forall_mem_nil, or_false, false_or, forall_eq_or_imp, forall_eq, vs_lt, Nat.add_lt_add_iff_left, Nat.reduceLT, true_and, and_true, and_self, List.length_cons, List.length_nil, Nat.reduceAdd, Nat.zero_add, implies_true, false_imp_iff, lt_T, List.mem_map]) hR hB ⟨by simp [vBad, h, one], rfl, rfl⟩
  · have hd := decide_eq_false h
    simp (disch := (first | decide | omega)) only [a_vc11, hA, hd, go_sem]
    exact leave_pure (xs := [.v (.bool (decide ((n : Int) > 1125899906842624)))]) (.inr rfl) (by simp (disch := (first | decide | omega)) only [resVs, resV, go_sem, hA, hd]) (by simp only [one, AVlt_v, AVlt_any, AVlt_sl, AVlt_ptr, AVlt_mp, AVlt_agg, AVlt_tup, AVlt_fn, RowsLt_nil, RowsLt_live, RowsLt_dead, List.mem_cons, List.not_mem_nil, List.forall_mem_cons, List.forall_mem_nil, or_false, false_or, forall_eq_or_imp, forall_eq, vs_lt, Nat.add_lt_add_iff_left, Nat.reduceLT, true_and, and_true, and_self, List.length_cons, List.length_nil, Nat.reduceAdd, Nat.zero_add, implies_true, false_imp_iff, lt_T, List.mem_map]) hR hB ⟨by simp [vBad, h, one], rfl, rfl⟩
theorem vc1_spec (m : List (List Int)) (x : List Int) (hx : x.length ≤ 1000000) (id : Nat) (b : List Row) (hid : b[id]? = some (.live 0 1 [[.v (.isl 1 (m.map eRw))]])) : ACalls Try.prog 146 [.v (.isl 1 (x.map eI)), .ptr id 0 0 0] b [] (fun r b' l' => r = .v (.bool (badRow m.length x)) ∧ b' = b ∧ l' = []) := by
  refine calls_kept a_vc1_ok rfl (by decide) ?_
  intro B g hB hR hE hA
  simp only [KArgs] at hA
  have hBb : B = b := by rw [hB, List.append_nil]
  have hlt : id < B.length := by rw [hBb]; exact (List.getElem?_eq_some_iff.1 hid).1
  have hbase : ∀ l, hget B l id = some (.live 0 1 [[.v (.isl 1 (m.map eRw))]]) := fun l => by unfold hget; rw [if_pos hlt, hBb, hid]
  cases h1 : ((x.length : Int) != (m.length : Int))
  · simp (disch := (first | decide | omega)) only [a_vc1, hA, hbase, h1, List.length_map, go_sem]
    refine ACalls.nxt (contains1_spec x _ [] (vBadAt x) (by omega) _ _ (fun i hi => by unfold vBadAt; rw [getD_at hi]; exact vc11_spec _ _ _)) ?_
    have hq : badRow m.length x = (List.range x.length).any (vBadAt x) := by
      unfold badRow
      have : (x.length != m.length) = false := by simp at h1 ⊢; omega
      rw [this, Bool.false_or]
    simp (disch := (first | decide | omega)) only [hA, go_sem]
    exact leave_pure (xs := [.v (.bool ((List.range x.length).any (vBadAt x)))]) (.inr rfl) (by simp (disch := (first | decide | omega)) only [resVs, resV, go_sem, hA]) (by simp only [one, AVlt_v, AVlt_any, AVlt_sl, AVlt_ptr, AVlt_mp, AVlt_agg, AVlt_tup, AVlt_fn, RowsLt_nil, RowsLt_live, RowsLt_dead, List.mem_cons, List.not_mem_nil, List.forall_mem_cons, List.forall_mem_nil, or_false, false_or, forall_eq_or_imp, forall_eq, vs_lt, Nat.add_lt_add_iff_left, Nat.reduceLT, true_and, and_true, and_self, List.length_cons, List.length_nil, Nat.reduceAdd, Nat.zero_add, implies_true, false_imp_iff, lt_T, List.mem_map]) hR hB ⟨by rw [hq]; rfl, rfl, rfl⟩
  · have hq : badRow m.length x = true := by
      unfold badRow
      have : (x.length != m.length) = true := by simp at h1 ⊢; omega
      rw [this, Bool.true_or]
    simp (disch := (first | decide | omega)) only [a_vc1, hA, hbase, h1, List.length_map, go_sem]
    exact leave_pure (xs := [.v (.bool true)]) (.inr rfl) (by simp (disch := (first | decide | omega)) only [resVs, resV, go_sem, hA]) (by simp only [one, AVlt_v, AVlt_any, AVlt_sl, AVlt_ptr, AVlt_mp, AVlt_agg, AVlt_tup, AVlt_fn, RowsLt_nil, RowsLt_live, RowsLt_dead, List.mem_cons, List.not_mem_nil, List.forall_mem_cons, List.forall_mem_nil, or_false, false_or, forall_eq_or_imp, forall_eq, vs_lt, Nat.add_lt_add_iff_left, Nat.reduceLT, true_and, and_true, and_self, List.length_cons, List.length_nil, Nat.reduceAdd, Nat.zero_add, implies_true, false_imp_iff, lt_T, List.mem_map]) hR hB ⟨by rw [hq]; rfl, rfl, rfl⟩
/-- The rows are not so long. -/
def Fit (m : List (List Int)) : Prop := m.length ≤ 1000000 ∧ ∀ r ∈ m, r.length ≤ 1000000
theorem mValid_spec (m : List (List Int)) (hF : Fit m) (b l : List Row) : ACalls Try.prog 113 [.v (.isl 1 (m.map eRw))] b l (fun r b' l' => r = .v (.bool (isM m)) ∧ b' = b ∧ l' = l) := by
  refine calls_kept a_mValid_ok rfl (by decide) ?_
  intro B g hB hR hE hA
  simp only [KArgs] at hA
  by_cases h1 : 1 ≤ m.length
  · by_cases h2 : m.length ≤ 8
    · have hd1 : decide ((m.length : Int) < 1) = false := decide_eq_false (by omega)
      have hd2 : decide ((8 : Int) < m.length) = false := decide_eq_false (by omega)
      simp (disch := (first | decide | omega)) only [a_mValid, hA, List.length_map, hd1, hd2, go_sem]
      refine ACalls.nxt (containsM_spec m _ [.ptr B.length 0 0 0] (badRowAt m) hF.1 _ _ (fun i hi => by
        unfold badRowAt; rw [rowAt_at hi]
        exact vc1_spec m m[i] (hF.2 _ (List.getElem_mem hi)) B.length _ (by rw [List.getElem?_append_right (Nat.le_refl _)]; simp))) ?_
      simp (disch := (first | decide | omega)) only [hA, go_sem]
      exact leave_pure (xs := [.v (.bool (!(List.range m.length).any (badRowAt m)))]) (.inr rfl) (by simp (disch := (first | decide | omega)) only [resVs, resV, go_sem, hA]) (by simp only [one, AVlt_v, AVlt_any, AVlt_sl, AVlt_ptr, AVlt_mp, AVlt_agg, AVlt_tup, AVlt_fn, RowsLt_nil, RowsLt_live, RowsLt_dead, List.mem_cons, List.not_mem_nil, List.forall_mem_cons, List.forall_mem_nil, or_false, false_or, forall_eq_or_imp, forall_eq, vs_lt, Nat.add_lt_add_iff_left, Nat.reduceLT, true_and, and_true, and_self, List.length_cons, List.length_nil, Nat.reduceAdd, Nat.zero_add, implies_true, false_imp_iff, lt_T, List.mem_map]) hR hB ⟨by simp [isM, h1, h2, one], rfl, rfl⟩
    · have hd1 : decide ((m.length : Int) < 1) = false := decide_eq_false (by omega)
      have hd2 : decide ((8 : Int) < m.length) = true := decide_eq_true (by omega)
      simp (disch := (first | decide | omega)) only [a_mValid, hA, List.length_map, hd1, hd2, go_sem]
      exact leave_pure (xs := [.v (.bool false)]) (.inr rfl) (by simp (disch := (first | decide | omega)) only [resVs, resV, go_sem, hA]) (by simp only [one, AVlt_v, AVlt_any, AVlt_sl, AVlt_ptr, AVlt_mp, AVlt_agg, AVlt_tup, AVlt_fn, RowsLt_nil, RowsLt_live, RowsLt_dead, List.mem_cons, List.not_mem_nil, List.forall_mem_cons, List.forall_mem_nil, or_false, false_or, forall_eq_or_imp, forall_eq, vs_lt, Nat.add_lt_add_iff_left, Nat.reduceLT, true_and, and_true, and_self, List.length_cons, List.length_nil, Nat.reduceAdd, Nat.zero_add, implies_true, false_imp_iff, lt_T, List.mem_map]) hR hB ⟨by simp [isM, h1, h2, one], rfl, rfl⟩
  · have hd1 : decide ((m.length : Int) < 1) = true := decide_eq_true (by omega)
    simp (disch := (first | decide | omega)) only [a_mValid, hA, List.length_map, hd1, go_sem]
    exact leave_pure (xs := [.v (.bool false)]) (.inr rfl) (by simp (disch := (first | decide | omega)) only [resVs, resV, go_sem, hA]) (by simp only [one, AVlt_v, AVlt_any, AVlt_sl, AVlt_ptr, AVlt_mp, AVlt_agg, AVlt_tup, AVlt_fn, RowsLt_nil, RowsLt_live, RowsLt_dead, List.mem_cons, List.not_mem_nil, List.forall_mem_cons, List.forall_mem_nil, or_false, false_or, forall_eq_or_imp, forall_eq, vs_lt, Nat.add_lt_add_iff_left, Nat.reduceLT, true_and, and_true, and_self, List.length_cons, List.length_nil, Nat.reduceAdd, Nat.zero_add, implies_true, false_imp_iff, lt_T, List.mem_map]) hR hB ⟨by simp [isM, h1, one], rfl, rfl⟩
/-- Cells of which the first i point to rows of their own. -/
def cTo (base i : Nat) (ver len : Nat → Nat) (j : Nat) : List AV := if j < i then [.sl (base + (j + 1)) (ver j) 0 (len j)] else [.v .zsl]
theorem cTo_next {n base i ver len : Nat} {v0 l0 : Nat → Nat} (hv : v0 i = ver) (hl : l0 i = len) : (fl n (cTo base i v0 l0)).set i [.sl (base + (i + 1)) ver 0 len] = fl n (cTo base (i + 1) v0 l0) := by
  rw [fl_set]
  refine fl_congr (fun j hj => ?_)
  unfold fUp cTo
  by_cases h : j = i
  · subst h; rw [if_pos rfl, if_pos (by omega), hv, hl]
  · rw [if_neg h]
    by_cases h2 : j < i
    · rw [if_pos h2, if_pos (by omega)]
    · rw [if_neg h2, if_neg (by omega)]
theorem cTo_self {base i : Nat} {ver len : Nat → Nat} : cTo base i ver len i = [.v .zsl] := by unfold cTo; rw [if_neg (by omega)]
theorem cTo_zero {n base : Nat} {ver len : Nat → Nat} : List.replicate n [AV.v .zsl] = fl n (cTo base 0 ver len) := by
  apply List.ext_getElem?
  intro j
  by_cases hj : j < n
  · rw [fl_get hj, List.getElem?_replicate, if_pos hj]; unfold cTo; rw [if_neg (by omega)]
  · rw [fl_none (by omega), List.getElem?_replicate, if_neg hj]
theorem mR_start {n v0 base sz : Nat} {ver : Nat → Nat} {R : Nat → List (List IV)} : mR n v0 base sz 0 ver R = .live v0 1 (fl n (cTo base n ver (fun j => (R j).length))) :: fl n (fun j => .live (ver j) sz (vs (R j))) := by
  unfold mR
  congr 1
  · congr 1
    refine fl_congr (fun j hj => ?_)
    unfold mC cTo; rw [if_neg (by omega), if_pos hj]
theorem mR_lt {n v0 base sz m : Nat} {ver : Nat → Nat} {R : Nat → List (List IV)} (h : base + (n + 1) ≤ m) : RowsLt m (mR n v0 base sz 0 ver R) := by
  intro id ver' sz' els hr row hrow c hc
  unfold mR at hr
  cases id with
  | zero =>
    rw [List.getElem?_cons_zero] at hr
    cases hr
    obtain ⟨j, hj, rfl⟩ := List.mem_map.1 hrow
    simp only [List.mem_singleton] at hc
    subst hc
    have := List.mem_range.1 hj
    unfold mC
    rw [if_neg (by omega)]
    exact .sl _ _ _ _ (by omega)
  | succ id =>
    rw [List.getElem?_cons_succ] at hr
    by_cases hid : id < n
    · rw [fl_get hid] at hr
      unfold mD at hr
      rw [if_neg (by omega)] at hr
      cases hr
      obtain ⟨r0, _, rfl⟩ := List.mem_map.1 hrow
      obtain ⟨x0, _, rfl⟩ := List.mem_map.1 hc
      exact .v _
    · rw [fl_none (by omega)] at hr; cases hr
/-- A matrix of which i rows are made. -/
def pM (n v0 base sz i : Nat) (ver : Nat → Nat) (R : Nat → List (List IV)) : List Row := .live v0 1 (fl n (cTo base i ver (fun j => (R j).length))) :: fl i (fun j => .live (ver j) sz (vs (R j)))
theorem pM_lt {n v0 base sz i m : Nat} {ver : Nat → Nat} {R : Nat → List (List IV)} (h : base + (i + 1) ≤ m) : RowsLt m (pM n v0 base sz i ver R) := by
  intro id ver' sz' els hr row hrow c hc
  unfold pM at hr
  cases id with
  | zero =>
    rw [List.getElem?_cons_zero] at hr
    cases hr
    obtain ⟨j, hj, rfl⟩ := List.mem_map.1 hrow
    unfold cTo at hc
    split at hc
    · simp only [List.mem_singleton] at hc
      subst hc
      exact .sl _ _ _ _ (by omega)
    · simp only [List.mem_singleton] at hc
      subst hc
      exact .v _
  | succ id =>
    rw [List.getElem?_cons_succ] at hr
    by_cases hid : id < i
    · rw [fl_get hid] at hr
      cases hr
      obtain ⟨r0, _, rfl⟩ := List.mem_map.1 hrow
      obtain ⟨x0, _, rfl⟩ := List.mem_map.1 hc
      exact .v _
    · rw [fl_none (by omega)] at hr; cases hr
theorem pM_len {n v0 base sz i : Nat} {ver : Nat → Nat} {R : Nat → List (List IV)} : (pM n v0 base sz i ver R).length = i + 1 := by simp [pM, fl_len]
theorem pM_all {n v0 base sz : Nat} {ver : Nat → Nat} {R : Nat → List (List IV)} : pM n v0 base sz n ver R = mR n v0 base sz 0 ver R := mR_start.symm
theorem mR_len {n v0 base sz i : Nat} {ver : Nat → Nat} {R : Nat → List (List IV)} : (mR n v0 base sz i ver R).length = n + 1 := by simp [mR, fl_len]
def zRows (m : Nat) (_ : Nat) : List (List IV) := (List.replicate m (0 : Int)).map eI
theorem zRows_len (m i : Nat) : (zRows m i).length = m := by simp [zRows]
def zeroM (n : Nat) : List (List Int) := fl n fun _ => List.replicate n 0
def zeroMR (n : Int) : AV := if 1 ≤ n ∧ n ≤ 8 then .tup [.v (.isl 1 ((zeroM n.toNat).map eRw)), .v (.int .i64 0)] else .tup [.v .zsl, .v (.int .i64 2)]
theorem mZero_spec (n : Int) (b l : List Row) : ACalls Try.prog 141 [.v (.int .i64 n)] b l (fun r b' l' => r = zeroMR n ∧ b' = b ∧ l' = l) := by
  refine calls_kept a_mZero_ok rfl (by decide) ?_
  intro B g hB hR hE hA
  simp only [KArgs] at hA
  by_cases h1 : n < 1
  · have hd := decide_eq_true h1
    simp (disch := (first | decide | omega)) only [a_mZero, hA, hd, go_sem]
    exact leave_pure (xs := [.v .zsl, .v (.int .i64 2)]) (.inr rfl) (by simp (disch := (first | decide | omega)) only [resVs, resV, go_sem, hA]) (by simp only [one, AVlt_v, AVlt_any, AVlt_sl, AVlt_ptr, AVlt_mp, AVlt_agg, AVlt_tup, AVlt_fn, RowsLt_nil, RowsLt_live, RowsLt_dead, List.mem_cons, List.not_mem_nil, List.forall_mem_cons, List.forall_mem_nil, or_false, false_or, forall_eq_or_imp, forall_eq, vs_lt, Nat.add_lt_add_iff_left, Nat.reduceLT, true_and, and_true, and_self, List.length_cons, List.length_nil, Nat.reduceAdd, Nat.zero_add, implies_true, false_imp_iff, lt_T, List.mem_map]) hR hB ⟨by rw [zeroMR, if_neg (by omega)]; rfl, rfl, rfl⟩
  have hd := decide_eq_false h1
  by_cases h2 : n > 8
  · have hd2 := decide_eq_true h2
    simp (disch := (first | decide | omega)) only [a_mZero, hA, hd, hd2, go_sem]
    exact leave_pure (xs := [.v .zsl, .v (.int .i64 2)]) (.inr rfl) (by simp (disch := (first | decide | omega)) only [resVs, resV, go_sem, hA]) (by simp only [one, AVlt_v, AVlt_any, AVlt_sl, AVlt_ptr, AVlt_mp, AVlt_agg, AVlt_tup, AVlt_fn, RowsLt_nil, RowsLt_live, RowsLt_dead, List.mem_cons, List.not_mem_nil, List.forall_mem_cons, List.forall_mem_nil, or_false, false_or, forall_eq_or_imp, forall_eq, vs_lt, Nat.add_lt_add_iff_left, Nat.reduceLT, true_and, and_true, and_self, List.length_cons, List.length_nil, Nat.reduceAdd, Nat.zero_add, implies_true, false_imp_iff, lt_T, List.mem_map]) hR hB ⟨by rw [zeroMR, if_neg (by omega)]; rfl, rfl, rfl⟩
  have hd2 := decide_eq_false h2
  obtain ⟨m, rfl⟩ : ∃ m : Nat, n = m := ⟨n.toNat, by omega⟩
  have hz : List.replicate m [AV.v .zsl] = fl m (cTo B.length 0 (fun _ => 0) (fun j => (zRows m j).length)) := cTo_zero
  simp (disch := (first | decide | omega)) only [a_mZero, hA, hd, hd2, hz, go_sem]
  refine loop_kept (ι := Nat) r_mZero0 (fun i => [(16, .v (.int .i64 i))]) 1 (fun i => pM m 0 B.length 1 i (fun _ => 0) (zRows m))
    (fun i => i ≤ m) (fun i => m - i) 0 (Nat.zero_le _) (by (repeat (first | exact hE.mono (by omega) | refine KLt.up ?_ (by simp (disch := omega) only [AVlt_v, AVlt_any, AVlt_sl, AVlt_ptr, AVlt_mp, AVlt_agg, AVlt_tup, AVlt_fn, RowsLt_nil, RowsLt_live, RowsLt_dead, List.mem_cons, List.not_mem_nil, List.forall_mem_cons, List.forall_mem_nil, or_false, false_or, forall_eq_or_imp, forall_eq, vs_lt, Nat.add_lt_add_iff_left, Nat.reduceLT, true_and, and_true, and_self, List.length_cons, List.length_nil, Nat.reduceAdd, Nat.zero_add, implies_true, false_imp_iff, lt_T, List.mem_map])))) (by ((try simp (disch := decide) only [hA, go_sem]) <;> (repeat' (first | exact trivial | refine And.intro ?_ ?_)) <;> (first | rfl | (congr 2; omega)))) (fun e => by simp only [pM, fl_zero]; exact Weak.refl _ _ _) ?_
  intro g1 hE1 hEE1 hg1 i hi
  by_cases hlt : i < m
  · have hrep : List.replicate m [AV.v (.int .i64 0)] = vs (zRows m i) := by simp [vs, zRows, eI]
    have cs := cTo_next (n := m) (base := B.length) (i := i) (v0 := fun _ => 0) (l0 := fun j => (zRows m j).length) (ver := 0) (len := m) rfl (zRows_len m i)
    have ds := fl_next (n := i) (f := fun j => Row.live 0 1 (vs (zRows m j))) rfl
    simp (disch := (first | decide | omega)) only [hA, hg1, pM, fl_len, fl_get, setFrom, cellsOf, hrep, cTo_self, cs, ds, go_sem]
    refine ⟨i + 1, hlt, by simp only; omega, ?_⟩
    exact Weak.kround (l1 := pM m 0 B.length 1 (i + 1) (fun _ => 0) (zRows m)) (p := r_mZero0) (k := 1) (by ((repeat refine (kAny_up rfl).trans ?_); exact hEE1)) (by ((try simp (disch := decide) only [hA, go_sem]) <;> (repeat' (first | exact trivial | refine And.intro ?_ ?_)) <;> (first | rfl | (congr 2; omega)))) (junk := []) (by simp only [pM, List.append_nil]) hE1 (by rw [pM_len]; omega) (by simp (disch := omega) only [KOvLt, AVlt_v, AVlt_any, AVlt_sl, AVlt_ptr, AVlt_mp, AVlt_agg, AVlt_tup, AVlt_fn, RowsLt_nil, RowsLt_live, RowsLt_dead, List.mem_cons, List.not_mem_nil, List.forall_mem_cons, List.forall_mem_nil, or_false, false_or, forall_eq_or_imp, forall_eq, vs_lt, Nat.add_lt_add_iff_left, Nat.reduceLT, true_and, and_true, and_self, List.length_cons, List.length_nil, Nat.reduceAdd, Nat.zero_add, implies_true, false_imp_iff, lt_T, List.mem_map]) hR (pM_lt (by rw [pM_len]; omega))
  · simp (disch := (first | decide | omega)) only [hA, hg1, go_sem]
    obtain rfl : i = m := by omega
    refine leave_mat2 (n := i) (v0 := 0) (sz := 1) (ver := fun _ => 0) (R := zRows i) (z := .int .i64 0) (junk := []) (.inr rfl) (by simp (disch := (first | decide | omega)) only [resVs, resV, hA, hg1, go_sem]) (by rw [← pM_all, List.append_nil]) hR hB ⟨?_, rfl, rfl⟩
    rw [zeroMR, if_pos (by omega), Int.toNat_natCast, zeroM, fl_map]
    rfl
/-- The end of a function that hands out rows of its own as they are. -/
theorem leave_keep {rs : List ARes} {Q : AV → List Row → List Row → Prop} {B e l : _} {ex : AExit} (hex : ex = .normal ∨ ex = .ret) {y : AV} {keep junk : List Row} (hx : resVs e B l rs = some [y]) (hl : l = keep ++ junk)
    (hR : RowsLt B.length B) (hy : AVlt (B.length + keep.length) y) (hk : RowsLt (B.length + keep.length) keep) {b0 l0 : List Row} (hB : B = b0 ++ l0) (hq : Q y b0 (l0 ++ keep)) : Leaves rs Q b0.length ex e B l :=
  leave hex hx (y := y) (Weak.trim (l1 := keep) hl (by intro x hx; simp only [one, List.mem_singleton] at hx; subst hx; exact hy) (hR.mono (by omega)) hk) hB hq
/-- The rows of a matrix. -/
def rowsM (m : List (List Int)) (j : Nat) : List (List IV) := (rowAt m j).map eI
theorem copied_spec (m : List (List Int)) (hm : isM m = true) (b l : List Row) : ACalls Try.prog 107 [.v (.isl 1 (m.map eRw))] b l (fun r b' l' => r = .sl (b.length + l.length) 0 0 m.length ∧ b' = b ∧ l' = l ++ mR m.length 0 (b.length + l.length) 1 0 (fun _ => 1) (rowsM m)) := by
  refine calls_kept a_copied_ok rfl (by decide) ?_
  intro B g hB hR hE hA
  simp only [KArgs] at hA
  obtain ⟨l1, l2, l3, _⟩ := isM_open hm
  have hz : List.replicate m.length [AV.v .zsl] = fl m.length (cTo B.length 0 (fun _ => 1) (fun j => (rowsM m j).length)) := cTo_zero
  simp (disch := (first | decide | omega)) only [a_copied, hA, List.length_map, hz, go_sem]
  refine loop_kept (ι := Nat) r_copied0 (fun i => [(11, .v (.int .i64 i))]) 1 (fun i => pM m.length 0 B.length 1 i (fun _ => 1) (rowsM m))
    (fun i => i ≤ m.length) (fun i => m.length - i) 0 (Nat.zero_le _) (by (repeat (first | exact hE.mono (by omega) | refine KLt.up ?_ (by simp (disch := omega) only [AVlt_v, AVlt_any, AVlt_sl, AVlt_ptr, AVlt_mp, AVlt_agg, AVlt_tup, AVlt_fn, RowsLt_nil, RowsLt_live, RowsLt_dead, List.mem_cons, List.not_mem_nil, List.forall_mem_cons, List.forall_mem_nil, or_false, false_or, forall_eq_or_imp, forall_eq, vs_lt, Nat.add_lt_add_iff_left, Nat.reduceLT, true_and, and_true, and_self, List.length_cons, List.length_nil, Nat.reduceAdd, Nat.zero_add, implies_true, false_imp_iff, lt_T, List.mem_map])))) (by ((try simp (disch := decide) only [hA, go_sem]) <;> (repeat' (first | exact trivial | refine And.intro ?_ ?_)) <;> (first | rfl | (congr 2; omega)))) (fun e => by simp only [pM, fl_zero]; exact Weak.refl _ _ _) ?_
  intro g1 hE1 hEE1 hg1 i hi
  by_cases hlt : i < m.length
  · have hri := rowAt_at hlt
    have hrl : (rowsM m i).length = m.length := by unfold rowsM; rw [List.length_map, l3 i hlt]
    have hil : m[i].length = m.length := by rw [← hri]; exact l3 i hlt
    have cs := cTo_next (n := m.length) (base := B.length) (i := i) (v0 := fun _ => 1) (l0 := fun j => (rowsM m j).length) (ver := 1) (len := m.length) rfl hrl
    have ds := fl_next (n := i) (f := fun j => Row.live 1 1 (vs (rowsM m j))) (x := Row.live 1 1 (vs (m[i].map eI))) (by unfold rowsM; rw [hri])
    simp (disch := (first | decide | omega)) only [hA, hg1, pM, eRw, go_sem]
    refine ACalls.nxt (clo1_spec m[i] (by omega) (by omega) _ _) ?_
    rw [hil]
    simp (disch := (first | decide | omega)) only [hA, hg1, fl_len, fl_get, setFrom, cellsOf, cTo_self, cs, ds, go_sem]
    refine ⟨i + 1, hlt, by simp only; omega, ?_⟩
    exact Weak.kround (l1 := pM m.length 0 B.length 1 (i + 1) (fun _ => 1) (rowsM m)) (p := r_copied0) (k := 1) (by ((repeat refine (kAny_up rfl).trans ?_); exact hEE1)) (by ((try simp (disch := decide) only [hA, go_sem]) <;> (repeat' (first | exact trivial | refine And.intro ?_ ?_)) <;> (first | rfl | (congr 2; omega)))) (junk := []) (by simp only [pM, List.append_nil]) hE1 (by rw [pM_len]; omega) (by simp (disch := omega) only [KOvLt, AVlt_v, AVlt_any, AVlt_sl, AVlt_ptr, AVlt_mp, AVlt_agg, AVlt_tup, AVlt_fn, RowsLt_nil, RowsLt_live, RowsLt_dead, List.mem_cons, List.not_mem_nil, List.forall_mem_cons, List.forall_mem_nil, or_false, false_or, forall_eq_or_imp, forall_eq, vs_lt, Nat.add_lt_add_iff_left, Nat.reduceLT, true_and, and_true, and_self, List.length_cons, List.length_nil, Nat.reduceAdd, Nat.zero_add, implies_true, false_imp_iff, lt_T, List.mem_map]) hR (pM_lt (by rw [pM_len]; omega))
  · simp (disch := (first | decide | omega)) only [hA, hg1, go_sem]
    obtain rfl : i = m.length := by omega
    have hBl : B.length = b.length + l.length := by rw [hB, List.length_append]
    exact leave_keep (y := .sl B.length 0 0 m.length) (keep := mR m.length 0 B.length 1 0 (fun _ => 1) (rowsM m)) (junk := []) (.inr rfl) (by simp (disch := (first | decide | omega)) only [resVs, resV, hA, hg1, go_sem]) (by rw [← pM_all, List.append_nil]) hR (by rw [mR_len]; exact .sl _ _ _ _ (by omega)) (mR_lt (by rw [mR_len]; omega)) hB ⟨by rw [hBl], rfl, by rw [hBl]⟩
theorem mC_0 {base sz j : Nat} {ver : Nat → Nat} {R : Nat → List (List IV)} : mC base sz 0 ver R j = .sl (base + (j + 1)) (ver j) 0 (R j).length := by unfold mC; rw [if_neg (by omega)]
theorem mD_0 {sz j : Nat} {ver : Nat → Nat} {R : Nat → List (List IV)} : mD sz 0 ver R j = .live (ver j) sz (vs (R j)) := by unfold mD; rw [if_neg (by omega)]
theorem mD_set {n sz p v : Nat} {ver : Nat → Nat} {R : Nat → List (List IV)} {x : List (List IV)} (hv : ver p = v) : (fl n (mD sz 0 ver R)).set p (.live v sz (vs x)) = fl n (mD sz 0 ver (fUp R p x)) := by
  rw [fl_set]
  refine fl_congr (fun j hj => ?_)
  unfold fUp mD
  by_cases h : j = p
  · subst h; simp [hv]
  · simp [h]
theorem mC_set {n base sz p : Nat} {ver : Nat → Nat} {R : Nat → List (List IV)} {x : List (List IV)} (hx : x.length = (R p).length) : (fl n fun j => [mC base sz 0 ver R j]) = fl n fun j => [mC base sz 0 ver (fUp R p x) j] := by
  refine fl_congr (fun j hj => ?_)
  rw [mC_0, mC_0]
  unfold fUp
  by_cases h : j = p
  · subst h; rw [if_pos rfl, hx]
  · rw [if_neg h]
def ent (m : List (List Int)) (i j : Nat) : Int := (rowAt m i).getD j 0
def tickM (m : List (List Int)) (p : Nat) : List (List Int) := fl m.length fun i => if i = p then (rowAt m p).set p (ent m p p + 1) else rowAt m i
def tickME (m : List (List Int)) (p : Int) : Int := if isM m = false then 1 else if p < 0 ∨ p ≥ m.length then 2 else if ent m p.toNat p.toNat ≥ 1125899906842624 then 9 else 0
def tickMR (m : List (List Int)) (p : Int) : AV := if tickME m p = 0 then .tup [.v (.isl 1 ((tickM m p.toNat).map eRw)), .v (.int .i64 0)] else .tup [.v .zsl, .v (.int .i64 (tickME m p))]
theorem mV_rows {n : Nat} {f : Nat → List Int} : mV n 1 (fun j => (f j).map eI) = (fl n f).map eRw := by
  unfold mV; rw [fl_map]; rfl
theorem mTick_spec (m : List (List Int)) (hF : Fit m) (p : Int) (b l : List Row) : ACalls Try.prog 144 [.v (.isl 1 (m.map eRw)), .v (.int .i64 p)] b l (fun r b' l' => r = tickMR m p ∧ b' = b ∧ l' = l) := by
  refine calls_kept a_mTick_ok rfl (by decide) ?_
  intro B g hB hR hE hA
  simp only [KArgs] at hA
  simp (disch := decide) only [a_mTick, hA, go_sem]
  refine ACalls.nxt (mValid_spec m hF _ _) ?_
  cases h1 : isM m
  · simp (disch := decide) only [hA, go_sem]
    have e : tickME m p = 1 := by simp [tickME, h1]
    exact leave_pure (xs := [.v .zsl, .v (.int .i64 1)]) (.inr rfl) (by simp (disch := (first | decide | omega)) only [resVs, resV, go_sem, hA]) (by simp only [one, AVlt_v, AVlt_any, AVlt_sl, AVlt_ptr, AVlt_mp, AVlt_agg, AVlt_tup, AVlt_fn, RowsLt_nil, RowsLt_live, RowsLt_dead, List.mem_cons, List.not_mem_nil, List.forall_mem_cons, List.forall_mem_nil, or_false, false_or, forall_eq_or_imp, forall_eq, vs_lt, Nat.add_lt_add_iff_left, Nat.reduceLT, true_and, and_true, and_self, List.length_cons, List.length_nil, Nat.reduceAdd, Nat.zero_add, implies_true, false_imp_iff, lt_T, List.mem_map]) hR hB ⟨by simp [tickMR, e, one], rfl, rfl⟩
  obtain ⟨l1, l2, l3, l4⟩ := isM_open h1
  by_cases h2 : p < 0
  · have hd := decide_eq_true h2
    have e : tickME m p = 2 := by simp [tickME, h1, h2]
    simp (disch := (first | decide | omega)) only [hA, hd, go_sem]
    exact leave_pure (xs := [.v .zsl, .v (.int .i64 2)]) (.inr rfl) (by simp (disch := (first | decide | omega)) only [resVs, resV, go_sem, hA, hd]) (by simp only [one, AVlt_v, AVlt_any, AVlt_sl, AVlt_ptr, AVlt_mp, AVlt_agg, AVlt_tup, AVlt_fn, RowsLt_nil, RowsLt_live, RowsLt_dead, List.mem_cons, List.not_mem_nil, List.forall_mem_cons, List.forall_mem_nil, or_false, false_or, forall_eq_or_imp, forall_eq, vs_lt, Nat.add_lt_add_iff_left, Nat.reduceLT, true_and, and_true, and_self, List.length_cons, List.length_nil, Nat.reduceAdd, Nat.zero_add, implies_true, false_imp_iff, lt_T, List.mem_map]) hR hB ⟨by simp [tickMR, e, one], rfl, rfl⟩
  have hd := decide_eq_false h2
  by_cases h3 : p ≥ m.length
  · have hd2 : decide ((m.length : Int) ≤ p) = true := decide_eq_true h3
    have e : tickME m p = 2 := by simp [tickME, h1, h3]
    simp (disch := (first | decide | omega)) only [hA, List.length_map, hd, hd2, go_sem]
    exact leave_pure (xs := [.v .zsl, .v (.int .i64 2)]) (.inr rfl) (by simp (disch := (first | decide | omega)) only [resVs, resV, go_sem, hA, hd]) (by simp only [one, AVlt_v, AVlt_any, AVlt_sl, AVlt_ptr, AVlt_mp, AVlt_agg, AVlt_tup, AVlt_fn, RowsLt_nil, RowsLt_live, RowsLt_dead, List.mem_cons, List.not_mem_nil, List.forall_mem_cons, List.forall_mem_nil, or_false, false_or, forall_eq_or_imp, forall_eq, vs_lt, Nat.add_lt_add_iff_left, Nat.reduceLT, true_and, and_true, and_self, List.length_cons, List.length_nil, Nat.reduceAdd, Nat.zero_add, implies_true, false_imp_iff, lt_T, List.mem_map]) hR hB ⟨by simp [tickMR, e, one], rfl, rfl⟩
  have hd2 : decide ((m.length : Int) ≤ p) = false := decide_eq_false h3
  obtain ⟨n, rfl⟩ : ∃ n : Nat, p = n := ⟨p.toNat, by omega⟩
  have hn : n < m.length := by omega
  have hri := rowAt_at hn
  have hnl : n < m[n].length := by rw [← hri, l3 n hn]; exact hn
  have hg := getD_at (d := 0) hnl
  have he : ent m n n = m[n][n] := by unfold ent; rw [hri, hg]
  have hr := l4 n n hn hn
  rw [hri, hg] at hr
  by_cases h4 : m[n][n] ≥ 1125899906842624
  · have hd3 : decide ((1125899906842624 : Int) ≤ m[n][n]) = true := decide_eq_true h4
    have e : tickME m n = 9 := by
      unfold tickME
      rw [if_neg (by simp [h1]), if_neg (by omega), if_pos (by rw [Int.toNat_natCast, he]; exact h4)]
    simp (disch := (first | decide | omega)) only [hA, List.length_map, hd, hd2, eRw, eI, hd3, go_sem]
    exact leave_pure (xs := [.v .zsl, .v (.int .i64 9)]) (.inr rfl) (by simp (disch := (first | decide | omega)) only [resVs, resV, go_sem, hA, hd]) (by simp only [one, AVlt_v, AVlt_any, AVlt_sl, AVlt_ptr, AVlt_mp, AVlt_agg, AVlt_tup, AVlt_fn, RowsLt_nil, RowsLt_live, RowsLt_dead, List.mem_cons, List.not_mem_nil, List.forall_mem_cons, List.forall_mem_nil, or_false, false_or, forall_eq_or_imp, forall_eq, vs_lt, Nat.add_lt_add_iff_left, Nat.reduceLT, true_and, and_true, and_self, List.length_cons, List.length_nil, Nat.reduceAdd, Nat.zero_add, implies_true, false_imp_iff, lt_T, List.mem_map]) hR hB ⟨by simp [tickMR, e, one], rfl, rfl⟩
  have hd3 : decide ((1125899906842624 : Int) ≤ m[n][n]) = false := decide_eq_false h4
  have e : tickME m n = 0 := by
    unfold tickME
    rw [if_neg (by simp [h1]), if_neg (by omega), if_neg (by rw [Int.toNat_natCast, he]; exact h4)]
  simp (disch := (first | decide | omega)) only [hA, List.length_map, hd, hd2, eRw, eI, hd3, go_sem]
  refine ACalls.nxt (copied_spec m h1 _ _) ?_
  have hRn : rowsM m n = m[n].map eI := by unfold rowsM; rw [hri]
  have hRl : (rowsM m n).length = m.length := by rw [hRn, List.length_map, ← hri, l3 n hn]
  have hst : (m[n].map eI).set n [.int .i64 (m[n][n] + 1)] = (m[n].set n (m[n][n] + 1)).map eI := by rw [List.map_set]; rfl
  have ds := mD_set (n := m.length) (sz := 1) (p := n) (v := 1) (ver := fun _ => 1) (R := rowsM m) (x := (m[n].set n (m[n][n] + 1)).map eI) rfl
  have cs := mC_set (n := m.length) (base := B.length) (sz := 1) (p := n) (ver := fun _ => 1) (R := rowsM m) (x := (m[n].set n (m[n][n] + 1)).map eI) (by rw [hRl, List.length_map, List.length_set, ← hri, l3 n hn])
  simp (disch := (first | decide | omega)) only [hA, List.length_map, mR, fl_len, fl_get, mC_0, mD_0, hRn, hRl, eI, setFrom, cellsOf, hst, ds, go_sem]
  have hfin : mV m.length 1 (fUp (rowsM m) n ((m[n].set n (m[n][n] + 1)).map eI)) = (tickM m n).map eRw := by
    unfold tickM
    rw [← mV_rows]
    congr 1
    funext j
    unfold fUp rowsM
    by_cases hj : j = n
    · rw [if_pos hj, if_pos hj, he, hri]
    · rw [if_neg hj, if_neg hj]
  refine leave_mat2 (n := m.length) (v0 := 0) (sz := 1) (ver := fun _ => 1) (R := fUp (rowsM m) n ((m[n].set n (m[n][n] + 1)).map eI)) (z := .int .i64 0) (junk := []) (.inr rfl) (by simp (disch := (first | decide | omega)) only [resVs, resV, hA, go_sem]) (by unfold mR; rw [← cs]; simp only [mC_0, List.append_nil]) hR hB ⟨?_, rfl, rfl⟩
  rw [tickMR, if_pos e, Int.toNat_natCast, hfin]
def kn (m : List (List Int)) : Nat → Nat → Int
  | 0, j => ent m 0 j
  | i + 1, j => min (kn m i j) (ent m i j)
def kTo (m : List (List Int)) (i k j : Nat) : Int := if j < k then kn m (i + 1) j else kn m i j
def knR (m : List (List Int)) (i k : Nat) : List Int := fl m.length (kTo m i k)
def knownM (m : List (List Int)) : List Int := fl m.length (kn m m.length)
theorem knR_len {m : List (List Int)} {i k : Nat} : (knR m i k).length = m.length := fl_len
theorem knR_at {m : List (List Int)} {i k : Nat} (h : k < (knR m i k).length) : (knR m i k)[k] = kn m i k := by
  exact (fl_getE (f := kTo m i k) h).trans (by unfold kTo; rw [if_neg (by omega)])
theorem knR_set {m : List (List Int)} {i k : Nat} : ((knR m i k).map eI).set k [.int .i64 (kn m (i + 1) k)] = (knR m i (k + 1)).map eI := by
  rw [show [IV.int .i64 (kn m (i + 1) k)] = eI (kn m (i + 1) k) from rfl, ← List.map_set]
  congr 1
  unfold knR
  rw [fl_set]
  refine fl_congr (fun j hj => ?_)
  unfold fUp kTo
  by_cases h : j = k
  · subst h; rw [if_pos rfl, if_pos (by omega)]
  · rw [if_neg h]
    by_cases h2 : j < k
    · rw [if_pos h2, if_pos (by omega)]
    · rw [if_neg h2, if_neg (by omega)]
theorem knR_next {m : List (List Int)} {i : Nat} : knR m i m.length = knR m (i + 1) 0 := by
  unfold knR
  refine fl_congr (fun j hj => ?_)
  unfold kTo; rw [if_pos hj, if_neg (by omega)]
theorem knR_end {m : List (List Int)} : knR m m.length 0 = knownM m := by
  unfold knR knownM
  refine fl_congr (fun j hj => ?_)
  unfold kTo; rw [if_neg (by omega)]
theorem knR_start {m : List (List Int)} (h : 0 < m.length) (hl : (rowAt m 0).length = m.length) : knR m 0 0 = m[0] := by
  rw [← rowAt_at h, ← fl_list (l := rowAt m 0) (d := 0), hl]
  unfold knR
  refine fl_congr (fun j hj => ?_)
  unfold kTo; rw [if_neg (by omega)]; rfl
def knownR (m : List (List Int)) : AV := if isM m = true then .tup [.v (.isl 1 ((knownM m).map eI)), .v (.int .i64 0)] else .tup [.v .zsl, .v (.int .i64 1)]
theorem mKnown_spec (m : List (List Int)) (hF : Fit m) (b l : List Row) : ACalls Try.prog 62 [.v (.isl 1 (m.map eRw))] b l (fun r b' l' => r = knownR m ∧ b' = b ∧ l' = l) := by
  refine calls_kept a_mKnown_ok rfl (by decide) ?_
  intro B g hB hR hE hA
  simp only [KArgs] at hA
  simp (disch := decide) only [a_mKnown, hA, go_sem]
  refine ACalls.nxt (mValid_spec m hF _ _) ?_
  cases h1 : isM m
  · simp (disch := decide) only [hA, go_sem]
    exact leave_pure (xs := [.v .zsl, .v (.int .i64 1)]) (.inr rfl) (by simp (disch := (first | decide | omega)) only [resVs, resV, go_sem, hA]) (by simp only [one, AVlt_v, AVlt_any, AVlt_sl, AVlt_ptr, AVlt_mp, AVlt_agg, AVlt_tup, AVlt_fn, RowsLt_nil, RowsLt_live, RowsLt_dead, List.mem_cons, List.not_mem_nil, List.forall_mem_cons, List.forall_mem_nil, or_false, false_or, forall_eq_or_imp, forall_eq, vs_lt, Nat.add_lt_add_iff_left, Nat.reduceLT, true_and, and_true, and_self, List.length_cons, List.length_nil, Nat.reduceAdd, Nat.zero_add, implies_true, false_imp_iff, lt_T, List.mem_map]) hR hB ⟨by simp [knownR, h1, one], rfl, rfl⟩
  obtain ⟨l1, l2, l3, l4⟩ := isM_open h1
  have h0 : 0 < m.length := by omega
  have hr0 := rowAt_at h0
  have hl0 : m[0].length = m.length := by rw [← hr0]; exact l3 0 h0
  have ks := knR_start h0 (l3 0 h0)
  simp (disch := (first | decide | omega)) only [hA, eRw, Int.reduceToNat, go_sem]
  refine ACalls.nxt (clo1_spec m[0] (by omega) (by omega) _ _) ?_
  rw [hl0, ← ks]
  simp (disch := (first | decide | omega)) only [hA, List.length_map, go_sem]
  refine loop_kept (ι := Nat) r_mKnown0 (fun i => [(18, .v (.int .i64 i))]) 1 (fun i => [.live 1 1 (vs ((knR m i 0).map eI))])
    (fun i => i ≤ m.length) (fun i => m.length - i) 0 (Nat.zero_le _) (by (repeat (first | exact hE.mono (by omega) | refine KLt.up ?_ (by simp (disch := omega) only [AVlt_v, AVlt_any, AVlt_sl, AVlt_ptr, AVlt_mp, AVlt_agg, AVlt_tup, AVlt_fn, RowsLt_nil, RowsLt_live, RowsLt_dead, List.mem_cons, List.not_mem_nil, List.forall_mem_cons, List.forall_mem_nil, or_false, false_or, forall_eq_or_imp, forall_eq, vs_lt, Nat.add_lt_add_iff_left, Nat.reduceLT, true_and, and_true, and_self, List.length_cons, List.length_nil, Nat.reduceAdd, Nat.zero_add, implies_true, false_imp_iff, lt_T, List.mem_map])))) (by ((try simp (disch := decide) only [hA, go_sem]) <;> (repeat' (first | exact trivial | refine And.intro ?_ ?_)) <;> (first | rfl | (congr 2; omega)))) (fun e => Weak.refl _ _ _) ?_
  intro g1 hE1 hEE1 hg1 i hi
  by_cases hlt : i < m.length
  · have hri := rowAt_at hlt
    have hil : m[i].length = m.length := by rw [← hri]; exact l3 i hlt
    simp (disch := (first | decide | omega)) only [hA, hg1, eRw, go_sem]
    refine loop_kept (ι := Nat) r_mKnown1 (fun k => [(24, .v (.int .i64 k))]) 1 (fun k => [.live 1 1 (vs ((knR m i k).map eI))])
      (fun k => k ≤ m.length) (fun k => m.length - k) 0 (Nat.zero_le _) (by (repeat (first | exact hE1.mono (by omega) | refine KLt.up ?_ (by simp (disch := omega) only [AVlt_v, AVlt_any, AVlt_sl, AVlt_ptr, AVlt_mp, AVlt_agg, AVlt_tup, AVlt_fn, RowsLt_nil, RowsLt_live, RowsLt_dead, List.mem_cons, List.not_mem_nil, List.forall_mem_cons, List.forall_mem_nil, or_false, false_or, forall_eq_or_imp, forall_eq, vs_lt, Nat.add_lt_add_iff_left, Nat.reduceLT, true_and, and_true, and_self, List.length_cons, List.length_nil, Nat.reduceAdd, Nat.zero_add, implies_true, false_imp_iff, lt_T, List.mem_map])))) (by ((try simp (disch := decide) only [hA, hg1, go_sem]) <;> (repeat' (first | exact trivial | refine And.intro ?_ ?_)) <;> (first | rfl | (congr 2; omega)))) (fun e => Weak.refl _ _ _) ?_
    intro g2 hE2 hEE2 hg2 k hk
    by_cases hkl : k < m.length
    · have hki : k < m[i].length := by omega
      have kl := knR_len (m := m) (i := i) (k := k)
      have ka := knR_at (m := m) (i := i) (k := k) (by omega)
      have he : ent m i k = m[i][k] := by unfold ent; rw [hri, getD_at hki]
      have hm : (if m[i][k] < kn m i k then m[i][k] else kn m i k) = kn m (i + 1) k := by
        show _ = min (kn m i k) (ent m i k)
        rw [he]; split <;> omega
      have kset := knR_set (m := m) (i := i) (k := k)
      simp (disch := (first | decide | omega)) only [hA, hg1, hg2, eI, ka, kl, hm, kset, hil, List.length_map, go_sem]
      refine ⟨k + 1, hkl, by simp only; omega, ?_⟩
      exact Weak.kround (p := r_mKnown1) (k := 1) (by ((repeat refine (kAny_up rfl).trans ?_); exact hEE2)) (by ((try simp (disch := decide) only [hA, go_sem]) <;> (repeat' (first | exact trivial | refine And.intro ?_ ?_)) <;> (first | rfl | (congr 2; omega)))) rfl hE2 (by simp) (by simp (disch := omega) only [KOvLt, AVlt_v, AVlt_any, AVlt_sl, AVlt_ptr, AVlt_mp, AVlt_agg, AVlt_tup, AVlt_fn, RowsLt_nil, RowsLt_live, RowsLt_dead, List.mem_cons, List.not_mem_nil, List.forall_mem_cons, List.forall_mem_nil, or_false, false_or, forall_eq_or_imp, forall_eq, vs_lt, Nat.add_lt_add_iff_left, Nat.reduceLT, true_and, and_true, and_self, List.length_cons, List.length_nil, Nat.reduceAdd, Nat.zero_add, implies_true, false_imp_iff, lt_T, List.mem_map]) hR (by simp (disch := omega) only [AVlt_v, AVlt_any, AVlt_sl, AVlt_ptr, AVlt_mp, AVlt_agg, AVlt_tup, AVlt_fn, RowsLt_nil, RowsLt_live, RowsLt_dead, List.mem_cons, List.not_mem_nil, List.forall_mem_cons, List.forall_mem_nil, or_false, false_or, forall_eq_or_imp, forall_eq, vs_lt, Nat.add_lt_add_iff_left, Nat.reduceLT, true_and, and_true, and_self, List.length_cons, List.length_nil, Nat.reduceAdd, Nat.zero_add, implies_true, false_imp_iff, lt_T, List.mem_map])
    · simp (disch := (first | decide | omega)) only [hA, hg1, hg2, hil, List.length_map, go_sem]
      obtain rfl : k = m.length := by omega
      rw [knR_next]
      refine ⟨i + 1, hlt, by simp only; omega, ?_⟩
      exact Weak.kround (p := r_mKnown0) (k := 1) (by ((repeat refine (kAny_up rfl).trans ?_); refine (kAny_sub hg2 (kIn_sub rfl)).trans ?_; (repeat refine (kAny_up rfl).trans ?_); exact hEE1)) (by ((try simp (disch := decide) only [hA, hg1, go_sem]) <;> (repeat' (first | exact trivial | refine And.intro ?_ ?_)) <;> (first | rfl | (congr 2; omega)))) rfl hE1 (by simp) (by simp (disch := omega) only [KOvLt, AVlt_v, AVlt_any, AVlt_sl, AVlt_ptr, AVlt_mp, AVlt_agg, AVlt_tup, AVlt_fn, RowsLt_nil, RowsLt_live, RowsLt_dead, List.mem_cons, List.not_mem_nil, List.forall_mem_cons, List.forall_mem_nil, or_false, false_or, forall_eq_or_imp, forall_eq, vs_lt, Nat.add_lt_add_iff_left, Nat.reduceLT, true_and, and_true, and_self, List.length_cons, List.length_nil, Nat.reduceAdd, Nat.zero_add, implies_true, false_imp_iff, lt_T, List.mem_map]) hR (by simp (disch := omega) only [AVlt_v, AVlt_any, AVlt_sl, AVlt_ptr, AVlt_mp, AVlt_agg, AVlt_tup, AVlt_fn, RowsLt_nil, RowsLt_live, RowsLt_dead, List.mem_cons, List.not_mem_nil, List.forall_mem_cons, List.forall_mem_nil, or_false, false_or, forall_eq_or_imp, forall_eq, vs_lt, Nat.add_lt_add_iff_left, Nat.reduceLT, true_and, and_true, and_self, List.length_cons, List.length_nil, Nat.reduceAdd, Nat.zero_add, implies_true, false_imp_iff, lt_T, List.mem_map])
  · simp (disch := (first | decide | omega)) only [hA, hg1, go_sem]
    obtain rfl : i = m.length := by omega
    exact leave_frz2 (i := 0) (n := m.length) (rows := (knR m m.length 0).map eI) (z := .int .i64 0) (.inr rfl) (by simp (disch := (first | decide | omega)) only [resVs, resV, hA, hg1, go_sem]) rfl (by simp [knR_len]) hR hB ⟨by rw [knownR, if_pos h1, knR_end], rfl, rfl⟩
def KRoundB {ι : Type} (N : Nat) (g : Nat → AV) (ov : ι → List (Nat × AV)) (Bs L : ι → List Row) (Cd : ι → Prop) (μ : ι → Nat) (i : ι) : List AV → List Row → List Row → Prop :=
  fun e b l => ∃ i', Cd i' ∧ μ i' < μ i ∧ Weak e b l (kOf N (kOv (ov i') g)) (Bs i') (L i')
theorem loop_keptB {P : Program} {c : ACode} {Q : AExit → List AV → List Row → List Row → Prop} {N : Nat} {f : Nat → AV} {b l : List Row} {ι : Type} (p : List (Nat × Nat)) (ov : ι → List (Nat × AV)) (k : Nat) (Bs L : ι → List Row) (Cd : ι → Prop) (μ : ι → Nat) (i0 : ι) (h0 : Cd i0)
    (hlt : KLt (b.length + k) f) (hov : KHas f (ov i0)) (hb : Bs i0 = b) (hw : ∀ e, Weak e b l e b (L i0))
    (step : ∀ g, KLt (b.length + k) g → kAny p g = g → (∀ n, kIn p n = false → g n = f n) → ∀ i, Cd i → run (ACalls P) Weak c (kOf N (kOv (ov i) g)) (Bs i) (L i) (seqQ (KRoundB N g ov Bs L Cd μ i) Q)) : run (ACalls P) Weak (.loop c) (kOf N f) b l Q :=
  loop_rule (fun i => kOf N (kOv (ov i) (kAny p f))) Bs L Cd μ i0 h0 (by rw [hb]; exact (Weak.named p _ hov).trans (hw _))
    (step (kAny p f) hlt.any kAny_idem (fun _ h => kAny_out h))
theorem RowsLt.setVs {m id v sz : Nat} {B : List Row} {rows : List (List IV)} (h : RowsLt m B) : RowsLt m (B.set id (.live v sz (vs rows))) := by
  intro i v' sz' els hr row hrow c hc
  by_cases hi : id = i
  · subst hi
    rw [List.getElem?_set] at hr
    simp only [if_true] at hr
    split at hr
    · cases hr
      obtain ⟨r0, _, rfl⟩ := List.mem_map.1 hrow
      obtain ⟨x0, _, rfl⟩ := List.mem_map.1 hc
      exact .v _
    · cases hr
  · rw [List.getElem?_set_ne hi] at hr
    exact h i v' sz' els hr row hrow c hc
theorem joinM1_spec (v w : List Int) (hv : v.length ≤ 1000000) (h : v.length = w.length) (i : Nat) (b l : List Row) (hi : l[i]? = some (.live 1 1 (vs (v.map eI)))) :
    ACalls Try.prog 163 [.sl (b.length + i) 1 0 v.length, .v (.isl 1 (w.map eI))] b l (fun r b' l' => r = .tup [] ∧ b' = b ∧ l' = l.set i (.live 1 1 (vs ((joinV v w).map eI)))) := by
  refine calls_kept a_join_ok rfl (by decide) ?_
  intro B g hB hR hE hA
  simp only [KArgs] at hA
  have hil : i < l.length := (List.getElem?_eq_some_iff.1 hi).1
  have hBi : B[b.length + i]? = some (.live 1 1 (vs (v.map eI))) := by rw [hB, List.getElem?_append_right (by omega), Nat.add_sub_cancel_left]; exact hi
  have hidB : b.length + i < B.length := (List.getElem?_eq_some_iff.1 hBi).1
  simp (disch := (first | decide | omega)) only [a_join, hA, List.length_map, go_sem]
  refine loop_keptB (ι := Nat) r_join0 (fun k => [(7, .v (.int .i64 k))]) 0 (fun k => B.set (b.length + i) (.live 1 1 (vs ((joTo v w k).map eI)))) (fun _ => [])
    (fun k => k ≤ v.length) (fun k => v.length - k) 0 (Nat.zero_le _) (by (repeat (first | exact hE.mono (by omega) | refine KLt.up ?_ (by simp (disch := omega) only [AVlt_v, AVlt_any, AVlt_sl, AVlt_ptr, AVlt_mp, AVlt_agg, AVlt_tup, AVlt_fn, RowsLt_nil, RowsLt_live, RowsLt_dead, List.mem_cons, List.not_mem_nil, List.forall_mem_cons, List.forall_mem_nil, or_false, false_or, forall_eq_or_imp, forall_eq, vs_lt, Nat.add_lt_add_iff_left, Nat.reduceLT, true_and, and_true, and_self, List.length_cons, List.length_nil, Nat.reduceAdd, Nat.zero_add, implies_true, false_imp_iff, lt_T, List.mem_map])))) (by ((try simp (disch := decide) only [hA, go_sem]) <;> (repeat' (first | exact trivial | refine And.intro ?_ ?_)) <;> (first | rfl | (congr 2; omega)))) (by
      rw [joTo_zero]
      apply List.ext_getElem?
      intro j
      by_cases hj : b.length + i = j
      · subst hj; rw [List.getElem?_set_self hidB, hBi]
      · rw [List.getElem?_set_ne hj]) (fun e => Weak.refl _ _ _) ?_
  intro g1 hE1 hEE1 hg1 k hk
  have hBk : ∀ q, (B.set (b.length + i) q).length = B.length := fun q => List.length_set
  have hgk : ∀ q l', hget (B.set (b.length + i) q) l' (b.length + i) = some q := fun q l' => by
    unfold hget; rw [if_pos (by rw [hBk]; exact hidB), List.getElem?_set_self hidB]
  by_cases hlt : k < v.length
  · have hlw : k < w.length := by omega
    have jl := joTo_len h k hk
    have jg := joTo_get h hlt (by omega)
    have js := joTo_set h hlt hlw
    have hm : (if v[k] < w[k] then w[k] else v[k]) = max v[k] w[k] := by split <;> omega
    have hsB : ∀ q q', hsetB (B.set (b.length + i) q) (b.length + i) q' = B.set (b.length + i) q' := fun q q' => by
      unfold hsetB; rw [if_pos (by rw [hBk]; exact hidB), List.set_set]
    have hsL : ∀ q q' l', hsetL (B.set (b.length + i) q) l' (b.length + i) q' = l' := fun q q' l' => by
      unfold hsetL; rw [if_pos (by rw [hBk]; exact hidB)]
    simp (disch := (first | decide | omega)) only [hA, hg1, hgk, hsB, hsL, eI, jg, hm, js, jl, setFrom, cellsOf, go_sem]
    refine ⟨k + 1, hlt, by simp only; omega, ?_⟩
    exact Weak.kround (p := r_join0) (k := 0) (l1 := []) (b := B.set (b.length + i) (.live 1 1 (vs ((joTo v w (k + 1)).map eI)))) (by ((repeat refine (kAny_up rfl).trans ?_); exact hEE1)) (by ((try simp (disch := decide) only [hA, go_sem]) <;> (repeat' (first | exact trivial | refine And.intro ?_ ?_)) <;> (first | rfl | (congr 2; omega)))) rfl (by rw [hBk]; exact hE1) (by simp) (by simp (disch := omega) only [KOvLt, AVlt_v, AVlt_any, AVlt_sl, AVlt_ptr, AVlt_mp, AVlt_agg, AVlt_tup, AVlt_fn, RowsLt_nil, RowsLt_live, RowsLt_dead, List.mem_cons, List.not_mem_nil, List.forall_mem_cons, List.forall_mem_nil, or_false, false_or, forall_eq_or_imp, forall_eq, vs_lt, Nat.add_lt_add_iff_left, Nat.reduceLT, true_and, and_true, and_self, List.length_cons, List.length_nil, Nat.reduceAdd, Nat.zero_add, implies_true, false_imp_iff, lt_T, List.mem_map]) (by rw [hBk]; exact RowsLt.setVs hR) (by simp (disch := omega) only [AVlt_v, AVlt_any, AVlt_sl, AVlt_ptr, AVlt_mp, AVlt_agg, AVlt_tup, AVlt_fn, RowsLt_nil, RowsLt_live, RowsLt_dead, List.mem_cons, List.not_mem_nil, List.forall_mem_cons, List.forall_mem_nil, or_false, false_or, forall_eq_or_imp, forall_eq, vs_lt, Nat.add_lt_add_iff_left, Nat.reduceLT, true_and, and_true, and_self, List.length_cons, List.length_nil, Nat.reduceAdd, Nat.zero_add, implies_true, false_imp_iff, lt_T, List.mem_map])
  · simp (disch := (first | decide | omega)) only [hA, hg1, go_sem]
    obtain rfl : k = v.length := by omega
    rw [joTo_all h]
    have hBb : B.set (b.length + i) (.live 1 1 (vs ((joinV v w).map eI))) = b ++ l.set i (.live 1 1 (vs ((joinV v w).map eI))) := by
      rw [hB, List.set_append_right _ _ (by omega), Nat.add_sub_cancel_left]
    rw [hBb]
    exact leave_pure (xs := []) (.inl rfl) (by simp only [resVs]) (by simp only [one]; exact .tup _ (by simp)) (by rw [← hBb, hBk]; exact RowsLt.setVs hR) rfl ⟨rfl, rfl, rfl⟩
theorem mR_put {n v0 base sz p v : Nat} {ver : Nat → Nat} {R : Nat → List (List IV)} {x : List (List IV)} (hv : ver p = v) (hx : x.length = (R p).length) : (mR n v0 base sz 0 ver R).set (p + 1) (.live v sz (vs x)) = mR n v0 base sz 0 ver (fUp R p x) := by
  unfold mR
  rw [List.set_cons_succ, mD_set hv, mC_set (base := base) (sz := sz) (ver := ver) hx]
theorem mR_congr {n v0 base sz : Nat} {ver : Nat → Nat} {R R' : Nat → List (List IV)} (h : ∀ j, j < n → R j = R' j) : mR n v0 base sz 0 ver R = mR n v0 base sz 0 ver R' := by
  unfold mR
  congr 1
  · congr 1
    refine fl_congr (fun j hj => ?_)
    rw [mC_0, mC_0, h j hj]
  · refine fl_congr (fun j hj => ?_)
    rw [mD_0, mD_0, h j hj]
theorem mR_first {n v0 sz : Nat} {B : List Row} {ver : Nat → Nat} {R : Nat → List (List IV)} : hget B (mR n v0 B.length sz 0 ver R) B.length = some (.live v0 1 (fl n fun j => [mC B.length sz 0 ver R j])) := by
  unfold hget; rw [if_neg (by omega), Nat.sub_self]; rfl
theorem mR_at0 {n v0 base sz i : Nat} {ver : Nat → Nat} {R : Nat → List (List IV)} (h : i < n) : (mR n v0 base sz 0 ver R)[i + 1]? = some (.live (ver i) sz (vs (R i))) := by
  unfold mR
  rw [List.getElem?_cons_succ, fl_get h, mD_0]
/-- Rows of which the first i are joined. -/
def rT (m got : List (List Int)) (i j : Nat) : List Int := if j < i then joinV (rowAt m j) (rowAt got j) else rowAt m j
def rTR (m got : List (List Int)) (i j : Nat) : List (List IV) := (rT m got i j).map eI
def recvF (m got : List (List Int)) (p q j : Nat) : List Int := if j = p then joinV (joinV (rowAt m p) (rowAt got p)) (rowAt got q) else joinV (rowAt m j) (rowAt got j)
def recvM (m : List (List Int)) (p : Nat) (got : List (List Int)) (q : Nat) : List (List Int) := fl m.length (recvF m got p q)
def recvE (m : List (List Int)) (p : Int) (got : List (List Int)) (q : Int) : Int :=
  if isM m = false ∨ isM got = false ∨ got.length ≠ m.length then 1 else if p < 0 ∨ p ≥ m.length ∨ q < 0 ∨ q ≥ m.length ∨ p = q then 2 else tickME (recvM m p.toNat got q.toNat) p
def recvR (m : List (List Int)) (p : Int) (got : List (List Int)) (q : Int) : AV := if recvE m p got q = 0 then .tup [.v (.isl 1 ((tickM (recvM m p.toNat got q.toNat) p.toNat).map eRw)), .v (.int .i64 0)] else .tup [.v .zsl, .v (.int .i64 (recvE m p got q))]
theorem recvM_row {m : List (List Int)} {p q j : Nat} {got : List (List Int)} (hj : j < m.length) : rowAt (recvM m p got q) j = recvF m got p q j := fl_getD hj
theorem recv_fit {m got : List (List Int)} {p q : Nat} (h1 : isM m = true) (h2 : isM got = true) (h3 : got.length = m.length) (hp : p < m.length) (hq : q < m.length) : Fit (recvM m p got q) ∧ ∀ j, j < m.length → (recvF m got p q j).length = m.length := by
  obtain ⟨l1, l2, l3, _⟩ := isM_open h1
  obtain ⟨k1, k2, k3, _⟩ := isM_open h2
  have jl : ∀ j, j < m.length → (joinV (rowAt m j) (rowAt got j)).length = m.length := fun j hj => by
    rw [joinV_len (by rw [l3 j hj, k3 j (by omega)]; omega), l3 j hj]
  have key : ∀ j, j < m.length → (recvF m got p q j).length = m.length := by
    intro j hj
    unfold recvF
    split
    · rw [joinV_len (by rw [jl p hp, k3 q (by omega)]; omega), jl p hp]
    · exact jl j hj
  refine ⟨⟨by unfold recvM; rw [fl_len]; omega, fun r hr => ?_⟩, key⟩
  obtain ⟨j, hj, rfl⟩ := List.mem_map.1 hr
  rw [key j (List.mem_range.1 hj)]; omega
set_option maxRecDepth 20000 in
theorem mReceive_spec (m got : List (List Int)) (hF : Fit m) (hG : Fit got) (p q : Int) (b l : List Row) : ACalls Try.prog 143 [.v (.isl 1 (m.map eRw)), .v (.int .i64 p), .v (.isl 1 (got.map eRw)), .v (.int .i64 q)] b l (fun r b' l' => r = recvR m p got q ∧ b' = b ∧ l' = l) := by
  refine calls_kept a_mReceive_ok rfl (by decide) ?_
  intro B g hB hR hE hA
  simp only [KArgs] at hA
  simp (disch := decide) only [a_mReceive, hA, List.length_map, go_sem]
  refine ACalls.nxt (mValid_spec m hF _ _) ?_
  cases h1 : isM m
  · have e : recvE m p got q = 1 := by unfold recvE; rw [if_pos (.inl h1)]
    simp (disch := decide) only [hA, go_sem]
    exact leave_pure (xs := [.v .zsl, .v (.int .i64 1)]) (.inr rfl) (by simp (disch := (first | decide | omega)) only [resVs, resV, go_sem, hA]) (by simp only [one, AVlt_v, AVlt_any, AVlt_sl, AVlt_ptr, AVlt_mp, AVlt_agg, AVlt_tup, AVlt_fn, RowsLt_nil, RowsLt_live, RowsLt_dead, List.mem_cons, List.not_mem_nil, List.forall_mem_cons, List.forall_mem_nil, or_false, false_or, forall_eq_or_imp, forall_eq, vs_lt, Nat.add_lt_add_iff_left, Nat.reduceLT, true_and, and_true, and_self, List.length_cons, List.length_nil, Nat.reduceAdd, Nat.zero_add, implies_true, false_imp_iff, lt_T, List.mem_map]) hR hB ⟨by rw [recvR, e, if_neg (by decide)]; rfl, rfl, rfl⟩
  simp (disch := decide) only [hA, go_sem]
  refine ACalls.nxt (mValid_spec got hG _ _) ?_
  cases h2 : isM got
  · have e : recvE m p got q = 1 := by unfold recvE; rw [if_pos (.inr (.inl h2))]
    simp (disch := decide) only [hA, go_sem]
    exact leave_pure (xs := [.v .zsl, .v (.int .i64 1)]) (.inr rfl) (by simp (disch := (first | decide | omega)) only [resVs, resV, go_sem, hA]) (by simp only [one, AVlt_v, AVlt_any, AVlt_sl, AVlt_ptr, AVlt_mp, AVlt_agg, AVlt_tup, AVlt_fn, RowsLt_nil, RowsLt_live, RowsLt_dead, List.mem_cons, List.not_mem_nil, List.forall_mem_cons, List.forall_mem_nil, or_false, false_or, forall_eq_or_imp, forall_eq, vs_lt, Nat.add_lt_add_iff_left, Nat.reduceLT, true_and, and_true, and_self, List.length_cons, List.length_nil, Nat.reduceAdd, Nat.zero_add, implies_true, false_imp_iff, lt_T, List.mem_map]) hR hB ⟨by rw [recvR, e, if_neg (by decide)]; rfl, rfl, rfl⟩
  by_cases h3 : got.length = m.length
  case neg =>
    have hd : ((got.length : Int) != (m.length : Int)) = true := by simp; omega
    have e : recvE m p got q = 1 := by unfold recvE; rw [if_pos (.inr (.inr h3))]
    simp (disch := decide) only [hA, List.length_map, hd, go_sem]
    exact leave_pure (xs := [.v .zsl, .v (.int .i64 1)]) (.inr rfl) (by simp (disch := (first | decide | omega)) only [resVs, resV, go_sem, hA]) (by simp only [one, AVlt_v, AVlt_any, AVlt_sl, AVlt_ptr, AVlt_mp, AVlt_agg, AVlt_tup, AVlt_fn, RowsLt_nil, RowsLt_live, RowsLt_dead, List.mem_cons, List.not_mem_nil, List.forall_mem_cons, List.forall_mem_nil, or_false, false_or, forall_eq_or_imp, forall_eq, vs_lt, Nat.add_lt_add_iff_left, Nat.reduceLT, true_and, and_true, and_self, List.length_cons, List.length_nil, Nat.reduceAdd, Nat.zero_add, implies_true, false_imp_iff, lt_T, List.mem_map]) hR hB ⟨by rw [recvR, e, if_neg (by decide)]; rfl, rfl, rfl⟩
  have hd : ((got.length : Int) != (m.length : Int)) = false := by simp [h3]
  have e1 : ¬ (isM m = false ∨ isM got = false ∨ got.length ≠ m.length) := by rw [h1, h2]; simp [h3]
  have e2 : (p < 0 ∨ p ≥ m.length ∨ q < 0 ∨ q ≥ m.length ∨ p = q) → recvE m p got q = 2 := fun h => by unfold recvE; rw [if_neg e1, if_pos h]
  by_cases c1 : p < 0
  · have d1 := decide_eq_true c1
    simp (disch := decide) only [hA, List.length_map, hd, d1, go_sem]
    exact leave_pure (xs := [.v .zsl, .v (.int .i64 2)]) (.inr rfl) (by simp (disch := (first | decide | omega)) only [resVs, resV, go_sem, hA]) (by simp only [one, AVlt_v, AVlt_any, AVlt_sl, AVlt_ptr, AVlt_mp, AVlt_agg, AVlt_tup, AVlt_fn, RowsLt_nil, RowsLt_live, RowsLt_dead, List.mem_cons, List.not_mem_nil, List.forall_mem_cons, List.forall_mem_nil, or_false, false_or, forall_eq_or_imp, forall_eq, vs_lt, Nat.add_lt_add_iff_left, Nat.reduceLT, true_and, and_true, and_self, List.length_cons, List.length_nil, Nat.reduceAdd, Nat.zero_add, implies_true, false_imp_iff, lt_T, List.mem_map]) hR hB ⟨by rw [recvR, e2 (.inl c1), if_neg (by decide)]; rfl, rfl, rfl⟩
  have d1 := decide_eq_false c1
  by_cases c2 : p ≥ m.length
  · have d2 : decide (p ≥ (m.length : Int)) = true := decide_eq_true c2
    simp (disch := decide) only [hA, List.length_map, hd, d1, d2, go_sem]
    exact leave_pure (xs := [.v .zsl, .v (.int .i64 2)]) (.inr rfl) (by simp (disch := (first | decide | omega)) only [resVs, resV, go_sem, hA]) (by simp only [one, AVlt_v, AVlt_any, AVlt_sl, AVlt_ptr, AVlt_mp, AVlt_agg, AVlt_tup, AVlt_fn, RowsLt_nil, RowsLt_live, RowsLt_dead, List.mem_cons, List.not_mem_nil, List.forall_mem_cons, List.forall_mem_nil, or_false, false_or, forall_eq_or_imp, forall_eq, vs_lt, Nat.add_lt_add_iff_left, Nat.reduceLT, true_and, and_true, and_self, List.length_cons, List.length_nil, Nat.reduceAdd, Nat.zero_add, implies_true, false_imp_iff, lt_T, List.mem_map]) hR hB ⟨by rw [recvR, e2 (.inr (.inl c2)), if_neg (by decide)]; rfl, rfl, rfl⟩
  have d2 : decide (p ≥ (m.length : Int)) = false := decide_eq_false c2
  by_cases c3 : q < 0
  · have d3 := decide_eq_true c3
    simp (disch := decide) only [hA, List.length_map, hd, d1, d2, d3, go_sem]
    exact leave_pure (xs := [.v .zsl, .v (.int .i64 2)]) (.inr rfl) (by simp (disch := (first | decide | omega)) only [resVs, resV, go_sem, hA]) (by simp only [one, AVlt_v, AVlt_any, AVlt_sl, AVlt_ptr, AVlt_mp, AVlt_agg, AVlt_tup, AVlt_fn, RowsLt_nil, RowsLt_live, RowsLt_dead, List.mem_cons, List.not_mem_nil, List.forall_mem_cons, List.forall_mem_nil, or_false, false_or, forall_eq_or_imp, forall_eq, vs_lt, Nat.add_lt_add_iff_left, Nat.reduceLT, true_and, and_true, and_self, List.length_cons, List.length_nil, Nat.reduceAdd, Nat.zero_add, implies_true, false_imp_iff, lt_T, List.mem_map]) hR hB ⟨by rw [recvR, e2 (.inr (.inr (.inl c3))), if_neg (by decide)]; rfl, rfl, rfl⟩
  have d3 := decide_eq_false c3
  by_cases c4 : q ≥ m.length
  · have d4 : decide (q ≥ (m.length : Int)) = true := decide_eq_true c4
    simp (disch := decide) only [hA, List.length_map, hd, d1, d2, d3, d4, go_sem]
    exact leave_pure (xs := [.v .zsl, .v (.int .i64 2)]) (.inr rfl) (by simp (disch := (first | decide | omega)) only [resVs, resV, go_sem, hA]) (by simp only [one, AVlt_v, AVlt_any, AVlt_sl, AVlt_ptr, AVlt_mp, AVlt_agg, AVlt_tup, AVlt_fn, RowsLt_nil, RowsLt_live, RowsLt_dead, List.mem_cons, List.not_mem_nil, List.forall_mem_cons, List.forall_mem_nil, or_false, false_or, forall_eq_or_imp, forall_eq, vs_lt, Nat.add_lt_add_iff_left, Nat.reduceLT, true_and, and_true, and_self, List.length_cons, List.length_nil, Nat.reduceAdd, Nat.zero_add, implies_true, false_imp_iff, lt_T, List.mem_map]) hR hB ⟨by rw [recvR, e2 (.inr (.inr (.inr (.inl c4)))), if_neg (by decide)]; rfl, rfl, rfl⟩
  have d4 : decide (q ≥ (m.length : Int)) = false := decide_eq_false c4
  by_cases c5 : p = q
  · have d5 : (p == q) = true := by simp [c5]
    simp (disch := decide) only [hA, List.length_map, hd, d1, d2, d3, d4, d5, go_sem]
    exact leave_pure (xs := [.v .zsl, .v (.int .i64 2)]) (.inr rfl) (by simp (disch := (first | decide | omega)) only [resVs, resV, go_sem, hA]) (by simp only [one, AVlt_v, AVlt_any, AVlt_sl, AVlt_ptr, AVlt_mp, AVlt_agg, AVlt_tup, AVlt_fn, RowsLt_nil, RowsLt_live, RowsLt_dead, List.mem_cons, List.not_mem_nil, List.forall_mem_cons, List.forall_mem_nil, or_false, false_or, forall_eq_or_imp, forall_eq, vs_lt, Nat.add_lt_add_iff_left, Nat.reduceLT, true_and, and_true, and_self, List.length_cons, List.length_nil, Nat.reduceAdd, Nat.zero_add, implies_true, false_imp_iff, lt_T, List.mem_map]) hR hB ⟨by rw [recvR, e2 (.inr (.inr (.inr (.inr c5)))), if_neg (by decide)]; rfl, rfl, rfl⟩
  have d5 : (p == q) = false := by simp [c5]
  have e3 : recvE m p got q = tickME (recvM m p.toNat got q.toNat) p := by unfold recvE; rw [if_neg e1, if_neg (by omega)]
  obtain ⟨np, rfl⟩ : ∃ n : Nat, p = n := ⟨p.toNat, by omega⟩
  obtain ⟨nq, rfl⟩ : ∃ n : Nat, q = n := ⟨q.toNat, by omega⟩
  rw [Int.toNat_natCast, Int.toNat_natCast] at e3
  obtain ⟨l1, l2, l3, _⟩ := isM_open h1
  obtain ⟨k1, k2, k3, _⟩ := isM_open h2
  have hp : np < m.length := by omega
  have hq : nq < m.length := by omega
  obtain ⟨hfit, hfl⟩ := recv_fit h1 h2 h3 hp hq
  simp (disch := decide) only [hA, List.length_map, hd, d1, d2, d3, d4, d5, go_sem]
  refine ACalls.nxt (copied_spec m h1 _ _) ?_
  have r0 : mR m.length 0 (B.length + 0) 1 0 (fun _ => 1) (rowsM m) = mR m.length 0 B.length 1 0 (fun _ => 1) (rTR m got 0) := mR_congr (fun j hj => by unfold rowsM rTR rT; rw [if_neg (by omega)])
  rw [List.length_nil, r0]
  simp (disch := (first | decide | omega)) only [hA, go_sem]
  refine loop_kept (ι := Nat) r_mReceive0 (fun i => [(55, .v (.int .i64 i))]) 1 (fun i => mR m.length 0 B.length 1 0 (fun _ => 1) (rTR m got i))
    (fun i => i ≤ m.length) (fun i => m.length - i) 0 (Nat.zero_le _) (by (repeat (first | exact hE.mono (by omega) | refine KLt.up ?_ (by simp (disch := omega) only [AVlt_v, AVlt_any, AVlt_sl, AVlt_ptr, AVlt_mp, AVlt_agg, AVlt_tup, AVlt_fn, RowsLt_nil, RowsLt_live, RowsLt_dead, List.mem_cons, List.not_mem_nil, List.forall_mem_cons, List.forall_mem_nil, or_false, false_or, forall_eq_or_imp, forall_eq, vs_lt, Nat.add_lt_add_iff_left, Nat.reduceLT, true_and, and_true, and_self, List.length_cons, List.length_nil, Nat.reduceAdd, Nat.zero_add, implies_true, false_imp_iff, lt_T, List.mem_map])))) (by ((try simp (disch := decide) only [hA, go_sem]) <;> (repeat' (first | exact trivial | refine And.intro ?_ ?_)) <;> (first | rfl | (congr 2; omega)))) (fun e => Weak.refl _ _ _) ?_
  intro g1 hE1 hEE1 hg1 i hi
  have hgO := mR_first (n := m.length) (v0 := 0) (sz := 1) (B := B) (ver := fun _ => 1) (R := rTR m got i)
  by_cases hlt : i < m.length
  · have hlg : i < got.length := by omega
    have hri := rowAt_at hlt
    have hgi := rowAt_at hlg
    have hl := l3 i hlt
    have hlw := k3 i hlg
    have hrt : rTR m got i i = (rowAt m i).map eI := by unfold rTR rT; rw [if_neg (by omega)]
    have hj := joinM1_spec (rowAt m i) (rowAt got i) (by omega) (by omega) (i + 1) B (mR m.length 0 B.length 1 0 (fun _ => 1) (rTR m got i)) (by rw [mR_at0 hlt, hrt])
    have hset : (mR m.length 0 B.length 1 0 (fun _ => 1) (rTR m got i)).set (i + 1) (.live 1 1 (vs ((joinV (rowAt m i) (rowAt got i)).map eI))) = mR m.length 0 B.length 1 0 (fun _ => 1) (rTR m got (i + 1)) := by
      rw [mR_put rfl (by rw [hrt, List.length_map, List.length_map, joinV_len (by omega)])]
      refine mR_congr (fun j hj => ?_)
      unfold fUp
      by_cases hji : j = i
      · subst hji; rw [if_pos rfl]; unfold rTR rT; rw [if_pos (by omega)]
      · rw [if_neg hji]; unfold rTR rT
        by_cases h9 : j < i
        · rw [if_pos h9, if_pos (by omega)]
        · rw [if_neg h9, if_neg (by omega)]
    rw [hset, hl, hgi] at hj
    have hrl : (rTR m got i i).length = m.length := by rw [hrt, List.length_map, hl]
    simp (disch := (first | decide | omega)) only [hA, hg1, hgO, eRw, fl_len, fl_get, mC_0, hrl, go_sem]
    refine ACalls.nxt hj ?_
    simp (disch := (first | decide | omega)) only [hA, hg1, go_sem]
    refine ⟨i + 1, hlt, by simp only; omega, ?_⟩
    exact Weak.kround (l1 := mR m.length 0 B.length 1 0 (fun _ => 1) (rTR m got (i + 1))) (p := r_mReceive0) (k := 1) (by ((repeat refine (kAny_up rfl).trans ?_); exact hEE1)) (by ((try simp (disch := decide) only [hA, go_sem]) <;> (repeat' (first | exact trivial | refine And.intro ?_ ?_)) <;> (first | rfl | (congr 2; omega)))) (junk := []) (by rw [List.append_nil]) hE1 (by rw [mR_len]; omega) (by simp (disch := omega) only [KOvLt, AVlt_v, AVlt_any, AVlt_sl, AVlt_ptr, AVlt_mp, AVlt_agg, AVlt_tup, AVlt_fn, RowsLt_nil, RowsLt_live, RowsLt_dead, List.mem_cons, List.not_mem_nil, List.forall_mem_cons, List.forall_mem_nil, or_false, false_or, forall_eq_or_imp, forall_eq, vs_lt, Nat.add_lt_add_iff_left, Nat.reduceLT, true_and, and_true, and_self, List.length_cons, List.length_nil, Nat.reduceAdd, Nat.zero_add, implies_true, false_imp_iff, lt_T, List.mem_map]) hR (mR_lt (by rw [mR_len]; omega))
  · obtain rfl : i = m.length := by omega
    have hlq : nq < got.length := by omega
    have hgq := rowAt_at hlq
    have hrt : rTR m got m.length np = (joinV (rowAt m np) (rowAt got np)).map eI := by unfold rTR rT; rw [if_pos hp]
    have hjl : (joinV (rowAt m np) (rowAt got np)).length = m.length := by rw [joinV_len (by rw [l3 np hp, k3 np (by omega)]; omega), l3 np hp]
    have hj := joinM1_spec (joinV (rowAt m np) (rowAt got np)) (rowAt got nq) (by omega) (by rw [hjl, k3 nq hlq]; omega) (np + 1) B (mR m.length 0 B.length 1 0 (fun _ => 1) (rTR m got m.length)) (by rw [mR_at0 hp, hrt])
    have hset : (mR m.length 0 B.length 1 0 (fun _ => 1) (rTR m got m.length)).set (np + 1) (.live 1 1 (vs ((joinV (joinV (rowAt m np) (rowAt got np)) (rowAt got nq)).map eI))) = mR m.length 0 B.length 1 0 (fun _ => 1) (fun j => (recvF m got np nq j).map eI) := by
      rw [mR_put rfl (by rw [hrt, List.length_map, List.length_map, joinV_len (by rw [hjl, k3 nq hlq]; omega)])]
      refine mR_congr (fun j hj => ?_)
      unfold fUp
      by_cases hji : j = np
      · subst hji; rw [if_pos rfl]; unfold recvF; rw [if_pos rfl]
      · rw [if_neg hji]; unfold rTR rT recvF; rw [if_pos hj, if_neg hji]
    rw [hset, hjl, hgq] at hj
    have hrl : (rTR m got m.length np).length = m.length := by rw [hrt, List.length_map, hjl]
    simp (disch := (first | decide | omega)) only [hA, hg1, hgO, eRw, fl_len, fl_get, mC_0, hrl, go_sem]
    refine ACalls.nxt hj ?_
    simp (disch := (first | decide | omega)) only [hA, hg1, go_sem]
    have hmv : mV m.length 1 (fun j => (recvF m got np nq j).map eI) = (recvM m np got nq).map eRw := mV_rows
    refine ACalls.mat (args' := [.v (.isl 1 (mV m.length 1 (fun j => (recvF m got np nq j).map eI))), .v (.int .i64 np)]) (fun i hi => ?_) (by
      have hv : (mV m.length 1 (fun j => (recvF m got np nq j).map eI)).length = m.length := by simp [mV, fl_len]
      simp only [List.map_cons, List.map_nil, deep, frz0, hv]
      rw [if_pos (by simp), List.drop_zero, List.take_of_length_le (by rw [hv]; exact Nat.le_refl _)]) (fun l9 => ?_)
    · simp only [List.map_cons, List.map_nil, deep, frz0]; rw [if_neg (by omega)]
    rw [hmv]
    refine ACalls.nxt (mTick_spec (recvM m np got nq) hfit np _ _) ?_
    by_cases ht : tickME (recvM m np got nq) np = 0
    · rw [tickMR, if_pos ht, Int.toNat_natCast]
      simp (disch := (first | decide | omega)) only [hA, hg1, go_sem]
      exact leave_pure (xs := [.v (.isl 1 ((tickM (recvM m np got nq) np).map eRw)), .v (.int .i64 0)]) (.inr rfl) (by simp (disch := (first | decide | omega)) only [resVs, resV, go_sem, hA, hg1]) (by simp only [one, AVlt_v, AVlt_any, AVlt_sl, AVlt_ptr, AVlt_mp, AVlt_agg, AVlt_tup, AVlt_fn, RowsLt_nil, RowsLt_live, RowsLt_dead, List.mem_cons, List.not_mem_nil, List.forall_mem_cons, List.forall_mem_nil, or_false, false_or, forall_eq_or_imp, forall_eq, vs_lt, Nat.add_lt_add_iff_left, Nat.reduceLT, true_and, and_true, and_self, List.length_cons, List.length_nil, Nat.reduceAdd, Nat.zero_add, implies_true, false_imp_iff, lt_T, List.mem_map]) hR hB ⟨by rw [recvR, e3, if_pos ht]; rfl, rfl, rfl⟩
    · rw [tickMR, if_neg ht]
      simp (disch := (first | decide | omega)) only [hA, hg1, go_sem]
      exact leave_pure (xs := [.v .zsl, .v (.int .i64 (tickME (recvM m np got nq) np))]) (.inr rfl) (by simp (disch := (first | decide | omega)) only [resVs, resV, go_sem, hA, hg1]) (by simp only [one, AVlt_v, AVlt_any, AVlt_sl, AVlt_ptr, AVlt_mp, AVlt_agg, AVlt_tup, AVlt_fn, RowsLt_nil, RowsLt_live, RowsLt_dead, List.mem_cons, List.not_mem_nil, List.forall_mem_cons, List.forall_mem_nil, or_false, false_or, forall_eq_or_imp, forall_eq, vs_lt, Nat.add_lt_add_iff_left, Nat.reduceLT, true_and, and_true, and_self, List.length_cons, List.length_nil, Nat.reduceAdd, Nat.zero_add, implies_true, false_imp_iff, lt_T, List.mem_map]) hR hB ⟨by rw [recvR, e3, if_neg ht]; rfl, rfl, rfl⟩
end Go.Proofs.Ytoaopldaleaijaa

namespace Go.Proofs.Ytoaopldaleaijaa
set_option linter.unusedVariables false
set_option linter.unusedSimpArgs false
attribute [local go_sem ↓] run_skip run_region run_draw run_seq run_block run_exit run_ret run_cond atN_app seqC_normal seqC_exit seqC_ret seqQ_normal seqQ_exit seqQ_ret blkQ_normal blkQ_exit blkQ_ret runOps_nil runOps_cons runD_nil runD_cons grdO_true grdO_false grdD_true grdD_false ifC_true ifC_false opS_val opS_call opS_two opK_app dS_val dS_call dS_two dK_app kUp_same kUp_ne
attribute [local go_sem] rechks_nil rechks_cons rechk gcase_true gcase_false ex_val ex_val0 gd_none gd_some ev_t ev_c evs_nil evs_cons evo_some evo_none hget_at hget_first hsetB_at hsetB_first hsetL_at hsetL_first ofOpt_some aop aload astore aslice aappend aiaddr aiaddrA afaddr alen alenS acopy amm acall alookup amupdate alenM comma keyEq apick binV binVB binVS isSh intOp strOp boolOp shOp eqC eqF and2 cellsOf setFrom fillA fillS rd rdI elems mk bounds AV.cell List.all_cons List.all_nil Bool.and_true Bool.true_and Bool.and_self List.length_cons List.length_nil List.length_append Nat.reduceAdd Nat.reduceSub Nat.reduceMul Nat.zero_add Nat.add_zero List.cons_append List.nil_append List.append_assoc List.append_nil List.getElem?_cons_zero List.getElem?_cons_succ List.getElem?_nil List.set_cons_zero List.set_cons_succ List.drop_zero List.drop_succ_cons List.take_zero List.take_succ_cons List.take_nil List.drop_nil List.map_cons List.map_nil Option.map_some if_true if_false Bool.false_eq_true and_self true_and and_true Nat.reduceLeDiff Nat.reduceLT Nat.le_refl Nat.reduceEqDiff ite_true ite_false beq_self_eq_true beq_true beq_false Bool.not_true Bool.not_false Bool.true_beq Bool.false_beq map_vs vs_len vs_get vs_take vs_drop vs_snoc1 vs_snoc2 vs_snoc3 vs_snoc5 vs_set1 vs_set2 vs_rep wrap_id le_T lt_T le_F lt_F leI_T ltI_T leI_F ltI_F geI gtI get_T decide_true decide_false room List.getElem?_map List.length_map List.length_take Int.toNat_natCast Nat.min_def Nat.min_self nth_kOf put_kOf put_kNo kOv_cons kOv_nil KHas KArgs List.getElem_cons_zero List.getElem_cons_succ
section
variable {n v0 base i k v : Nat} {a z : Nat → Nat → Int}
end
theorem isM_mk {m : List (List Int)} (h1 : 1 ≤ m.length) (h2 : m.length ≤ 8) (h3 : ∀ i, i < m.length → (rowAt m i).length = m.length) (h4 : ∀ i j, i < m.length → j < m.length → 0 ≤ ent m i j ∧ ent m i j ≤ 1125899906842624) : isM m = true := by
  have : (List.range m.length).any (badRowAt m) = false := by
    rw [List.any_eq_false]
    intro i hi
    have hi := List.mem_range.1 hi
    unfold badRowAt badRow
    rw [h3 i hi]
    have h5 : (List.range m.length).any (vBadAt (rowAt m i)) = false := by
      rw [List.any_eq_false]
      intro j hj
      have := h4 i j hi (List.mem_range.1 hj)
      unfold ent at this
      simp only [vBadAt, vBad, Bool.or_eq_true, decide_eq_true_eq]
      omega
    rw [h5]; simp
  simp [isM, h1, h2, this]
theorem recv_isM {m got : List (List Int)} {p q : Nat} (h1 : isM m = true) (h2 : isM got = true) (h3 : got.length = m.length) (hp : p < m.length) (hq : q < m.length) : isM (recvM m p got q) = true := by
  obtain ⟨l1, l2, l3, l4⟩ := isM_open h1
  obtain ⟨k1, k2, k3, k4⟩ := isM_open h2
  obtain ⟨_, hl⟩ := recv_fit h1 h2 h3 hp hq
  have rl : (recvM m p got q).length = m.length := fl_len
  refine isM_mk (by omega) (by omega) (fun i hi => ?_) (fun i j hi hj => ?_)
  · rw [rl] at hi ⊢
    rw [recvM_row hi, hl i hi]
  · rw [rl] at hi hj
    unfold ent
    rw [recvM_row hi]
    have a1 := l4 i j hi hj
    have a2 := k4 i j (by omega) (by omega)
    have a3 := l4 p j hp hj
    have a4 := k4 p j (by omega) (by omega)
    have a5 := k4 q j (by omega) (by omega)
    have jg : ∀ i, i < m.length → (joinV (rowAt m i) (rowAt got i)).getD j 0 = max ((rowAt m i).getD j 0) ((rowAt got i).getD j 0) := fun i hi => joinV_get (by rw [l3 i hi, k3 i (by omega)]; omega) (by rw [l3 i hi]; exact hj)
    unfold recvF
    split
    · have jl : (joinV (rowAt m p) (rowAt got p)).length = m.length := by rw [joinV_len (by rw [l3 p hp, k3 p (by omega)]; omega), l3 p hp]
      rw [joinV_get (by rw [jl, k3 q (by omega)]; omega) (by rw [jl]; exact hj), jg p hp]
      omega
    · rw [jg i hi]
      omega
section
variable {n v0 base k v p q : Nat} {m got : List (List Int)}
end
theorem joinV_fl {v w : List Int} {n : Nat} (h1 : v.length = n) (h2 : w.length = n) : joinV v w = fl n fun c => max (v.getD c 0) (w.getD c 0) := by
  refine ext_getD (by rw [joinV_len (by omega), fl_len, h1]) (fun i hi => ?_)
  rw [joinV_len (by omega)] at hi
  rw [joinV_get (by omega) hi, fl_getD (by omega)]
end Go.Proofs.Ytoaopldaleaijaa

namespace Go.Proofs.Ytoaopldaleaijaa
open Go.RowKit
set_option linter.unusedVariables false

theorem findG_next {t : Tr} {P : Nat × Nat → Bool} {k j : Nat} (h : (idsTo t k j).find? P = none) (hx : P (k, j + 1) = false) : (idsTo t k (j + 1)).find? P = none := by
  rw [idsTo_succ, List.find?_append, h]
  simp [hx]
theorem findG_stop {t : Tr} {P : Nat × Nat → Bool} {k j : Nat} (hk : k < t.length) (hj : j < t[k].evs.length) (h : (idsTo t k j).find? P = none) (hx : P (k, j + 1) = true) : (ids t).find? P = some (k, j + 1) := by
  obtain ⟨r, hr⟩ := idsTo_prefix t k (j + 1) hk hj
  rw [← hr, idsTo_succ, List.append_assoc, List.find?_append, h]
  simp [hx]
theorem findG_all {t : Tr} {P : Nat × Nat → Bool} (h : (idsTo t t.length 0).find? P = none) : (ids t).find? P = none := by
  rw [idsTo_all] at h; exact h
theorem findG_zero {t : Tr} {f : Nat × Nat → Nat} (h : (ids t).find? (fun x => f x != 0) = none) : ∀ x ∈ ids t, f x = 0 := fun x hx => by
  rw [List.find?_eq_none] at h
  simpa using h x hx

open Classical in
noncomputable def hbB (t : Tr) (x : Nat × Nat) : Bool := decide (Hb t x x)
open Classical in
theorem hbB_true {t : Tr} {x : Nat × Nat} (h : Hb t x x) : hbB t x = true := by unfold hbB; exact decide_eq_true h
open Classical in
theorem hbB_false {t : Tr} {x : Nat × Nat} (h : ¬ Hb t x x) : hbB t x = false := by unfold hbB; exact decide_eq_false h

set_option maxRecDepth 100000 in
set_option maxHeartbeats 8000000 in
theorem rFault_any (u : Value) (t : Tr) (w : World) (hS : Sm t) (hs : SlR 3 RPr w u t) :
    Calls Try.prog 77 #[.agg #[u]] w fun e w' => FPost t w e w' := by
  have HHD := hide (fun p (hp : p < t.length) w' (he : Ext w w') => rhead_any u t p w' hp hS (hs.ext RPr.keeps he))
  have HFO := hide (fun (hS : Small t) p i (hp : p < t.length) (hi : i < t[p].evs.length) w' (he : Ext w w') => rform_any u t p i w' hp hi hS (hs.ext RPr.keeps he))
  have HPA0 := hide (fun (hS : Small t) p i (hx : (p, i) ∈ ids t) (hf : formedB t.length p (evAt t (p, i)) = true) w' (he : Ext w w') => paired_any u t p i w' hx hf hS (hs.ext RPr.keeps he))
  have HAC0 := hide (fun (hS : Small t) (h1 : ∀ x ∈ ids t, pairF t x = 0) (h2 : ∀ x ∈ ids t, formedB t.length x.1 (evAt t x) = true) w' (he : Ext w w') => acyclic_any u t w' h1 h2 hS (hs.ext RPr.keeps he))
  have HPS0 := hide (fun (hS : Small t) p i (hx : (p, i) ∈ ids t) (hP : Paired t) (hN : (ids t).length ≤ 1000000) w' (he : Ext w w') => Past_any u t p i w' hx hP hN hS (hs.ext RPr.keeps he))
  obtain ⟨A, c, rfl, _, hcm, hc⟩ := hs.at_
  have HC := hide hc
  have hnp := hS.np
  clear hs hc
  unfold idVal at *
  go_enter Try.func77, Try.ntmps77
  cases hin : inB t.length 1 8
  · have HF := hide (fault_len hin)
    have hd : t.length < 1 ∨ 8 < t.length := by simp [inB] at hin; omega
    clear hin
    rcases hd with hd | hd
    · have hd1 : decide ((t.length : Int) < 1) = true := decide_eq_true (by omega)
      clear hd
      go_wp2_with fail
      refine bodyPost_ret (v := .tuple #[idVal (0, 0), .int .i64 1]) ?_ rfl ⟨by rw [HF.out]; rfl, ((Ext.refl w).alloc _).alloc _⟩
      simp [results, Try.f77, go_sem, idVal]
    · have hd1 : decide ((t.length : Int) < 1) = false := decide_eq_false (by omega)
      have hd2 : decide ((8 : Int) < (t.length : Int)) = true := decide_eq_true (by omega)
      clear hd
      go_wp2_with fail
      refine bodyPost_ret (v := .tuple #[idVal (0, 0), .int .i64 1]) ?_ rfl ⟨by rw [HF.out]; rfl, ((Ext.refl w).alloc _).alloc _⟩
      simp [results, Try.f77, go_sem, idVal]
  · have HIN := hide hin
    have hd1 : decide ((t.length : Int) < 1) = false := decide_eq_false (by simp [inB] at hin; omega)
    have hd2 : decide ((8 : Int) < (t.length : Int)) = false := decide_eq_false (by simp [inB] at hin; omega)
    clear hin
    go_wp2_with fail
    clear hd1 hd2
    have btW := (BoxN.new w 24 #[.slice A t.length c]).alloc (.cells #[.int .i64 0, .int .i64 0] 26)
    have brW : BoxN ((w.alloc (.cells #[.slice A t.length c] 24)).alloc (.cells #[.int .i64 0, .int .i64 0] 26)) (w.heap.size + 1) 26 #[.int .i64 0, .int .i64 0] := BoxN.newAt _ _ (by simp)
    have hx1 := ((Ext.refl w).alloc (.cells #[.slice A t.length c] 24)).alloc (.cells #[.int .i64 0, .int .i64 0] 26)
    generalize (w.alloc (.cells #[.slice A t.length c] 24)).alloc (.cells #[.int .i64 0, .int .i64 0] 26) = W1 at *
    go_loopw [4] (fun i wr => ∃ k : Nat, k ≤ t.length ∧ i = .int .i64 k ∧ (∀ q, q < k → headF t q = 0) ∧ Ext W1 wr) (fun i _ => t.length - (intOf i).toNat)
    case atStart => exact ⟨0, Nat.zero_le _, rfl, fun q hq => absurd hq (Nat.not_lt_zero _), Ext.refl _⟩
    case round =>
      obtain ⟨k, hk, rfl, h0, hxx⟩ := hrel
      have H0 := hide h0
      clear h0
      have bt2 := btW.ext hxx
      have br2 := brW.ext hxx
      have t0 : wr.cell? ⟨w.heap.size, 0, none⟩ = some (.slice A t.length c) := bt2.cell (j := 0) rfl
      have lt1 := bt2.lt
      have lt2 := br2.lt
      have hxw := hx1.trans hxx
      by_cases hlt : k < t.length
      · go_wp2_with fail
        refine (HHD.out k hlt _ hxw).mono ?_
        rintro e w2 ⟨rfl, he2⟩
        by_cases hz : headF t k = 0
        · have HZ := hide hz
          rw [hz]
          clear hz
          go_wp2_with fail
          go_roundw
          case rel => exact ⟨k + 1, hlt, by go_num, fun q hq => (Nat.lt_succ_iff_lt_or_eq.1 hq).elim (H0.out q) (fun e => e ▸ HZ.out), hxx.trans he2⟩
          case measure => simp [intOf]; omega
        · have HF := hide (fault_head HIN.out hlt H0.out hz)
          have hne2 : ((headF t k : Int) != 0) = true := by simp; omega
          have hne3 : ¬ ((headF t k : Int) = 0) := by omega
          have br3 := br2.ext he2
          have f0 := br3.frozen 0
          have f1 := br3.frozen 1
          have r0 := br3.cell (j := 0) rfl
          have r1 := br3.cell (j := 1) rfl
          have hxw2 := hxw.trans he2
          go_wp2_with fail
          obtain ⟨Wr, hWr⟩ : ∃ Wr, ((w2).setCell ⟨w.heap.size + 1, 0, none⟩ (Value.int .i64 k)).setCell ⟨w.heap.size + 1, 1, none⟩ (Value.int .i64 0) = Wr := ⟨_, rfl⟩
          rw [hWr]
          have s1 : BoxN Wr (w.heap.size + 1) 26 #[.int .i64 k, .int .i64 0] := by rw [← hWr]; ((repeat (first | with_reducible assumption | with_reducible exact KeepsFrom.refl _ _ | with_reducible refine KF.set ?_ _ _ | with_reducible refine KF.alloc ?_ _ | with_reducible refine KF.drew ?_ | with_reducible refine KF.drewN ?_ _ | with_reducible refine KF.ext ?_ (by assumption) | with_reducible exact Below.refl _ _ | with_reducible refine BL.set ?_ _ _ _ (by omega) | with_reducible refine BL.alloc ?_ _ (by omega) | with_reducible refine BL.drew ?_ | with_reducible refine BL.drewN ?_ _ | with_reducible refine BL.ext ?_ (by assumption) (by omega) | with_reducible exact Ext.refl _ | with_reducible refine Ext.set ?_ (by omega) _ | with_reducible refine Ext.alloc ?_ _ | with_reducible refine Ext.drew ?_ | with_reducible refine Ext.drewN ?_ _ | with_reducible refine Ext.trans ?_ (by assumption) | with_reducible refine BoxN.alloc ?_ _ | with_reducible refine BoxN.drew ?_ | with_reducible refine BoxN.drewN ?_ _ | with_reducible refine BoxN.other ?_ (by omega) _ | with_reducible refine BoxN.set ?_ _ _ | with_reducible apply BoxN.set1 | with_reducible apply BoxN.set2_1 | with_reducible apply BoxN.set2_0 | with_reducible apply BoxN.set5_4 | with_reducible apply BoxN.set5_3 | with_reducible apply BoxN.set5_2 | with_reducible apply BoxN.set5_1 | with_reducible apply BoxN.set5_0 | with_reducible apply BoxN.set3_2 | with_reducible apply BoxN.set3_1 | with_reducible apply BoxN.set3_0 | with_reducible apply BoxN.set4_3 | with_reducible apply BoxN.set4_2 | with_reducible apply BoxN.set4_1 | with_reducible apply BoxN.set4_0 | with_reducible refine BoxN.ext ?_ (by assumption))); done)
          have sx : Ext w Wr := by rw [← hWr]; ((repeat (first | with_reducible assumption | with_reducible exact KeepsFrom.refl _ _ | with_reducible refine KF.set ?_ _ _ | with_reducible refine KF.alloc ?_ _ | with_reducible refine KF.drew ?_ | with_reducible refine KF.drewN ?_ _ | with_reducible refine KF.ext ?_ (by assumption) | with_reducible exact Below.refl _ _ | with_reducible refine BL.set ?_ _ _ _ (by omega) | with_reducible refine BL.alloc ?_ _ (by omega) | with_reducible refine BL.drew ?_ | with_reducible refine BL.drewN ?_ _ | with_reducible refine BL.ext ?_ (by assumption) (by omega) | with_reducible exact Ext.refl _ | with_reducible refine Ext.set ?_ (by omega) _ | with_reducible refine Ext.alloc ?_ _ | with_reducible refine Ext.drew ?_ | with_reducible refine Ext.drewN ?_ _ | with_reducible refine Ext.trans ?_ (by assumption) | with_reducible refine BoxN.alloc ?_ _ | with_reducible refine BoxN.drew ?_ | with_reducible refine BoxN.drewN ?_ _ | with_reducible refine BoxN.other ?_ (by omega) _ | with_reducible refine BoxN.set ?_ _ _ | with_reducible apply BoxN.set1 | with_reducible apply BoxN.set2_1 | with_reducible apply BoxN.set2_0 | with_reducible apply BoxN.set5_4 | with_reducible apply BoxN.set5_3 | with_reducible apply BoxN.set5_2 | with_reducible apply BoxN.set5_1 | with_reducible apply BoxN.set5_0 | with_reducible apply BoxN.set3_2 | with_reducible apply BoxN.set3_1 | with_reducible apply BoxN.set3_0 | with_reducible apply BoxN.set4_3 | with_reducible apply BoxN.set4_2 | with_reducible apply BoxN.set4_1 | with_reducible apply BoxN.set4_0 | with_reducible refine BoxN.ext ?_ (by assumption))); done)
          clear hWr
          refine bodyPost_ret (v := .tuple #[idVal (k, 0), .int .i64 (headF t k)]) ?_ rfl ⟨by first | (rw [HF.out]; done) | (rw [HF.out]; rfl), sx⟩
          simp [results, Try.f77, go_sem, idVal, s1.cell (j := 0) rfl, s1.cell (j := 1) rfl]
      · obtain rfl : k = t.length := by omega
        have hS := hS.small H0.out
        have HFO := hide (HFO.out hS)
        have HPA0 := hide (HPA0.out hS)
        have HAC0 := hide (HAC0.out hS)
        have HPS0 := hide (HPS0.out hS)
        go_wp2_with fail
        clear t0 lt1 lt2 bt2 br2 hxw
        go_loopw [6] (fun i wr => ∃ k : Nat, k ≤ t.length ∧ i = .int .i64 k ∧ (idsTo t k 0).find? (fun x => formF t x != 0) = none ∧ Ext W1 wr) (fun i _ => t.length - (intOf i).toNat)
        case atStart => exact ⟨0, Nat.zero_le _, rfl, rfl, hxx⟩
        case round =>
          obtain ⟨k, hk, rfl, hno, hx⟩ := hrel
          have HNO := hide hno
          clear hno
          have bt2 := btW.ext hx
          have br2 := brW.ext hx
          have hxw := hx1.trans hx
          have t0 : wr.cell? ⟨w.heap.size, 0, none⟩ = some (.slice A t.length c) := bt2.cell (j := 0) rfl
          have lt1 := bt2.lt
          have lt2 := br2.lt
          by_cases hlt : k < t.length
          · obtain ⟨b, off, rfl, hel⟩ := HC.out (by omega)
            obtain ⟨_, _, v2, c2, hs2⟩ := hel k hlt
            obtain ⟨A2, k2, rfl, _, _, hc2⟩ := hs2.at_
            have hne := hS.ne _ (List.getElem_mem hlt)
            clear hel hs2 hc2
            go_wp2_with fail
            clear t0 bt2 br2 hxw lt1 lt2
            go_loopw [7] (fun i wr => ∃ j : Nat, j ≤ t[k].evs.length ∧ i = .int .i64 j ∧ (idsTo t k j).find? (fun x => formF t x != 0) = none ∧ Ext W1 wr) (fun i _ => t[k].evs.length - (intOf i).toNat)
            case atStart => exact ⟨0, Nat.zero_le _, rfl, HNO.out, hx⟩
            case round =>
              clear hx
              obtain ⟨j, hj, rfl, hno2, hx⟩ := hrel
              have HNO2 := hide hno2
              clear hno2
              have bt2 := btW.ext hx
              have br2 := brW.ext hx
              have hxw := hx1.trans hx
              have t0 : wr.cell? ⟨w.heap.size, 0, none⟩ = some (.slice (some ⟨b, off, none⟩) t.length c) := bt2.cell (j := 0) rfl
              have lt1 := bt2.lt
              have lt2 := br2.lt
              have c2' := hxw.cellAt c2
              by_cases hlj : j < t[k].evs.length
              · have hxi : (k, j + 1) ∈ ids t := mem_ids.2 ⟨hlt, by simp, hlj⟩
                have HXI := hide hxi
                clear hxi
                go_wp2_with fail
                refine (HFO.out k j hlt hlj _ hxw).mono ?_
                rintro e w2 ⟨rfl, he2⟩
                by_cases hz : formF t (k, j + 1) = 0
                · have HN := hide (findG_next (P := fun x => formF t x != 0) HNO2.out (by simp [hz]))
                  rw [hz]
                  clear hz
                  go_wp2_with fail
                  go_roundw
                  case rel => exact ⟨j + 1, hlj, by go_num, HN.out, hx.trans he2⟩
                  case measure => simp [intOf]; omega
                · have HF := hide (fault_form HIN.out H0.out (findG_stop (P := fun x => formF t x != 0) hlt hlj HNO2.out (by simp [hz])))
                  have hne2 : ((formF t (k, j + 1) : Int) != 0) = true := by simp; omega
                  have hne3 : ¬ ((formF t (k, j + 1) : Int) = 0) := by omega
                  have br3 := br2.ext he2
                  have f0 := br3.frozen 0
                  have f1 := br3.frozen 1
                  have r0 := br3.cell (j := 0) rfl
                  have r1 := br3.cell (j := 1) rfl
                  have hxw2 := hxw.trans he2
                  go_wp2_with fail
                  obtain ⟨Wr, hWr⟩ : ∃ Wr, ((w2).setCell ⟨w.heap.size + 1, 0, none⟩ (Value.int .i64 k)).setCell ⟨w.heap.size + 1, 1, none⟩ (Value.int .i64 ((j : Int) + 1)) = Wr := ⟨_, rfl⟩
                  rw [hWr]
                  have s1 : BoxN Wr (w.heap.size + 1) 26 #[.int .i64 k, .int .i64 ((j : Int) + 1)] := by rw [← hWr]; ((repeat (first | with_reducible assumption | with_reducible exact KeepsFrom.refl _ _ | with_reducible refine KF.set ?_ _ _ | with_reducible refine KF.alloc ?_ _ | with_reducible refine KF.drew ?_ | with_reducible refine KF.drewN ?_ _ | with_reducible refine KF.ext ?_ (by assumption) | with_reducible exact Below.refl _ _ | with_reducible refine BL.set ?_ _ _ _ (by omega) | with_reducible refine BL.alloc ?_ _ (by omega) | with_reducible refine BL.drew ?_ | with_reducible refine BL.drewN ?_ _ | with_reducible refine BL.ext ?_ (by assumption) (by omega) | with_reducible exact Ext.refl _ | with_reducible refine Ext.set ?_ (by omega) _ | with_reducible refine Ext.alloc ?_ _ | with_reducible refine Ext.drew ?_ | with_reducible refine Ext.drewN ?_ _ | with_reducible refine Ext.trans ?_ (by assumption) | with_reducible refine BoxN.alloc ?_ _ | with_reducible refine BoxN.drew ?_ | with_reducible refine BoxN.drewN ?_ _ | with_reducible refine BoxN.other ?_ (by omega) _ | with_reducible refine BoxN.set ?_ _ _ | with_reducible apply BoxN.set1 | with_reducible apply BoxN.set2_1 | with_reducible apply BoxN.set2_0 | with_reducible apply BoxN.set5_4 | with_reducible apply BoxN.set5_3 | with_reducible apply BoxN.set5_2 | with_reducible apply BoxN.set5_1 | with_reducible apply BoxN.set5_0 | with_reducible apply BoxN.set3_2 | with_reducible apply BoxN.set3_1 | with_reducible apply BoxN.set3_0 | with_reducible apply BoxN.set4_3 | with_reducible apply BoxN.set4_2 | with_reducible apply BoxN.set4_1 | with_reducible apply BoxN.set4_0 | with_reducible refine BoxN.ext ?_ (by assumption))); done)
                  have sx : Ext w Wr := by rw [← hWr]; ((repeat (first | with_reducible assumption | with_reducible exact KeepsFrom.refl _ _ | with_reducible refine KF.set ?_ _ _ | with_reducible refine KF.alloc ?_ _ | with_reducible refine KF.drew ?_ | with_reducible refine KF.drewN ?_ _ | with_reducible refine KF.ext ?_ (by assumption) | with_reducible exact Below.refl _ _ | with_reducible refine BL.set ?_ _ _ _ (by omega) | with_reducible refine BL.alloc ?_ _ (by omega) | with_reducible refine BL.drew ?_ | with_reducible refine BL.drewN ?_ _ | with_reducible refine BL.ext ?_ (by assumption) (by omega) | with_reducible exact Ext.refl _ | with_reducible refine Ext.set ?_ (by omega) _ | with_reducible refine Ext.alloc ?_ _ | with_reducible refine Ext.drew ?_ | with_reducible refine Ext.drewN ?_ _ | with_reducible refine Ext.trans ?_ (by assumption) | with_reducible refine BoxN.alloc ?_ _ | with_reducible refine BoxN.drew ?_ | with_reducible refine BoxN.drewN ?_ _ | with_reducible refine BoxN.other ?_ (by omega) _ | with_reducible refine BoxN.set ?_ _ _ | with_reducible apply BoxN.set1 | with_reducible apply BoxN.set2_1 | with_reducible apply BoxN.set2_0 | with_reducible apply BoxN.set5_4 | with_reducible apply BoxN.set5_3 | with_reducible apply BoxN.set5_2 | with_reducible apply BoxN.set5_1 | with_reducible apply BoxN.set5_0 | with_reducible apply BoxN.set3_2 | with_reducible apply BoxN.set3_1 | with_reducible apply BoxN.set3_0 | with_reducible apply BoxN.set4_3 | with_reducible apply BoxN.set4_2 | with_reducible apply BoxN.set4_1 | with_reducible apply BoxN.set4_0 | with_reducible refine BoxN.ext ?_ (by assumption))); done)
                  clear hWr
                  refine bodyPost_ret (v := .tuple #[idVal (k, j + 1), .int .i64 (formF t (k, j + 1))]) ?_ rfl ⟨by first | (rw [HF.out]; done) | (rw [HF.out]; rfl), sx⟩
                  simp [results, Try.f77, go_sem, idVal, s1.cell (j := 0) rfl, s1.cell (j := 1) rfl]
              · obtain rfl : j = t[k].evs.length := by omega
                go_wp2_with fail
                go_roundw
                case rel => exact ⟨k + 1, hlt, by go_num, by rw [← idsTo_next t k hlt]; exact HNO2.out, hx⟩
                case measure => simp [intOf]; omega
          · obtain rfl : k = t.length := by omega
            have HALL := hide (findG_all HNO.out)
            have HFN := hide HALL.out
            have HPA := hide (fun p j (hx : (p, j + 1) ∈ ids t) w' (he : Ext w w') => (show ((j + 1 : Nat) : Int) = (j : Int) + 1 from by push_cast; rfl) ▸ HPA0.out p (j + 1) hx (formF_formed (findG_zero HFN.out _ hx)) w' he)
            clear HALL
            go_wp2_with fail
            clear t0 lt1 lt2 bt2 br2 hxw HNO
            go_loopw [9] (fun i wr => ∃ k : Nat, k ≤ t.length ∧ i = .int .i64 k ∧ (idsTo t k 0).find? (fun x => pairF t x != 0) = none ∧ Ext W1 wr) (fun i _ => t.length - (intOf i).toNat)
            case atStart => exact ⟨0, Nat.zero_le _, rfl, rfl, hx⟩
            case round =>
              clear hx
              obtain ⟨k, hk, rfl, hno, hx⟩ := hrel
              have HNO := hide hno
              clear hno
              have bt2 := btW.ext hx
              have br2 := brW.ext hx
              have hxw := hx1.trans hx
              have t0 : wr.cell? ⟨w.heap.size, 0, none⟩ = some (.slice A t.length c) := bt2.cell (j := 0) rfl
              have lt1 := bt2.lt
              have lt2 := br2.lt
              by_cases hlt : k < t.length
              · obtain ⟨b, off, rfl, hel⟩ := HC.out (by omega)
                obtain ⟨_, _, v2, c2, hs2⟩ := hel k hlt
                obtain ⟨A2, k2, rfl, _, _, hc2⟩ := hs2.at_
                have hne := hS.ne _ (List.getElem_mem hlt)
                clear hel hs2 hc2
                go_wp2_with fail
                clear t0 bt2 br2 hxw lt1 lt2
                go_loopw [10] (fun i wr => ∃ j : Nat, j ≤ t[k].evs.length ∧ i = .int .i64 j ∧ (idsTo t k j).find? (fun x => pairF t x != 0) = none ∧ Ext W1 wr) (fun i _ => t[k].evs.length - (intOf i).toNat)
                case atStart => exact ⟨0, Nat.zero_le _, rfl, HNO.out, hx⟩
                case round =>
                  clear hx
                  obtain ⟨j, hj, rfl, hno2, hx⟩ := hrel
                  have HNO2 := hide hno2
                  clear hno2
                  have bt2 := btW.ext hx
                  have br2 := brW.ext hx
                  have hxw := hx1.trans hx
                  have t0 : wr.cell? ⟨w.heap.size, 0, none⟩ = some (.slice (some ⟨b, off, none⟩) t.length c) := bt2.cell (j := 0) rfl
                  have lt1 := bt2.lt
                  have lt2 := br2.lt
                  have c2' := hxw.cellAt c2
                  by_cases hlj : j < t[k].evs.length
                  · have hxi : (k, j + 1) ∈ ids t := mem_ids.2 ⟨hlt, by simp, hlj⟩
                    have HXI := hide hxi
                    clear hxi
                    go_wp2_with fail
                    have bxn := BoxN.new wr 26 #[.int .i64 k, .int .i64 ((j : Int) + 1)]
                    have hxn := hxw.alloc (.cells #[.int .i64 k, .int .i64 ((j : Int) + 1)] 26)
                    have hx1n := hx.alloc (.cells #[.int .i64 k, .int .i64 ((j : Int) + 1)] 26)
                    have brn := br2.alloc (.cells #[.int .i64 k, .int .i64 ((j : Int) + 1)] 26)
                    clear t0 lt1 lt2 c2' bt2 br2 hx hxw
                    generalize wr.heap.size = gx at *
                    generalize (wr.alloc (.cells #[.int .i64 k, .int .i64 ((j : Int) + 1)] 26)) = W3 at *
                    refine (HPA.out k j HXI.out _ hxn).mono ?_
                    rintro e w2 ⟨rfl, he2⟩
                    by_cases hz : pairF t (k, j + 1) = 0
                    · have HN := hide (findG_next (P := fun x => pairF t x != 0) HNO2.out (by simp [hz]))
                      rw [hz]
                      clear hz
                      go_wp2_with fail
                      go_roundw
                      case rel => exact ⟨j + 1, hlj, by go_num, HN.out, hx1n.trans he2⟩
                      case measure => simp [intOf]; omega
                    · have HF := hide (fault_pair HIN.out H0.out HFN.out (findG_stop (P := fun x => pairF t x != 0) hlt hlj HNO2.out (by simp [hz])))
                      have hne2 : ((pairF t (k, j + 1) : Int) != 0) = true := by simp; omega
                      have hne3 : ¬ ((pairF t (k, j + 1) : Int) = 0) := by omega
                      have br3 := brn.ext he2
                      have f0 := br3.frozen 0
                      have f1 := br3.frozen 1
                      have r0 := br3.cell (j := 0) rfl
                      have r1 := br3.cell (j := 1) rfl
                      have bx3 := bxn.ext he2
                      have x0 := bx3.cell (j := 0) rfl
                      have x1 := bx3.cell (j := 1) rfl
                      have hxw2 := hxn.trans he2
                      go_wp2_with fail
                      obtain ⟨Wr, hWr⟩ : ∃ Wr, ((w2).setCell ⟨w.heap.size + 1, 0, none⟩ (Value.int .i64 k)).setCell ⟨w.heap.size + 1, 1, none⟩ (Value.int .i64 ((j : Int) + 1)) = Wr := ⟨_, rfl⟩
                      rw [hWr]
                      have s1 : BoxN Wr (w.heap.size + 1) 26 #[.int .i64 k, .int .i64 ((j : Int) + 1)] := by rw [← hWr]; ((repeat (first | with_reducible assumption | with_reducible exact KeepsFrom.refl _ _ | with_reducible refine KF.set ?_ _ _ | with_reducible refine KF.alloc ?_ _ | with_reducible refine KF.drew ?_ | with_reducible refine KF.drewN ?_ _ | with_reducible refine KF.ext ?_ (by assumption) | with_reducible exact Below.refl _ _ | with_reducible refine BL.set ?_ _ _ _ (by omega) | with_reducible refine BL.alloc ?_ _ (by omega) | with_reducible refine BL.drew ?_ | with_reducible refine BL.drewN ?_ _ | with_reducible refine BL.ext ?_ (by assumption) (by omega) | with_reducible exact Ext.refl _ | with_reducible refine Ext.set ?_ (by omega) _ | with_reducible refine Ext.alloc ?_ _ | with_reducible refine Ext.drew ?_ | with_reducible refine Ext.drewN ?_ _ | with_reducible refine Ext.trans ?_ (by assumption) | with_reducible refine BoxN.alloc ?_ _ | with_reducible refine BoxN.drew ?_ | with_reducible refine BoxN.drewN ?_ _ | with_reducible refine BoxN.other ?_ (by omega) _ | with_reducible refine BoxN.set ?_ _ _ | with_reducible apply BoxN.set1 | with_reducible apply BoxN.set2_1 | with_reducible apply BoxN.set2_0 | with_reducible apply BoxN.set5_4 | with_reducible apply BoxN.set5_3 | with_reducible apply BoxN.set5_2 | with_reducible apply BoxN.set5_1 | with_reducible apply BoxN.set5_0 | with_reducible apply BoxN.set3_2 | with_reducible apply BoxN.set3_1 | with_reducible apply BoxN.set3_0 | with_reducible apply BoxN.set4_3 | with_reducible apply BoxN.set4_2 | with_reducible apply BoxN.set4_1 | with_reducible apply BoxN.set4_0 | with_reducible refine BoxN.ext ?_ (by assumption))); done)
                      have sx : Ext w Wr := by rw [← hWr]; ((repeat (first | with_reducible assumption | with_reducible exact KeepsFrom.refl _ _ | with_reducible refine KF.set ?_ _ _ | with_reducible refine KF.alloc ?_ _ | with_reducible refine KF.drew ?_ | with_reducible refine KF.drewN ?_ _ | with_reducible refine KF.ext ?_ (by assumption) | with_reducible exact Below.refl _ _ | with_reducible refine BL.set ?_ _ _ _ (by omega) | with_reducible refine BL.alloc ?_ _ (by omega) | with_reducible refine BL.drew ?_ | with_reducible refine BL.drewN ?_ _ | with_reducible refine BL.ext ?_ (by assumption) (by omega) | with_reducible exact Ext.refl _ | with_reducible refine Ext.set ?_ (by omega) _ | with_reducible refine Ext.alloc ?_ _ | with_reducible refine Ext.drew ?_ | with_reducible refine Ext.drewN ?_ _ | with_reducible refine Ext.trans ?_ (by assumption) | with_reducible refine BoxN.alloc ?_ _ | with_reducible refine BoxN.drew ?_ | with_reducible refine BoxN.drewN ?_ _ | with_reducible refine BoxN.other ?_ (by omega) _ | with_reducible refine BoxN.set ?_ _ _ | with_reducible apply BoxN.set1 | with_reducible apply BoxN.set2_1 | with_reducible apply BoxN.set2_0 | with_reducible apply BoxN.set5_4 | with_reducible apply BoxN.set5_3 | with_reducible apply BoxN.set5_2 | with_reducible apply BoxN.set5_1 | with_reducible apply BoxN.set5_0 | with_reducible apply BoxN.set3_2 | with_reducible apply BoxN.set3_1 | with_reducible apply BoxN.set3_0 | with_reducible apply BoxN.set4_3 | with_reducible apply BoxN.set4_2 | with_reducible apply BoxN.set4_1 | with_reducible apply BoxN.set4_0 | with_reducible refine BoxN.ext ?_ (by assumption))); done)
                      clear hWr
                      refine bodyPost_ret (v := .tuple #[idVal (k, j + 1), .int .i64 (pairF t (k, j + 1))]) ?_ rfl ⟨by first | (rw [HF.out]; done) | (rw [HF.out]; rfl), sx⟩
                      simp [results, Try.f77, go_sem, idVal, s1.cell (j := 0) rfl, s1.cell (j := 1) rfl]
                  · obtain rfl : j = t[k].evs.length := by omega
                    go_wp2_with fail
                    go_roundw
                    case rel => exact ⟨k + 1, hlt, by go_num, by rw [← idsTo_next t k hlt]; exact HNO2.out, hx⟩
                    case measure => simp [intOf]; omega
              · obtain rfl : k = t.length := by omega
                have HALL := hide (findG_all HNO.out)
                have HPN := hide HALL.out
                have hP : Paired t := ⟨fun x hx => formF_formed (findG_zero HFN.out x hx), findG_zero HPN.out⟩
                have HPS := hide (fun p j (hx : (p, j + 1) ∈ ids t) w' (he : Ext w w') => (show ((j + 1 : Nat) : Int) = (j : Int) + 1 from by push_cast; rfl) ▸ HPS0.out p (j + 1) hx hP (ids_few hS.np hS.ne HIN.out H0.out) w' he)
                have HAC := hide (HAC0.out hP.pair hP.form)
                clear hP HALL
                go_wp2_with fail
                refine (HAC.out _ hxw).mono ?_
                rintro e w2 ⟨b, rfl, hb, he2⟩
                cases b
                · go_wp2_with fail
                  replace hx := hx.trans he2
                  clear t0 lt1 lt2 bt2 br2 hxw he2 hb HNO
                  obtain ⟨WB, hWB⟩ : ∃ WB : World, w2 = WB := ⟨_, rfl⟩
                  rw [hWB] at hx ⊢
                  clear hWB
                  go_loopw [13] (fun i wr => ∃ k : Nat, k ≤ t.length ∧ i = .int .i64 k ∧ (idsTo t k 0).find? (hbB t) = none ∧ Ext W1 wr) (fun i _ => t.length - (intOf i).toNat)
                  case atStart => exact ⟨0, Nat.zero_le _, rfl, rfl, hx⟩
                  case round =>
                    clear hx
                    obtain ⟨k, hk, rfl, hno, hx⟩ := hrel
                    have HNO := hide hno
                    clear hno
                    have bt2 := btW.ext hx
                    have br2 := brW.ext hx
                    have hxw := hx1.trans hx
                    have t0 : wr.cell? ⟨w.heap.size, 0, none⟩ = some (.slice A t.length c) := bt2.cell (j := 0) rfl
                    have lt1 := bt2.lt
                    have lt2 := br2.lt
                    by_cases hlt : k < t.length
                    · obtain ⟨b, off, rfl, hel⟩ := HC.out (by omega)
                      obtain ⟨_, _, v2, c2, hs2⟩ := hel k hlt
                      obtain ⟨A2, k2, rfl, _, _, hc2⟩ := hs2.at_
                      have hne := hS.ne _ (List.getElem_mem hlt)
                      clear hel hs2 hc2
                      go_wp2_with fail
                      clear t0 bt2 br2 hxw lt1 lt2
                      go_loopw [14] (fun i wr => ∃ j : Nat, j ≤ t[k].evs.length ∧ i = .int .i64 j ∧ (idsTo t k j).find? (hbB t) = none ∧ Ext W1 wr) (fun i _ => t[k].evs.length - (intOf i).toNat)
                      case atStart => exact ⟨0, Nat.zero_le _, rfl, HNO.out, hx⟩
                      case round =>
                        clear hx
                        obtain ⟨j, hj, rfl, hno2, hx⟩ := hrel
                        have HNO2 := hide hno2
                        clear hno2
                        have bt2 := btW.ext hx
                        have br2 := brW.ext hx
                        have hxw := hx1.trans hx
                        have t0 : wr.cell? ⟨w.heap.size, 0, none⟩ = some (.slice (some ⟨b, off, none⟩) t.length c) := bt2.cell (j := 0) rfl
                        have lt1 := bt2.lt
                        have lt2 := br2.lt
                        have c2' := hxw.cellAt c2
                        by_cases hlj : j < t[k].evs.length
                        · have hxi : (k, j + 1) ∈ ids t := mem_ids.2 ⟨hlt, by simp, hlj⟩
                          have HXI := hide hxi
                          clear hxi
                          go_wp2_with fail
                          have bxn := BoxN.new wr 26 #[.int .i64 k, .int .i64 ((j : Int) + 1)]
                          have hxn := hxw.alloc (.cells #[.int .i64 k, .int .i64 ((j : Int) + 1)] 26)
                          have hx1n := hx.alloc (.cells #[.int .i64 k, .int .i64 ((j : Int) + 1)] 26)
                          have brn := br2.alloc (.cells #[.int .i64 k, .int .i64 ((j : Int) + 1)] 26)
                          clear t0 lt1 lt2 c2' bt2 br2 hx hxw
                          generalize wr.heap.size = gx at *
                          generalize (wr.alloc (.cells #[.int .i64 k, .int .i64 ((j : Int) + 1)] 26)) = W3 at *
                          refine (HPS.out k j HXI.out _ hxn).mono ?_
                          rintro e w2 ⟨v9, gs, S, rfl, hgr, hgl, hiff, he2⟩
                          have hyg : k < gs.length := by rw [hgl.1]; exact hlt
                          have hgl2 : gs[k].2 = t[k].evs.length + 1 := hgl.2 k hyg hlt
                          have hHB := hide (hiff (k, j + 1) HXI.out)
                          obtain ⟨gO, offO, capO, curO, rfl, hBO, hbO, hO1, hO2, hO3, hcO⟩ := hgr.out.open_ (by omega)
                          have o0 : w2.cell? ⟨gO, offO + k, none⟩ = some (.slice (some ⟨gs[k].1, 0, none⟩) gs[k].2 gs[k].2) := hbO.cell (hcO k _ (by rw [List.getElem?_map, List.getElem?_eq_getElem hyg]; rfl))
                          have rr0 : w2.cell? ⟨gs[k].1, j + 1, none⟩ = some (.bool (decide ((k, j + 1) ∈ S))) := (hgr.row k hyg).1.cell (rowM_get (by rw [hgl2]; omega))
                          have hlO := hbO.lt
                          have hlR := (hgr.row k hyg).1.lt
                          have hi1 : (k : Int) < (gs.length : Int) := by omega
                          have hi3 : (j : Int) + 1 < (gs[k].2 : Int) := by rw [hgl2]; omega
                          have hcap : gs[k].2 ≤ 1000001 := by rw [hgl2]; omega
                          have hi2 : (0 : Int) ≤ (k : Int) := by omega
                          have hi4 : (0 : Int) ≤ (j : Int) + 1 := by omega
                          have br3 := brn.ext he2
                          have f0 := br3.frozen 0
                          have f1 := br3.frozen 1
                          have r0 := br3.cell (j := 0) rfl
                          have r1 := br3.cell (j := 1) rfl
                          have bx3 := bxn.ext he2
                          have x0 := bx3.cell (j := 0) rfl
                          have x1 := bx3.cell (j := 1) rfl
                          have hxw2 := hxn.trans he2
                          clear hgr hgl hiff hbO hcO hgl2
                          unfold maxLen at hO2
                          generalize gs[k].1 = gb at *
                          generalize gs[k].2 = gn at *
                          cases hz : decide ((k, j + 1) ∈ S)
                          · have HN := hide (findG_next (P := hbB t) HNO2.out (hbB_false fun h => of_decide_eq_false hz (hHB.out.2 h)))
                            rw [hz] at rr0
                            clear hz
                            go_wp2_with fail
                            go_roundw
                            case rel => exact ⟨j + 1, hlj, by go_num, HN.out, hx1n.trans he2⟩
                            case measure => simp [intOf]; omega
                          · have HF := hide (fault_hb HIN.out H0.out HFN.out HPN.out (show hbFirst t = _ from findG_stop (P := hbB t) hlt hlj HNO2.out (hbB_true (hHB.out.1 (of_decide_eq_true hz)))))
                            rw [hz] at rr0
                            clear hz
                            go_wp2_with fail
                            obtain ⟨Wr, hWr⟩ : ∃ Wr, ((w2).setCell ⟨w.heap.size + 1, 0, none⟩ (Value.int .i64 k)).setCell ⟨w.heap.size + 1, 1, none⟩ (Value.int .i64 ((j : Int) + 1)) = Wr := ⟨_, rfl⟩
                            rw [hWr]
                            have s1 : BoxN Wr (w.heap.size + 1) 26 #[.int .i64 k, .int .i64 ((j : Int) + 1)] := by rw [← hWr]; ((repeat (first | with_reducible assumption | with_reducible exact KeepsFrom.refl _ _ | with_reducible refine KF.set ?_ _ _ | with_reducible refine KF.alloc ?_ _ | with_reducible refine KF.drew ?_ | with_reducible refine KF.drewN ?_ _ | with_reducible refine KF.ext ?_ (by assumption) | with_reducible exact Below.refl _ _ | with_reducible refine BL.set ?_ _ _ _ (by omega) | with_reducible refine BL.alloc ?_ _ (by omega) | with_reducible refine BL.drew ?_ | with_reducible refine BL.drewN ?_ _ | with_reducible refine BL.ext ?_ (by assumption) (by omega) | with_reducible exact Ext.refl _ | with_reducible refine Ext.set ?_ (by omega) _ | with_reducible refine Ext.alloc ?_ _ | with_reducible refine Ext.drew ?_ | with_reducible refine Ext.drewN ?_ _ | with_reducible refine Ext.trans ?_ (by assumption) | with_reducible refine BoxN.alloc ?_ _ | with_reducible refine BoxN.drew ?_ | with_reducible refine BoxN.drewN ?_ _ | with_reducible refine BoxN.other ?_ (by omega) _ | with_reducible refine BoxN.set ?_ _ _ | with_reducible apply BoxN.set1 | with_reducible apply BoxN.set2_1 | with_reducible apply BoxN.set2_0 | with_reducible apply BoxN.set5_4 | with_reducible apply BoxN.set5_3 | with_reducible apply BoxN.set5_2 | with_reducible apply BoxN.set5_1 | with_reducible apply BoxN.set5_0 | with_reducible apply BoxN.set3_2 | with_reducible apply BoxN.set3_1 | with_reducible apply BoxN.set3_0 | with_reducible apply BoxN.set4_3 | with_reducible apply BoxN.set4_2 | with_reducible apply BoxN.set4_1 | with_reducible apply BoxN.set4_0 | with_reducible refine BoxN.ext ?_ (by assumption))); done)
                            have sx : Ext w Wr := by rw [← hWr]; ((repeat (first | with_reducible assumption | with_reducible exact KeepsFrom.refl _ _ | with_reducible refine KF.set ?_ _ _ | with_reducible refine KF.alloc ?_ _ | with_reducible refine KF.drew ?_ | with_reducible refine KF.drewN ?_ _ | with_reducible refine KF.ext ?_ (by assumption) | with_reducible exact Below.refl _ _ | with_reducible refine BL.set ?_ _ _ _ (by omega) | with_reducible refine BL.alloc ?_ _ (by omega) | with_reducible refine BL.drew ?_ | with_reducible refine BL.drewN ?_ _ | with_reducible refine BL.ext ?_ (by assumption) (by omega) | with_reducible exact Ext.refl _ | with_reducible refine Ext.set ?_ (by omega) _ | with_reducible refine Ext.alloc ?_ _ | with_reducible refine Ext.drew ?_ | with_reducible refine Ext.drewN ?_ _ | with_reducible refine Ext.trans ?_ (by assumption) | with_reducible refine BoxN.alloc ?_ _ | with_reducible refine BoxN.drew ?_ | with_reducible refine BoxN.drewN ?_ _ | with_reducible refine BoxN.other ?_ (by omega) _ | with_reducible refine BoxN.set ?_ _ _ | with_reducible apply BoxN.set1 | with_reducible apply BoxN.set2_1 | with_reducible apply BoxN.set2_0 | with_reducible apply BoxN.set5_4 | with_reducible apply BoxN.set5_3 | with_reducible apply BoxN.set5_2 | with_reducible apply BoxN.set5_1 | with_reducible apply BoxN.set5_0 | with_reducible apply BoxN.set3_2 | with_reducible apply BoxN.set3_1 | with_reducible apply BoxN.set3_0 | with_reducible apply BoxN.set4_3 | with_reducible apply BoxN.set4_2 | with_reducible apply BoxN.set4_1 | with_reducible apply BoxN.set4_0 | with_reducible refine BoxN.ext ?_ (by assumption))); done)
                            clear hWr
                            refine bodyPost_ret (v := .tuple #[idVal (k, j + 1), .int .i64 10]) ?_ rfl ⟨by first | (rw [HF.out]; done) | (rw [HF.out]; rfl), sx⟩
                            simp [results, Try.f77, go_sem, idVal, s1.cell (j := 0) rfl, s1.cell (j := 1) rfl]
                        · obtain rfl : j = t[k].evs.length := by omega
                          go_wp2_with fail
                          go_roundw
                          case rel => exact ⟨k + 1, hlt, by go_num, by rw [← idsTo_next t k hlt]; exact HNO2.out, hx⟩
                          case measure => simp [intOf]; omega
                    · obtain rfl : k = t.length := by omega
                      have HALL := hide (findG_all HNO.out)
                      have HF := hide (fault_ok HIN.out H0.out HFN.out HPN.out (show hbFirst t = none from HALL.out))
                      have f0 := br2.frozen 0
                      have f1 := br2.frozen 1
                      have r0 := br2.cell (j := 0) rfl
                      have r1 := br2.cell (j := 1) rfl
                      go_wp2_with fail
                      obtain ⟨Wr, hWr⟩ : ∃ Wr, (wr.setCell ⟨w.heap.size + 1, 0, none⟩ (Value.int .i64 0)).setCell ⟨w.heap.size + 1, 1, none⟩ (Value.int .i64 0) = Wr := ⟨_, rfl⟩
                      rw [hWr]
                      have s1 : BoxN Wr (w.heap.size + 1) 26 #[.int .i64 0, .int .i64 0] := by rw [← hWr]; ((repeat (first | with_reducible assumption | with_reducible exact KeepsFrom.refl _ _ | with_reducible refine KF.set ?_ _ _ | with_reducible refine KF.alloc ?_ _ | with_reducible refine KF.drew ?_ | with_reducible refine KF.drewN ?_ _ | with_reducible refine KF.ext ?_ (by assumption) | with_reducible exact Below.refl _ _ | with_reducible refine BL.set ?_ _ _ _ (by omega) | with_reducible refine BL.alloc ?_ _ (by omega) | with_reducible refine BL.drew ?_ | with_reducible refine BL.drewN ?_ _ | with_reducible refine BL.ext ?_ (by assumption) (by omega) | with_reducible exact Ext.refl _ | with_reducible refine Ext.set ?_ (by omega) _ | with_reducible refine Ext.alloc ?_ _ | with_reducible refine Ext.drew ?_ | with_reducible refine Ext.drewN ?_ _ | with_reducible refine Ext.trans ?_ (by assumption) | with_reducible refine BoxN.alloc ?_ _ | with_reducible refine BoxN.drew ?_ | with_reducible refine BoxN.drewN ?_ _ | with_reducible refine BoxN.other ?_ (by omega) _ | with_reducible refine BoxN.set ?_ _ _ | with_reducible apply BoxN.set1 | with_reducible apply BoxN.set2_1 | with_reducible apply BoxN.set2_0 | with_reducible apply BoxN.set5_4 | with_reducible apply BoxN.set5_3 | with_reducible apply BoxN.set5_2 | with_reducible apply BoxN.set5_1 | with_reducible apply BoxN.set5_0 | with_reducible apply BoxN.set3_2 | with_reducible apply BoxN.set3_1 | with_reducible apply BoxN.set3_0 | with_reducible apply BoxN.set4_3 | with_reducible apply BoxN.set4_2 | with_reducible apply BoxN.set4_1 | with_reducible apply BoxN.set4_0 | with_reducible refine BoxN.ext ?_ (by assumption))); done)
                      have sx : Ext w Wr := by rw [← hWr]; ((repeat (first | with_reducible assumption | with_reducible exact KeepsFrom.refl _ _ | with_reducible refine KF.set ?_ _ _ | with_reducible refine KF.alloc ?_ _ | with_reducible refine KF.drew ?_ | with_reducible refine KF.drewN ?_ _ | with_reducible refine KF.ext ?_ (by assumption) | with_reducible exact Below.refl _ _ | with_reducible refine BL.set ?_ _ _ _ (by omega) | with_reducible refine BL.alloc ?_ _ (by omega) | with_reducible refine BL.drew ?_ | with_reducible refine BL.drewN ?_ _ | with_reducible refine BL.ext ?_ (by assumption) (by omega) | with_reducible exact Ext.refl _ | with_reducible refine Ext.set ?_ (by omega) _ | with_reducible refine Ext.alloc ?_ _ | with_reducible refine Ext.drew ?_ | with_reducible refine Ext.drewN ?_ _ | with_reducible refine Ext.trans ?_ (by assumption) | with_reducible refine BoxN.alloc ?_ _ | with_reducible refine BoxN.drew ?_ | with_reducible refine BoxN.drewN ?_ _ | with_reducible refine BoxN.other ?_ (by omega) _ | with_reducible refine BoxN.set ?_ _ _ | with_reducible apply BoxN.set1 | with_reducible apply BoxN.set2_1 | with_reducible apply BoxN.set2_0 | with_reducible apply BoxN.set5_4 | with_reducible apply BoxN.set5_3 | with_reducible apply BoxN.set5_2 | with_reducible apply BoxN.set5_1 | with_reducible apply BoxN.set5_0 | with_reducible apply BoxN.set3_2 | with_reducible apply BoxN.set3_1 | with_reducible apply BoxN.set3_0 | with_reducible apply BoxN.set4_3 | with_reducible apply BoxN.set4_2 | with_reducible apply BoxN.set4_1 | with_reducible apply BoxN.set4_0 | with_reducible refine BoxN.ext ?_ (by assumption))); done)
                      clear hWr
                      refine bodyPost_ret (v := .tuple #[idVal (0, 0), .int .i64 0]) ?_ rfl ⟨by first | (rw [HF.out]; done) | (rw [HF.out]; rfl), sx⟩
                      simp [results, Try.f77, go_sem, idVal, s1.cell (j := 0) rfl, s1.cell (j := 1) rfl]

                · have HNB := hide (show (ids t).find? (hbB t) = none from by
                    rw [List.find?_eq_none]; intro x hx; rw [hbB_false (hb rfl x hx)]; exact Bool.false_ne_true)
                  have HF := hide (fault_ok HIN.out H0.out HFN.out HPN.out (show hbFirst t = none from HNB.out))
                  have br3 := br2.ext he2
                  have f0 := br3.frozen 0
                  have f1 := br3.frozen 1
                  have r0 := br3.cell (j := 0) rfl
                  have r1 := br3.cell (j := 1) rfl
                  have hxw2 := hxw.trans he2
                  go_wp2_with fail
                  obtain ⟨Wr, hWr⟩ : ∃ Wr, (w2.setCell ⟨w.heap.size + 1, 0, none⟩ (Value.int .i64 0)).setCell ⟨w.heap.size + 1, 1, none⟩ (Value.int .i64 0) = Wr := ⟨_, rfl⟩
                  rw [hWr]
                  have s1 : BoxN Wr (w.heap.size + 1) 26 #[.int .i64 0, .int .i64 0] := by rw [← hWr]; ((repeat (first | with_reducible assumption | with_reducible exact KeepsFrom.refl _ _ | with_reducible refine KF.set ?_ _ _ | with_reducible refine KF.alloc ?_ _ | with_reducible refine KF.drew ?_ | with_reducible refine KF.drewN ?_ _ | with_reducible refine KF.ext ?_ (by assumption) | with_reducible exact Below.refl _ _ | with_reducible refine BL.set ?_ _ _ _ (by omega) | with_reducible refine BL.alloc ?_ _ (by omega) | with_reducible refine BL.drew ?_ | with_reducible refine BL.drewN ?_ _ | with_reducible refine BL.ext ?_ (by assumption) (by omega) | with_reducible exact Ext.refl _ | with_reducible refine Ext.set ?_ (by omega) _ | with_reducible refine Ext.alloc ?_ _ | with_reducible refine Ext.drew ?_ | with_reducible refine Ext.drewN ?_ _ | with_reducible refine Ext.trans ?_ (by assumption) | with_reducible refine BoxN.alloc ?_ _ | with_reducible refine BoxN.drew ?_ | with_reducible refine BoxN.drewN ?_ _ | with_reducible refine BoxN.other ?_ (by omega) _ | with_reducible refine BoxN.set ?_ _ _ | with_reducible apply BoxN.set1 | with_reducible apply BoxN.set2_1 | with_reducible apply BoxN.set2_0 | with_reducible apply BoxN.set5_4 | with_reducible apply BoxN.set5_3 | with_reducible apply BoxN.set5_2 | with_reducible apply BoxN.set5_1 | with_reducible apply BoxN.set5_0 | with_reducible apply BoxN.set3_2 | with_reducible apply BoxN.set3_1 | with_reducible apply BoxN.set3_0 | with_reducible apply BoxN.set4_3 | with_reducible apply BoxN.set4_2 | with_reducible apply BoxN.set4_1 | with_reducible apply BoxN.set4_0 | with_reducible refine BoxN.ext ?_ (by assumption))); done)
                  have sx : Ext w Wr := by rw [← hWr]; ((repeat (first | with_reducible assumption | with_reducible exact KeepsFrom.refl _ _ | with_reducible refine KF.set ?_ _ _ | with_reducible refine KF.alloc ?_ _ | with_reducible refine KF.drew ?_ | with_reducible refine KF.drewN ?_ _ | with_reducible refine KF.ext ?_ (by assumption) | with_reducible exact Below.refl _ _ | with_reducible refine BL.set ?_ _ _ _ (by omega) | with_reducible refine BL.alloc ?_ _ (by omega) | with_reducible refine BL.drew ?_ | with_reducible refine BL.drewN ?_ _ | with_reducible refine BL.ext ?_ (by assumption) (by omega) | with_reducible exact Ext.refl _ | with_reducible refine Ext.set ?_ (by omega) _ | with_reducible refine Ext.alloc ?_ _ | with_reducible refine Ext.drew ?_ | with_reducible refine Ext.drewN ?_ _ | with_reducible refine Ext.trans ?_ (by assumption) | with_reducible refine BoxN.alloc ?_ _ | with_reducible refine BoxN.drew ?_ | with_reducible refine BoxN.drewN ?_ _ | with_reducible refine BoxN.other ?_ (by omega) _ | with_reducible refine BoxN.set ?_ _ _ | with_reducible apply BoxN.set1 | with_reducible apply BoxN.set2_1 | with_reducible apply BoxN.set2_0 | with_reducible apply BoxN.set5_4 | with_reducible apply BoxN.set5_3 | with_reducible apply BoxN.set5_2 | with_reducible apply BoxN.set5_1 | with_reducible apply BoxN.set5_0 | with_reducible apply BoxN.set3_2 | with_reducible apply BoxN.set3_1 | with_reducible apply BoxN.set3_0 | with_reducible apply BoxN.set4_3 | with_reducible apply BoxN.set4_2 | with_reducible apply BoxN.set4_1 | with_reducible apply BoxN.set4_0 | with_reducible refine BoxN.ext ?_ (by assumption))); done)
                  clear hWr
                  refine bodyPost_ret (v := .tuple #[idVal (0, 0), .int .i64 0]) ?_ rfl ⟨by first | (rw [HF.out]; done) | (rw [HF.out]; rfl), sx⟩
                  simp [results, Try.f77, go_sem, idVal, s1.cell (j := 0) rfl, s1.cell (j := 1) rfl]
theorem rValid_any (u : Value) (t : Tr) (w : World) (hS : Sm t) (hs : SlR 3 RPr w u t) :
    Calls Try.prog 17 #[.agg #[u]] w fun e w' => e = .returned (.bool (validL t)) ∧ Ext w w' := by
  have HF := hide (fun w' (he : Ext w w') => rFault_any u t w' hS (hs.ext RPr.keeps he))
  obtain ⟨A, c, rfl, _, hcm, _⟩ := hs.at_
  go_enter Try.func17, Try.ntmps17
  go_wp2_with fail
  refine (HF.out _ ((Ext.refl w).alloc _)).mono ?_
  rintro e w2 ⟨rfl, he2⟩
  unfold idVal
  go_wp2
  go_ret
  refine ⟨ret_bool ?_, Ext.alloc (Ext.trans ((Ext.refl w).alloc _) he2) _⟩
  unfold validL
  rw [Bool.eq_iff_iff]; simp
end Go.Proofs.Ytoaopldaleaijaa

namespace Go.Proofs.Ytoaopldaleaijaa
set_option linter.unusedVariables false

def idA (x : Nat × Nat) : AV := .agg [.v (.int .i64 x.1), .v (.int .i64 x.2)]
theorem repL_cons {w : World} {F : Nat → Prop} {L : LMap} {x : AV} {xs : List AV} {vs : List Value} (h : RepL w F L (x :: xs) vs) : ∃ v us, vs = v :: us ∧ RepA w F L x v ∧ RepL w F L xs us := by
  obtain ⟨h1, h2⟩ := h
  cases vs with
  | nil => simp at h1
  | cons v us => exact ⟨v, us, rfl, h2 0 x v rfl rfl, by simpa using h1, fun i a u ha hu => h2 (i + 1) a u ha hu⟩
theorem repL_nil {w : World} {F : Nat → Prop} {L : LMap} {vs : List Value} (h : RepL w F L [] vs) : vs = [] := by
  have := h.1
  exact List.eq_nil_of_length_eq_zero (by simpa using this.symm)
theorem repL_tr {w : World} {F : Nat → Prop} {L : LMap} {t : Tr} {xs : List AV} {vs : Array Value} (hn : Nm t) (h : RepL w F L (.agg [.v (eT t)] :: xs) vs.toList) : ∃ u us, vs = (.agg #[u] :: us).toArray ∧ SlR 3 RPr w u t ∧ RepL w F L xs us := by
  obtain ⟨v, us, h1, h2, h3⟩ := repL_cons h
  obtain ⟨cs, rfl, h4⟩ := h2.aggL
  obtain ⟨u, rest, h5, h6, h7⟩ := repL_cons h4
  have := repL_nil h7
  subst this
  have hcs : cs = #[u] := Array.toList_inj.1 (by rw [h5])
  subst hcs
  exact ⟨u, us, Array.toList_inj.1 (by rw [h1]), tr_in hn h6.vI, h3⟩

section
theorem valid_specS (t : Tr) (hS : Sm t) (hN : Nm t) (b l : List Row) : ACalls Try.prog 67 [.agg [.v (eT t)]] b l (fun r b' l' => r = .v (.bool (validL t)) ∧ b' = b ∧ l' = l) := by
  refine ACalls.of_ext ⟨_, Try.func67, by kernel_rfl, by kernel_rfl⟩ (fun F L w vs hr => ?_)
  obtain ⟨u, us, rfl, hs, hr2⟩ := repL_tr hN hr
  obtain rfl := repL_nil hr2
  refine (Valid_any u t w hS hs).mono ?_
  rintro e w' ⟨rfl, he⟩
  exact ⟨he, _, _, rfl, .v _ _ (.bool _), rfl, rfl, rfl⟩
theorem rvalid_specS (t : Tr) (hS : Sm t) (hN : Nm t) (b l : List Row) : ACalls Try.prog 17 [.agg [.v (eT t)]] b l (fun r b' l' => r = .v (.bool (validL t)) ∧ b' = b ∧ l' = l) := by
  refine ACalls.of_ext ⟨_, Try.func17, by kernel_rfl, by kernel_rfl⟩ (fun F L w vs hr => ?_)
  obtain ⟨u, us, rfl, hs, hr2⟩ := repL_tr hN hr
  obtain rfl := repL_nil hr2
  refine (rValid_any u t w hS hs).mono ?_
  rintro e w' ⟨rfl, he⟩
  exact ⟨he, _, _, rfl, .v _ _ (.bool _), rfl, rfl, rfl⟩
theorem valid_spec (t : Tr) (hS : Small t) (hN : Nm t) (b l : List Row) : ACalls Try.prog 67 [.agg [.v (eT t)]] b l (fun r b' l' => r = .v (.bool (validL t)) ∧ b' = b ∧ l' = l) := valid_specS t hS.sm hN b l
end
end Go.Proofs.Ytoaopldaleaijaa

namespace Go.Proofs.Ytoaopldaleaijaa
set_option linter.unusedVariables false
set_option linter.unusedSimpArgs false
attribute [local go_sem ↓] run_skip run_region run_draw run_seq run_block run_exit run_ret run_cond atN_app seqC_normal seqC_exit seqC_ret seqQ_normal seqQ_exit seqQ_ret blkQ_normal blkQ_exit blkQ_ret runOps_nil runOps_cons runD_nil runD_cons grdO_true grdO_false grdD_true grdD_false ifC_true ifC_false opS_val opS_call opS_two opK_app dS_val dS_call dS_two dK_app kUp_same kUp_ne
attribute [local go_sem] rechks_nil rechks_cons rechk gcase_true gcase_false ex_val ex_val0 gd_none gd_some ev_t ev_c evs_nil evs_cons evo_some evo_none hget_at hget_first hsetB_at hsetB_first hsetL_at hsetL_first ofOpt_some aop aload astore aslice aappend aiaddr aiaddrA afaddr alen alenS acopy amm acall alookup amupdate alenM comma keyEq apick binV binVB binVS isSh intOp strOp boolOp shOp eqC eqF and2 cellsOf setFrom fillA fillS rd rdI elems mk bounds AV.cell List.all_cons List.all_nil Bool.and_true Bool.true_and Bool.and_self List.length_cons List.length_nil List.length_append Nat.reduceAdd Nat.reduceSub Nat.reduceMul Nat.zero_add Nat.add_zero List.cons_append List.nil_append List.append_assoc List.append_nil List.getElem?_cons_zero List.getElem?_cons_succ List.getElem?_nil List.set_cons_zero List.set_cons_succ List.drop_zero List.drop_succ_cons List.take_zero List.take_succ_cons List.take_nil List.drop_nil List.map_cons List.map_nil Option.map_some if_true if_false Bool.false_eq_true and_self true_and and_true Nat.reduceLeDiff Nat.reduceLT Nat.le_refl Nat.reduceEqDiff ite_true ite_false beq_self_eq_true beq_true beq_false Bool.not_true Bool.not_false Bool.true_beq Bool.false_beq map_vs vs_len vs_get vs_take vs_drop vs_snoc1 vs_snoc2 vs_snoc3 vs_snoc5 vs_set1 vs_set2 vs_rep wrap_id le_T lt_T le_F lt_F leI_T ltI_T leI_F ltI_F geI gtI get_T decide_true decide_false room List.getElem?_map List.length_map List.length_take Int.toNat_natCast Nat.min_def Nat.min_self nth_kOf put_kOf put_kNo kOv_cons kOv_nil KHas KArgs List.getElem_cons_zero List.getElem_cons_succ
/-- The stamp of an event. -/
noncomputable def vcs (t : Tr) (x : Nat × Nat) : List Int := fl t.length fun q => (vc t x q : Int)
theorem frz0_lt {m id ver sz : Nat} {rows : List (List IV)} {x : AV} (h : AVlt m x) (hm : m ≤ id) : frz0 id ver sz rows x = x := by
  cases h with
  | sl i v o n hi => simp only [frz0]; rw [if_neg (by omega)]
  | _ => rfl
theorem frz_lt {m id ver sz : Nat} {rows : List (List IV)} {x : AV} (h : AVlt m x) (hm : m ≤ id) : frz id ver sz rows x = x := by
  cases h with
  | agg cs hc =>
    simp only [frz]
    congr 1
    rw [List.map_congr_left (fun c hcc => frz0_lt (hc c hcc) hm), List.map_id']
  | tup cs hc =>
    simp only [frz]
    congr 1
    rw [List.map_congr_left (fun c hcc => frz0_lt (hc c hcc) hm), List.map_id']
  | sl i v o n hi => exact frz0_lt (.sl i v o n hi) hm
  | _ => rfl
theorem KHas.frz {f : Nat → AV} {m id ver sz : Nat} {rows : List (List IV)} (hm : m ≤ id) : ∀ {ov : List (Nat × AV)}, KHas f ov → KOvLt m ov → KHas (fun n => frz id ver sz rows (f n)) ov
  | [], _, _ => trivial
  | (n, x) :: r, h, ho => ⟨by show Go.Proofs.Ytoaopldaleaijaa.frz id ver sz rows (f n) = x; rw [h.1]; exact frz_lt ho.1 hm, KHas.frz hm h.2 ho.2⟩
theorem Weak.kroundF {N : Nat} {p : List (Nat × Nat)} {ov : List (Nat × AV)} {f g : Nat → AV} {b l l1 junk : List Row} {k i ver sz : Nat} {rows : List (List IV)} (hi : l[i]? = some (.live ver sz (vs rows))) (he : kAny p f = g) (h : KHas f ov) (hl : (l.set i (.dead ver)).map (rowMap (frz0 (b.length + i) ver sz rows)) = l1 ++ junk) (hE : KLt (b.length + k) g) (hk : k ≤ l1.length) (hki : l1.length ≤ i) (ho : KOvLt (b.length + l1.length) ov) (hb : RowsLt b.length b) (h1 : RowsLt (b.length + l1.length) l1) :
    Weak (kOf N f) b l (kOf N (kOv ov g)) b l1 := by
  have h2 := Weak.freezeR (e := kOf N f) (b := b) hi
  have h3 : (kOf N f).map (frz (b.length + i) ver sz rows) = kOf N (fun n => frz (b.length + i) ver sz rows (f n)) := by unfold kOf; rw [List.map_map]; rfl
  rw [h3] at h2
  refine h2.trans ?_
  refine Weak.kround (p := p) (k := k) ?_ (h.frz (m := b.length + l1.length) (by omega) ho) hl hE hk ho hb h1
  rw [← he]
  funext n
  unfold kAny
  split
  · rfl
  · rename_i hn
    have hf : f n = g n := by rw [← he]; unfold kAny; rw [if_neg hn]
    show frz (b.length + i) ver sz rows (f n) = f n
    rw [hf]
    exact frz_lt (m := b.length + k) (id := b.length + i) (hE n) (by omega)

/-- The stamps of a trace, as values. -/
noncomputable def stRow (t : Tr) (p n : Nat) : List (List IV) := fl n fun i => [.isl 1 ((vcs t (p, i + 1)).map eI)]
noncomputable def stAll (t : Tr) (n : Nat) : List (List IV) := fl n fun p => [.isl 1 (stRow t p (evsOf t p).length)]
theorem stRow_next {t : Tr} {p n : Nat} : stRow t p n ++ [[.isl 1 ((vcs t (p, n + 1)).map eI)]] = stRow t p (n + 1) := fl_next rfl
end Go.Proofs.Ytoaopldaleaijaa

namespace Go.Proofs.Ytoaopldaleaijaa
set_option linter.unusedVariables false
set_option linter.unusedSimpArgs false
theorem fl_const {α : Type} {n : Nat} {x : α} : fl n (fun _ => x) = List.replicate n x := by
  apply List.ext_getElem?
  intro j
  by_cases hj : j < n
  · rw [fl_get hj, List.getElem?_replicate_of_lt hj]
  · rw [fl_none (by omega), List.getElem?_eq_none (by simp; omega)]
/-- What is left to do. -/
def remN (len D : Nat → Nat) : Nat → Nat
  | 0 => 0
  | n + 1 => remN len D n + (len n - D n)
theorem remN_up {len D : Nat → Nat} {p v : Nat} : ∀ {n : Nat}, n ≤ p → remN len (fUp D p v) n = remN len D n
  | 0, _ => rfl
  | n + 1, h => by
    unfold remN
    rw [remN_up (by omega), fUp_ne (by omega)]
theorem remN_step {len D : Nat → Nat} {p : Nat} (hd : D p < len p) : ∀ {n : Nat}, p < n → remN len (fUp D p (D p + 1)) n + 1 = remN len D n
  | 0, h => by omega
  | n + 1, h => by
    unfold remN
    by_cases hp : p < n
    · have := remN_step (n := n) hd hp
      rw [fUp_ne (by omega)]; omega
    · obtain rfl : p = n := by omega
      rw [remN_up (Nat.le_refl _), fUp_same]; omega
def remT (t : Tr) (D : Nat → Nat) : Nat := remN (fun p => (evsOf t p).length) D t.length
theorem remT_step {t : Tr} {D : Nat → Nat} {p : Nat} (hp : p < t.length) (hd : D p < (evsOf t p).length) : remT t (fUp D p (D p + 1)) + 1 = remT t D := remN_step (len := fun p => (evsOf t p).length) hd hp
/-- The next event of a process can be done. -/
def Rdy (t : Tr) (D : Nat → Nat) (p : Nat) : Prop := D p < (evsOf t p).length ∧ ((evAt t (p, D p + 1)).kind = 3 → (sndr t (p, D p + 1)).2 ≤ D (sndr t (p, D p + 1)).1)
theorem none_left {t : Tr} (hv : Vok t) {D : Nat → Nat} (hD : ∀ p, p < t.length → D p ≤ (evsOf t p).length) (h : ∀ p, p < t.length → ¬ Rdy t D p) : ∀ p, p < t.length → D p = (evsOf t p).length := by
  intro p hp
  refine Classical.byContradiction fun hn => ?_
  obtain ⟨q, h1, h2, h3⟩ := some_ready hv D hD ⟨p, hp, by have := hD p hp; omega⟩
  exact h q h1 ⟨h2, h3⟩
/-- The stamp that went with a message, as far as its sender is done. -/
noncomputable def sentV (t : Tr) (D : Nat → Nat) (m : Nat) : IV := if 0 < (findV t 2 m).2 ∧ (findV t 2 m).2 ≤ D (findV t 2 m).1 then .isl 1 ((vcs t (findV t 2 m)).map eI) else .zsl
noncomputable def sentL (t : Tr) (D : Nat → Nat) : List (List IV) := fl 200 fun m => [sentV t D m]
theorem sentL_zero {t : Tr} : List.replicate 200 [AV.v IV.zsl] = vs (sentL t fun _ => 0) := by
  have : sentL t (fun _ => 0) = fl 200 fun _ => [.zsl] := by
    refine fl_congr (fun m _ => ?_)
    unfold sentV; rw [if_neg (fun h => by have := h.1; have := h.2; simp only at this; omega)]
  rw [this]
  unfold vs
  rw [fl_map]
  exact fl_const.symm
theorem sndr_own {t : Tr} (hv : Vok t) {x : Nat × Nat} (hx : x ∈ ids t) (hk : (evAt t x).kind = 2) : findV t 2 (evAt t x).msg = x := by
  have h := hv.pair x hx
  unfold pairF at h
  rw [if_pos (by rw [hk]; rfl)] at h
  have h2 : (findL t 2 (evAt t x).msg == some x) = true := by
    cases h3 : findL t 2 (evAt t x).msg == some x
    · rw [h3] at h; simp at h
    · rfl
  rw [findV_is (mem_ids.1 hx).2.1] at h2
  exact of_decide_eq_true h2
theorem msg_in {t : Tr} (hv : Vok t) {x : Nat × Nat} (hx : x ∈ ids t) (hk : (evAt t x).kind = 2 ∨ (evAt t x).kind = 3) : ∃ m : Nat, (evAt t x).msg = m ∧ m < 200 := by
  have h := formF_formed (hv.form x hx)
  unfold formedB at h
  rw [if_neg (by rcases hk with e | e <;> rw [e] <;> decide), if_pos (by rcases hk with e | e <;> rw [e] <;> decide)] at h
  simp only [Bool.and_eq_true, inB, decide_eq_true_eq] at h
  exact ⟨(evAt t x).msg.toNat, by omega, by omega⟩
theorem findV_some2 {t : Tr} {k m : Int} (h : 0 < (findV t k m).2) : findV t k m ∈ ids t ∧ (evAt t (findV t k m)).kind = k ∧ (evAt t (findV t k m)).msg = m := by
  unfold findV firstOf at h ⊢
  cases hf : (ids t).find? (keyB t k m) with
  | none => rw [hf] at h; simp at h
  | some y =>
    have h1 := List.mem_of_find?_eq_some hf
    have h2 := List.find?_some hf
    simp only [keyB, Bool.and_eq_true, beq_iff_eq] at h2
    exact ⟨h1, h2⟩
theorem sentV_same {t : Tr} {D : Nat → Nat} {p m : Nat} (h : findV t 2 m ≠ (p, D p + 1)) : sentV t (fUp D p (D p + 1)) m = sentV t D m := by
  unfold sentV
  by_cases hp : (findV t 2 m).1 = p
  · rw [hp, fUp_same]
    have : (findV t 2 m).2 ≠ D p + 1 := fun e => h (Prod.ext hp e)
    by_cases hc : 0 < (findV t 2 m).2 ∧ (findV t 2 m).2 ≤ D p
    · rw [if_pos hc, if_pos (by omega)]
    · rw [if_neg hc, if_neg (by omega)]
  · rw [fUp_ne hp]
theorem sentL_other {t : Tr} {D : Nat → Nat} {p : Nat} (hk : (evAt t (p, D p + 1)).kind ≠ 2) : sentL t (fUp D p (D p + 1)) = sentL t D := by
  refine fl_congr (fun m _ => ?_)
  rw [sentV_same]
  intro e
  refine hk ?_
  have := findV_some2 (t := t) (k := 2) (m := m) (by rw [e]; simp)
  rw [e] at this
  exact this.2.1
theorem sentL_send {t : Tr} (hv : Vok t) {D : Nat → Nat} {p m : Nat} (hx : (p, D p + 1) ∈ ids t) (hk : (evAt t (p, D p + 1)).kind = 2) (hm : (evAt t (p, D p + 1)).msg = m) : (sentL t D).set m [.isl 1 ((vcs t (p, D p + 1)).map eI)] = sentL t (fUp D p (D p + 1)) := by
  have ho := sndr_own hv hx hk
  rw [hm] at ho
  unfold sentL
  rw [fl_set]
  refine fl_congr (fun j _ => ?_)
  by_cases hj : j = m
  · subst hj
    rw [fUp_same]
    unfold sentV
    rw [ho, if_pos ⟨by simp, by simp [fUp_same]⟩]
  · rw [fUp_ne hj, sentV_same]
    intro e
    have := findV_some2 (t := t) (k := 2) (m := j) (by rw [e]; simp)
    rw [e, hm] at this
    have := this.2.2
    omega
/-- What a receiver finds. -/
theorem sentV_recv {t : Tr} (hv : Vok t) {D : Nat → Nat} {p m : Nat} (hx : (p, D p + 1) ∈ ids t) (hk : (evAt t (p, D p + 1)).kind = 3) (hm : (evAt t (p, D p + 1)).msg = m) :
    sentV t D m = if (sndr t (p, D p + 1)).2 ≤ D (sndr t (p, D p + 1)).1 then .isl 1 ((vcs t (sndr t (p, D p + 1))).map eI) else .zsl := by
  obtain ⟨h1, _⟩ := back_mem hv hx (sndr_back hk)
  have h2 := (mem_ids.1 h1).2.1
  unfold sndr at h2 ⊢
  rw [hm] at h2 ⊢
  unfold sentV
  by_cases hc : (findV t 2 m).2 ≤ D (findV t 2 m).1
  · rw [if_pos ⟨by omega, hc⟩, if_pos hc]
  · rw [if_neg (fun h => hc h.2), if_neg hc]
/-- The stamp of the event before. -/
noncomputable def prvV (t : Tr) (p k : Nat) : List Int := fl t.length fun q => (vPrev t p k q : Int)
theorem prvV_zero {t : Tr} {p : Nat} : (prvV t p 0).map eI = List.replicate t.length [.int .i64 0] := by
  unfold prvV
  rw [fl_map, ← fl_const]
  refine fl_congr (fun q _ => ?_)
  simp [vPrev, eI]
theorem prvV_succ {t : Tr} {p k : Nat} : prvV t p (k + 1) = vcs t (p, k + 1) := by
  refine fl_congr (fun q _ => ?_)
  unfold vPrev; rw [if_neg (by omega)]
/-- With what is received. -/
noncomputable def rcvV (t : Tr) (p k : Nat) : List Int := if (evAt t (p, k + 1)).kind = 3 then joinV (prvV t p k) (vcs t (sndr t (p, k + 1))) else prvV t p k
theorem rcvV_len {t : Tr} {p k : Nat} : (rcvV t p k).length = t.length := by
  unfold rcvV
  split
  · rw [joinV_len (by simp [prvV, vcs, fl_len])]; simp [prvV, fl_len]
  · simp [prvV, fl_len]
theorem vcs_set {t : Tr} (hv : Vok t) {p k : Nat} (hx : (p, k + 1) ∈ ids t) : (rcvV t p k).set p ((rcvV t p k).getD p 0 + 1) = vcs t (p, k + 1) := by
  have hl := rcvV_len (t := t) (p := p) (k := k)
  have hp := (mem_ids2.1 hx).1
  have hg : ∀ q, q < t.length → (rcvV t p k).getD q 0 = ((max (vPrev t p k q) (vRecv t (p, k + 1) q) : Nat) : Int) := by
    intro q hq
    unfold rcvV vRecv
    split
    · rw [joinV_get (by simp [prvV, vcs, fl_len]) (by simp [prvV, fl_len, hq])]
      unfold prvV vcs
      rw [fl_getD hq, fl_getD hq]
      omega
    · unfold prvV; rw [fl_getD hq]; omega
  refine ext_getD (by rw [List.length_set, hl]; simp [vcs, fl_len]) (fun q hq => ?_)
  rw [List.length_set, hl] at hq
  unfold vcs
  rw [fl_getD hq, vc_step hv hx hq]
  by_cases hqp : q = p
  · subst hqp
    rw [getD_at (by rw [List.length_set, hl]; exact hq), List.getElem_set_self, hg q hq, if_pos rfl]; omega
  · rw [getD_set_ne (fun e => hqp e.symm), hg q hq, if_neg hqp]; omega
end Go.Proofs.Ytoaopldaleaijaa

namespace Go.Proofs.Ytoaopldaleaijaa
set_option linter.unusedVariables false
set_option linter.unusedSimpArgs false
theorem not_hb_zero {t : Tr} {x : Nat × Nat} {q : Nat} : ¬ Hb t x (q, 0) := by
  intro h
  obtain ⟨y, hd, _⟩ := h.back
  rcases hd with ⟨h1, _⟩ | ⟨_, h1⟩
  · simp at h1
  · have := mem_pos (firstOf_find h1).2.2
    simp at this
theorem vc_zero {t : Tr} {p q : Nat} : vc t (p, 0) q = 0 := by
  unfold vc
  rw [List.countP_eq_zero]
  intro i _ h
  rw [leB_iff] at h
  rcases h with h | h
  · simp at h
  · exact not_hb_zero h
theorem vc_row {t : Tr} {q a b j : Nat} (h : a ≤ b) (hb : b ≤ (evsOf t q).length) : vc t (q, a) j ≤ vc t (q, b) j := by
  by_cases ha : a = 0
  · subst ha; rw [vc_zero]; omega
  · exact vc_mono (le_row h hb) j
theorem vc_max {t : Tr} {q a c j : Nat} (ha : a ≤ (evsOf t q).length) (hc : c ≤ (evsOf t q).length) : vc t (q, max a c) j = max (vc t (q, a) j) (vc t (q, c) j) := by
  rcases Nat.le_total a c with h | h
  · have := vc_row (t := t) (j := j) h hc
    rw [Nat.max_eq_right h, Nat.max_eq_right this]
  · have := vc_row (t := t) (j := j) h ha
    rw [Nat.max_eq_left h, Nat.max_eq_left this]
theorem vc_self {t : Tr} (hv : Vok t) {p i : Nat} (hp : p < t.length) (hi : i ≤ (evsOf t p).length) : vc t (p, i) p = i := by
  cases i with
  | zero => exact vc_zero
  | succ i => exact vc_own hv (mem_ids2.2 ⟨hp, hi⟩)
theorem vc_stepA {t : Tr} (hv : Vok t) {p i : Nat} (hx : (p, i + 1) ∈ ids t) {q : Nat} (hq : q < t.length) :
    vc t (p, i + 1) q = max (vc t (p, i) q) (if (evAt t (p, i + 1)).kind = 3 then vc t (sndr t (p, i + 1)) q else 0) + if q = p then 1 else 0 := by
  rw [vc_step hv hx hq]
  unfold vPrev vRecv
  by_cases hi : i = 0
  · subst hi; simp only [if_true, vc_zero]
  · rw [if_neg hi]
noncomputable def mE (t : Tr) (x : Nat × Nat) (q j : Nat) : Nat := vc t (q, vc t x q) j
/-- The matrix after an event. -/
noncomputable def mtx (t : Tr) (x : Nat × Nat) : List (List Int) := fl t.length fun q => fl t.length fun j => (mE t x q j : Int)
theorem mtx_len {t : Tr} {x : Nat × Nat} : (mtx t x).length = t.length := fl_len
theorem mtx_row {t : Tr} {x : Nat × Nat} {q : Nat} (h : q < t.length) : rowAt (mtx t x) q = fl t.length fun j => (mE t x q j : Int) := fl_getD h
theorem mtx_ent {t : Tr} {x : Nat × Nat} {q j : Nat} (h : q < t.length) (hj : j < t.length) : ent (mtx t x) q j = mE t x q j := by
  unfold ent; rw [mtx_row h, fl_getD hj]
theorem mtx_zero {t : Tr} {p : Nat} : mtx t (p, 0) = zeroM t.length := by
  unfold mtx zeroM
  refine fl_congr (fun q _ => ?_)
  rw [← fl_const]
  refine fl_congr (fun j _ => ?_)
  unfold mE
  rw [vc_zero, vc_zero]; rfl
theorem mtx_isM {t : Tr} (hv : Vok t) (hS : Small t) (h1 : 1 ≤ t.length) (x : Nat × Nat) : isM (mtx t x) = true := by
  refine isM_mk (by rw [mtx_len]; exact h1) (by rw [mtx_len]; exact hv.hi) (fun i hi => ?_) (fun i j hi hj => ?_)
  · rw [mtx_len] at hi ⊢; rw [mtx_row hi, fl_len]
  · rw [mtx_len] at hi hj
    rw [mtx_ent hi hj]
    unfold mE
    have h2 := vc_le (t := t) (x := (i, vc t x i)) (q := j)
    have h3 := hS.ne _ (List.getElem_mem hj)
    rw [evsOf_lt hj] at h2
    omega
theorem mtx_fit {t : Tr} (hv : Vok t) (x : Nat × Nat) : Fit (mtx t x) := by
  have h8 := hv.hi
  refine ⟨by rw [mtx_len]; omega, fun r hr => ?_⟩
  obtain ⟨q, hq, rfl⟩ := List.mem_map.1 hr
  rw [fl_len]; omega
theorem mtx_tick {t : Tr} (hv : Vok t) {p i : Nat} (hx : (p, i + 1) ∈ ids t) (hk : (evAt t (p, i + 1)).kind ≠ 3) : mtx t (p, i + 1) = tickM (mtx t (p, i)) p := by
  obtain ⟨hp, hi⟩ := mem_ids2.1 hx
  have st : ∀ q, q < t.length → vc t (p, i + 1) q = vc t (p, i) q + if q = p then 1 else 0 := fun q hq => by rw [vc_stepA hv hx hq, if_neg hk]; simp
  unfold tickM
  rw [mtx_len]
  unfold mtx
  refine fl_congr (fun q hq => ?_)
  by_cases hqp : q = p
  · subst hqp
    rw [if_pos rfl, show rowAt (fl t.length fun q' => fl t.length fun j => (mE t (q, i) q' j : Int)) q = fl t.length fun j => (mE t (q, i) q j : Int) from fl_getD hq, fl_set]
    refine fl_congr (fun j hj => ?_)
    have e1 : mE t (q, i + 1) q j = vc t (q, i + 1) j := by unfold mE; rw [vc_own hv hx]
    have e2 : ∀ j, mE t (q, i) q j = vc t (q, i) j := fun j => by unfold mE; rw [vc_self hv hq (by omega)]
    have e3 : ent (mtx t (q, i)) q q = vc t (q, i) q := by rw [mtx_ent hq hq, e2]
    unfold mtx at e3
    rw [e3, e1, st j hj]
    by_cases hjq : j = q
    · subst hjq; rw [fUp_same, if_pos rfl]; omega
    · rw [fUp_ne hjq, if_neg hjq, e2]; omega
  · rw [if_neg hqp, show rowAt (fl t.length fun q' => fl t.length fun j => (mE t (p, i) q' j : Int)) q = fl t.length fun j => (mE t (p, i) q j : Int) from fl_getD hq]
    refine fl_congr (fun j hj => ?_)
    unfold mE
    rw [st q hq, if_neg hqp, Nat.add_zero]
theorem sndr_in {t : Tr} (hv : Vok t) {x : Nat × Nat} (hx : x ∈ ids t) (hk : (evAt t x).kind = 3) : sndr t x ∈ ids t ∧ Hb t (sndr t x) x := back_mem hv hx (sndr_back hk)
theorem mtx_recv {t : Tr} (hv : Vok t) {p i : Nat} (hx : (p, i + 1) ∈ ids t) (hk : (evAt t (p, i + 1)).kind = 3) :
    mtx t (p, i + 1) = tickM (recvM (mtx t (p, i)) p (mtx t (sndr t (p, i + 1))) (sndr t (p, i + 1)).1) p := by
  obtain ⟨hp, hi⟩ := mem_ids2.1 hx
  obtain ⟨hs, hb⟩ := sndr_in hv hx hk
  have st : ∀ q, q < t.length → vc t (p, i + 1) q = max (vc t (p, i) q) (vc t (sndr t (p, i + 1)) q) + if q = p then 1 else 0 := fun q hq => by rw [vc_stepA hv hx hq, if_pos hk]
  generalize hsd : sndr t (p, i + 1) = s at *
  obtain ⟨sp, si⟩ := s
  obtain ⟨hsp, hs1, hs2⟩ := mem_ids.1 hs
  simp only at hsp hs1 hs2
  have hsl : si ≤ (evsOf t sp).length := by rw [evsOf_lt hsp]; exact hs2
  have hsi : vc t (sp, si) sp = si := vc_self hv hsp hsl
  have hle : vc t (sp, si) p ≤ i := by
    refine Nat.le_of_not_lt fun h => ?_
    have := (vc_iff (x := (sp, si)) hi).2 h
    have h2 := rk_lt hv hx hb
    rcases this with h3 | h3
    · rw [h3] at h2; omega
    · have h4 := rk_lt hv hs h3; omega
  have hrl : ∀ x q, q < t.length → (rowAt (mtx t x) q).length = t.length := fun x q hq => by rw [mtx_row hq, fl_len]
  have hrg : ∀ x q j, q < t.length → j < t.length → (rowAt (mtx t x) q).getD j 0 = mE t x q j := fun x q j hq hj => by rw [mtx_row hq, fl_getD hj]
  have hml : (recvM (mtx t (p, i)) p (mtx t (sp, si)) sp).length = t.length := by unfold recvM; rw [fl_len, mtx_len]
  have hrow : ∀ q, q < t.length → rowAt (recvM (mtx t (p, i)) p (mtx t (sp, si)) sp) q = fl t.length fun j => if q = p then max (max (mE t (p, i) p j : Int) (mE t (sp, si) p j)) (mE t (sp, si) sp j) else max (mE t (p, i) q j : Int) (mE t (sp, si) q j) := by
    intro q hq
    rw [recvM_row (by rw [mtx_len]; exact hq)]
    unfold recvF
    by_cases hqp : q = p
    · rw [if_pos hqp, joinV_fl (hrl _ _ hp) (hrl _ _ hp), joinV_fl (n := t.length) fl_len (hrl _ _ hsp)]
      refine fl_congr (fun j hj => ?_)
      rw [if_pos hqp, fl_getD hj, hrg _ _ _ hp hj, hrg _ _ _ hp hj, hrg _ _ _ hsp hj]
    · rw [if_neg hqp, joinV_fl (hrl _ _ hq) (hrl _ _ hq)]
      refine fl_congr (fun j hj => ?_)
      rw [if_neg hqp, hrg _ _ _ hq hj, hrg _ _ _ hq hj]
  have ep : ∀ j, j < t.length → max (max (mE t (p, i) p j : Int) (mE t (sp, si) p j)) (mE t (sp, si) sp j) = max (vc t (p, i) j : Int) (vc t (sp, si) j) := by
    intro j hj
    have a1 : mE t (p, i) p j = vc t (p, i) j := by unfold mE; rw [vc_self hv hp (by omega)]
    have a2 : mE t (sp, si) sp j = vc t (sp, si) j := by unfold mE; rw [hsi]
    have a3 : mE t (sp, si) p j ≤ vc t (p, i) j := by unfold mE; exact vc_row hle (by omega)
    rw [a1, a2]; omega
  unfold tickM
  rw [hml]
  unfold mtx
  refine fl_congr (fun q hq => ?_)
  by_cases hqp : q = p
  · subst hqp
    rw [if_pos rfl]
    unfold ent
    have e3 := hrow q hq
    unfold mtx at e3
    rw [e3, fl_set]
    refine fl_congr (fun j hj => ?_)
    have e1 : mE t (q, i + 1) q j = vc t (q, i + 1) j := by unfold mE; rw [vc_own hv hx]
    rw [e1, st j hj]
    by_cases hjq : j = q
    · subst hjq
      rw [fUp_same, if_pos rfl, fl_getD hj, if_pos rfl, ep j hj]; omega
    · rw [fUp_ne hjq, if_neg hjq, if_pos rfl, ep j hj]; omega
  · rw [if_neg hqp]
    have e3 := hrow q hq
    unfold mtx at e3
    rw [e3]
    refine fl_congr (fun j hj => ?_)
    rw [if_neg hqp]
    have e4 : mE t (p, i + 1) q j = max (mE t (p, i) q j) (mE t (sp, si) q j) := by
      unfold mE
      rw [st q hq, if_neg hqp, Nat.add_zero, vc_max vc_le vc_le]
    rw [e4]; omega
end Go.Proofs.Ytoaopldaleaijaa

namespace Go.Proofs.Ytoaopldaleaijaa
set_option linter.unusedVariables false
set_option linter.unusedSimpArgs false
attribute [local go_sem ↓] run_skip run_region run_draw run_seq run_block run_exit run_ret run_cond atN_app seqC_normal seqC_exit seqC_ret seqQ_normal seqQ_exit seqQ_ret blkQ_normal blkQ_exit blkQ_ret runOps_nil runOps_cons runD_nil runD_cons grdO_true grdO_false grdD_true grdD_false ifC_true ifC_false opS_val opS_call opS_two opK_app dS_val dS_call dS_two dK_app kUp_same kUp_ne
attribute [local go_sem] rechks_nil rechks_cons rechk gcase_true gcase_false ex_val ex_val0 gd_none gd_some ev_t ev_c evs_nil evs_cons evo_some evo_none hget_at hget_first hsetB_at hsetB_first hsetL_at hsetL_first ofOpt_some aop aload astore aslice aappend aiaddr aiaddrA afaddr alen alenS acopy amm acall alookup amupdate alenM comma keyEq apick binV binVB binVS isSh intOp strOp boolOp shOp eqC eqF and2 cellsOf setFrom fillA fillS rd rdI elems mk bounds AV.cell List.all_cons List.all_nil Bool.and_true Bool.true_and Bool.and_self List.length_cons List.length_nil List.length_append Nat.reduceAdd Nat.reduceSub Nat.reduceMul Nat.zero_add Nat.add_zero List.cons_append List.nil_append List.append_assoc List.append_nil List.getElem?_cons_zero List.getElem?_cons_succ List.getElem?_nil List.set_cons_zero List.set_cons_succ List.drop_zero List.drop_succ_cons List.take_zero List.take_succ_cons List.take_nil List.drop_nil List.map_cons List.map_nil Option.map_some if_true if_false Bool.false_eq_true and_self true_and and_true Nat.reduceLeDiff Nat.reduceLT Nat.le_refl Nat.reduceEqDiff ite_true ite_false beq_self_eq_true beq_true beq_false Bool.not_true Bool.not_false Bool.true_beq Bool.false_beq map_vs vs_len vs_get vs_take vs_drop vs_snoc1 vs_snoc2 vs_snoc3 vs_snoc5 vs_set1 vs_set2 vs_rep wrap_id le_T lt_T le_F lt_F leI_T ltI_T leI_F ltI_F geI gtI get_T decide_true decide_false room List.getElem?_map List.length_map List.length_take Int.toNat_natCast Nat.min_def Nat.min_self nth_kOf put_kOf put_kNo kOv_cons kOv_nil KHas KArgs List.getElem_cons_zero List.getElem_cons_succ
def a_knows : AFunc := ⟨1, 52, [.cell 2 (some 3)],
  (.seq (.region [⟨(some 1), .box (.t 0), none⟩, ⟨(some 2), .alloc [(.v .zsl), (.v .nilm), (.v .nilm)], none⟩])
  (.seq (.region [⟨(some 9), .load (some 1) (.t 1), none⟩, ⟨(some 10), .mkmap, none⟩, ⟨(some 11), .mkmap, none⟩, ⟨(some 12), .build [(.v .zsl), (.v .nilm), (.v .nilm)] [(0, 1, (.t 9)), (1, 1, (.t 10)), (2, 1, (.t 11))], none⟩, ⟨(some 3), .alloc [(.v .zsl), (.v .nilm), (.v .nilm)], none⟩, ⟨none, .store 3 (.t 3) (.t 12), none⟩])
  (.seq (.seq (.region [⟨(some 13), .faddr 0 (.t 1), none⟩, ⟨(some 14), .load none (.t 13), none⟩, ⟨(some 15), .len (.t 14), none⟩, ⟨(some 16), .mv (.c (.v (.int .i64 0))), none⟩])
  (.block 0 (.loop (.seq (.region [⟨(some 17), .bin .lss (.t 16) (.t 15), none⟩])
  (.seq (.cond (.t 17) .skip
  (.exit 0))
  (.seq (.block 1 (.seq (.region [⟨(some 18), .mv (.t 16), none⟩, ⟨(some 19), .iaddr 3 (.t 14) (.t 16), none⟩, ⟨(some 20), .load (some 3) (.t 19), none⟩, ⟨(some 5), .alloc [(.v (.str ⟨#[]⟩)), (.v .zsl), (.v .zsl)], none⟩, ⟨(some 4), .mv (.t 18), none⟩, ⟨none, .store 3 (.t 5) (.t 20), none⟩])
  (.seq (.region [⟨(some 21), .faddr 2 (.t 5), none⟩, ⟨(some 22), .load none (.t 21), none⟩, ⟨(some 23), .len (.t 22), none⟩, ⟨(some 24), .mv (.c (.v (.int .i64 0))), none⟩])
  (.block 2 (.loop (.seq (.region [⟨(some 25), .bin .lss (.t 24) (.t 23), none⟩])
  (.seq (.cond (.t 25) .skip
  (.exit 2))
  (.seq (.block 3 (.seq (.region [⟨(some 26), .mv (.t 24), none⟩, ⟨(some 27), .iaddr 5 (.t 22) (.t 24), none⟩, ⟨(some 28), .load (some 5) (.t 27), none⟩, ⟨(some 7), .alloc [(.v (.int .i64 0)), (.v (.int .i64 0)), (.v (.int .i64 0)), (.v (.int .i64 0)), (.v .zsl)], none⟩, ⟨(some 6), .mv (.t 26), none⟩, ⟨none, .store 5 (.t 7) (.t 28), none⟩])
  (.seq (.region [⟨(some 29), .mv (.t 4), none⟩, ⟨(some 30), .mv (.t 6), none⟩, ⟨(some 31), .bin .add (.t 30) (.c (.v (.int .i64 1))), none⟩, ⟨(some 32), .build [(.v (.int .i64 0)), (.v (.int .i64 0))] [(0, 1, (.t 29)), (1, 1, (.t 31))], none⟩, ⟨(some 8), .alloc [(.v (.int .i64 0)), (.v (.int .i64 0))], none⟩, ⟨none, .store 2 (.t 8) (.t 32), none⟩])
  (.seq (.region [⟨(some 33), .faddr 0 (.t 7), none⟩, ⟨(some 34), .load none (.t 33), none⟩])
  (.block 4 (.seq (.region [⟨(some 36), .bin .eql (.t 34) (.c (.v (.int .i64 2))), none⟩, ⟨(some 35), .mv (.t 36), none⟩])
  (.cond (.t 35) (.region [⟨(some 37), .faddr 1 (.t 3), none⟩, ⟨(some 38), .load none (.t 37), none⟩, ⟨(some 39), .faddr 2 (.t 7), none⟩, ⟨(some 40), .load none (.t 39), none⟩, ⟨(some 41), .load (some 2) (.t 8), none⟩, ⟨none, .mupdate (.one .i) (.t 38) (.t 40) (.t 41), none⟩])
  (.seq (.region [⟨(some 43), .bin .eql (.t 34) (.c (.v (.int .i64 3))), none⟩, ⟨(some 42), .mv (.t 43), none⟩])
  (.cond (.t 42) (.region [⟨(some 44), .faddr 2 (.t 3), none⟩, ⟨(some 45), .load none (.t 44), none⟩, ⟨(some 46), .faddr 2 (.t 7), none⟩, ⟨(some 47), .load none (.t 46), none⟩, ⟨(some 48), .load (some 2) (.t 8), none⟩, ⟨none, .mupdate (.one .i) (.t 45) (.t 47) (.t 48), none⟩])
  .skip)))))))))
  (.region [⟨(some 49), .bin .add (.t 24) (.c (.v (.int .i64 1))), none⟩, ⟨(some 24), .mv (.t 49), none⟩])))))))))
  (.region [⟨(some 50), .bin .add (.t 16) (.c (.v (.int .i64 1))), none⟩, ⟨(some 16), .mv (.t 50), none⟩])))))))
  (.seq (.region [⟨(some 51), .load (some 3) (.t 3), none⟩, ⟨none, .store 3 (.t 2) (.t 51), none⟩])
  .ret))))⟩
theorem a_knows_ok : cFunc Try.prog 79 = some a_knows := by kernel_rfl
def r_knows0 : List (Nat × Nat) := [(4, 8), (16, 50)]
def r_knows1 : List (Nat × Nat) := [(6, 8), (24, 49)]
def a_kevent : AFunc := ⟨2, 18, [.cell 4 (some 5)],
  (.seq (.region [⟨(some 2), .box (.t 0), none⟩, ⟨(some 3), .box (.t 1), none⟩, ⟨(some 4), .alloc [(.v (.int .i64 0)), (.v (.int .i64 0)), (.v (.int .i64 0)), (.v (.int .i64 0)), (.v .zsl)], none⟩])
  (.seq (.draw [⟨0, ⟨(some 5), .faddr 0 (.t 2), none⟩, []⟩, ⟨1, ⟨(some 6), .faddr 0 (.t 5), none⟩, []⟩, ⟨2, ⟨(some 7), .load none (.t 6), none⟩, []⟩, ⟨3, ⟨(some 8), .faddr 0 (.t 3), none⟩, []⟩, ⟨4, ⟨(some 9), .load none (.t 8), none⟩, []⟩, ⟨5, ⟨(some 10), .iaddr 3 (.t 7) (.t 9), none⟩, []⟩, ⟨6, ⟨(some 11), .faddr 2 (.t 10), none⟩, []⟩, ⟨7, ⟨(some 12), .load none (.t 11), none⟩, []⟩, ⟨8, ⟨(some 13), .faddr 1 (.t 3), none⟩, []⟩, ⟨9, ⟨(some 14), .load none (.t 13), none⟩, []⟩, ⟨10, ⟨(some 15), .bin .sub (.t 14) (.c (.v (.int .i64 1))), none⟩, []⟩, ⟨11, ⟨(some 16), .iaddr 5 (.t 12) (.t 15), none⟩, []⟩, ⟨12, ⟨(some 17), .load (some 5) (.t 16), none⟩, []⟩, ⟨13, ⟨none, .store 5 (.t 4) (.t 17), none⟩, []⟩])
  .ret))⟩
theorem a_kevent_ok : cFunc Try.prog 136 = some a_kevent := by kernel_rfl
def a_kback : AFunc := ⟨2, 34, [.tmp 4],
  (.seq (.region [⟨(some 2), .box (.t 0), none⟩, ⟨(some 3), .box (.t 1), none⟩, ⟨(some 4), .mv (.c (.v .zsl)), none⟩])
  (.seq (.region [⟨(some 5), .mv (.c (.v .zsl)), none⟩])
  (.seq (.seq (.region [⟨(some 7), .faddr 1 (.t 3), none⟩, ⟨(some 8), .load none (.t 7), none⟩, ⟨(some 9), .bin .gtr (.t 8) (.c (.v (.int .i64 1))), none⟩])
  (.cond (.t 9) (.region [⟨(some 10), .mv (.t 5), none⟩, ⟨(some 11), .faddr 0 (.t 3), none⟩, ⟨(some 12), .load none (.t 11), none⟩, ⟨(some 13), .faddr 1 (.t 3), none⟩, ⟨(some 14), .load none (.t 13), none⟩, ⟨(some 15), .bin .sub (.t 14) (.c (.v (.int .i64 1))), none⟩, ⟨(some 16), .build [(.v (.int .i64 0)), (.v (.int .i64 0))] [(0, 1, (.t 12)), (1, 1, (.t 15))], none⟩, ⟨(some 17), .bslice 2 [(.v (.int .i64 0)), (.v (.int .i64 0))] 1 [(0, (.t 16))], none⟩, ⟨(some 18), .append 2 16 (.t 10) (.t 17), none⟩, ⟨(some 5), .mv (.t 18), none⟩])
  .skip))
  (.seq (.seq (.region [⟨(some 19), .load (some 3) (.t 2), none⟩, ⟨(some 20), .load (some 2) (.t 3), none⟩, ⟨(some 21), .call (.c (.fn 136 [])) [(.t 19), (.t 20)], none⟩, ⟨(some 6), .alloc [(.v (.int .i64 0)), (.v (.int .i64 0)), (.v (.int .i64 0)), (.v (.int .i64 0)), (.v .zsl)], none⟩, ⟨none, .store 5 (.t 6) (.t 21), none⟩])
  (.seq (.region [⟨(some 22), .faddr 0 (.t 6), none⟩, ⟨(some 23), .load none (.t 22), none⟩, ⟨(some 24), .bin .eql (.t 23) (.c (.v (.int .i64 3))), none⟩])
  (.cond (.t 24) (.region [⟨(some 25), .mv (.t 5), none⟩, ⟨(some 26), .faddr 1 (.t 2), none⟩, ⟨(some 27), .load none (.t 26), none⟩, ⟨(some 28), .faddr 2 (.t 6), none⟩, ⟨(some 29), .load none (.t 28), none⟩, ⟨(some 30), .lookup (.one .i) (.agg [(.v (.int .i64 0)), (.v (.int .i64 0))]) false (.t 27) (.t 29), none⟩, ⟨(some 31), .bslice 2 [(.v (.int .i64 0)), (.v (.int .i64 0))] 1 [(0, (.t 30))], none⟩, ⟨(some 32), .append 2 16 (.t 25) (.t 31), none⟩, ⟨(some 5), .mv (.t 32), none⟩])
  .skip)))
  (.seq (.region [⟨(some 33), .mv (.t 5), none⟩, ⟨(some 4), .mv (.t 33), none⟩])
  .ret)))))⟩
theorem a_kback_ok : cFunc Try.prog 133 = some a_kback := by kernel_rfl

/-- The places of the messages that events of a kind name, as a map. -/
def mpL (t : Tr) (k : Int) (l : List (Nat × Nat)) : List (List AV) := (l.filter fun x => (evAt t x).kind == k).map fun x => [.v (.int .i64 (evAt t x).msg), idA x]
theorem findM_mp {t : Tr} {k m : Int} : ∀ l, findM (.one .i) (.v (.int .i64 m)) (mpL t k l) = some ((l.find? (keyB t k m)).map idA)
  | [] => rfl
  | x :: l => by
    have ih := findM_mp (t := t) (k := k) (m := m) l
    unfold mpL at ih ⊢
    cases hk : (evAt t x).kind == k with
    | false =>
      rw [List.filter_cons_of_neg (by simp [hk]), ih, List.find?_cons_of_neg (by simp [keyB, hk])]
    | true =>
      rw [List.filter_cons_of_pos (by simp [hk]), List.map_cons]
      cases hm : (evAt t x).msg == m with
      | true =>
        rw [List.find?_cons_of_pos (by simp [keyB, hk, hm])]
        have : m = (evAt t x).msg := by simpa using (beq_iff_eq.1 hm).symm
        simp [findM, keyEq, eqF, this]
      | false =>
        rw [List.find?_cons_of_neg (by simp [keyB, hk, hm]), ← ih]
        have : (m == (evAt t x).msg) = false := by
          rw [beq_eq_false_iff_ne] at hm ⊢; exact fun h => hm h.symm
        simp [findM, keyEq, eqF, this]
theorem updM_new {kk : KK} {x v : AV} : ∀ {els : List (List AV)}, findM kk x els = some none → updM kk x v els = some (els ++ [[x, v]])
  | [], _ => rfl
  | [y, u] :: r, h => by
    simp only [findM] at h
    simp only [updM]
    split at h
    · cases h
    · rename_i hq
      simp only [updM_new h, Option.map_some, List.cons_append]
    · cases h
  | [] :: _, h => by simp [findM] at h
  | [_] :: _, h => by simp [findM] at h
  | (_ :: _ :: _ :: _) :: _, h => by simp [findM] at h
theorem find_fresh {t : Tr} {k : Int} {p i : Nat} (hp : p < t.length) (hi : i < t[p].evs.length) {m : Int} (h : findL t k m = some (p, i + 1)) : (idsTo t p i).find? (keyB t k m) = none := by
  obtain ⟨c, hc⟩ := idsTo_prefix t p (i + 1) hp hi
  have hn := nodup_ids t
  rw [← hc, idsTo_succ] at hn
  cases hf : (idsTo t p i).find? (keyB t k m) with
  | none => rfl
  | some y =>
    have e : findL t k m = (ids t).find? (keyB t k m) := rfl
    rw [e, ← hc, idsTo_succ, List.append_assoc, List.find?_append, hf] at h
    simp at h
    subst h
    have hm := List.mem_of_find?_eq_some hf
    have hd := (List.nodup_append.1 (List.nodup_append.1 hn).1).2.2
    exact absurd rfl (hd _ hm _ (by simp))
theorem mp_next {t : Tr} {k : Int} {l : List (Nat × Nat)} {x : Nat × Nat} (hk : (evAt t x).kind = k) (hf : l.find? (keyB t k (evAt t x).msg) = none) : updM (.one .i) (.v (.int .i64 (evAt t x).msg)) (idA x) (mpL t k l) = some (mpL t k (l ++ [x])) := by
  rw [updM_new (by rw [findM_mp, hf]; rfl)]
  unfold mpL
  rw [List.filter_append, List.map_append, List.filter_cons_of_pos (by simp [hk])]
  rfl
theorem mp_skip {t : Tr} {k : Int} {l : List (Nat × Nat)} {x : Nat × Nat} (hk : (evAt t x).kind ≠ k) : mpL t k (l ++ [x]) = mpL t k l := by
  unfold mpL
  rw [List.filter_append, List.filter_cons_of_neg (by simpa using hk)]
  simp
def kA (t : Tr) (s r : Nat) : AV := .agg [.v (eT t), .mp s 0, .mp r 0]
/-- The rows that knows leaves. -/
def knoR (t : Tr) (n : Nat) (l : List (Nat × Nat)) : List Row := [.live 0 1 [[.v (eT t)]], .live 0 3 [[.v (eT t), .mp (n + 2) 0, .mp (n + 3) 0]], .live 0 0 (mpL t 2 l), .live 0 0 (mpL t 3 l), .live 0 3 [[.v (eT t), .mp (n + 2) 0, .mp (n + 3) 0]]]
def knoR0 (t : Tr) (n : Nat) (l : List (Nat × Nat)) : List Row := [.live 0 1 [[.v (eT t)]], .live 0 3 [[.v .zsl, .v .nilm, .v .nilm]], .live 0 0 (mpL t 2 l), .live 0 0 (mpL t 3 l), .live 0 3 [[.v (eT t), .mp (n + 2) 0, .mp (n + 3) 0]]]
theorem mpL_lt {t : Tr} {k : Int} {l : List (Nat × Nat)} {m : Nat} : ∀ row ∈ mpL t k l, ∀ c ∈ row, AVlt m c := by
  intro row hr c hc
  obtain ⟨x, _, rfl⟩ := List.mem_map.1 hr
  simp only [List.mem_cons, List.not_mem_nil, or_false] at hc
  rcases hc with rfl | rfl
  · exact .v _
  · unfold idA; simp only [AVlt_v, AVlt_any, AVlt_sl, AVlt_ptr, AVlt_mp, AVlt_agg, AVlt_tup, AVlt_fn, RowsLt_nil, RowsLt_live, RowsLt_dead, List.mem_cons, List.not_mem_nil, List.forall_mem_cons, List.forall_mem_nil, or_false, false_or, forall_eq_or_imp, forall_eq, vs_lt, Nat.add_lt_add_iff_left, Nat.reduceLT, true_and, and_true, and_self, List.length_cons, List.length_nil, Nat.reduceAdd, Nat.zero_add, implies_true, false_imp_iff, lt_T, List.mem_map]
theorem knoR0_lt {t : Tr} {n m : Nat} {l : List (Nat × Nat)} {T : List Row} (h : n + 5 ≤ m) (hT : RowsLt m T) : RowsLt m (knoR0 t n l ++ T) := by
  intro id ver sz els hr row hrow c hc
  match id, hr with
  | 0, hr => cases hr; simp at hrow; subst hrow; simp at hc; subst hc; exact .v _
  | 1, hr => cases hr; simp at hrow; subst hrow; simp at hc; rcases hc with rfl | rfl <;> exact .v _
  | 2, hr => cases hr; exact mpL_lt row hrow c hc
  | 3, hr => cases hr; exact mpL_lt row hrow c hc
  | 4, hr => cases hr; simp at hrow; subst hrow; simp at hc; rcases hc with rfl | rfl | rfl <;> first | exact .v _ | exact .mp _ _ (by omega)
  | id + 5, hr => exact hT id ver sz els hr row hrow c hc
theorem knows_spec (t : Tr) (hv : Vok t) (hS : Small t) (b l : List Row) :
    ACalls Try.prog 79 [.agg [.v (eT t)]] b l (fun r b' l' => r = kA t (b.length + l.length + 2) (b.length + l.length + 3) ∧ b' = b ∧ l' = l ++ knoR t (b.length + l.length) (ids t)) := by
  refine calls_kept a_knows_ok rfl (by decide) ?_
  intro B g hB hR hE hA
  simp only [KArgs] at hA
  have hnp := hS.np
  have hBl : B.length = b.length + l.length := by rw [hB, List.length_append]
  simp (disch := decide) only [a_knows, eT, hA, List.length_map, go_sem]
  refine loop_kept (ι := Nat) r_knows0 (fun p => [(16, .v (.int .i64 p))]) 5 (fun p => knoR0 t B.length (idsTo t p 0))
    (fun p => p ≤ t.length) (fun p => t.length - p) 0 (Nat.zero_le _) (by (repeat (first | exact hE.mono (by omega) | refine KLt.up ?_ (by simp (disch := omega) only [AVlt_v, AVlt_any, AVlt_sl, AVlt_ptr, AVlt_mp, AVlt_agg, AVlt_tup, AVlt_fn, RowsLt_nil, RowsLt_live, RowsLt_dead, List.mem_cons, List.not_mem_nil, List.forall_mem_cons, List.forall_mem_nil, or_false, false_or, forall_eq_or_imp, forall_eq, vs_lt, Nat.add_lt_add_iff_left, Nat.reduceLT, true_and, and_true, and_self, List.length_cons, List.length_nil, Nat.reduceAdd, Nat.zero_add, implies_true, false_imp_iff, lt_T, List.mem_map])))) (by ((try simp (disch := decide) only [hA, go_sem]) <;> (repeat' (first | exact trivial | refine And.intro ?_ ?_)) <;> (first | rfl | (congr 2; omega)))) (fun e => Weak.refl _ _ _) ?_
  intro g1 hE1 hEE1 hg1 p hp
  by_cases hlt : p < t.length
  · have hne := hS.ne _ (List.getElem_mem hlt)
    simp (disch := (first | decide | omega)) only [hA, hg1, ePr, List.length_map, knoR0, go_sem]
    refine loop_kept (ι := Nat) r_knows1 (fun i => [(24, .v (.int .i64 i))]) 6 (fun i => knoR0 t B.length (idsTo t p i) ++ [.live 0 3 [[.v (.str t[p].name), .v (.isl 2 (t[p].vars.map eVr)), .v (.isl 5 (t[p].evs.map eEv))]]])
      (fun i => i ≤ t[p].evs.length) (fun i => t[p].evs.length - i) 0 (Nat.zero_le _) (by (repeat (first | exact hE1.mono (by omega) | refine KLt.up ?_ (by simp (disch := omega) only [AVlt_v, AVlt_any, AVlt_sl, AVlt_ptr, AVlt_mp, AVlt_agg, AVlt_tup, AVlt_fn, RowsLt_nil, RowsLt_live, RowsLt_dead, List.mem_cons, List.not_mem_nil, List.forall_mem_cons, List.forall_mem_nil, or_false, false_or, forall_eq_or_imp, forall_eq, vs_lt, Nat.add_lt_add_iff_left, Nat.reduceLT, true_and, and_true, and_self, List.length_cons, List.length_nil, Nat.reduceAdd, Nat.zero_add, implies_true, false_imp_iff, lt_T, List.mem_map])))) (by ((try simp (disch := decide) only [hA, hg1, go_sem]) <;> (repeat' (first | exact trivial | refine And.intro ?_ ?_)) <;> (first | rfl | (congr 2; omega)))) (fun e => Weak.refl _ _ _) ?_
    intro g2 hE2 hEE2 hg2 i hi
    by_cases hil : i < t[p].evs.length
    · have hx : (p, i + 1) ∈ ids t := mem_ids.2 ⟨hlt, by simp, by simp; omega⟩
      have hev := evAt_eq hlt hil
      have hsc := idsTo_succ t p i
      have hc : ((i + 1 : Nat) : Int) = (i : Int) + 1 := by omega
      have fin : ∀ l2, KHas l2 [(24, .v (.int .i64 ((i + 1 : Nat) : Int)))] → (∀ n, kAny r_knows1 l2 n = g2 n) → ∀ junk, Weak (kOf 52 l2) B (knoR0 t B.length (idsTo t p (i + 1)) ++ [.live 0 3 [[.v (.str t[p].name), .v (.isl 2 (t[p].vars.map eVr)), .v (.isl 5 (t[p].evs.map eEv))]]] ++ junk) (kOf 52 (kOv [(24, .v (.int .i64 ((i + 1 : Nat) : Int)))] g2)) B (knoR0 t B.length (idsTo t p (i + 1)) ++ [.live 0 3 [[.v (.str t[p].name), .v (.isl 2 (t[p].vars.map eVr)), .v (.isl 5 (t[p].evs.map eEv))]]]) := fun l2 h1 h2 junk =>
        Weak.kround (p := r_knows1) (k := 6) (funext h2) h1 rfl hE2 (by simp [knoR0]) (by simp (disch := omega) only [KOvLt, AVlt_v, AVlt_any, AVlt_sl, AVlt_ptr, AVlt_mp, AVlt_agg, AVlt_tup, AVlt_fn, RowsLt_nil, RowsLt_live, RowsLt_dead, List.mem_cons, List.not_mem_nil, List.forall_mem_cons, List.forall_mem_nil, or_false, false_or, forall_eq_or_imp, forall_eq, vs_lt, Nat.add_lt_add_iff_left, Nat.reduceLT, true_and, and_true, and_self, List.length_cons, List.length_nil, Nat.reduceAdd, Nat.zero_add, implies_true, false_imp_iff, lt_T, List.mem_map]) hR (knoR0_lt (T := [_]) (by simp [knoR0]) (by simp only [AVlt_v, AVlt_any, AVlt_sl, AVlt_ptr, AVlt_mp, AVlt_agg, AVlt_tup, AVlt_fn, RowsLt_nil, RowsLt_live, RowsLt_dead, List.mem_cons, List.not_mem_nil, List.forall_mem_cons, List.forall_mem_nil, or_false, false_or, forall_eq_or_imp, forall_eq, vs_lt, Nat.add_lt_add_iff_left, Nat.reduceLT, true_and, and_true, and_self, List.length_cons, List.length_nil, Nat.reduceAdd, Nat.zero_add, implies_true, false_imp_iff, lt_T, List.mem_map]))
      by_cases hk2 : t[p].evs[i].kind = 2
      · have hk2b : (t[p].evs[i].kind == 2) = true := by rw [hk2]; rfl
        have hf := find_fresh hlt hil (hv.paired.send hx (by rw [hev]; exact hk2))
        have h2 := mp_next (k := 2) (by rw [hev]; exact hk2) hf
        have h3 := mp_skip (k := 3) (l := idsTo t p i) (x := (p, i + 1)) (by rw [hev, hk2]; decide)
        rw [← hsc] at h2 h3
        rw [hev] at h2
        simp only [idA, hc] at h2
        simp (disch := (first | decide | omega)) only [hA, hg1, hg2, knoR0, eEv, hk2b, h2, go_sem]
        refine ⟨i + 1, hil, by simp only; omega, ?_⟩
        rw [← h3]
        exact fin _ (by ((try simp (disch := decide) only [hA, go_sem]) <;> (repeat' (first | exact trivial | refine And.intro ?_ ?_)) <;> (first | rfl | (congr 2; omega)))) (fun n => by rw [show kAny r_knows1 _ = g2 by ((repeat refine (kAny_up rfl).trans ?_); exact hEE2)]) _
      · have hk2b : (t[p].evs[i].kind == 2) = false := beq_eq_false_iff_ne.2 hk2
        have h2 := mp_skip (k := 2) (l := idsTo t p i) (x := (p, i + 1)) (by rw [hev]; exact hk2)
        by_cases hk3 : t[p].evs[i].kind = 3
        · have hk3b : (t[p].evs[i].kind == 3) = true := by rw [hk3]; rfl
          have hf := find_fresh hlt hil (hv.paired.recv hx (by rw [hev]; exact hk3)).1
          have h3 := mp_next (k := 3) (by rw [hev]; exact hk3) hf
          rw [← hsc] at h2 h3
          rw [hev] at h3
          simp only [idA, hc] at h3
          simp (disch := (first | decide | omega)) only [hA, hg1, hg2, knoR0, eEv, hk2b, hk3b, h3, go_sem]
          refine ⟨i + 1, hil, by simp only; omega, ?_⟩
          rw [← h2]
          exact fin _ (by ((try simp (disch := decide) only [hA, go_sem]) <;> (repeat' (first | exact trivial | refine And.intro ?_ ?_)) <;> (first | rfl | (congr 2; omega)))) (fun n => by rw [show kAny r_knows1 _ = g2 by ((repeat refine (kAny_up rfl).trans ?_); exact hEE2)]) _
        · have hk3b : (t[p].evs[i].kind == 3) = false := beq_eq_false_iff_ne.2 hk3
          have h3 := mp_skip (k := 3) (l := idsTo t p i) (x := (p, i + 1)) (by rw [hev]; exact hk3)
          rw [← hsc] at h2 h3
          simp (disch := (first | decide | omega)) only [hA, hg1, hg2, knoR0, eEv, hk2b, hk3b, go_sem]
          refine ⟨i + 1, hil, by simp only; omega, ?_⟩
          rw [← h2, ← h3]
          exact fin _ (by ((try simp (disch := decide) only [hA, go_sem]) <;> (repeat' (first | exact trivial | refine And.intro ?_ ?_)) <;> (first | rfl | (congr 2; omega)))) (fun n => by rw [show kAny r_knows1 _ = g2 by ((repeat refine (kAny_up rfl).trans ?_); exact hEE2)]) _
    · simp (disch := (first | decide | omega)) only [hA, hg1, hg2, knoR0, go_sem]
      obtain rfl : i = t[p].evs.length := by omega
      refine ⟨p + 1, hlt, by simp only; omega, ?_⟩
      have hnx := idsTo_next t p hlt
      exact Weak.kround (l1 := knoR0 t B.length (idsTo t (p + 1) 0)) (p := r_knows0) (k := 5) (by ((repeat refine (kAny_up rfl).trans ?_); refine (kAny_sub hg2 (kIn_sub rfl)).trans ?_; (repeat refine (kAny_up rfl).trans ?_); exact hEE1)) (by ((try simp (disch := decide) only [hA, hg1, go_sem]) <;> (repeat' (first | exact trivial | refine And.intro ?_ ?_)) <;> (first | rfl | (congr 2; omega)))) (by rw [hnx]; rfl) (by (repeat (first | exact hE1.mono (by omega) | refine KLt.up ?_ (by simp (disch := omega) only [AVlt_v, AVlt_any, AVlt_sl, AVlt_ptr, AVlt_mp, AVlt_agg, AVlt_tup, AVlt_fn, RowsLt_nil, RowsLt_live, RowsLt_dead, List.mem_cons, List.not_mem_nil, List.forall_mem_cons, List.forall_mem_nil, or_false, false_or, forall_eq_or_imp, forall_eq, vs_lt, Nat.add_lt_add_iff_left, Nat.reduceLT, true_and, and_true, and_self, List.length_cons, List.length_nil, Nat.reduceAdd, Nat.zero_add, implies_true, false_imp_iff, lt_T, List.mem_map])))) (by simp [knoR0]) (by simp (disch := omega) only [KOvLt, AVlt_v, AVlt_any, AVlt_sl, AVlt_ptr, AVlt_mp, AVlt_agg, AVlt_tup, AVlt_fn, RowsLt_nil, RowsLt_live, RowsLt_dead, List.mem_cons, List.not_mem_nil, List.forall_mem_cons, List.forall_mem_nil, or_false, false_or, forall_eq_or_imp, forall_eq, vs_lt, Nat.add_lt_add_iff_left, Nat.reduceLT, true_and, and_true, and_self, List.length_cons, List.length_nil, Nat.reduceAdd, Nat.zero_add, implies_true, false_imp_iff, lt_T, List.mem_map]) hR (knoR0_lt (T := []) (by simp [knoR0]) RowsLt_nil)
  · simp (disch := (first | decide | omega)) only [hA, hg1, knoR0, go_sem]
    obtain rfl : p = t.length := by omega
    rw [idsTo_all]
    exact leave (.inr rfl) (xs := [kA t (B.length + 2) (B.length + 3)]) (by simp (disch := (first | decide | omega)) only [resVs, resV, hA, hg1, kA, knoR, go_sem]) (y := kA t (B.length + 2) (B.length + 3)) (l' := knoR t B.length (ids t)) (Weak.refl _ _ _) hB ⟨by rw [hBl], rfl, by rw [hBl]⟩
/-- An event by its name. -/
theorem kevent_spec (t : Tr) (hS : Small t) (s r : Nat) (x : Nat × Nat) (hx : x ∈ ids t) (b l : List Row) :
    ACalls Try.prog 136 [kA t s r, idA x] b l (fun r b' l' => r = .agg ((eEv (evAt t x)).map .v) ∧ b' = b ∧ l' = l) := by
  refine calls_kept a_kevent_ok rfl (by decide) ?_
  intro B g hB hR hE hA
  simp only [KArgs] at hA
  obtain ⟨p, i⟩ := x
  obtain ⟨i, rfl⟩ : ∃ k, i = k + 1 := ⟨i - 1, by have := mem_pos hx; simp only at this; omega⟩
  obtain ⟨hp, hi⟩ := mem_ids2.1 hx
  rw [evsOf_lt hp] at hi
  have hev := evAt_eq hp hi
  have hc : ((i + 1 : Nat) : Int) - 1 = (i : Int) := by omega
  have hne := hS.ne _ (List.getElem_mem hp)
  simp (disch := (first | decide | omega)) only [a_kevent, kA, idA, eT, hA, ePr, eEv, hc, go_sem]
  exact leave_pure (xs := [.agg [.v (.int .i64 t[p].evs[i].kind), .v (.int .i64 t[p].evs[i].peer), .v (.int .i64 t[p].evs[i].msg), .v (.int .i64 t[p].evs[i].time), .v (.isl 2 (t[p].evs[i].asg.map eAsg))]]) (.inr rfl) (by simp (disch := (first | decide | omega)) only [resVs, resV, go_sem, hA]) (by simp only [one, AVlt_v, AVlt_any, AVlt_sl, AVlt_ptr, AVlt_mp, AVlt_agg, AVlt_tup, AVlt_fn, RowsLt_nil, RowsLt_live, RowsLt_dead, List.mem_cons, List.not_mem_nil, List.forall_mem_cons, List.forall_mem_nil, or_false, false_or, forall_eq_or_imp, forall_eq, vs_lt, Nat.add_lt_add_iff_left, Nat.reduceLT, true_and, and_true, and_self, List.length_cons, List.length_nil, Nat.reduceAdd, Nat.zero_add, implies_true, false_imp_iff, lt_T, List.mem_map]) hR hB ⟨by rw [hev]; rfl, rfl, rfl⟩
def eId (x : Nat × Nat) : List IV := [.int .i64 x.1, .int .i64 x.2]
theorem hget_low {B : List Row} {s : Nat} {r : Row} (h : B[s]? = some r) (l : List Row) : hget B l s = some r := by
  unfold hget; rw [if_pos (List.getElem?_eq_some_iff.1 h).1, h]
theorem kback_run (t : Tr) (hv : Vok t) (hS : Small t) (s r : Nat) (x : Nat × Nat) (hx : x ∈ ids t) (b l : List Row) (hs : (b ++ l)[s]? = some (.live 0 0 (mpL t 2 (ids t)))) :
    ACalls Try.prog 133 [kA t s r, idA x] b l (fun r b' l' => (r = .v (.isl 2 ((backL t x).map eId)) ∨ (backL t x = [] ∧ r = .v .zsl)) ∧ b' = b ∧ l' = l) := by
  refine calls_kept a_kback_ok rfl (by decide) ?_
  intro B g hB hR hE hA
  simp only [KArgs] at hA
  rw [← hB] at hs
  have hgs := hget_low hs
  obtain ⟨p, i⟩ := x
  obtain ⟨i, rfl⟩ : ∃ k, i = k + 1 := ⟨i - 1, by have := mem_pos hx; simp only at this; omega⟩
  obtain ⟨hp, hi⟩ := mem_ids2.1 hx
  rw [evsOf_lt hp] at hi
  have hev := evAt_eq hp hi
  have hc : ((i + 1 : Nat) : Int) - 1 = (i : Int) := by omega
  have hne := hS.ne _ (List.getElem_mem hp)
  have ev := kevent_spec t hS s r (p, i + 1) hx
  rw [hev] at ev
  by_cases h0 : 0 < i
  · have hd : decide (((i + 1 : Nat) : Int) > 1) = true := decide_eq_true (by omega)
    simp (disch := (first | decide | omega)) only [a_kback, kA, idA, eT, hA, hd, hc, List.replicate_succ, List.replicate_zero, reduceCtorEq, go_sem]
    refine ACalls.nxt (ev _ _) ?_
    by_cases hk : t[p].evs[i].kind = 3
    · obtain ⟨y, hy⟩ := (hv.paired.recv hx (by rw [hev]; exact hk)).2
      rw [hev] at hy
      have hb : backL t (p, i + 1) = [(p, i), y] := by
        unfold backL; rw [hev, hk, if_pos (by simp; omega), show findV t 2 t[p].evs[i].msg = y from (firstOf_find hy).1]; simp
      have hfm : findM (.one .i) (.v (.int .i64 t[p].evs[i].msg)) (mpL t 2 (ids t)) = some (some (idA y)) := by rw [findM_mp]; exact congrArg _ (congrArg _ hy)
      simp only [idA] at hfm
      have hkb : (t[p].evs[i].kind == 3) = true := by rw [hk]; rfl
      simp (disch := (first | decide | omega)) only [hA, eEv, hkb, hgs, hfm, List.replicate_succ, List.replicate_zero, reduceCtorEq, go_sem]
      exact leave_frz (i := 3) (ver := 1) (sz := 2) (n := 2) (rows := [eId (p, i), eId y]) (.inr rfl) (by simp (disch := (first | decide | omega)) only [resVs, resV, hA, go_sem]) rfl rfl hR hB ⟨.inl (by rw [hb]; rfl), rfl, rfl⟩
    · have hb : backL t (p, i + 1) = [(p, i)] := by
        unfold backL; rw [hev, if_pos (by simp; omega), if_neg (by simpa using hk)]; simp
      have hkb : (t[p].evs[i].kind == 3) = false := beq_eq_false_iff_ne.2 hk
      simp (disch := (first | decide | omega)) only [hA, eEv, hkb, go_sem]
      exact leave_frz (i := 3) (ver := 0) (sz := 2) (n := 1) (rows := [eId (p, i)]) (.inr rfl) (by simp (disch := (first | decide | omega)) only [resVs, resV, hA, go_sem]) rfl rfl hR hB ⟨.inl (by rw [hb]; rfl), rfl, rfl⟩
  · have hd : decide (((i + 1 : Nat) : Int) > 1) = false := decide_eq_false (by omega)
    simp (disch := (first | decide | omega)) only [a_kback, kA, idA, eT, hA, hd, hc, go_sem]
    refine ACalls.nxt (ev _ _) ?_
    by_cases hk : t[p].evs[i].kind = 3
    · obtain ⟨y, hy⟩ := (hv.paired.recv hx (by rw [hev]; exact hk)).2
      rw [hev] at hy
      have hb : backL t (p, i + 1) = [y] := by
        unfold backL; rw [hev, hk, if_neg (by simp; omega), show findV t 2 t[p].evs[i].msg = y from (firstOf_find hy).1]; simp
      have hfm : findM (.one .i) (.v (.int .i64 t[p].evs[i].msg)) (mpL t 2 (ids t)) = some (some (idA y)) := by rw [findM_mp]; exact congrArg _ (congrArg _ hy)
      simp only [idA] at hfm
      have hkb : (t[p].evs[i].kind == 3) = true := by rw [hk]; rfl
      simp (disch := (first | decide | omega)) only [hA, eEv, hkb, hgs, hfm, List.replicate_succ, List.replicate_zero, reduceCtorEq, go_sem]
      exact leave_frz (i := 4) (ver := 0) (sz := 2) (n := 1) (rows := [eId y]) (.inr rfl) (by simp (disch := (first | decide | omega)) only [resVs, resV, hA, go_sem]) rfl rfl hR hB ⟨.inl (by rw [hb]; rfl), rfl, rfl⟩
    · have hb : backL t (p, i + 1) = [] := by
        unfold backL; rw [hev, if_neg (by simp; omega), if_neg (by simpa using hk)]; simp
      have hkb : (t[p].evs[i].kind == 3) = false := beq_eq_false_iff_ne.2 hk
      simp (disch := (first | decide | omega)) only [hA, eEv, hkb, go_sem]
      exact leave_pure (xs := [.v .zsl]) (.inr rfl) (by simp (disch := (first | decide | omega)) only [resVs, resV, go_sem, hA]) (by simp only [one, AVlt_v, AVlt_any, AVlt_sl, AVlt_ptr, AVlt_mp, AVlt_agg, AVlt_tup, AVlt_fn, RowsLt_nil, RowsLt_live, RowsLt_dead, List.mem_cons, List.not_mem_nil, List.forall_mem_cons, List.forall_mem_nil, or_false, false_or, forall_eq_or_imp, forall_eq, vs_lt, Nat.add_lt_add_iff_left, Nat.reduceLT, true_and, and_true, and_self, List.length_cons, List.length_nil, Nat.reduceAdd, Nat.zero_add, implies_true, false_imp_iff, lt_T, List.mem_map]) hR hB ⟨.inr ⟨hb, rfl⟩, rfl, rfl⟩
theorem kback_spec (t : Tr) (hv : Vok t) (hS : Small t) (s r : Nat) (x : Nat × Nat) (hx : x ∈ ids t) (b l : List Row) (hs : (b ++ l)[s]? = some (.live 0 0 (mpL t 2 (ids t)))) :
    ACalls Try.prog 133 [kA t s r, idA x] b l (fun r b' l' => r = .v (.isl 2 ((backL t x).map eId)) ∧ b' = b ∧ l' = l) := by
  refine ACalls.wk (kback_run t hv hS s r x hx b l hs) ?_
  rintro r b' l' ⟨hr, rfl, rfl⟩
  refine ⟨.v (.isl 2 ((backL t x).map eId)), fun w F L v h => ?_, rfl, rfl, rfl⟩
  rcases hr with rfl | ⟨he, rfl⟩
  · exact h
  · rw [he]; exact zw1_rep (sz := 2) h
end Go.Proofs.Ytoaopldaleaijaa

namespace Go.Proofs.Ytoaopldaleaijaa
set_option linter.unusedVariables false
set_option linter.unusedSimpArgs false
attribute [local go_sem ↓] run_skip run_region run_draw run_seq run_block run_exit run_ret run_cond atN_app seqC_normal seqC_exit seqC_ret seqQ_normal seqQ_exit seqQ_ret blkQ_normal blkQ_exit blkQ_ret runOps_nil runOps_cons runD_nil runD_cons grdO_true grdO_false grdD_true grdD_false ifC_true ifC_false opS_val opS_call opS_two opK_app dS_val dS_call dS_two dK_app kUp_same kUp_ne
attribute [local go_sem] rechks_nil rechks_cons rechk gcase_true gcase_false ex_val ex_val0 gd_none gd_some ev_t ev_c evs_nil evs_cons evo_some evo_none hget_at hget_first hsetB_at hsetB_first hsetL_at hsetL_first ofOpt_some aop aload astore aslice aappend aiaddr aiaddrA afaddr alen alenS acopy amm acall alookup amupdate alenM comma keyEq apick binV binVB binVS isSh intOp strOp boolOp shOp eqC eqF and2 cellsOf setFrom fillA fillS rd rdI elems mk bounds AV.cell List.all_cons List.all_nil Bool.and_true Bool.true_and Bool.and_self List.length_cons List.length_nil List.length_append Nat.reduceAdd Nat.reduceSub Nat.reduceMul Nat.zero_add Nat.add_zero List.cons_append List.nil_append List.append_assoc List.append_nil List.getElem?_cons_zero List.getElem?_cons_succ List.getElem?_nil List.set_cons_zero List.set_cons_succ List.drop_zero List.drop_succ_cons List.take_zero List.take_succ_cons List.take_nil List.drop_nil List.map_cons List.map_nil Option.map_some if_true if_false Bool.false_eq_true and_self true_and and_true Nat.reduceLeDiff Nat.reduceLT Nat.le_refl Nat.reduceEqDiff ite_true ite_false beq_self_eq_true beq_true beq_false Bool.not_true Bool.not_false Bool.true_beq Bool.false_beq map_vs vs_len vs_get vs_take vs_drop vs_snoc1 vs_snoc2 vs_snoc3 vs_snoc5 vs_set1 vs_set2 vs_rep wrap_id le_T lt_T le_F lt_F leI_T ltI_T leI_F ltI_F geI gtI get_T decide_true decide_false room List.getElem?_map List.length_map List.length_take Int.toNat_natCast Nat.min_def Nat.min_self nth_kOf put_kOf put_kNo kOv_cons kOv_nil KHas KArgs List.getElem_cons_zero List.getElem_cons_succ
def a_stamps : AFunc := ⟨1, 107, [.tmp 2],
  (.seq (.region [⟨(some 1), .box (.t 0), none⟩, ⟨(some 2), .mv (.c (.v .zsl)), none⟩])
  (.seq (.region [⟨(some 11), .faddr 0 (.t 1), none⟩, ⟨(some 12), .load none (.t 11), none⟩, ⟨(some 13), .len (.t 12), none⟩, ⟨(some 14), .mkslice 1 [(.v .zsl)] 24 (.t 13) (.t 13), none⟩, ⟨(some 3), .mv (.t 14), none⟩])
  (.seq (.region [⟨(some 15), .mkslice 1 [(.v .zsl)] 24 (.c (.v (.int .i64 200))) (.c (.v (.int .i64 200))), none⟩, ⟨(some 4), .mv (.t 15), none⟩])
  (.seq (.seq (.region [⟨(some 5), .mv (.c (.v (.bool true))), none⟩])
  (.block 0 (.loop (.seq (.seq (.region [⟨(some 16), .mv (.t 5), none⟩])
  (.cond (.t 16) .skip
  (.exit 0)))
  (.block 1 (.seq (.region [⟨(some 5), .mv (.c (.v (.bool false))), none⟩])
  (.seq (.region [⟨(some 17), .faddr 0 (.t 1), none⟩, ⟨(some 18), .load none (.t 17), none⟩, ⟨(some 19), .len (.t 18), none⟩, ⟨(some 20), .mv (.c (.v (.int .i64 0))), none⟩])
  (.block 2 (.loop (.seq (.region [⟨(some 21), .bin .lss (.t 20) (.t 19), none⟩])
  (.seq (.cond (.t 21) .skip
  (.exit 2))
  (.seq (.block 3 (.seq (.region [⟨(some 22), .mv (.t 20), none⟩, ⟨(some 23), .iaddr 3 (.t 18) (.t 20), none⟩, ⟨(some 24), .load (some 3) (.t 23), none⟩, ⟨(some 7), .alloc [(.v (.str ⟨#[]⟩)), (.v .zsl), (.v .zsl)], none⟩, ⟨(some 6), .mv (.t 22), none⟩, ⟨none, .store 3 (.t 7) (.t 24), none⟩])
  (.block 4 (.loop (.seq (.seq (.draw [⟨0, ⟨(some 25), .mv (.t 3), none⟩, []⟩, ⟨1, ⟨(some 26), .mv (.t 6), none⟩, []⟩, ⟨2, ⟨(some 27), .iaddr 1 (.t 25) (.t 26), none⟩, []⟩, ⟨3, ⟨(some 28), .load none (.t 27), none⟩, []⟩, ⟨4, ⟨(some 29), .len (.t 28), none⟩, []⟩, ⟨5, ⟨(some 30), .faddr 2 (.t 7), none⟩, []⟩, ⟨6, ⟨(some 31), .load none (.t 30), none⟩, []⟩, ⟨7, ⟨(some 32), .len (.t 31), none⟩, []⟩, ⟨8, ⟨(some 33), .bin .lss (.t 29) (.t 32), none⟩, []⟩])
  (.cond (.t 33) .skip
  (.exit 4)))
  (.block 5 (.seq (.draw [⟨0, ⟨(some 34), .faddr 2 (.t 7), none⟩, []⟩, ⟨1, ⟨(some 35), .load none (.t 34), none⟩, []⟩, ⟨2, ⟨(some 36), .mv (.t 3), none⟩, []⟩, ⟨3, ⟨(some 37), .mv (.t 6), none⟩, []⟩, ⟨4, ⟨(some 38), .iaddr 1 (.t 36) (.t 37), none⟩, []⟩, ⟨5, ⟨(some 39), .load none (.t 38), none⟩, []⟩, ⟨6, ⟨(some 40), .len (.t 39), none⟩, []⟩, ⟨7, ⟨(some 41), .iaddr 5 (.t 35) (.t 40), none⟩, []⟩, ⟨8, ⟨(some 42), .load (some 5) (.t 41), none⟩, []⟩, ⟨9, ⟨(some 8), .alloc [(.v (.int .i64 0)), (.v (.int .i64 0)), (.v (.int .i64 0)), (.v (.int .i64 0)), (.v .zsl)], none⟩, [⟨(some 34), .faddr 2 (.t 7), none⟩, ⟨(some 35), .load none (.t 34), none⟩, ⟨(some 36), .mv (.t 3), none⟩, ⟨(some 37), .mv (.t 6), none⟩, ⟨(some 38), .iaddr 1 (.t 36) (.t 37), none⟩, ⟨(some 39), .load none (.t 38), none⟩, ⟨(some 40), .len (.t 39), none⟩, ⟨(some 41), .iaddr 5 (.t 35) (.t 40), none⟩, ⟨(some 42), .load (some 5) (.t 41), none⟩]⟩, ⟨10, ⟨none, .store 5 (.t 8) (.t 42), none⟩, []⟩])
  (.seq (.region [⟨(some 43), .faddr 0 (.t 1), none⟩, ⟨(some 44), .load none (.t 43), none⟩, ⟨(some 45), .len (.t 44), none⟩, ⟨(some 46), .mkslice 1 [(.v (.int .i64 0))] 8 (.t 45) (.t 45), none⟩, ⟨(some 9), .mv (.t 46), none⟩])
  (.seq (.seq (.region [⟨(some 47), .mv (.t 3), none⟩, ⟨(some 48), .mv (.t 6), none⟩, ⟨(some 49), .iaddr 1 (.t 47) (.t 48), none⟩, ⟨(some 50), .load none (.t 49), none⟩, ⟨(some 51), .len (.t 50), none⟩, ⟨(some 10), .mv (.t 51), none⟩])
  (.seq (.region [⟨(some 52), .mv (.t 10), none⟩, ⟨(some 53), .bin .gtr (.t 52) (.c (.v (.int .i64 0))), none⟩])
  (.cond (.t 53) (.region [⟨(some 54), .mv (.t 9), none⟩, ⟨(some 55), .mv (.t 3), none⟩, ⟨(some 56), .mv (.t 6), none⟩, ⟨(some 57), .iaddr 1 (.t 55) (.t 56), none⟩, ⟨(some 58), .load none (.t 57), none⟩, ⟨(some 59), .mv (.t 10), none⟩, ⟨(some 60), .bin .sub (.t 59) (.c (.v (.int .i64 1))), none⟩, ⟨(some 61), .iaddr 1 (.t 58) (.t 60), none⟩, ⟨(some 62), .load none (.t 61), none⟩, ⟨(some 63), .copy 1 (.t 54) (.t 62), none⟩])
  .skip)))
  (.seq (.seq (.region [⟨(some 64), .faddr 0 (.t 8), none⟩, ⟨(some 65), .load none (.t 64), none⟩, ⟨(some 66), .bin .eql (.t 65) (.c (.v (.int .i64 3))), none⟩])
  (.cond (.t 66) (.seq (.seq (.region [⟨(some 67), .mv (.t 4), none⟩, ⟨(some 68), .faddr 2 (.t 8), none⟩, ⟨(some 69), .load none (.t 68), none⟩, ⟨(some 70), .iaddr 1 (.t 67) (.t 69), none⟩, ⟨(some 71), .load none (.t 70), none⟩, ⟨(some 72), .len (.t 71), none⟩, ⟨(some 73), .bin .eql (.t 72) (.c (.v (.int .i64 0))), none⟩])
  (.cond (.t 73) (.exit 4)
  .skip))
  (.region [⟨(some 74), .mv (.t 9), none⟩, ⟨(some 75), .mv (.t 4), none⟩, ⟨(some 76), .faddr 2 (.t 8), none⟩, ⟨(some 77), .load none (.t 76), none⟩, ⟨(some 78), .iaddr 1 (.t 75) (.t 77), none⟩, ⟨(some 79), .load none (.t 78), none⟩, ⟨(some 80), .call (.c (.fn 139 [])) [(.t 74), (.t 79)], none⟩, ⟨(some 9), .mv (.t 80), none⟩]))
  .skip))
  (.seq (.region [⟨(some 81), .mv (.t 9), none⟩, ⟨(some 82), .mv (.t 6), none⟩, ⟨(some 83), .iaddr 1 (.t 81) (.t 82), none⟩, ⟨(some 84), .load none (.t 83), none⟩, ⟨(some 85), .bin .add (.t 84) (.c (.v (.int .i64 1))), none⟩, ⟨(some 86), .iaddr 1 (.t 81) (.t 82), none⟩, ⟨none, .store 1 (.t 86) (.t 85), none⟩])
  (.seq (.seq (.region [⟨(some 87), .faddr 0 (.t 8), none⟩, ⟨(some 88), .load none (.t 87), none⟩, ⟨(some 89), .bin .eql (.t 88) (.c (.v (.int .i64 2))), none⟩])
  (.cond (.t 89) (.region [⟨(some 90), .mv (.t 4), none⟩, ⟨(some 91), .faddr 2 (.t 8), none⟩, ⟨(some 92), .load none (.t 91), none⟩, ⟨(some 93), .mv (.t 9), none⟩, ⟨(some 94), .iaddr 1 (.t 90) (.t 92), none⟩, ⟨none, .store 1 (.t 94) (.t 93), none⟩])
  .skip))
  (.seq (.region [⟨(some 95), .mv (.t 3), none⟩, ⟨(some 96), .mv (.t 6), none⟩, ⟨(some 97), .mv (.t 3), none⟩, ⟨(some 98), .mv (.t 6), none⟩, ⟨(some 99), .iaddr 1 (.t 97) (.t 98), none⟩, ⟨(some 100), .load none (.t 99), none⟩, ⟨(some 101), .mv (.t 9), none⟩, ⟨(some 102), .bslice 1 [(.v .zsl)] 1 [(0, (.t 101))], none⟩, ⟨(some 103), .append 1 24 (.t 100) (.t 102), none⟩, ⟨(some 104), .iaddr 1 (.t 95) (.t 96), none⟩, ⟨none, .store 1 (.t 104) (.t 103), none⟩])
  (.region [⟨(some 5), .mv (.c (.v (.bool true))), none⟩]))))))))))))))
  (.region [⟨(some 105), .bin .add (.t 20) (.c (.v (.int .i64 1))), none⟩, ⟨(some 20), .mv (.t 105), none⟩])))))))))))))
  (.seq (.region [⟨(some 106), .mv (.t 3), none⟩, ⟨(some 2), .mv (.t 106), none⟩])
  .ret)))))⟩
theorem a_stamps_ok : cFunc Try.prog 100 = some a_stamps := by kernel_rfl
def r_stamps0 : List (Nat × Nat) := [(5, 10), (16, 105)]
def r_stamps1 : List (Nat × Nat) := [(5, 10), (20, 105)]
def r_stamps2 : List (Nat × Nat) := [(5, 5), (8, 10), (25, 104)]

/-- The same, with its own row handed out. -/
theorem joined_own (v w : List Int) (h1 : 1 ≤ v.length) (h2 : v.length ≤ 1000000) (h : v.length = w.length) (b l : List Row) : ACalls Try.prog 139 [.v (.isl 1 (v.map eI)), .v (.isl 1 (w.map eI))] b l (fun r b' l' => r = .sl (b.length + l.length) 1 0 v.length ∧ b' = b ∧ l' = l ++ [.live 1 1 (vs ((joinV v w).map eI))]) := by
  refine calls_kept a_joined_ok rfl (by decide) ?_
  intro B g hB hR hE hA
  simp only [KArgs] at hA
  simp (disch := decide) only [a_joined, hA, go_sem]
  refine ACalls_mono _ _ _ _ _ _ (clo1_spec v h1 h2 _ _) ?_
  rintro r b' l' ⟨rfl, rfl, rfl⟩
  have j0 := joTo_zero v w
  simp (disch := (first | decide | omega)) only [hA, List.length_map, go_sem]
  refine loop_kept (ι := Nat) r_joined0 (fun i => [(12, .v (.int .i64 i))]) 1 (fun i => [.live 1 1 (vs ((joTo v w i).map eI))])
    (fun i => i ≤ v.length) (fun i => v.length - i) 0 (Nat.zero_le _) (by (repeat (first | exact hE.mono (by omega) | refine KLt.up ?_ (by simp (disch := omega) only [AVlt_v, AVlt_any, AVlt_sl, AVlt_ptr, AVlt_mp, AVlt_agg, AVlt_tup, AVlt_fn, RowsLt_nil, RowsLt_live, RowsLt_dead, List.mem_cons, List.not_mem_nil, List.forall_mem_cons, List.forall_mem_nil, or_false, false_or, forall_eq_or_imp, forall_eq, vs_lt, Nat.add_lt_add_iff_left, Nat.reduceLT, true_and, and_true, and_self, List.length_cons, List.length_nil, Nat.reduceAdd, Nat.zero_add, implies_true, false_imp_iff, lt_T, List.mem_map])))) (by ((try simp (disch := decide) only [hA, go_sem]) <;> (repeat' (first | exact trivial | refine And.intro ?_ ?_)) <;> (first | rfl | (congr 2; omega)))) (fun e => by rw [j0]; exact Weak.refl _ _ _) ?_
  intro g1 hE1 hEE1 hg1 i hi
  by_cases hlt : i < v.length
  · have hlw : i < w.length := by omega
    have jl := joTo_len h i hi
    have jg := joTo_get h hlt (by omega)
    have js := joTo_set h hlt hlw
    have hm : (if v[i] < w[i] then w[i] else v[i]) = max v[i] w[i] := by split <;> omega
    simp (disch := (first | decide | omega)) only [hA, hg1, eI, jg, hm, js, jl, go_sem]
    refine ⟨i + 1, hlt, by simp only; omega, ?_⟩
    exact Weak.kround (p := r_joined0) (k := 1) (by ((repeat refine (kAny_up rfl).trans ?_); exact hEE1)) (by ((try simp (disch := decide) only [hA, go_sem]) <;> (repeat' (first | exact trivial | refine And.intro ?_ ?_)) <;> (first | rfl | (congr 2; omega)))) rfl hE1 (by simp) (by simp (disch := omega) only [KOvLt, AVlt_v, AVlt_any, AVlt_sl, AVlt_ptr, AVlt_mp, AVlt_agg, AVlt_tup, AVlt_fn, RowsLt_nil, RowsLt_live, RowsLt_dead, List.mem_cons, List.not_mem_nil, List.forall_mem_cons, List.forall_mem_nil, or_false, false_or, forall_eq_or_imp, forall_eq, vs_lt, Nat.add_lt_add_iff_left, Nat.reduceLT, true_and, and_true, and_self, List.length_cons, List.length_nil, Nat.reduceAdd, Nat.zero_add, implies_true, false_imp_iff, lt_T, List.mem_map]) hR (by simp (disch := omega) only [AVlt_v, AVlt_any, AVlt_sl, AVlt_ptr, AVlt_mp, AVlt_agg, AVlt_tup, AVlt_fn, RowsLt_nil, RowsLt_live, RowsLt_dead, List.mem_cons, List.not_mem_nil, List.forall_mem_cons, List.forall_mem_nil, or_false, false_or, forall_eq_or_imp, forall_eq, vs_lt, Nat.add_lt_add_iff_left, Nat.reduceLT, true_and, and_true, and_self, List.length_cons, List.length_nil, Nat.reduceAdd, Nat.zero_add, implies_true, false_imp_iff, lt_T, List.mem_map])
  · have jl := joTo_len h i hi
    simp (disch := (first | decide | omega)) only [hA, hg1, go_sem]
    obtain rfl : i = v.length := by omega
    have hlen : b'.length = b.length + l.length := by rw [hB, List.length_append]
    exact leave_own (ver := 1) (sz := 1) (n := v.length) (rows := (joTo v w v.length).map eI) (junk := []) (.inr rfl) (by simp (disch := (first | decide | omega)) only [resVs, resV, hA, hg1, go_sem]) rfl hR hB ⟨by rw [hlen], rfl, by rw [joTo_all h]⟩
/-- A row of the stamps of a process. -/
noncomputable def cR (t : Tr) (D : Nat → Nat) (p : Nat) : Row := .live (D p) 1 (vs (stRow t p (D p)))
/-- The rows of the work. -/
noncomputable def stR (t : Tr) (base : Nat) (D : Nat → Nat) (T : List Row) : List Row :=
  .live 0 1 [[.v (.isl 3 (t.map ePr))]] :: .live 0 1 (fl t.length fun p => [.sl (base + (p + 1 + 1 + 1)) (D p) 0 (D p)]) :: .live 0 1 (vs (sentL t D)) :: (fl t.length (cR t D) ++ T)
section
variable {α : Type} {n : Nat} {C : Nat → α} {T : List α}
theorem fa_at {p : Nat} (h : p < n) : (fl n C ++ T)[p]? = some (C p) := by rw [List.getElem?_append_left (by rw [fl_len]; exact h), fl_get h]
theorem fa_tail {j : Nat} : (fl n C ++ T)[n + j]? = T[j]? := by rw [List.getElem?_append_right (by rw [fl_len]; omega), fl_len, Nat.add_sub_cancel_left]
theorem fa_tail0 : (fl n C ++ T)[n]? = T[0]? := fa_tail (j := 0)
theorem fa_set {p : Nat} {x : α} (h : p < n) : (fl n C ++ T).set p x = fl n (fUp C p x) ++ T := by rw [List.set_append_left _ _ (by rw [fl_len]; exact h), fl_set]
theorem fa_settail {j : Nat} {x : α} : (fl n C ++ T).set (n + j) x = fl n C ++ T.set j x := by rw [List.set_append_right _ _ (by rw [fl_len]; omega), fl_len, Nat.add_sub_cancel_left]
theorem fa_settail0 {x : α} : (fl n C ++ T).set n x = fl n C ++ T.set 0 x := fa_settail (j := 0)
end
theorem stR_lt {t : Tr} {m base : Nat} {D : Nat → Nat} {T : List Row} (hm : base + (t.length + 3) ≤ m) (hT : RowsLt m T) : RowsLt m (stR t base D T) := by
  intro id ver sz els hr row hrow c hc
  have hp : ∀ rows : List (List IV), row ∈ vs rows → AVlt m c := by
    intro rows h
    obtain ⟨r0, _, rfl⟩ := List.mem_map.1 h
    obtain ⟨x0, _, rfl⟩ := List.mem_map.1 hc
    exact .v _
  match id, hr with
  | 0, hr =>
    cases hr
    simp only [List.mem_singleton] at hrow
    subst hrow
    simp only [List.mem_singleton] at hc
    subst hc
    exact .v _
  | 1, hr =>
    cases hr
    obtain ⟨j, hj, rfl⟩ := List.mem_map.1 hrow
    simp only [List.mem_singleton] at hc
    subst hc
    have := List.mem_range.1 hj
    exact .sl _ _ _ _ (by omega)
  | 2, hr => cases hr; exact hp _ hrow
  | id + 3, hr =>
    have hr : (fl t.length (cR t D) ++ T)[id]? = some (.live ver sz els) := hr
    by_cases hid : id < t.length
    · rw [fa_at hid] at hr
      cases hr
      exact hp _ hrow
    · rw [List.getElem?_append_right (by rw [fl_len]; omega)] at hr
      exact hT _ _ _ _ hr row hrow c hc
/-- The nil cells of the list of lists become rows. -/
theorem Weak.nilrows {t : Tr} {e : List AV} {b : List Row} : ∀ i, i ≤ t.length → Weak e b [.live 0 1 [[.v (.isl 3 (t.map ePr))]], .live 0 1 (List.replicate t.length [.v .zsl]), .live 0 1 (vs (sentL t fun _ => 0))] e b
    (.live 0 1 [[.v (.isl 3 (t.map ePr))]] :: .live 0 1 (fl t.length fun p => if p < i then [.sl (b.length + (p + 1 + 1 + 1)) 0 0 0] else [.v .zsl]) :: .live 0 1 (vs (sentL t fun _ => 0)) :: fl i (cR t fun _ => 0))
  | 0, _ => by
    have : (fl t.length fun p => if p < 0 then [.sl (b.length + (p + 1 + 1 + 1)) 0 0 0] else [AV.v .zsl]) = List.replicate t.length [.v .zsl] := by
      rw [← fl_const]; exact fl_congr (fun j _ => if_neg (by omega))
    rw [this]
    exact Weak.refl _ _ _
  | i + 1, hi => by
    refine (Weak.nilrows i (by omega)).trans ?_
    have := Weak.nilcell (e := e) (b := b) (sz := 1) (i := 1) (ver := 0) (z := 1) (k := i) (j := 0) (row := [.v .zsl]) (l := .live 0 1 [[.v (.isl 3 (t.map ePr))]] :: .live 0 1 (fl t.length fun p => if p < i then [.sl (b.length + (p + 1 + 1 + 1)) 0 0 0] else [.v .zsl]) :: .live 0 1 (vs (sentL t fun _ => 0)) :: fl i (cR t fun _ => 0)) rfl (by rw [fl_get (by omega), if_neg (by omega)]) rfl
    refine Weak.trans this ?_
    have e2 : (fl t.length fun p => if p < i then [.sl (b.length + (p + 1 + 1 + 1)) 0 0 0] else [AV.v .zsl]).set i [.sl (b.length + (i + 1 + 1 + 1)) 0 0 0] = fl t.length fun p => if p < i + 1 then [.sl (b.length + (p + 1 + 1 + 1)) 0 0 0] else [.v .zsl] := by
      rw [fl_set]
      refine fl_congr (fun j _ => ?_)
      unfold fUp
      by_cases hj : j = i
      · subst hj; rw [if_pos rfl, if_pos (by omega)]
      · rw [if_neg hj]
        show (if j < i then _ else _) = _
        by_cases hji : j < i
        · rw [if_pos hji, if_pos (by omega)]
        · rw [if_neg hji, if_neg (by omega)]
    have e3 : fl i (cR t fun _ => 0) ++ [.live 0 1 []] = fl (i + 1) (cR t fun _ => 0) := fl_next rfl
    simp only [List.set_cons_succ, List.set_cons_zero, List.length_cons, fl_len, List.cons_append, e3]
    rw [e2]
    exact Weak.refl _ _ _
theorem Weak.nilall {t : Tr} {e : List AV} {b : List Row} : Weak e b [.live 0 1 [[.v (.isl 3 (t.map ePr))]], .live 0 1 (List.replicate t.length [.v .zsl]), .live 0 1 (List.replicate 200 [AV.v IV.zsl])] e b (stR t b.length (fun _ => 0) []) := by
  have h := Weak.nilrows (t := t) (e := e) (b := b) t.length (Nat.le_refl _)
  have e2 : (fl t.length fun p => if p < t.length then [.sl (b.length + (p + 1 + 1 + 1)) 0 0 0] else [AV.v .zsl]) = fl t.length fun p => [.sl (b.length + (p + 1 + 1 + 1)) 0 0 0] := fl_congr (fun j hj => if_pos hj)
  rw [e2] at h
  rw [sentL_zero (t := t)]
  unfold stR
  rw [List.append_nil]
  exact h
end Go.Proofs.Ytoaopldaleaijaa
