/- Texts of one proof, laid together: HA, VL, WG, VR, HN, VS, VU, RW, TR, MS, MT, MU, RV, WV, VA, VB, HM, HB, VD, VE, VH. No condition. -/
import Derived.Test.YtoaopldaleaijaaSF6
import Derived.Test.YtoaopldaleaijaaSF2
import Derived.Test.YtoaopldaleaijaaSF3
import Derived.Test.YtoaopldaleaijaaSF7
import Derived.Test.YtoaopldaleaijaaSF5
import Derived.KernelRfl
import Derived.Test.YtoaopldaleaijaaProg
namespace Go.Proofs.Ytoaopldaleaijaa
set_option linter.unusedVariables false
set_option linter.unusedSimpArgs false
theorem vc_mono {t : Tr} {x y : Nat × Nat} (h : Le t x y) (j : Nat) : vc t x j ≤ vc t y j := by
  unfold vc
  refine List.countP_mono_left (fun i _ hi => ?_)
  rw [leB_iff] at hi ⊢
  exact hi.trans h
/-- What the events of a process from number n down to i + 1 have directly before them. -/
noncomputable def bkL (t : Tr) (p n i : Nat) : List (Nat × Nat) := (List.range (n - i)).flatMap fun k => backL t (p, n - k)
theorem mem_bkL {t : Tr} {p n i : Nat} {y : Nat × Nat} (h : y ∈ bkL t p n i) : ∃ j, i < j ∧ j ≤ n ∧ y ∈ backL t (p, j) := by
  unfold bkL at h
  obtain ⟨k, hk, hy⟩ := List.mem_flatMap.1 h
  have := List.mem_range.1 hk
  exact ⟨n - k, by omega, by omega, hy⟩
theorem bkL_mem {t : Tr} {p n i j : Nat} {y : Nat × Nat} (h1 : i < j) (h2 : j ≤ n) (hy : y ∈ backL t (p, j)) : y ∈ bkL t p n i := by
  unfold bkL
  exact List.mem_flatMap.2 ⟨n - j, List.mem_range.2 (by omega), by rwa [show n - (n - j) = j by omega]⟩
/-- What the search keeps: counts c of what is marked, queue Q. -/
structure Pst (t : Tr) (x : Nat × Nat) (c : Nat → Nat) (Q : List (Nat × Nat)) : Prop where
  q : ∀ y ∈ Q, y ∈ ids t ∧ Le t y x
  le : ∀ p i, i < c p → p < t.length ∧ i < (evsOf t p).length ∧ Le t (p, i + 1) x
  src : x ∈ Q ∨ x.2 ≤ c x.1
  cl : ∀ z ∈ ids t, z.2 ≤ c z.1 → ∀ y ∈ backL t z, y ∈ Q ∨ y.2 ≤ c y.1
theorem Pst.start {t : Tr} {x : Nat × Nat} (hx : x ∈ ids t) : Pst t x (fun _ => 0) [x] := by
  refine ⟨fun y hy => ?_, fun p i h => by simp at h, .inl (by simp), fun z hz h => ?_⟩
  · simp only [List.mem_singleton] at hy; subst hy; exact ⟨hx, .refl _⟩
  · have := (mem_ids.1 hz).2.1
    omega
theorem Pst.cle {t : Tr} {x : Nat × Nat} {c : Nat → Nat} {Q : List (Nat × Nat)} (h : Pst t x c Q) (p : Nat) : c p ≤ (evsOf t p).length := by
  cases hc : c p with
  | zero => omega
  | succ n => have := (h.le p n (by omega)).2.1; omega
theorem Pst.skip {t : Tr} {x y : Nat × Nat} {c : Nat → Nat} {Q : List (Nat × Nat)} (h : Pst t x c (y :: Q)) (hc : y.2 ≤ c y.1) : Pst t x c Q := by
  refine ⟨fun z hz => h.q z (by simp [hz]), h.le, ?_, fun z hz hzc w hw => ?_⟩
  · rcases h.src with h1 | h1
    · rcases List.mem_cons.1 h1 with rfl | h2
      · exact .inr hc
      · exact .inl h2
    · exact .inr h1
  · rcases h.cl z hz hzc w hw with h1 | h1
    · rcases List.mem_cons.1 h1 with rfl | h2
      · exact .inr hc
      · exact .inl h2
    · exact .inr h1
theorem Pst.mark {t : Tr} (hv : Vok t) {x : Nat × Nat} {p n : Nat} {c : Nat → Nat} {Q : List (Nat × Nat)} (h : Pst t x c ((p, n) :: Q)) (hc : c p < n) : Pst t x (fUp c p n) (Q ++ bkL t p n (c p)) := by
  obtain ⟨hy, hl⟩ := h.q (p, n) (by simp)
  obtain ⟨n, rfl⟩ : ∃ k, n = k + 1 := ⟨n - 1, by have := (mem_ids.1 hy).2.1; simp only at this; omega⟩
  obtain ⟨hp, hn⟩ := mem_ids2.1 hy
  have up : ∀ q, c q ≤ fUp c p (n + 1) q := fun q => by
    by_cases hq : q = p
    · subst hq; rw [fUp_same]; omega
    · rw [fUp_ne hq]; exact Nat.le_refl _
  refine ⟨fun z hz => ?_, fun q i hi => ?_, ?_, fun z hz hzc w hw => ?_⟩
  · rcases List.mem_append.1 hz with hz | hz
    · exact h.q z (by simp [hz])
    · obtain ⟨j, h1, h2, h3⟩ := mem_bkL hz
      obtain ⟨j, rfl⟩ : ∃ k, j = k + 1 := ⟨j - 1, by omega⟩
      obtain ⟨h4, h5⟩ := back_mem hv (mem_ids2.2 ⟨hp, by omega⟩) h3
      exact ⟨h4, Le.trans (.inr h5) ((le_row h2 (by omega)).trans hl)⟩
  · by_cases hq : q = p
    · subst hq
      rw [fUp_same] at hi
      exact ⟨hp, by omega, (le_row (by omega) (by omega)).trans hl⟩
    · rw [fUp_ne hq] at hi
      exact h.le q i hi
  · rcases h.src with h1 | h1
    · rcases List.mem_cons.1 h1 with rfl | h2
      · exact .inr (by simp only; rw [fUp_same]; omega)
      · exact .inl (List.mem_append.2 (.inl h2))
    · exact .inr (Nat.le_trans h1 (up _))
  · have old : z.2 ≤ c z.1 → w ∈ Q ++ bkL t p (n + 1) (c p) ∨ w.2 ≤ fUp c p (n + 1) w.1 := fun h0 => by
      rcases h.cl z hz h0 w hw with h1 | h1
      · rcases List.mem_cons.1 h1 with rfl | h2
        · exact .inr (by simp only; rw [fUp_same]; omega)
        · exact .inl (List.mem_append.2 (.inl h2))
      · exact .inr (Nat.le_trans h1 (up _))
    obtain ⟨zp, zi⟩ := z
    by_cases hq : zp = p
    · subst hq
      simp only at hzc
      rw [fUp_same] at hzc
      by_cases h0 : zi ≤ c zp
      · exact old h0
      · exact .inl (List.mem_append.2 (.inr (bkL_mem (by omega) hzc hw)))
    · simp only at hzc
      rw [fUp_ne hq] at hzc
      exact old hzc
theorem Pst.all {t : Tr} (hv : Vok t) {x : Nat × Nat} {c : Nat → Nat} (h : Pst t x c []) : ∀ n z, rk t z = n → z ∈ ids t → z.2 ≤ c z.1 → ∀ w ∈ ids t, Le t w z → w.2 ≤ c w.1 := by
  intro n
  induction n using Nat.strongRecOn with
  | _ n ih =>
    intro z hn hz hzc w hw hl
    rcases (le_back hv hz hw).1 hl with rfl | ⟨y, hy, hl2⟩
    · exact hzc
    · obtain ⟨h1, h2⟩ := back_mem hv hz hy
      rcases h.cl z hz hzc y hy with h3 | h3
      · simp at h3
      · exact ih (rk t y) (by rw [← hn]; exact rk_lt hv hz h2) y rfl h1 h3 w hw hl2
theorem Pst.done {t : Tr} (hv : Vok t) {x : Nat × Nat} (hx : x ∈ ids t) {c : Nat → Nat} (h : Pst t x c []) {p : Nat} (hp : p < t.length) : c p = vc t x p := by
  refine thresh (n := (evsOf t p).length) (h.cle p) vc_le (fun j hj => ?_)
  rw [← vc_iff hj]
  constructor
  · exact fun hl => (h.le p j hl).2.2
  · intro hl
    have hs : x.2 ≤ c x.1 := h.src.resolve_left (by simp)
    have := h.all hv (rk t x) x rfl hx hs (p, j + 1) (mem_ids2.2 ⟨hp, hj⟩) hl
    exact this
end Go.Proofs.Ytoaopldaleaijaa

namespace Go.Proofs.Ytoaopldaleaijaa
set_option linter.unusedVariables false
set_option linter.unusedSimpArgs false

def vBad (n : Int) : Bool := decide (n < 0) || decide (n > 1125899906842624)
def vBadAt (v : List Int) (i : Nat) : Bool := vBad (v.getD i 0)
def joinV (v w : List Int) : List Int := List.zipWith max v w
theorem getD_at {α : Type} {l : List α} {i : Nat} {d : α} (h : i < l.length) : l.getD i d = l[i] := by simp [List.getD, h]
theorem joinV_len {v w : List Int} (h : v.length = w.length) : (joinV v w).length = v.length := by
  simp [joinV, h]
theorem joinV_get {v w : List Int} (h : v.length = w.length) {i : Nat} (hi : i < v.length) : (joinV v w).getD i 0 = max (v.getD i 0) (w.getD i 0) := by
  rw [getD_at (by rw [joinV_len h]; exact hi), getD_at hi, getD_at (by omega)]
  simp [joinV]
theorem ext_getD {v w : List Int} (h : v.length = w.length) (hg : ∀ i, i < v.length → v.getD i 0 = w.getD i 0) : v = w := by
  refine List.ext_getElem h (fun i h1 h2 => ?_)
  have := hg i h1
  rwa [getD_at h1, getD_at h2] at this
theorem getD_set_ne {α : Type} {l : List α} {i j : Nat} {x d : α} (h : i ≠ j) : (l.set i x).getD j d = l.getD j d := by
  simp only [List.getD_eq_getElem?_getD, List.getElem?_set_ne h]
end Go.Proofs.Ytoaopldaleaijaa

namespace Go.Proofs.Ytoaopldaleaijaa
open Go.RowKit
set_option linter.unusedVariables false

section
variable {w : World} {F : Nat → Prop}
/-- Cells in a row that read as plain values. -/
def RowR (w : World) (F : Nat → Prop) (b o : Nat) (row : List IV) : Prop := ∀ (j : Nat) (a : IV), row[j]? = some a → ∃ v, w.cell? ⟨b, o + j, none⟩ = some v ∧ RepI w F a v

theorem repI_isl {sz : Nat} {rows : List (List IV)} {v : Value} (h : RepI w F (.isl sz rows) v) :
    ∃ A c, v = .slice A rows.length c ∧ rows.length ≤ c ∧ c ≤ maxLen ∧ (0 < rows.length → ∃ b off, A = some ⟨b, off, none⟩ ∧ F b ∧ ∀ (k : Nat) (row : List IV), rows[k]? = some row → row.length = sz ∧ RowR w F b (off + k * sz) row) := by
  cases h with
  | isl0 _ a c hm => exact ⟨a, c, rfl, Nat.zero_le _, hm, fun h => by simp at h⟩
  | isl _ b off _ c val hF hc hm hsz hcell hrep =>
    exact ⟨_, c, rfl, hc, hm, fun _ => ⟨b, off, rfl, hF, fun k row hk => ⟨hsz k row hk, fun j a hj => ⟨_, hcell k row j a hk hj, hrep k row j a hk hj⟩⟩⟩⟩

theorem isl_repI {sz : Nat} {rows : List (List IV)} {A : Option Addr} {c : Nat} (h1 : rows.length ≤ c) (h2 : c ≤ maxLen)
    (h : 0 < rows.length → ∃ b off, A = some ⟨b, off, none⟩ ∧ F b ∧ ∀ (k : Nat) (row : List IV), rows[k]? = some row → row.length = sz ∧ RowR w F b (off + k * sz) row) : RepI w F (.isl sz rows) (.slice A rows.length c) := by
  by_cases h0 : 0 < rows.length
  · obtain ⟨b, off, rfl, hF, hr⟩ := h h0
    have cell : ∀ (k : Nat) (row : List IV) (j : Nat) (a : IV), rows[k]? = some row → row[j]? = some a → w.cell? ⟨b, off + k * sz + j, none⟩ = some ((w.cell? ⟨b, off + k * sz + j, none⟩).getD undef) := by
      intro k row j a hk hj
      obtain ⟨v, hv, _⟩ := (hr k row hk).2 j a hj
      rw [hv]; rfl
    exact .isl rows b off sz c (fun k j => (w.cell? ⟨b, off + k * sz + j, none⟩).getD undef) hF h1 h2 (fun k row hk => (hr k row hk).1) cell (fun k row j a hk hj => by
      obtain ⟨v, hv, hr⟩ := (hr k row hk).2 j a hj
      rw [hv]; exact hr)
  · have : rows = [] := List.eq_nil_of_length_eq_zero (by omega)
    subst this
    exact .isl0 _ _ _ h2

section
variable {α : Type} {sz : Nat} {R : World → Nat → Nat → α → Prop} {enc : α → List IV} {xs : List α} {v : Value}
theorem slr_of_rep (hR : ∀ b o x, x ∈ xs → RowR w F b o (enc x) → R w b o x) (h : RepI w F (.isl sz (xs.map enc)) v) : SlR sz R w v xs := by
  obtain ⟨A, c, h1, h2, h3, h4⟩ := repI_isl h
  rw [List.length_map] at h1 h2 h4
  refine ⟨A, c, h1, h2, h3, fun h0 => ?_⟩
  obtain ⟨b, off, h5, h6, h7⟩ := h4 h0
  refine ⟨b, off, h5, fun j x hx => hR _ _ _ (List.mem_of_getElem? hx) (h7 j (enc x) (by rw [List.getElem?_map, hx]; rfl)).2⟩

end

def eAsg (a : Asg) : List IV := [.int .i64 a.v, .int .i64 a.val]
def eEv (e : Ev) : List IV := [.int .i64 e.kind, .int .i64 e.peer, .int .i64 e.msg, .int .i64 e.time, .isl 2 (e.asg.map eAsg)]
def eVr (v : Vr) : List IV := [.str v.name, .int .i64 v.init]
def ePr (p : Pr) : List IV := [.str p.name, .isl 2 (p.vars.map eVr), .isl 5 (p.evs.map eEv)]
def eT (t : Tr) : IV := .isl 3 (t.map ePr)
def eI (n : Int) : List IV := [.int .i64 n]
/-- Names are no longer than a string may be. -/
def Nm (t : Tr) : Prop := ∀ p ∈ t, p.name.size ≤ maxLen ∧ ∀ v ∈ p.vars, v.name.size ≤ maxLen

theorem rowInt {k : IntKind} {n : Int} {b o j : Nat} {row : List IV} (h : RowR w F b o row) (hj : row[j]? = some (.int k n)) : w.cell? ⟨b, o + j, none⟩ = some (.int k n) := by
  obtain ⟨v, hv, hr⟩ := h j _ hj
  cases hr; exact hv
theorem rowStr {s : ByteArray} {b o j : Nat} {row : List IV} (h : RowR w F b o row) (hj : row[j]? = some (.str s)) : w.cell? ⟨b, o + j, none⟩ = some (.string s) := by
  obtain ⟨v, hv, hr⟩ := h j _ hj
  cases hr; exact hv
theorem asg_in {b o : Nat} {x : Asg} (h : RowR w F b o (eAsg x)) : RAsg w b o x := ⟨rowInt (j := 0) h rfl, rowInt (j := 1) h rfl⟩
theorem vr_in {b o : Nat} {x : Vr} (hx : x.name.size ≤ maxLen) (h : RowR w F b o (eVr x)) : RVr w b o x := ⟨rowStr (j := 0) h rfl, rowInt (j := 1) h rfl, hx⟩
theorem ev_in {b o : Nat} {x : Ev} (h : RowR w F b o (eEv x)) : REv w b o x := by
  obtain ⟨v, h1, h2⟩ := h 4 _ rfl
  exact ⟨rowInt (j := 0) h rfl, rowInt (j := 1) h rfl, rowInt (j := 2) h rfl, rowInt (j := 3) h rfl, v, h1, slr_of_rep (fun _ _ _ _ h => asg_in h) h2⟩
theorem pr_in {b o : Nat} {x : Pr} (hx : x.name.size ≤ maxLen ∧ ∀ v ∈ x.vars, v.name.size ≤ maxLen) (h : RowR w F b o (ePr x)) : RPr w b o x := by
  obtain ⟨v, h1, h2⟩ := h 1 _ rfl
  obtain ⟨u, h3, h4⟩ := h 2 _ rfl
  exact ⟨⟨rowStr (j := 0) h rfl, hx.1⟩, ⟨v, h1, slr_of_rep (fun _ _ y hy h => vr_in (hx.2 y hy) h) h2⟩, u, h3, slr_of_rep (fun _ _ _ _ h => ev_in h) h4⟩
/-- A trace as plain data lies in memory as a trace. -/
theorem tr_in {t : Tr} {v : Value} (hn : Nm t) (h : RepI w F (eT t) v) : SlR 3 RPr w v t := slr_of_rep (fun _ _ x hx h => pr_in (hn x hx) h) h

section
end
end

section
variable {P : Program}
/-- A contract that only makes memory, in the words of runs. -/
theorem ACalls.of_ext {f : Nat} {args : List AV} {b l : List Row} {Q : AV → List Row → List Row → Prop} (hf : ∃ fn, P.funcs[f]? = some fn ∧ (fn.name == "runtime.NumGoroutine") = false ∧ fn.body.isSome = true)
    (h : ∀ F L w (vs : Array Value), RepL w F L args vs.toList → Calls P f vs w fun en w' => Ext w w' ∧ ∃ v x, en = .returned v ∧ RepA w' F L x v ∧ Q x b l) : ACalls P f args b l Q := by
  refine ⟨hf, fun F L w vs s hr => Calls.mono (h F L w vs hr) ?_⟩
  rintro en w' ⟨he, v, x, h1, h2, h3⟩
  have hblk : ∀ k, k < w.heap.size → w'.heap[k]? = w.heap[k]? := he.block
  refine ⟨v, x, b, l, F, L, h1, h2, ⟨fun i v z els hi => ?_, s.born, s.apart, fun k hk => ⟨Nat.lt_of_lt_of_le (s.imm k hk).1 he.size, (s.imm k hk).2⟩⟩,
    ⟨fun _ h => h, fun _ _ _ _ h => h, he.os, he.tape, he.output, he.size, fun k hk _ => hblk k hk, fun _ _ h => h, fun _ _ _ h => h, fun _ _ h => .inl h⟩, rfl, h3⟩
  obtain ⟨q, g1, g2⟩ := s.row i v z els hi
  exact ⟨q, g1, g2.mono (fun k hk => hblk k (g2.lt hk)) (fun _ _ hx => hx.mono (fun _ h => h) (fun k hk => hblk k (s.imm k hk).1) (fun _ _ _ h => h))⟩

/-- A contract in the words of runs, used in a walk: arguments are plain values. -/
theorem ACalls.calls {f : Nat} {args : List AV} {Q : AV → List Row → List Row → Prop} (h : ACalls P f args [] [] Q) {w : World} {vs : Array Value} (hr : RepL w (fun b => b < w.heap.size) (fun _ _ => none) args vs.toList) :
    Calls P f vs w fun en w' => ∃ v x b' l' F' L', en = .returned v ∧ RepA w' F' L' x v ∧ Ext w w' ∧ Q x b' l' := by
  have no : ∀ k, ¬ Owned (fun _ _ => none) [] k := by rintro k ⟨i, v, s, e1, q, h1, h2, h3⟩; cases h2
  refine Calls.mono (h.2 _ _ w vs ⟨fun i v z els hi => by simp at hi, fun i v q hq => (by cases hq), fun i i' v v' z z' e1 e2 bb q1 q2 h1 => by simp at h1, fun b hb => ⟨hb, no b⟩⟩ hr) ?_
  rintro en w' ⟨v, x, b', l', F', L', h1, h2, h3, h4, h5, h6⟩
  exact ⟨v, x, b', l', F', L', h1, h2, ⟨h4.os, h4.tape, h4.output, h4.size, fun k hk => h4.block k hk (no k)⟩, h6⟩
end
end Go.Proofs.Ytoaopldaleaijaa

namespace Go.Proofs.Ytoaopldaleaijaa
set_option linter.unusedVariables false
set_option linter.unusedSimpArgs false
attribute [local go_sem ↓] run_skip run_region run_draw run_seq run_block run_exit run_ret run_cond atN_app seqC_normal seqC_exit seqC_ret seqQ_normal seqQ_exit seqQ_ret blkQ_normal blkQ_exit blkQ_ret runOps_nil runOps_cons runD_nil runD_cons grdO_true grdO_false grdD_true grdD_false ifC_true ifC_false opS_val opS_call opS_two opK_app dS_val dS_call dS_two dK_app kUp_same kUp_ne
attribute [local go_sem] rechks_nil rechks_cons rechk gcase_true gcase_false ex_val ex_val0 gd_none gd_some ev_t ev_c evs_nil evs_cons evo_some evo_none hget_at hget_first hsetB_at hsetB_first hsetL_at hsetL_first ofOpt_some aop aload astore aslice aappend aiaddr aiaddrA afaddr alen alenS acopy amm acall alookup amupdate alenM comma keyEq apick binV binVB binVS isSh intOp strOp boolOp shOp eqC eqF and2 cellsOf setFrom fillA fillS rd rdI elems mk bounds AV.cell List.all_cons List.all_nil Bool.and_true Bool.true_and Bool.and_self List.length_cons List.length_nil List.length_append Nat.reduceAdd Nat.reduceSub Nat.reduceMul Nat.zero_add Nat.add_zero List.cons_append List.nil_append List.append_assoc List.append_nil List.getElem?_cons_zero List.getElem?_cons_succ List.getElem?_nil List.set_cons_zero List.set_cons_succ List.drop_zero List.drop_succ_cons List.take_zero List.take_succ_cons List.take_nil List.drop_nil List.map_cons List.map_nil Option.map_some if_true if_false Bool.false_eq_true and_self true_and and_true Nat.reduceLeDiff Nat.reduceLT Nat.le_refl Nat.reduceEqDiff ite_true ite_false beq_self_eq_true beq_true beq_false Bool.not_true Bool.not_false Bool.true_beq Bool.false_beq map_vs vs_len vs_get vs_take vs_drop vs_snoc1 vs_snoc2 vs_snoc3 vs_snoc5 vs_set1 vs_set2 vs_rep wrap_id le_T lt_T le_F lt_F leI_T ltI_T leI_F ltI_F geI gtI get_T decide_true decide_false room List.getElem?_map List.length_map List.length_take Int.toNat_natCast Nat.min_def Nat.min_self nth_kOf put_kOf put_kNo kOv_cons kOv_nil KHas KArgs List.getElem_cons_zero List.getElem_cons_succ
def a_Ind1 : AFunc := ⟨2, 19, [.tmp 4],
  (.seq (.region [⟨(some 4), .mv (.c (.v (.int .i64 0))), none⟩])
  (.seq (.seq (.region [⟨(some 6), .mv (.t 0), none⟩, ⟨(some 7), .len (.t 6), none⟩, ⟨(some 8), .mv (.c (.v (.int .i64 0))), none⟩])
  (.block 0 (.loop (.seq (.region [⟨(some 9), .bin .lss (.t 8) (.t 7), none⟩])
  (.seq (.cond (.t 9) .skip
  (.exit 0))
  (.seq (.block 1 (.seq (.region [⟨(some 10), .mv (.t 8), none⟩, ⟨(some 5), .mv (.t 10), none⟩])
  (.seq (.region [⟨(some 11), .mv (.t 1), none⟩, ⟨(some 12), .mv (.t 0), none⟩, ⟨(some 13), .mv (.t 5), none⟩, ⟨(some 14), .iaddr 1 (.t 12) (.t 13), none⟩, ⟨(some 15), .load none (.t 14), none⟩, ⟨(some 16), .call (.t 11) [(.t 15)], none⟩])
  (.cond (.t 16) (.seq (.region [⟨(some 17), .mv (.t 5), none⟩, ⟨(some 4), .mv (.t 17), none⟩])
  .ret)
  .skip))))
  (.region [⟨(some 18), .bin .add (.t 8) (.c (.v (.int .i64 1))), none⟩, ⟨(some 8), .mv (.t 18), none⟩])))))))
  (.seq (.region [⟨(some 4), .mv (.c (.v (.int .i64 (-1)))), none⟩])
  .ret)))⟩
theorem a_Ind1_ok : cFunc Try.prog 87 = some a_Ind1 := by kernel_rfl
def r_Ind10 : List (Nat × Nat) := [(4, 5), (8, 18)]
def a_Con1 : AFunc := ⟨2, 9, [.tmp 4],
  (.seq (.region [⟨(some 4), .mv (.c (.v (.bool false))), none⟩])
  (.seq (.region [⟨(some 5), .mv (.t 0), none⟩, ⟨(some 6), .mv (.t 1), none⟩, ⟨(some 7), .call (.c (.fn 87 [])) [(.t 5), (.t 6)], none⟩, ⟨(some 8), .bin .geq (.t 7) (.c (.v (.int .i64 0))), none⟩, ⟨(some 4), .mv (.t 8), none⟩])
  .ret))⟩
theorem a_Con1_ok : cFunc Try.prog 30 = some a_Con1 := by kernel_rfl
def a_Clo1 : AFunc := ⟨1, 8, [.tmp 2],
  (.seq (.region [⟨(some 2), .mv (.c (.v .zsl)), none⟩])
  (.seq (.seq (.region [⟨(some 3), .mv (.t 0), none⟩, ⟨(some 4), .isnil false (.t 3), none⟩])
  (.cond (.t 4) (.seq (.region [⟨(some 2), .mv (.c (.v .zsl)), none⟩])
  .ret)
  .skip))
  (.seq (.region [⟨(some 5), .bslice 1 [(.v (.int .i64 0))] 0 [], none⟩, ⟨(some 6), .mv (.t 0), none⟩, ⟨(some 7), .append 1 8 (.t 5) (.t 6), none⟩, ⟨(some 2), .mv (.t 7), none⟩])
  .ret)))⟩
theorem a_Clo1_ok : cFunc Try.prog 114 = some a_Clo1 := by kernel_rfl

/-- A slice of numbers. -/
def iv (v : List Int) : AV := .v (.isl 1 (v.map eI))

def firstP (p : Nat → Bool) (n : Nat) : Int := match (List.range n).find? p with
  | some i => i
  | none => -1
theorem firstP_at {p : Nat → Bool} {n i : Nat} (h : i < n) (h0 : ∀ j, j < i → p j = false) (hi : p i = true) : firstP p n = i := by
  have hf : (List.range n).find? p = some i := by
    rw [show n = i + (1 + (n - i - 1)) by omega, List.range_add, List.find?_append]
    have : (List.range i).find? p = none := by
      rw [List.find?_eq_none]; intro q hq; simp [h0 q (List.mem_range.1 hq)]
    rw [this, Nat.add_comm 1, List.range_succ_eq_map]
    simp [hi]
  unfold firstP; rw [hf]
theorem firstP_none {p : Nat → Bool} {n : Nat} (h0 : ∀ j, j < n → p j = false) : firstP p n = -1 := by
  have : (List.range n).find? p = none := by
    rw [List.find?_eq_none]; intro q hq; simp [h0 q (List.mem_range.1 hq)]
  unfold firstP; rw [this]
theorem firstP_ge {p : Nat → Bool} {n : Nat} : decide (0 ≤ firstP p n) = (List.range n).any p := by
  unfold firstP
  cases h : (List.range n).find? p with
  | none =>
    have := List.find?_eq_none.1 h
    have hn : (List.range n).any p = false := by rw [List.any_eq_false]; exact this
    rw [hn]; rfl
  | some i =>
    have h1 := List.find?_some h
    have h2 := List.mem_of_find?_eq_some h
    have hn : (List.range n).any p = true := List.any_eq_true.2 ⟨i, h2, h1⟩
    rw [hn]; simp

theorem index1_spec (v : List Int) (k : Nat) (caps : List AV) (p : Nat → Bool) (hn : v.length ≤ 1000000) (b l : List Row)
    (hp : ∀ (i : Nat) (h : i < v.length), ACalls Try.prog k (.v (.int .i64 v[i]) :: caps) (b ++ l) [] (fun r b' l' => r = .v (.bool (p i)) ∧ b' = b ++ l ∧ l' = [])) :
    ACalls Try.prog 87 [.v (.isl 1 (v.map eI)), .fn k caps] b l (fun r b' l' => r = .v (.int .i64 (firstP p v.length)) ∧ b' = b ∧ l' = l) := by
  refine calls_kept a_Ind1_ok rfl (by decide) ?_
  intro B g hB hR hE hA
  simp only [KArgs] at hA
  simp (disch := decide) only [a_Ind1, hA, List.length_map, go_sem]
  refine loop_kept (ι := Nat) r_Ind10 (fun i => [(8, .v (.int .i64 i))]) 0 (fun _ => [])
    (fun i => i ≤ v.length ∧ ∀ j, j < i → p j = false) (fun i => v.length - i) 0 ⟨Nat.zero_le _, fun j hj => by omega⟩ (by (repeat (first | exact hE.mono (by omega) | refine KLt.up ?_ (by simp (disch := omega) only [AVlt_v, AVlt_any, AVlt_sl, AVlt_ptr, AVlt_mp, AVlt_agg, AVlt_tup, AVlt_fn, RowsLt_nil, RowsLt_live, RowsLt_dead, List.mem_cons, List.not_mem_nil, List.forall_mem_cons, List.forall_mem_nil, or_false, false_or, forall_eq_or_imp, forall_eq, vs_lt, Nat.add_lt_add_iff_left, Nat.reduceLT, true_and, and_true, and_self, List.length_cons, List.length_nil, Nat.reduceAdd, Nat.zero_add, implies_true, false_imp_iff, lt_T, List.mem_map])))) (by ((try simp (disch := decide) only [hA, go_sem]) <;> (repeat' (first | exact trivial | refine And.intro ?_ ?_)) <;> (first | rfl | (congr 2; omega)))) (fun e => Weak.refl _ _ _) ?_
  rintro g1 hE1 hEE1 hg1 i ⟨hi, h0⟩
  by_cases hlt : i < v.length
  · simp (disch := (first | decide | omega)) only [hA, hg1, eI, go_sem]
    refine ACalls_mono _ _ _ _ _ _ (hB ▸ hp i hlt) ?_
    rintro r b' l' ⟨rfl, rfl, rfl⟩
    cases hpi : p i
    · simp (disch := (first | decide | omega)) only [hA, hg1, hpi, go_sem]
      refine ⟨i + 1, ⟨hlt, fun j hj => ?_⟩, by simp only; omega, ?_⟩
      · rcases Nat.lt_or_ge j i with hji | hji
        · exact h0 j hji
        · have : j = i := by omega
          rw [this]; exact hpi
      exact Weak.kround (p := r_Ind10) (k := 0) (by ((repeat refine (kAny_up rfl).trans ?_); exact hEE1)) (by ((try simp (disch := decide) only [hA, go_sem]) <;> (repeat' (first | exact trivial | refine And.intro ?_ ?_)) <;> (first | rfl | (congr 2; omega)))) rfl hE1 (by simp) (by simp (disch := omega) only [KOvLt, AVlt_v, AVlt_any, AVlt_sl, AVlt_ptr, AVlt_mp, AVlt_agg, AVlt_tup, AVlt_fn, RowsLt_nil, RowsLt_live, RowsLt_dead, List.mem_cons, List.not_mem_nil, List.forall_mem_cons, List.forall_mem_nil, or_false, false_or, forall_eq_or_imp, forall_eq, vs_lt, Nat.add_lt_add_iff_left, Nat.reduceLT, true_and, and_true, and_self, List.length_cons, List.length_nil, Nat.reduceAdd, Nat.zero_add, implies_true, false_imp_iff, lt_T, List.mem_map]) hR (by simp (disch := omega) only [AVlt_v, AVlt_any, AVlt_sl, AVlt_ptr, AVlt_mp, AVlt_agg, AVlt_tup, AVlt_fn, RowsLt_nil, RowsLt_live, RowsLt_dead, List.mem_cons, List.not_mem_nil, List.forall_mem_cons, List.forall_mem_nil, or_false, false_or, forall_eq_or_imp, forall_eq, vs_lt, Nat.add_lt_add_iff_left, Nat.reduceLT, true_and, and_true, and_self, List.length_cons, List.length_nil, Nat.reduceAdd, Nat.zero_add, implies_true, false_imp_iff, lt_T, List.mem_map])
    · simp (disch := (first | decide | omega)) only [hA, hg1, hpi, go_sem]
      exact leave_pure (xs := [.v (.int .i64 i)]) (.inr rfl) (by simp (disch := (first | decide | omega)) only [resVs, resV, go_sem, hA, hg1]) (by simp only [one, AVlt_v, AVlt_any, AVlt_sl, AVlt_ptr, AVlt_mp, AVlt_agg, AVlt_tup, AVlt_fn, RowsLt_nil, RowsLt_live, RowsLt_dead, List.mem_cons, List.not_mem_nil, List.forall_mem_cons, List.forall_mem_nil, or_false, false_or, forall_eq_or_imp, forall_eq, vs_lt, Nat.add_lt_add_iff_left, Nat.reduceLT, true_and, and_true, and_self, List.length_cons, List.length_nil, Nat.reduceAdd, Nat.zero_add, implies_true, false_imp_iff, lt_T, List.mem_map]) hR hB ⟨by rw [firstP_at hlt h0 hpi]; rfl, rfl, rfl⟩
  · simp (disch := (first | decide | omega)) only [hA, hg1, go_sem]
    obtain rfl : i = v.length := by omega
    exact leave_pure (xs := [.v (.int .i64 (-1))]) (.inr rfl) (by simp (disch := (first | decide | omega)) only [resVs, resV, go_sem, hA, hg1]) (by simp only [one, AVlt_v, AVlt_any, AVlt_sl, AVlt_ptr, AVlt_mp, AVlt_agg, AVlt_tup, AVlt_fn, RowsLt_nil, RowsLt_live, RowsLt_dead, List.mem_cons, List.not_mem_nil, List.forall_mem_cons, List.forall_mem_nil, or_false, false_or, forall_eq_or_imp, forall_eq, vs_lt, Nat.add_lt_add_iff_left, Nat.reduceLT, true_and, and_true, and_self, List.length_cons, List.length_nil, Nat.reduceAdd, Nat.zero_add, implies_true, false_imp_iff, lt_T, List.mem_map]) hR hB ⟨by rw [firstP_none h0]; rfl, rfl, rfl⟩
theorem contains1_spec (v : List Int) (k : Nat) (caps : List AV) (p : Nat → Bool) (hn : v.length ≤ 1000000) (b l : List Row)
    (hp : ∀ (i : Nat) (h : i < v.length), ACalls Try.prog k (.v (.int .i64 v[i]) :: caps) (b ++ l) [] (fun r b' l' => r = .v (.bool (p i)) ∧ b' = b ++ l ∧ l' = [])) :
    ACalls Try.prog 30 [.v (.isl 1 (v.map eI)), .fn k caps] b l (fun r b' l' => r = .v (.bool ((List.range v.length).any p)) ∧ b' = b ∧ l' = l) := by
  refine calls_kept a_Con1_ok rfl (by decide) ?_
  intro B g hB hR hE hA
  simp only [KArgs] at hA
  simp (disch := decide) only [a_Con1, hA, go_sem]
  refine ACalls_mono _ _ _ _ _ _ (index1_spec v k caps p hn B [] (by rw [List.append_nil, hB]; exact hp)) ?_
  rintro r b' l' ⟨rfl, rfl, rfl⟩
  simp (disch := decide) only [hA, go_sem]
  exact leave_pure (xs := [.v (.bool (decide (0 ≤ firstP p v.length)))]) (.inr rfl) (by simp (disch := (first | decide | omega)) only [resVs, resV, go_sem, hA]) (by simp only [one, AVlt_v, AVlt_any, AVlt_sl, AVlt_ptr, AVlt_mp, AVlt_agg, AVlt_tup, AVlt_fn, RowsLt_nil, RowsLt_live, RowsLt_dead, List.mem_cons, List.not_mem_nil, List.forall_mem_cons, List.forall_mem_nil, or_false, false_or, forall_eq_or_imp, forall_eq, vs_lt, Nat.add_lt_add_iff_left, Nat.reduceLT, true_and, and_true, and_self, List.length_cons, List.length_nil, Nat.reduceAdd, Nat.zero_add, implies_true, false_imp_iff, lt_T, List.mem_map]) hR hB ⟨by rw [firstP_ge]; rfl, rfl, rfl⟩
end Go.Proofs.Ytoaopldaleaijaa

namespace Go.Proofs.Ytoaopldaleaijaa
set_option linter.unusedVariables false
set_option linter.unusedSimpArgs false
theorem sndr_in {t : Tr} (hv : Vok t) {x : Nat × Nat} (hx : x ∈ ids t) (hk : (evAt t x).kind = 3) : sndr t x ∈ ids t ∧ Hb t (sndr t x) x := back_mem hv hx (sndr_back hk)
/-- Who sent what an event receives. -/
theorem sndr_peer {t : Tr} (hv : Vok t) {x : Nat × Nat} (hx : x ∈ ids t) (hk : (evAt t x).kind = 3) : (evAt t x).peer = ((sndr t x).1 : Int) ∧ (sndr t x).1 ≠ x.1 ∧ (evAt t (sndr t x)).kind = 2 ∧ (evAt t (sndr t x)).msg = (evAt t x).msg := by
  obtain ⟨m, q, hm, _, hq, hq2, hqp⟩ := formed_open (formF_formed (hv.form x hx)) (by rw [hk]; rfl)
  have hp := hv.pair x hx
  unfold pairF at hp
  rw [hk] at hp
  simp only [show ((3 : Int) == 2) = false from rfl, show ((3 : Int) == 3) = true from rfl, if_true, Bool.false_eq_true, if_false] at hp
  rw [if_pos (by have := (hv.paired.recv hx hk).1; simpa using this)] at hp
  have hs : sendsB t q (evAt t x).msg x.1 = true := by
    cases h : sendsB t q (evAt t x).msg x.1 with
    | true => rfl
    | false => rw [hq, Int.toNat_natCast, h] at hp; simp at hp
  unfold sendsB at hs
  obtain ⟨e, he, hb⟩ := List.any_eq_true.1 hs
  simp only [Bool.and_eq_true, beq_iff_eq] at hb
  rw [evsOf_lt hq2] at he
  obtain ⟨j, hj, rfl⟩ := List.getElem_of_mem he
  have hyi : (q, j + 1) ∈ ids t := mem_ids2.2 ⟨hq2, by rw [evsOf_lt hq2]; exact hj⟩
  have hye := evAt_eq hq2 hj
  have hf := hv.paired.send hyi (by rw [hye]; exact hb.1.1)
  rw [hye, hb.1.2] at hf
  have e1 : sndr t x = (q, j + 1) := (firstOf_find hf).1
  rw [e1, hye]
  exact ⟨hq, hqp, hb.1.1, hb.1.2⟩
/-- It is the first one of its process. -/
theorem sndr_first {t : Tr} (hv : Vok t) {x : Nat × Nat} (hx : x ∈ ids t) (hk : (evAt t x).kind = 3) {q j : Nat} (hs : sndr t x = (q, j + 1)) (hq : q < t.length) (hj : j < t[q].evs.length) :
    firstP (fun k => ((t[q].evs.getD k dfEv).kind == 2) && ((t[q].evs.getD k dfEv).msg == (evAt t x).msg)) t[q].evs.length = (j : Int) := by
  obtain ⟨_, _, h3, h4⟩ := sndr_peer hv hx hk
  rw [hs, evAt_eq hq hj] at h3 h4
  refine firstP_at hj (fun k hkj => ?_) (by rw [getD_at hj, h3, h4]; simp)
  rw [getD_at (by omega), Bool.eq_false_iff]
  intro h
  simp only [Bool.and_eq_true, beq_iff_eq] at h
  have hki : (q, k + 1) ∈ ids t := mem_ids2.2 ⟨hq, by rw [evsOf_lt hq]; omega⟩
  have hke := evAt_eq hq (show k < t[q].evs.length by omega)
  have hf := hv.paired.send hki (by rw [hke]; exact h.1)
  rw [hke, h.2] at hf
  have : sndr t x = (q, k + 1) := (firstOf_find hf).1
  rw [hs] at this
  have := congrArg Prod.snd this
  simp at this
  omega
end Go.Proofs.Ytoaopldaleaijaa

namespace Go.Proofs.Ytoaopldaleaijaa
set_option linter.unusedVariables false
set_option linter.unusedSimpArgs false
attribute [local go_sem ↓] run_skip run_region run_draw run_seq run_block run_exit run_ret run_cond atN_app seqC_normal seqC_exit seqC_ret seqQ_normal seqQ_exit seqQ_ret blkQ_normal blkQ_exit blkQ_ret runOps_nil runOps_cons runD_nil runD_cons grdO_true grdO_false grdD_true grdD_false ifC_true ifC_false opS_val opS_call opS_two opK_app dS_val dS_call dS_two dK_app kUp_same kUp_ne
attribute [local go_sem] rechks_nil rechks_cons rechk gcase_true gcase_false ex_val ex_val0 gd_none gd_some ev_t ev_c evs_nil evs_cons evo_some evo_none hget_at hget_first hsetB_at hsetB_first hsetL_at hsetL_first ofOpt_some aop aload astore aslice aappend aiaddr aiaddrA afaddr alen alenS acopy amm acall alookup amupdate alenM comma keyEq apick binV binVB binVS isSh intOp strOp boolOp shOp eqC eqF and2 cellsOf setFrom fillA fillS rd rdI elems mk bounds AV.cell List.all_cons List.all_nil Bool.and_true Bool.true_and Bool.and_self List.length_cons List.length_nil List.length_append Nat.reduceAdd Nat.reduceSub Nat.reduceMul Nat.zero_add Nat.add_zero List.cons_append List.nil_append List.append_assoc List.append_nil List.getElem?_cons_zero List.getElem?_cons_succ List.getElem?_nil List.set_cons_zero List.set_cons_succ List.drop_zero List.drop_succ_cons List.take_zero List.take_succ_cons List.take_nil List.drop_nil List.map_cons List.map_nil Option.map_some if_true if_false Bool.false_eq_true and_self true_and and_true Nat.reduceLeDiff Nat.reduceLT Nat.le_refl Nat.reduceEqDiff ite_true ite_false beq_self_eq_true beq_true beq_false Bool.not_true Bool.not_false Bool.true_beq Bool.false_beq map_vs vs_len vs_get vs_take vs_drop vs_snoc1 vs_snoc2 vs_snoc3 vs_snoc5 vs_set1 vs_set2 vs_rep wrap_id le_T lt_T le_F lt_F leI_T ltI_T leI_F ltI_F geI gtI get_T decide_true decide_false room List.getElem?_map List.length_map List.length_take Int.toNat_natCast Nat.min_def Nat.min_self nth_kOf put_kOf put_kNo kOv_cons kOv_nil KHas KArgs List.getElem_cons_zero List.getElem_cons_succ
/-- The end of a function that hands out its first own row as it is. -/
theorem leave_own {rs : List ARes} {Q : AV → List Row → List Row → Prop} {B e l : _} {ex : AExit} (hex : ex = .normal ∨ ex = .ret) {ver sz n : Nat} {rows : List (List IV)} {junk : List Row} (hx : resVs e B l rs = some [.sl B.length ver 0 n]) (hl : l = [.live ver sz (vs rows)] ++ junk)
    (hR : RowsLt B.length B) {b0 l0 : List Row} (hB : B = b0 ++ l0) (hq : Q (.sl B.length ver 0 n) b0 (l0 ++ [.live ver sz (vs rows)])) : Leaves rs Q b0.length ex e B l := by
  refine leave hex hx (y := .sl B.length ver 0 n) (Weak.trim (l1 := [.live ver sz (vs rows)]) hl ?_ (hR.mono (by omega)) ?_) hB hq
  · intro x hx
    simp [one] at hx
    subst hx
    simp (disch := omega) only [AVlt_v, AVlt_any, AVlt_sl, AVlt_ptr, AVlt_mp, AVlt_agg, AVlt_tup, AVlt_fn, RowsLt_nil, RowsLt_live, RowsLt_dead, List.mem_cons, List.not_mem_nil, List.forall_mem_cons, List.forall_mem_nil, or_false, false_or, forall_eq_or_imp, forall_eq, vs_lt, Nat.add_lt_add_iff_left, Nat.reduceLT, true_and, and_true, and_self, List.length_cons, List.length_nil, Nat.reduceAdd, Nat.zero_add, implies_true, false_imp_iff, lt_T, List.mem_map]
  · simp (disch := omega) only [AVlt_v, AVlt_any, AVlt_sl, AVlt_ptr, AVlt_mp, AVlt_agg, AVlt_tup, AVlt_fn, RowsLt_nil, RowsLt_live, RowsLt_dead, List.mem_cons, List.not_mem_nil, List.forall_mem_cons, List.forall_mem_nil, or_false, false_or, forall_eq_or_imp, forall_eq, vs_lt, Nat.add_lt_add_iff_left, Nat.reduceLT, true_and, and_true, and_self, List.length_cons, List.length_nil, Nat.reduceAdd, Nat.zero_add, implies_true, false_imp_iff, lt_T, List.mem_map]
theorem clo1_spec (v : List Int) (h1 : 1 ≤ v.length) (ht : v.length ≤ 1000000) (b l : List Row) : ACalls Try.prog 114 [.v (.isl 1 (v.map eI))] b l (fun r b' l' => r = .sl (b.length + l.length) 1 0 v.length ∧ b' = b ∧ l' = l ++ [.live 1 1 (vs (v.map eI))]) := by
  refine calls_kept a_Clo1_ok rfl (by decide) ?_
  intro B g hB hR hE hA
  simp only [KArgs] at hA
  simp (disch := decide) only [a_Clo1, hA, go_sem]
  refine ⟨fun h => ?_, ?_⟩
  · exfalso; rw [List.isEmpty_iff] at h; rw [List.map_eq_nil_iff.1 h] at h1; exact absurd h1 (by decide)
  rw [if_pos (by first | omega | (simp only [List.length_map]; omega))]
  simp (disch := (first | decide | omega)) only [hA, go_sem]
  exact leave_own (.inr rfl) (n := v.length) (rows := v.map eI) (junk := []) (by simp (disch := (first | decide | omega)) only [resVs, resV, hA, List.length_map, go_sem]) (by simp) hR hB ⟨by rw [hB, List.length_append], rfl, rfl⟩
def joTo (v w : List Int) (i : Nat) : List Int := (joinV v w).take i ++ v.drop i
theorem joTo_len {v w : List Int} (h : v.length = w.length) (i : Nat) (hi : i ≤ v.length) : (joTo v w i).length = v.length := by
  unfold joTo; rw [List.length_append, List.length_take, List.length_drop, joinV_len h]; omega
theorem joTo_zero (v w : List Int) : joTo v w 0 = v := by simp [joTo]
theorem joTo_all {v w : List Int} (h : v.length = w.length) : joTo v w v.length = joinV v w := by
  unfold joTo; rw [List.take_of_length_le (by rw [joinV_len h]; exact Nat.le_refl _), List.drop_length, List.append_nil]
theorem joTo_get {v w : List Int} (h : v.length = w.length) {i : Nat} (hi : i < v.length) (h2 : i < (joTo v w i).length) : (joTo v w i)[i] = v[i] := by
  simp only [joTo]
  rw [List.getElem_append_right (by rw [List.length_take, joinV_len h]; omega)]
  simp [joinV_len h, Nat.min_eq_left (Nat.le_of_lt hi)]
theorem joTo_set {v w : List Int} (h : v.length = w.length) {i : Nat} (hi : i < v.length) (hw : i < w.length) : ((joTo v w i).map eI).set i [.int .i64 (max v[i] w[i])] = (joTo v w (i + 1)).map eI := by
  rw [show [IV.int .i64 (max v[i] w[i])] = eI (max v[i] w[i]) from rfl, ← List.map_set]
  congr 1
  refine ext_getD (by rw [List.length_set, joTo_len h _ (by omega), joTo_len h _ hi]) (fun j hj => ?_)
  rw [List.length_set, joTo_len h _ (by omega)] at hj
  have e : ∀ k, k ≤ v.length → ∀ j, j < v.length → (joTo v w k).getD j 0 = if j < k then max (v.getD j 0) (w.getD j 0) else v.getD j 0 := by
    intro k hk j hj
    unfold joTo
    by_cases hjk : j < k
    · rw [if_pos hjk, ← joinV_get h hj]
      simp only [List.getD_eq_getElem?_getD]
      rw [List.getElem?_append_left (by rw [List.length_take, joinV_len h]; omega), List.getElem?_take_of_lt hjk]
    · rw [if_neg hjk]
      simp only [List.getD_eq_getElem?_getD]
      rw [List.getElem?_append_right (by rw [List.length_take, joinV_len h]; omega), List.getElem?_drop, List.length_take, joinV_len h]
      congr 2; omega
  rw [e (i + 1) hi j hj]
  by_cases hij : i = j
  · subst hij
    rw [if_pos (by omega), getD_at (by rw [List.length_set, joTo_len h _ (by omega)]; exact hi), getD_at hi, getD_at hw]
    simp
  · rw [getD_set_ne hij, e i (by omega) j hj]
    by_cases hlt : j < i
    · rw [if_pos hlt, if_pos (by omega)]
    · rw [if_neg hlt, if_neg (by omega)]
end Go.Proofs.Ytoaopldaleaijaa

namespace Go.Proofs.Ytoaopldaleaijaa
set_option linter.unusedVariables false
set_option linter.unusedSimpArgs false
attribute [local go_sem ↓] run_skip run_region run_draw run_seq run_block run_exit run_ret run_cond atN_app seqC_normal seqC_exit seqC_ret seqQ_normal seqQ_exit seqQ_ret blkQ_normal blkQ_exit blkQ_ret runOps_nil runOps_cons runD_nil runD_cons grdO_true grdO_false grdD_true grdD_false ifC_true ifC_false opS_val opS_call opS_two opK_app dS_val dS_call dS_two dK_app kUp_same kUp_ne
attribute [local go_sem] rechks_nil rechks_cons rechk gcase_true gcase_false ex_val ex_val0 gd_none gd_some ev_t ev_c evs_nil evs_cons evo_some evo_none hget_at hget_first hsetB_at hsetB_first hsetL_at hsetL_first ofOpt_some aop aload astore aslice aappend aiaddr aiaddrA afaddr alen alenS acopy amm acall alookup amupdate alenM comma keyEq apick binV binVB binVS isSh intOp strOp boolOp shOp eqC eqF and2 cellsOf setFrom fillA fillS rd rdI elems mk bounds AV.cell List.all_cons List.all_nil Bool.and_true Bool.true_and Bool.and_self List.length_cons List.length_nil List.length_append Nat.reduceAdd Nat.reduceSub Nat.reduceMul Nat.zero_add Nat.add_zero List.cons_append List.nil_append List.append_assoc List.append_nil List.getElem?_cons_zero List.getElem?_cons_succ List.getElem?_nil List.set_cons_zero List.set_cons_succ List.drop_zero List.drop_succ_cons List.take_zero List.take_succ_cons List.take_nil List.drop_nil List.map_cons List.map_nil Option.map_some if_true if_false Bool.false_eq_true and_self true_and and_true Nat.reduceLeDiff Nat.reduceLT Nat.le_refl Nat.reduceEqDiff ite_true ite_false beq_self_eq_true beq_true beq_false Bool.not_true Bool.not_false Bool.true_beq Bool.false_beq map_vs vs_len vs_get vs_take vs_drop vs_snoc1 vs_snoc2 vs_snoc3 vs_snoc5 vs_set1 vs_set2 vs_rep wrap_id le_T lt_T le_F lt_F leI_T ltI_T leI_F ltI_F geI gtI get_T decide_true decide_false room List.getElem?_map List.length_map List.length_take Int.toNat_natCast Nat.min_def Nat.min_self nth_kOf put_kOf put_kNo kOv_cons kOv_nil KHas KArgs List.getElem_cons_zero List.getElem_cons_succ
/-- A call whose contract says result and rows: the run goes on with them. -/
theorem ACalls.next {P : Program} {f : Nat} {args : List AV} {b l B' L' : List Row} {x : AV} {K : AV → List Row → List Row → Prop} (h : ACalls P f args b l (fun r b' l' => r = x ∧ b' = B' ∧ l' = L')) (k : K x B' L') : ACalls P f args b l K := by
  refine ACalls_mono _ _ _ _ _ _ h ?_
  rintro r b' l' ⟨rfl, rfl, rfl⟩
  exact k
end Go.Proofs.Ytoaopldaleaijaa

namespace Go.Proofs.Ytoaopldaleaijaa
open Go.RowKit Go.ChangeShapes Go.WideShapes Go.Deep
set_option linter.unusedVariables false

/-- Cells that read as a row of plain values. -/
def RIs (w : World) (F : Nat → Prop) (row : List IV) (cs : List Value) : Prop := row.length = cs.length ∧ ∀ (j : Nat) (a : IV) (v : Value), row[j]? = some a → cs[j]? = some v → RepI w F a v
theorem RIs.nil {w : World} {F : Nat → Prop} : RIs w F [] [] := ⟨rfl, fun j a v h => by simp at h⟩
theorem RIs.one {w : World} {F : Nat → Prop} {a : IV} {v : Value} (h : RepI w F a v) : RIs w F [a] [v] := by
  refine ⟨rfl, fun j x u hx hu => ?_⟩
  cases j with
  | zero => simp at hx hu; subst hx; subst hu; exact h
  | succ j => simp at hx
theorem RIs.append {w : World} {F : Nat → Prop} {r s : List IV} {cs ds : List Value} (h : RIs w F r cs) (k : RIs w F s ds) : RIs w F (r ++ s) (cs ++ ds) := by
  refine ⟨by simp [h.1, k.1], fun j a v ha hv => ?_⟩
  by_cases hj : j < r.length
  · rw [List.getElem?_append_left hj] at ha
    rw [List.getElem?_append_left (by rw [← h.1]; exact hj)] at hv
    exact h.2 j a v ha hv
  · rw [List.getElem?_append_right (by omega)] at ha
    rw [List.getElem?_append_right (by rw [← h.1]; omega), ← h.1] at hv
    exact k.2 _ a v ha hv
theorem RIs.repL {w : World} {F : Nat → Prop} {L : LMap} {r : List IV} {cs : List Value} (h : RIs w F r cs) : RepL w F L (r.map .v) cs := by
  refine ⟨by simpa using h.1, fun j x v hx hv => ?_⟩
  rw [List.getElem?_map] at hx
  cases hq : r[j]? with
  | none => simp [hq] at hx
  | some y => simp [hq] at hx; subst hx; exact .v _ _ (h.2 j y v hq hv)

def Low (w : World) : Nat → Prop := fun b => b < w.heap.size

/-- Values of a type read as rows of plain values. -/
def TR {α : Type} (P : Program) (t : TypeId) (n : Nat) (enc : α → List IV) (good : α → Prop) : Prop :=
  ∀ (H : Type) (en : TypeId × Value → H) (w : World) (base : Nat) (spare : Nat → Bool) (held : Bool) (fuel : Nat) (cs : List Value) (x : DataW H × List MemPlace), cs.length = n → DataW.trod en P w base spare held fuel t cs = some x →
    ∃ y, good y ∧ RIs w (Low w) (enc y) cs

section
variable {P : Program} {α β : Type}
theorem TR.map {t : TypeId} {n : Nat} {enc : α → List IV} {good : α → Prop} (h : TR P t n enc good) {enc' : β → List IV} {good' : β → Prop} (f : α → β) (he : ∀ y, enc' (f y) = enc y) (hg : ∀ y, good y → good' (f y)) : TR P t n enc' good' := by
  intro H en w base spare held fuel cs x hl hx
  obtain ⟨y, g, r⟩ := h H en w base spare held fuel cs x hl hx
  exact ⟨f y, hg y g, by rw [he]; exact r⟩
theorem tr_int {t : TypeId} {k : IntKind} (ht : P.underlying t = some (.int k)) : TR P t 1 (fun n : Int => [.int k n]) (fun n => (Lit.int k n).wf = true) := by
  intro H en w base spare held fuel cs x hl hx
  obtain ⟨n, rfl, _, hw⟩ := DataW.trod_int ht hx
  exact ⟨n, hw, RIs.one (.int _ _)⟩
theorem tr_string {t : TypeId} (ht : P.underlying t = some .string) : TR P t 1 (fun s : ByteArray => [.str s]) (fun s => s.size ≤ maxLen) := by
  intro H en w base spare held fuel cs x hl hx
  obtain ⟨n, rfl, _, hm⟩ := DataW.trod_string ht hx
  exact ⟨n, hm, RIs.one (.str _)⟩
theorem tr_slice {t e : TypeId} {n : Nat} {enc : α → List IV} {good : α → Prop} (h : TR P e n enc good) (ht : P.underlying t = some (.slice e)) (hC : P.cellsOf e = n) (h0 : 0 < n) :
    TR P t 1 (fun ys : List α => [.isl n (ys.map enc)]) (fun ys => ys.length ≤ maxLen ∧ ∀ y ∈ ys, good y) := by
  intro H en w base spare held fuel cs x hl hx
  rcases open_slice ht hx with ⟨hv, _⟩ | ⟨a, len, cap, m, f, D, Pl, hv, hb, hll, hm, hmm, _, hel⟩
  · subst hv
    exact ⟨[], ⟨by simp [maxLen], fun y hy => by simp at hy⟩, RIs.one (.isl0 _ _ _ (by simp [maxLen]))⟩
  · subst hv
    have hle : len ≤ m := by rw [hmm]; split <;> omega
    have key : ∀ i, i < len → ∃ y, (good y ∧ ∃ b off, a = ⟨b, off, none⟩ ∧ (enc y).length = n ∧ ∀ (j : Nat) (c : IV), (enc y)[j]? = some c → ∃ v, w.cell? ⟨b, off + i * n + j, none⟩ = some v ∧ RepI w (Low w) c v) := by
      intro i hi
      obtain ⟨cs', hc, ht'⟩ := hel i (by omega)
      rw [hC] at hc
      obtain ⟨_, hcl, hat⟩ := World.cells?_some hc
      obtain ⟨cs0, hc0, _⟩ := hel 0 (by omega)
      rw [hC] at hc0
      obtain ⟨_, hcl0, hat0⟩ := World.cells?_some hc0
      have h00 := hat0 0 h0
      have e00 : (a.add (0 * n)).add 0 = a := by simp [Addr.add]
      rw [e00, List.getElem?_eq_getElem (show 0 < cs0.length by omega)] at h00
      have hsp := spot_none h00
      obtain ⟨b, off, sp⟩ := a
      simp only at hsp
      subst hsp
      obtain ⟨y, hg, hy⟩ := h H en w base spare held f cs' (D i, Pl i) hcl ht'
      refine ⟨y, hg, b, off, rfl, by rw [hy.1, hcl], fun j c hj => ?_⟩
      have hjl : j < cs'.length := by rw [← hy.1]; exact (List.getElem?_eq_some_iff.1 hj).1
      have := hat j (by omega)
      have e1 : ((⟨b, off, none⟩ : Addr).add (i * n)).add j = ⟨b, off + i * n + j, none⟩ := by
        unfold Addr.add
        by_cases h1 : i * n = 0 <;> by_cases h2 : j = 0 <;> simp [h1, h2]
      rw [e1, List.getElem?_eq_getElem hjl] at this
      exact ⟨_, this, hy.2 j c _ hj (List.getElem?_eq_getElem hjl)⟩
    obtain ⟨xs, hxl, hxs⟩ := list_of len key
    subst hxl
    refine ⟨xs, ⟨by omega, fun y hy => ?_⟩, RIs.one ?_⟩
    · obtain ⟨i, hi⟩ := List.mem_iff_getElem?.1 hy
      exact (hxs i y hi).1
    · by_cases hpos : 0 < xs.length
      · obtain ⟨_, b, off, ha, _⟩ := hxs 0 xs[0] (List.getElem?_eq_getElem hpos)
        subst ha
        have hfacts : ∀ (k : Nat) (row : List IV), (xs.map enc)[k]? = some row → row.length = n ∧ ∀ (j : Nat) (c : IV), row[j]? = some c → ∃ v, w.cell? ⟨b, off + k * n + j, none⟩ = some v ∧ RepI w (Low w) c v := by
          intro k row hk
          rw [List.getElem?_map] at hk
          cases hq : xs[k]? with
          | none => rw [hq] at hk; cases hk
          | some y =>
            rw [hq] at hk; cases hk
            obtain ⟨_, b', off', hh, h1, h2⟩ := hxs k y hq
            injection hh with g1 g2
            subst g1; subst g2
            exact ⟨h1, h2⟩
        have hlow : Low w b := by
          obtain ⟨r1, r2⟩ := hfacts 0 (enc xs[0]) (by rw [List.getElem?_map, List.getElem?_eq_getElem hpos]; rfl)
          obtain ⟨v, hv, _⟩ := r2 0 (enc xs[0])[0] (List.getElem?_eq_getElem (by omega))
          exact lt_of_cell hv
        have := RepI.isl (w := w) (F := Low w) (xs.map enc) b off n cap (fun k j => (w.cell? ⟨b, off + k * n + j, none⟩).getD undef) hlow (by simpa using hll) hm (fun k row hk => (hfacts k row hk).1)
          (fun k row j c hk hj => by
            obtain ⟨v, hv, _⟩ := (hfacts k row hk).2 j c hj
            rw [hv]; rfl)
          (fun k row j c hk hj => by
            obtain ⟨v, hv, hr⟩ := (hfacts k row hk).2 j c hj
            rw [hv]; exact hr)
        rw [List.length_map] at this
        exact this
      · have : xs = [] := List.eq_nil_of_length_eq_zero (by omega)
        subst this
        exact .isl0 _ _ _ hm

/-- Fields from a place on. -/
def TRF (P : Program) (fs : List Field) (o n : Nat) (enc : α → List IV) (good : α → Prop) : Prop :=
  ∀ (H : Type) (en : TypeId × Value → H) (w : World) (base : Nat) (spare : Nat → Bool) (held : Bool) (fuel : Nat) (cs : List Value), cs.length = o + n → (∀ f ∈ fs, ∃ x, DataW.trod en P w base spare held fuel f.type ((cs.drop f.offset).take (P.cellsOf f.type)) = some x) →
    ∃ y, good y ∧ RIs w (Low w) (enc y) (cs.drop o)
theorem trf_nil {o : Nat} : TRF P [] o 0 (fun _ : Unit => []) (fun _ => True) := by
  intro H en w base spare held fuel cs hl _
  refine ⟨(), trivial, ?_⟩
  rw [List.drop_eq_nil_of_le (by omega)]
  exact RIs.nil
theorem trf_cons {f : Field} {fs : List Field} {o n m : Nat} {enc : α → List IV} {good : α → Prop} {enc' : β → List IV} {good' : β → Prop} (h : TR P f.type n enc good) (hC : P.cellsOf f.type = n) (ho : f.offset = o) (k : TRF P fs (o + n) m enc' good') :
    TRF P (f :: fs) o (n + m) (fun y : α × β => enc y.1 ++ enc' y.2) (fun y => good y.1 ∧ good' y.2) := by
  intro H en w base spare held fuel cs hl hfs
  obtain ⟨x, hx⟩ := hfs f (by simp)
  rw [ho, hC] at hx
  obtain ⟨y, hg, hy⟩ := h H en w base spare held fuel _ x (by simp; omega) hx
  obtain ⟨z, hg', hz⟩ := k H en w base spare held fuel cs (by omega) (fun f hf => hfs f (by simp [hf]))
  refine ⟨(y, z), ⟨hg, hg'⟩, ?_⟩
  have : cs.drop o = (cs.drop o).take n ++ cs.drop (o + n) := by rw [← List.drop_drop, List.take_append_drop]
  rw [this]
  exact hy.append hz
theorem tr_struct {t : TypeId} {fs : Array Field} {n : Nat} {enc : α → List IV} {good : α → Prop} (ht : P.underlying t = some (.struct fs)) (h : TRF P fs.toList 0 n enc good) : TR P t n enc good := by
  intro H en w base spare held fuel cs x hl hx
  obtain ⟨xs, m, _, _, _, hlen, hf⟩ := DataW.trod_struct ht hx
  obtain ⟨y, hg, hy⟩ := h H en w base spare held m cs (by omega) (fun f hm => by
    obtain ⟨i, hi⟩ := List.mem_iff_getElem?.1 hm
    have hi' : fs[i]? = some f := by simpa using hi
    have hlt : i < xs.length := by rw [hlen]; exact (Array.getElem?_eq_some_iff.1 hi').1
    exact ⟨_, (hf i f hi').trans (List.getElem?_eq_getElem hlt)⟩)
  exact ⟨y, hg, by simpa using hy⟩
theorem TR.one {t : TypeId} {enc : α → IV} {good : α → Prop} (h : TR P t 1 (fun y => [enc y]) good) {H : Type} {en : TypeId × Value → H} {w : World} {v : Value} {d : DataW H} {p : List MemPlace} {base : Nat} {spare : Nat → Bool} {held : Bool}
    (hv : v.cells = #[v]) (hT : DataW.Trod en P w base spare held t v d p) : ∃ y, good y ∧ RepI w (Low w) (enc y) v := by
  obtain ⟨fuel, hf⟩ := hT
  rw [hv] at hf
  obtain ⟨y, hg, hy⟩ := h H en w base spare held fuel [v] (d, p) rfl hf
  exact ⟨y, hg, hy.2 0 _ _ rfl rfl⟩
theorem TR.agg {t : TypeId} {n : Nat} {enc : α → List IV} {good : α → Prop} (h : TR P t n enc good) {fs : Array Field} (hs : P.underlying t = some (.struct fs)) (hC : P.cellsOf t = n) {H : Type} {en : TypeId × Value → H} {w : World} {v : Value} {d : DataW H} {p : List MemPlace} {base b0 : Nat} {r : Reach} {spare : Nat → Bool} {held : Bool}
    (hv : Value.okWide P w r b0 t v) (hT : DataW.Trod en P w base spare held t v d p) : ∃ y, good y ∧ RepA w (Low w) (fun _ _ => none) (.agg ((enc y).map .v)) v := by
  obtain ⟨cs, rfl, hsz⟩ := okWide_struct hs hv
  obtain ⟨fuel, hf⟩ := hT
  obtain ⟨y, hg, hy⟩ := h H en w base spare held fuel _ (d, p) (by simpa [Value.cells] using hsz.trans hC) hf
  exact ⟨y, hg, RepL.agg hy.repL⟩
end
end Go.Proofs.Ytoaopldaleaijaa

namespace Go.Proofs.Ytoaopldaleaijaa
open Go.RowKit
set_option linter.unusedVariables false
theorem tr_i : TR Try.prog 3 1 (fun n : Int => [.int .i64 n]) (fun n => (Lit.int .i64 n).wf = true) := tr_int Try.underlying3
theorem tr_s : TR Try.prog 9 1 (fun s : ByteArray => [.str s]) (fun s => s.size ≤ maxLen) := tr_string Try.underlying9
theorem tr_asg : TR Try.prog 180 2 eAsg (fun _ => True) :=
  (tr_struct Try.underlying180 (trf_cons tr_i (by kernel_rfl) rfl (trf_cons tr_i (by kernel_rfl) rfl trf_nil))).map (fun y => ⟨y.1, y.2.1⟩) (fun _ => rfl) (fun _ _ => trivial)
theorem tr_asgs : TR Try.prog 38 1 (fun l : List Asg => [.isl 2 (l.map eAsg)]) (fun l => l.length ≤ maxLen) :=
  (tr_slice tr_asg Try.underlying38 (by kernel_rfl) (by decide)).map id (fun _ => rfl) (fun _ h => h.1)
theorem tr_ev : TR Try.prog 40 5 eEv (fun _ => True) :=
  (tr_struct Try.underlying40 (trf_cons tr_i (by kernel_rfl) rfl (trf_cons tr_i (by kernel_rfl) rfl (trf_cons tr_i (by kernel_rfl) rfl (trf_cons tr_i (by kernel_rfl) rfl (trf_cons tr_asgs (by kernel_rfl) rfl trf_nil)))))).map
    (fun y => ⟨y.1, y.2.1, y.2.2.1, y.2.2.2.1, y.2.2.2.2.1⟩) (fun _ => rfl) (fun _ _ => trivial)
theorem tr_evs : TR Try.prog 42 1 (fun l : List Ev => [.isl 5 (l.map eEv)]) (fun l => l.length ≤ maxLen) :=
  (tr_slice tr_ev Try.underlying42 (by kernel_rfl) (by decide)).map id (fun _ => rfl) (fun _ h => h.1)
theorem tr_var : TR Try.prog 141 2 eVr (fun v => v.name.size ≤ maxLen) :=
  (tr_struct Try.underlying141 (trf_cons tr_s (by kernel_rfl) rfl (trf_cons tr_i (by kernel_rfl) rfl trf_nil))).map (fun y => ⟨y.1, y.2.1⟩) (fun _ => rfl) (fun _ h => h.1)
theorem tr_vars : TR Try.prog 41 1 (fun l : List Vr => [.isl 2 (l.map eVr)]) (fun l => l.length ≤ maxLen ∧ ∀ v ∈ l, v.name.size ≤ maxLen) :=
  tr_slice tr_var Try.underlying41 (by kernel_rfl) (by decide)
def OkPr (p : Pr) : Prop := (p.name.size ≤ maxLen ∧ ∀ v ∈ p.vars, v.name.size ≤ maxLen) ∧ p.vars.length ≤ maxLen ∧ p.evs.length ≤ maxLen
theorem tr_proc : TR Try.prog 44 3 ePr OkPr :=
  (tr_struct Try.underlying44 (trf_cons tr_s (by kernel_rfl) rfl (trf_cons tr_vars (by kernel_rfl) rfl (trf_cons tr_evs (by kernel_rfl) rfl trf_nil)))).map
    (fun y => ⟨y.1, y.2.1, y.2.2.1⟩) (fun _ => rfl) (fun _ h => ⟨⟨h.1, h.2.1.2⟩, h.2.1.1, h.2.2.1⟩)
/-- What is known of a trace that comes in. -/
def OkTr (t : Tr) : Prop := t.length ≤ maxLen ∧ ∀ p ∈ t, OkPr p
theorem tr_trace : TR Try.prog 24 1 (fun t : Tr => [eT t]) OkTr :=
  (tr_struct Try.underlying24 (trf_cons (tr_slice tr_proc Try.underlying22 (by kernel_rfl) (by decide)) (by kernel_rfl) rfl trf_nil)).map (fun y => y.1) (fun _ => rfl) (fun _ h => h.1)
theorem OkTr.nm {t : Tr} (h : OkTr t) : Nm t := fun p hp => (h.2 p hp).1
theorem maxLen_eq : maxLen = 9223372036854775807 := by decide
end Go.Proofs.Ytoaopldaleaijaa

namespace Go.Proofs.Ytoaopldaleaijaa
set_option linter.unusedVariables false
def eRw (r : List Int) : List IV := [.isl 1 (r.map eI)]
theorem fl_next {α : Type} {n : Nat} {f : Nat → α} {x : α} (h : f n = x) : fl n f ++ [x] = fl (n + 1) f := by
  rw [fl_snoc]
  refine fl_congr (fun j hj => ?_)
  unfold fUp
  by_cases hj2 : j = n
  · rw [if_pos hj2, hj2, h]
  · rw [if_neg hj2]
end Go.Proofs.Ytoaopldaleaijaa

namespace Go.Proofs.Ytoaopldaleaijaa
set_option linter.unusedVariables false
set_option linter.unusedSimpArgs false
attribute [local go_sem ↓] run_skip run_region run_draw run_seq run_block run_exit run_ret run_cond atN_app seqC_normal seqC_exit seqC_ret seqQ_normal seqQ_exit seqQ_ret blkQ_normal blkQ_exit blkQ_ret runOps_nil runOps_cons runD_nil runD_cons grdO_true grdO_false grdD_true grdD_false ifC_true ifC_false opS_val opS_call opS_two opK_app dS_val dS_call dS_two dK_app kUp_same kUp_ne
attribute [local go_sem] rechks_nil rechks_cons rechk gcase_true gcase_false ex_val ex_val0 gd_none gd_some ev_t ev_c evs_nil evs_cons evo_some evo_none hget_at hget_first hsetB_at hsetB_first hsetL_at hsetL_first ofOpt_some aop aload astore aslice aappend aiaddr aiaddrA afaddr alen alenS acopy amm acall alookup amupdate alenM comma keyEq apick binV binVB binVS isSh intOp strOp boolOp shOp eqC eqF and2 cellsOf setFrom fillA fillS rd rdI elems mk bounds AV.cell List.all_cons List.all_nil Bool.and_true Bool.true_and Bool.and_self List.length_cons List.length_nil List.length_append Nat.reduceAdd Nat.reduceSub Nat.reduceMul Nat.zero_add Nat.add_zero List.cons_append List.nil_append List.append_assoc List.append_nil List.getElem?_cons_zero List.getElem?_cons_succ List.getElem?_nil List.set_cons_zero List.set_cons_succ List.drop_zero List.drop_succ_cons List.take_zero List.take_succ_cons List.take_nil List.drop_nil List.map_cons List.map_nil Option.map_some if_true if_false Bool.false_eq_true and_self true_and and_true Nat.reduceLeDiff Nat.reduceLT Nat.le_refl Nat.reduceEqDiff ite_true ite_false beq_self_eq_true beq_true beq_false Bool.not_true Bool.not_false Bool.true_beq Bool.false_beq map_vs vs_len vs_get vs_take vs_drop vs_snoc1 vs_snoc2 vs_snoc3 vs_snoc5 vs_set1 vs_set2 vs_rep wrap_id le_T lt_T le_F lt_F leI_T ltI_T leI_F ltI_F geI gtI get_T decide_true decide_false room List.getElem?_map List.length_map List.length_take Int.toNat_natCast Nat.min_def Nat.min_self nth_kOf put_kOf put_kNo kOv_cons kOv_nil KHas KArgs List.getElem_cons_zero List.getElem_cons_succ
def a_mZero : AFunc := ⟨1, 26, [.tmp 2, .tmp 3],
  (.seq (.region [⟨(some 2), .mv (.c (.v .zsl)), none⟩, ⟨(some 3), .mv (.c (.v (.int .i64 0))), none⟩])
  (.seq (.seq (.region [⟨(some 6), .mv (.t 0), none⟩, ⟨(some 7), .bin .lss (.t 6) (.c (.v (.int .i64 1))), none⟩, ⟨(some 8), .mv (.t 7), none⟩, ⟨(some 9), .mv (.t 0), some (8, false)⟩, ⟨(some 10), .bin .gtr (.t 9) (.c (.v (.int .i64 8))), some (8, false)⟩, ⟨(some 11), .pick (.t 8) (.c (.v (.bool true))) (.t 10), none⟩])
  (.cond (.t 11) (.seq (.region [⟨(some 2), .mv (.c (.v .zsl)), none⟩, ⟨(some 3), .mv (.c (.v (.int .i64 2))), none⟩])
  .ret)
  .skip))
  (.seq (.region [⟨(some 12), .mv (.t 0), none⟩, ⟨(some 13), .mkslice 1 [(.v .zsl)] 24 (.t 12) (.t 12), none⟩, ⟨(some 4), .mv (.t 13), none⟩])
  (.seq (.seq (.region [⟨(some 14), .mv (.t 4), none⟩, ⟨(some 15), .len (.t 14), none⟩, ⟨(some 16), .mv (.c (.v (.int .i64 0))), none⟩])
  (.block 0 (.loop (.seq (.region [⟨(some 17), .bin .lss (.t 16) (.t 15), none⟩])
  (.seq (.cond (.t 17) .skip
  (.exit 0))
  (.seq (.block 1 (.seq (.region [⟨(some 18), .mv (.t 16), none⟩, ⟨(some 5), .mv (.t 18), none⟩])
  (.region [⟨(some 19), .mv (.t 4), none⟩, ⟨(some 20), .mv (.t 5), none⟩, ⟨(some 21), .mv (.t 0), none⟩, ⟨(some 22), .mkslice 1 [(.v (.int .i64 0))] 8 (.t 21) (.t 21), none⟩, ⟨(some 23), .iaddr 1 (.t 19) (.t 20), none⟩, ⟨none, .store 1 (.t 23) (.t 22), none⟩])))
  (.region [⟨(some 24), .bin .add (.t 16) (.c (.v (.int .i64 1))), none⟩, ⟨(some 16), .mv (.t 24), none⟩])))))))
  (.seq (.region [⟨(some 25), .mv (.t 4), none⟩, ⟨(some 2), .mv (.t 25), none⟩, ⟨(some 3), .mv (.c (.v (.int .i64 0))), none⟩])
  .ret)))))⟩
theorem a_mZero_ok : cFunc Try.prog 141 = some a_mZero := by kernel_rfl
def r_mZero0 : List (Nat × Nat) := [(5, 5), (16, 24)]
def a_mValid : AFunc := ⟨1, 15, [.tmp 2],
  (.seq (.region [⟨(some 1), .box (.t 0), none⟩, ⟨(some 2), .mv (.c (.v (.bool false))), none⟩])
  (.seq (.seq (.region [⟨(some 3), .load none (.t 1), none⟩, ⟨(some 4), .len (.t 3), none⟩, ⟨(some 5), .bin .lss (.t 4) (.c (.v (.int .i64 1))), none⟩, ⟨(some 6), .mv (.t 5), none⟩, ⟨(some 7), .load none (.t 1), some (6, false)⟩, ⟨(some 8), .len (.t 7), some (6, false)⟩, ⟨(some 9), .bin .gtr (.t 8) (.c (.v (.int .i64 8))), some (6, false)⟩, ⟨(some 10), .pick (.t 6) (.c (.v (.bool true))) (.t 9), none⟩])
  (.cond (.t 10) (.seq (.region [⟨(some 2), .mv (.c (.v (.bool false))), none⟩])
  .ret)
  .skip))
  (.seq (.region [⟨(some 11), .load none (.t 1), none⟩, ⟨(some 12), .mkfn 146 [(.t 1)], none⟩, ⟨(some 13), .call (.c (.fn 59 [])) [(.t 11), (.t 12)], none⟩, ⟨(some 14), .not (.t 13), none⟩, ⟨(some 2), .mv (.t 14), none⟩])
  .ret)))⟩
theorem a_mValid_ok : cFunc Try.prog 113 = some a_mValid := by kernel_rfl
def a_vc1 : AFunc := ⟨2, 13, [.tmp 3],
  (.seq (.region [⟨(some 3), .mv (.c (.v (.bool false))), none⟩])
  (.seq (.region [⟨(some 4), .mv (.t 0), none⟩, ⟨(some 5), .len (.t 4), none⟩, ⟨(some 6), .load none (.t 1), none⟩, ⟨(some 7), .len (.t 6), none⟩, ⟨(some 8), .bin .neq (.t 5) (.t 7), none⟩, ⟨(some 9), .mv (.t 8), none⟩, ⟨(some 10), .mv (.t 0), some (9, false)⟩, ⟨(some 11), .call (.c (.fn 30 [])) [(.t 10), (.c (.fn 147 []))], some (9, false)⟩, ⟨(some 12), .pick (.t 9) (.c (.v (.bool true))) (.t 11), none⟩, ⟨(some 3), .mv (.t 12), none⟩])
  .ret))⟩
theorem a_vc1_ok : cFunc Try.prog 146 = some a_vc1 := by kernel_rfl
def a_vc11 : AFunc := ⟨1, 9, [.tmp 2],
  (.seq (.region [⟨(some 2), .mv (.c (.v (.bool false))), none⟩])
  (.seq (.region [⟨(some 3), .mv (.t 0), none⟩, ⟨(some 4), .bin .lss (.t 3) (.c (.v (.int .i64 0))), none⟩, ⟨(some 5), .mv (.t 4), none⟩, ⟨(some 6), .mv (.t 0), some (5, false)⟩, ⟨(some 7), .bin .gtr (.t 6) (.c (.v (.int .i64 1125899906842624))), some (5, false)⟩, ⟨(some 8), .pick (.t 5) (.c (.v (.bool true))) (.t 7), none⟩, ⟨(some 2), .mv (.t 8), none⟩])
  .ret))⟩
theorem a_vc11_ok : cFunc Try.prog 147 = some a_vc11 := by kernel_rfl
def a_ConM : AFunc := ⟨2, 9, [.tmp 4],
  (.seq (.region [⟨(some 4), .mv (.c (.v (.bool false))), none⟩])
  (.seq (.region [⟨(some 5), .mv (.t 0), none⟩, ⟨(some 6), .mv (.t 1), none⟩, ⟨(some 7), .call (.c (.fn 112 [])) [(.t 5), (.t 6)], none⟩, ⟨(some 8), .bin .geq (.t 7) (.c (.v (.int .i64 0))), none⟩, ⟨(some 4), .mv (.t 8), none⟩])
  .ret))⟩
theorem a_ConM_ok : cFunc Try.prog 59 = some a_ConM := by kernel_rfl
def a_IndM : AFunc := ⟨2, 19, [.tmp 4],
  (.seq (.region [⟨(some 4), .mv (.c (.v (.int .i64 0))), none⟩])
  (.seq (.seq (.region [⟨(some 6), .mv (.t 0), none⟩, ⟨(some 7), .len (.t 6), none⟩, ⟨(some 8), .mv (.c (.v (.int .i64 0))), none⟩])
  (.block 0 (.loop (.seq (.region [⟨(some 9), .bin .lss (.t 8) (.t 7), none⟩])
  (.seq (.cond (.t 9) .skip
  (.exit 0))
  (.seq (.block 1 (.seq (.region [⟨(some 10), .mv (.t 8), none⟩, ⟨(some 5), .mv (.t 10), none⟩])
  (.seq (.region [⟨(some 11), .mv (.t 1), none⟩, ⟨(some 12), .mv (.t 0), none⟩, ⟨(some 13), .mv (.t 5), none⟩, ⟨(some 14), .iaddr 1 (.t 12) (.t 13), none⟩, ⟨(some 15), .load none (.t 14), none⟩, ⟨(some 16), .call (.t 11) [(.t 15)], none⟩])
  (.cond (.t 16) (.seq (.region [⟨(some 17), .mv (.t 5), none⟩, ⟨(some 4), .mv (.t 17), none⟩])
  .ret)
  .skip))))
  (.region [⟨(some 18), .bin .add (.t 8) (.c (.v (.int .i64 1))), none⟩, ⟨(some 8), .mv (.t 18), none⟩])))))))
  (.seq (.region [⟨(some 4), .mv (.c (.v (.int .i64 (-1)))), none⟩])
  .ret)))⟩
theorem a_IndM_ok : cFunc Try.prog 112 = some a_IndM := by kernel_rfl
def r_IndM0 : List (Nat × Nat) := [(4, 5), (8, 18)]
def a_copied : AFunc := ⟨1, 23, [.tmp 2],
  (.seq (.region [⟨(some 2), .mv (.c (.v .zsl)), none⟩])
  (.seq (.region [⟨(some 6), .mv (.t 0), none⟩, ⟨(some 7), .len (.t 6), none⟩, ⟨(some 8), .mkslice 1 [(.v .zsl)] 24 (.t 7) (.t 7), none⟩, ⟨(some 3), .mv (.t 8), none⟩])
  (.seq (.seq (.region [⟨(some 9), .mv (.t 0), none⟩, ⟨(some 10), .len (.t 9), none⟩, ⟨(some 11), .mv (.c (.v (.int .i64 0))), none⟩])
  (.block 0 (.loop (.seq (.region [⟨(some 12), .bin .lss (.t 11) (.t 10), none⟩])
  (.seq (.cond (.t 12) .skip
  (.exit 0))
  (.seq (.block 1 (.seq (.region [⟨(some 13), .mv (.t 11), none⟩, ⟨(some 14), .iaddr 1 (.t 9) (.t 11), none⟩, ⟨(some 15), .load none (.t 14), none⟩, ⟨(some 4), .mv (.t 13), none⟩, ⟨(some 5), .mv (.t 15), none⟩])
  (.region [⟨(some 16), .mv (.t 3), none⟩, ⟨(some 17), .mv (.t 4), none⟩, ⟨(some 18), .mv (.t 5), none⟩, ⟨(some 19), .call (.c (.fn 114 [])) [(.t 18)], none⟩, ⟨(some 20), .iaddr 1 (.t 16) (.t 17), none⟩, ⟨none, .store 1 (.t 20) (.t 19), none⟩])))
  (.region [⟨(some 21), .bin .add (.t 11) (.c (.v (.int .i64 1))), none⟩, ⟨(some 11), .mv (.t 21), none⟩])))))))
  (.seq (.region [⟨(some 22), .mv (.t 3), none⟩, ⟨(some 2), .mv (.t 22), none⟩])
  .ret))))⟩
theorem a_copied_ok : cFunc Try.prog 107 = some a_copied := by kernel_rfl
def r_copied0 : List (Nat × Nat) := [(4, 5), (11, 21)]
def a_join : AFunc := ⟨2, 23, [],
  (.seq (.region [⟨(some 5), .mv (.t 0), none⟩, ⟨(some 6), .len (.t 5), none⟩, ⟨(some 7), .mv (.c (.v (.int .i64 0))), none⟩])
  (.block 0 (.loop (.seq (.region [⟨(some 8), .bin .lss (.t 7) (.t 6), none⟩])
  (.seq (.cond (.t 8) .skip
  (.exit 0))
  (.seq (.block 1 (.seq (.region [⟨(some 9), .mv (.t 7), none⟩, ⟨(some 4), .mv (.t 9), none⟩])
  (.draw [⟨0, ⟨(some 10), .mv (.t 0), none⟩, []⟩, ⟨1, ⟨(some 11), .mv (.t 4), none⟩, []⟩, ⟨2, ⟨(some 12), .mv (.t 0), none⟩, []⟩, ⟨3, ⟨(some 13), .mv (.t 4), none⟩, []⟩, ⟨4, ⟨(some 14), .iaddr 1 (.t 12) (.t 13), none⟩, []⟩, ⟨5, ⟨(some 15), .load none (.t 14), none⟩, []⟩, ⟨6, ⟨(some 16), .mv (.t 1), none⟩, []⟩, ⟨7, ⟨(some 17), .mv (.t 4), none⟩, []⟩, ⟨8, ⟨(some 18), .iaddr 1 (.t 16) (.t 17), none⟩, []⟩, ⟨9, ⟨(some 19), .load none (.t 18), none⟩, []⟩, ⟨10, ⟨(some 20), .mm true (.t 15) (.t 19), none⟩, []⟩, ⟨11, ⟨(some 21), .iaddr 1 (.t 10) (.t 11), none⟩, []⟩, ⟨12, ⟨none, .store 1 (.t 21) (.t 20), none⟩, []⟩])))
  (.region [⟨(some 22), .bin .add (.t 7) (.c (.v (.int .i64 1))), none⟩, ⟨(some 7), .mv (.t 22), none⟩])))))))⟩
theorem a_join_ok : cFunc Try.prog 163 = some a_join := by kernel_rfl
def r_join0 : List (Nat × Nat) := [(4, 4), (7, 22)]
def a_mTick : AFunc := ⟨2, 40, [.tmp 4, .tmp 5],
  (.seq (.region [⟨(some 4), .mv (.c (.v .zsl)), none⟩, ⟨(some 5), .mv (.c (.v (.int .i64 0))), none⟩])
  (.seq (.block 0 (.seq (.region [⟨(some 7), .mv (.t 0), none⟩, ⟨(some 8), .call (.c (.fn 113 [])) [(.t 7)], none⟩, ⟨(some 9), .not (.t 8), none⟩, ⟨(some 6), .mv (.t 9), none⟩])
  (.cond (.t 6) (.seq (.region [⟨(some 4), .mv (.c (.v .zsl)), none⟩, ⟨(some 5), .mv (.c (.v (.int .i64 1))), none⟩])
  .ret)
  (.seq (.region [⟨(some 11), .mv (.t 1), none⟩, ⟨(some 12), .bin .lss (.t 11) (.c (.v (.int .i64 0))), none⟩, ⟨(some 13), .mv (.t 12), none⟩, ⟨(some 14), .mv (.t 1), some (13, false)⟩, ⟨(some 15), .mv (.t 0), some (13, false)⟩, ⟨(some 16), .len (.t 15), some (13, false)⟩, ⟨(some 17), .bin .geq (.t 14) (.t 16), some (13, false)⟩, ⟨(some 18), .pick (.t 13) (.c (.v (.bool true))) (.t 17), none⟩, ⟨(some 10), .mv (.t 18), none⟩])
  (.cond (.t 10) (.seq (.region [⟨(some 4), .mv (.c (.v .zsl)), none⟩, ⟨(some 5), .mv (.c (.v (.int .i64 2))), none⟩])
  .ret)
  (.seq (.region [⟨(some 20), .mv (.t 0), none⟩, ⟨(some 21), .mv (.t 1), none⟩, ⟨(some 22), .iaddr 1 (.t 20) (.t 21), none⟩, ⟨(some 23), .load none (.t 22), none⟩, ⟨(some 24), .mv (.t 1), none⟩, ⟨(some 25), .iaddr 1 (.t 23) (.t 24), none⟩, ⟨(some 26), .load none (.t 25), none⟩, ⟨(some 27), .bin .geq (.t 26) (.c (.v (.int .i64 1125899906842624))), none⟩, ⟨(some 19), .mv (.t 27), none⟩])
  (.cond (.t 19) (.seq (.region [⟨(some 4), .mv (.c (.v .zsl)), none⟩, ⟨(some 5), .mv (.c (.v (.int .i64 9))), none⟩])
  .ret)
  .skip)))))))
  (.seq (.region [⟨(some 28), .mv (.t 0), none⟩, ⟨(some 29), .call (.c (.fn 107 [])) [(.t 28)], none⟩, ⟨(some 0), .mv (.t 29), none⟩])
  (.seq (.region [⟨(some 30), .mv (.t 0), none⟩, ⟨(some 31), .mv (.t 1), none⟩, ⟨(some 32), .iaddr 1 (.t 30) (.t 31), none⟩, ⟨(some 33), .load none (.t 32), none⟩, ⟨(some 34), .mv (.t 1), none⟩, ⟨(some 35), .iaddr 1 (.t 33) (.t 34), none⟩, ⟨(some 36), .load none (.t 35), none⟩, ⟨(some 37), .bin .add (.t 36) (.c (.v (.int .i64 1))), none⟩, ⟨(some 38), .iaddr 1 (.t 33) (.t 34), none⟩, ⟨none, .store 1 (.t 38) (.t 37), none⟩])
  (.seq (.region [⟨(some 39), .mv (.t 0), none⟩, ⟨(some 4), .mv (.t 39), none⟩, ⟨(some 5), .mv (.c (.v (.int .i64 0))), none⟩])
  .ret)))))⟩
theorem a_mTick_ok : cFunc Try.prog 144 = some a_mTick := by kernel_rfl
def a_mReceive : AFunc := ⟨4, 82, [.tmp 8, .tmp 9],
  (.seq (.region [⟨(some 8), .mv (.c (.v .zsl)), none⟩, ⟨(some 9), .mv (.c (.v (.int .i64 0))), none⟩])
  (.seq (.region [⟨(some 12), .mv (.t 0), none⟩, ⟨(some 13), .len (.t 12), none⟩, ⟨(some 10), .mv (.t 13), none⟩])
  (.seq (.block 0 (.seq (.region [⟨(some 15), .mv (.t 0), none⟩, ⟨(some 16), .call (.c (.fn 113 [])) [(.t 15)], none⟩, ⟨(some 17), .not (.t 16), none⟩, ⟨(some 18), .mv (.t 17), none⟩, ⟨(some 19), .mv (.t 2), some (18, false)⟩, ⟨(some 20), .call (.c (.fn 113 [])) [(.t 19)], some (18, false)⟩, ⟨(some 21), .not (.t 20), some (18, false)⟩, ⟨(some 22), .pick (.t 18) (.c (.v (.bool true))) (.t 21), none⟩, ⟨(some 23), .mv (.t 22), none⟩, ⟨(some 24), .mv (.t 2), some (23, false)⟩, ⟨(some 25), .len (.t 24), some (23, false)⟩, ⟨(some 26), .mv (.t 10), some (23, false)⟩, ⟨(some 27), .bin .neq (.t 25) (.t 26), some (23, false)⟩, ⟨(some 28), .pick (.t 23) (.c (.v (.bool true))) (.t 27), none⟩, ⟨(some 14), .mv (.t 28), none⟩])
  (.cond (.t 14) (.seq (.region [⟨(some 8), .mv (.c (.v .zsl)), none⟩, ⟨(some 9), .mv (.c (.v (.int .i64 1))), none⟩])
  .ret)
  (.seq (.region [⟨(some 30), .mv (.t 1), none⟩, ⟨(some 31), .bin .lss (.t 30) (.c (.v (.int .i64 0))), none⟩, ⟨(some 32), .mv (.t 31), none⟩, ⟨(some 33), .mv (.t 1), some (32, false)⟩, ⟨(some 34), .mv (.t 10), some (32, false)⟩, ⟨(some 35), .bin .geq (.t 33) (.t 34), some (32, false)⟩, ⟨(some 36), .pick (.t 32) (.c (.v (.bool true))) (.t 35), none⟩, ⟨(some 37), .mv (.t 36), none⟩, ⟨(some 38), .mv (.t 3), some (37, false)⟩, ⟨(some 39), .bin .lss (.t 38) (.c (.v (.int .i64 0))), some (37, false)⟩, ⟨(some 40), .pick (.t 37) (.c (.v (.bool true))) (.t 39), none⟩, ⟨(some 41), .mv (.t 40), none⟩, ⟨(some 42), .mv (.t 3), some (41, false)⟩, ⟨(some 43), .mv (.t 10), some (41, false)⟩, ⟨(some 44), .bin .geq (.t 42) (.t 43), some (41, false)⟩, ⟨(some 45), .pick (.t 41) (.c (.v (.bool true))) (.t 44), none⟩, ⟨(some 46), .mv (.t 45), none⟩, ⟨(some 47), .mv (.t 1), some (46, false)⟩, ⟨(some 48), .mv (.t 3), some (46, false)⟩, ⟨(some 49), .bin .eql (.t 47) (.t 48), some (46, false)⟩, ⟨(some 50), .pick (.t 46) (.c (.v (.bool true))) (.t 49), none⟩, ⟨(some 29), .mv (.t 50), none⟩])
  (.cond (.t 29) (.seq (.region [⟨(some 8), .mv (.c (.v .zsl)), none⟩, ⟨(some 9), .mv (.c (.v (.int .i64 2))), none⟩])
  .ret)
  .skip)))))
  (.seq (.region [⟨(some 51), .mv (.t 0), none⟩, ⟨(some 52), .call (.c (.fn 107 [])) [(.t 51)], none⟩, ⟨(some 0), .mv (.t 52), none⟩])
  (.seq (.seq (.region [⟨(some 53), .mv (.t 0), none⟩, ⟨(some 54), .len (.t 53), none⟩, ⟨(some 55), .mv (.c (.v (.int .i64 0))), none⟩])
  (.block 1 (.loop (.seq (.region [⟨(some 56), .bin .lss (.t 55) (.t 54), none⟩])
  (.seq (.cond (.t 56) .skip
  (.exit 1))
  (.seq (.block 2 (.seq (.region [⟨(some 57), .mv (.t 55), none⟩, ⟨(some 11), .mv (.t 57), none⟩])
  (.draw [⟨0, ⟨(some 58), .mv (.t 0), none⟩, []⟩, ⟨1, ⟨(some 59), .mv (.t 11), none⟩, []⟩, ⟨2, ⟨(some 60), .iaddr 1 (.t 58) (.t 59), none⟩, []⟩, ⟨3, ⟨(some 61), .load none (.t 60), none⟩, []⟩, ⟨4, ⟨(some 62), .mv (.t 2), none⟩, []⟩, ⟨5, ⟨(some 63), .mv (.t 11), none⟩, []⟩, ⟨6, ⟨(some 64), .iaddr 1 (.t 62) (.t 63), none⟩, []⟩, ⟨7, ⟨(some 65), .load none (.t 64), none⟩, []⟩, ⟨8, ⟨(some 66), .call (.c (.fn 163 [])) [(.t 61), (.t 65)], none⟩, []⟩])))
  (.region [⟨(some 67), .bin .add (.t 55) (.c (.v (.int .i64 1))), none⟩, ⟨(some 55), .mv (.t 67), none⟩])))))))
  (.seq (.draw [⟨0, ⟨(some 68), .mv (.t 0), none⟩, []⟩, ⟨1, ⟨(some 69), .mv (.t 1), none⟩, []⟩, ⟨2, ⟨(some 70), .iaddr 1 (.t 68) (.t 69), none⟩, []⟩, ⟨3, ⟨(some 71), .load none (.t 70), none⟩, []⟩, ⟨4, ⟨(some 72), .mv (.t 2), none⟩, []⟩, ⟨5, ⟨(some 73), .mv (.t 3), none⟩, []⟩, ⟨6, ⟨(some 74), .iaddr 1 (.t 72) (.t 73), none⟩, []⟩, ⟨7, ⟨(some 75), .load none (.t 74), none⟩, []⟩, ⟨8, ⟨(some 76), .call (.c (.fn 163 [])) [(.t 71), (.t 75)], none⟩, []⟩])
  (.seq (.region [⟨(some 77), .mv (.t 0), none⟩, ⟨(some 78), .mv (.t 1), none⟩, ⟨(some 79), .call (.c (.fn 144 [])) [(.t 77), (.t 78)], none⟩, ⟨(some 80), .extract 0 (.t 79), none⟩, ⟨(some 81), .extract 1 (.t 79), none⟩, ⟨(some 8), .mv (.t 80), none⟩, ⟨(some 9), .mv (.t 81), none⟩])
  .ret)))))))⟩
theorem a_mReceive_ok : cFunc Try.prog 143 = some a_mReceive := by kernel_rfl
def r_mReceive0 : List (Nat × Nat) := [(11, 11), (55, 67)]

def rowAt (m : List (List Int)) (i : Nat) : List Int := m.getD i []
def badRow (n : Nat) (r : List Int) : Bool := (r.length != n) || (List.range r.length).any (vBadAt r)
def badRowAt (m : List (List Int)) (i : Nat) : Bool := badRow m.length (rowAt m i)
def isM (m : List (List Int)) : Bool := decide (1 ≤ m.length) && (decide (m.length ≤ 8) && !(List.range m.length).any (badRowAt m))
theorem rowAt_at {m : List (List Int)} {i : Nat} (h : i < m.length) : rowAt m i = m[i] := getD_at h
theorem isM_open {m : List (List Int)} (h : isM m = true) : 1 ≤ m.length ∧ m.length ≤ 8 ∧ (∀ i, i < m.length → (rowAt m i).length = m.length) ∧ ∀ i j, i < m.length → j < m.length → 0 ≤ (rowAt m i).getD j 0 ∧ (rowAt m i).getD j 0 ≤ 1125899906842624 := by
  simp only [isM, Bool.and_eq_true, decide_eq_true_eq, Bool.not_eq_true', List.any_eq_false, List.mem_range, badRowAt, badRow, Bool.or_eq_true, not_or, bne_iff_ne, ne_eq, Decidable.not_not, vBadAt, vBad, List.any_eq_true, not_exists, not_and] at h
  refine ⟨h.1, h.2.1, fun i hi => (h.2.2 i hi).1, fun i j hi hj => ?_⟩
  obtain ⟨h1, h2⟩ := h.2.2 i hi
  have := h2 j (by omega)
  omega

theorem indexM_spec (v : List (List Int)) (k : Nat) (caps : List AV) (p : Nat → Bool) (hn : v.length ≤ 1000000) (b l : List Row)
    (hp : ∀ (i : Nat) (h : i < v.length), ACalls Try.prog k (.v (.isl 1 (v[i].map eI)) :: caps) (b ++ l) [] (fun r b' l' => r = .v (.bool (p i)) ∧ b' = b ++ l ∧ l' = [])) :
    ACalls Try.prog 112 [.v (.isl 1 (v.map eRw)), .fn k caps] b l (fun r b' l' => r = .v (.int .i64 (firstP p v.length)) ∧ b' = b ∧ l' = l) := by
  refine calls_kept a_IndM_ok rfl (by decide) ?_
  intro B g hB hR hE hA
  simp only [KArgs] at hA
  simp (disch := decide) only [a_IndM, hA, List.length_map, go_sem]
  refine loop_kept (ι := Nat) r_IndM0 (fun i => [(8, .v (.int .i64 i))]) 0 (fun _ => [])
    (fun i => i ≤ v.length ∧ ∀ j, j < i → p j = false) (fun i => v.length - i) 0 ⟨Nat.zero_le _, fun j hj => by omega⟩ (by (repeat (first | exact hE.mono (by omega) | refine KLt.up ?_ (by simp (disch := omega) only [AVlt_v, AVlt_any, AVlt_sl, AVlt_ptr, AVlt_mp, AVlt_agg, AVlt_tup, AVlt_fn, RowsLt_nil, RowsLt_live, RowsLt_dead, List.mem_cons, List.not_mem_nil, List.forall_mem_cons, List.forall_mem_nil, or_false, false_or, forall_eq_or_imp, forall_eq, vs_lt, Nat.add_lt_add_iff_left, Nat.reduceLT, true_and, and_true, and_self, List.length_cons, List.length_nil, Nat.reduceAdd, Nat.zero_add, implies_true, false_imp_iff, lt_T, List.mem_map])))) (by ((try simp (disch := decide) only [hA, go_sem]) <;> (repeat' (first | exact trivial | refine And.intro ?_ ?_)) <;> (first | rfl | (congr 2; omega)))) (fun e => Weak.refl _ _ _) ?_
  rintro g1 hE1 hEE1 hg1 i ⟨hi, h0⟩
  by_cases hlt : i < v.length
  · simp (disch := (first | decide | omega)) only [hA, hg1, eRw, go_sem]
    refine ACalls_mono _ _ _ _ _ _ (hB ▸ hp i hlt) ?_
    rintro r b' l' ⟨rfl, rfl, rfl⟩
    cases hpi : p i
    · simp (disch := (first | decide | omega)) only [hA, hg1, hpi, go_sem]
      refine ⟨i + 1, ⟨hlt, fun j hj => ?_⟩, by simp only; omega, ?_⟩
      · rcases Nat.lt_or_ge j i with hji | hji
        · exact h0 j hji
        · have : j = i := by omega
          rw [this]; exact hpi
      exact Weak.kround (p := r_IndM0) (k := 0) (by ((repeat refine (kAny_up rfl).trans ?_); exact hEE1)) (by ((try simp (disch := decide) only [hA, go_sem]) <;> (repeat' (first | exact trivial | refine And.intro ?_ ?_)) <;> (first | rfl | (congr 2; omega)))) rfl hE1 (by simp) (by simp (disch := omega) only [KOvLt, AVlt_v, AVlt_any, AVlt_sl, AVlt_ptr, AVlt_mp, AVlt_agg, AVlt_tup, AVlt_fn, RowsLt_nil, RowsLt_live, RowsLt_dead, List.mem_cons, List.not_mem_nil, List.forall_mem_cons, List.forall_mem_nil, or_false, false_or, forall_eq_or_imp, forall_eq, vs_lt, Nat.add_lt_add_iff_left, Nat.reduceLT, true_and, and_true, and_self, List.length_cons, List.length_nil, Nat.reduceAdd, Nat.zero_add, implies_true, false_imp_iff, lt_T, List.mem_map]) hR (by simp (disch := omega) only [AVlt_v, AVlt_any, AVlt_sl, AVlt_ptr, AVlt_mp, AVlt_agg, AVlt_tup, AVlt_fn, RowsLt_nil, RowsLt_live, RowsLt_dead, List.mem_cons, List.not_mem_nil, List.forall_mem_cons, List.forall_mem_nil, or_false, false_or, forall_eq_or_imp, forall_eq, vs_lt, Nat.add_lt_add_iff_left, Nat.reduceLT, true_and, and_true, and_self, List.length_cons, List.length_nil, Nat.reduceAdd, Nat.zero_add, implies_true, false_imp_iff, lt_T, List.mem_map])
    · simp (disch := (first | decide | omega)) only [hA, hg1, hpi, go_sem]
      exact leave_pure (xs := [.v (.int .i64 i)]) (.inr rfl) (by simp (disch := (first | decide | omega)) only [resVs, resV, go_sem, hA, hg1]) (by simp only [one, AVlt_v, AVlt_any, AVlt_sl, AVlt_ptr, AVlt_mp, AVlt_agg, AVlt_tup, AVlt_fn, RowsLt_nil, RowsLt_live, RowsLt_dead, List.mem_cons, List.not_mem_nil, List.forall_mem_cons, List.forall_mem_nil, or_false, false_or, forall_eq_or_imp, forall_eq, vs_lt, Nat.add_lt_add_iff_left, Nat.reduceLT, true_and, and_true, and_self, List.length_cons, List.length_nil, Nat.reduceAdd, Nat.zero_add, implies_true, false_imp_iff, lt_T, List.mem_map]) hR hB ⟨by rw [firstP_at hlt h0 hpi]; rfl, rfl, rfl⟩
  · simp (disch := (first | decide | omega)) only [hA, hg1, go_sem]
    obtain rfl : i = v.length := by omega
    exact leave_pure (xs := [.v (.int .i64 (-1))]) (.inr rfl) (by simp (disch := (first | decide | omega)) only [resVs, resV, go_sem, hA, hg1]) (by simp only [one, AVlt_v, AVlt_any, AVlt_sl, AVlt_ptr, AVlt_mp, AVlt_agg, AVlt_tup, AVlt_fn, RowsLt_nil, RowsLt_live, RowsLt_dead, List.mem_cons, List.not_mem_nil, List.forall_mem_cons, List.forall_mem_nil, or_false, false_or, forall_eq_or_imp, forall_eq, vs_lt, Nat.add_lt_add_iff_left, Nat.reduceLT, true_and, and_true, and_self, List.length_cons, List.length_nil, Nat.reduceAdd, Nat.zero_add, implies_true, false_imp_iff, lt_T, List.mem_map]) hR hB ⟨by rw [firstP_none h0]; rfl, rfl, rfl⟩
theorem containsM_spec (v : List (List Int)) (k : Nat) (caps : List AV) (p : Nat → Bool) (hn : v.length ≤ 1000000) (b l : List Row)
    (hp : ∀ (i : Nat) (h : i < v.length), ACalls Try.prog k (.v (.isl 1 (v[i].map eI)) :: caps) (b ++ l) [] (fun r b' l' => r = .v (.bool (p i)) ∧ b' = b ++ l ∧ l' = [])) :
    ACalls Try.prog 59 [.v (.isl 1 (v.map eRw)), .fn k caps] b l (fun r b' l' => r = .v (.bool ((List.range v.length).any p)) ∧ b' = b ∧ l' = l) := by
  refine calls_kept a_ConM_ok rfl (by decide) ?_
  intro B g hB hR hE hA
  simp only [KArgs] at hA
  simp (disch := decide) only [a_ConM, hA, go_sem]
  refine ACalls.nxt (indexM_spec v k caps p hn B [] (by rw [List.append_nil, hB]; exact hp)) ?_
  simp (disch := decide) only [hA, go_sem]
  exact leave_pure (xs := [.v (.bool (decide (0 ≤ firstP p v.length)))]) (.inr rfl) (by simp (disch := (first | decide | omega)) only [resVs, resV, go_sem, hA]) (by simp only [one, AVlt_v, AVlt_any, AVlt_sl, AVlt_ptr, AVlt_mp, AVlt_agg, AVlt_tup, AVlt_fn, RowsLt_nil, RowsLt_live, RowsLt_dead, List.mem_cons, List.not_mem_nil, List.forall_mem_cons, List.forall_mem_nil, or_false, false_or, forall_eq_or_imp, forall_eq, vs_lt, Nat.add_lt_add_iff_left, Nat.reduceLT, true_and, and_true, and_self, List.length_cons, List.length_nil, Nat.reduceAdd, Nat.zero_add, implies_true, false_imp_iff, lt_T, List.mem_map]) hR hB ⟨by rw [firstP_ge]; rfl, rfl, rfl⟩
theorem vc11_spec (n : Int) (b l : List Row) : ACalls Try.prog 147 [.v (.int .i64 n)] b l (fun r b' l' => r = .v (.bool (vBad n)) ∧ b' = b ∧ l' = l) := by
  refine calls_kept a_vc11_ok rfl (by decide) ?_
  intro B g hB hR hE hA
  simp only [KArgs] at hA
  by_cases h : n < 0
  · have hd := decide_eq_true h
    simp (disch := (first | decide | omega)) only [a_vc11, hA, hd, go_sem]
    exact leave_pure (xs := [.v (.bool true)]) (.inr rfl) (by simp (disch := (first | decide | omega)) only [resVs, resV, go_sem, hA, hd]) (by simp only [one, AVlt_v, AVlt_any, AVlt_sl, AVlt_ptr, AVlt_mp, AVlt_agg, AVlt_tup, AVlt_fn, RowsLt_nil, RowsLt_live, RowsLt_dead, List.mem_cons, List.not_mem_nil, List.forall_mem_cons, List.forall_mem_nil, or_false, false_or, forall_eq_or_imp, forall_eq, vs_lt, Nat.add_lt_add_iff_left, Nat.reduceLT, true_and, and_true, and_self, List.length_cons, List.length_nil, Nat.reduceAdd, Nat.zero_add, implies_true, false_imp_iff, lt_T, List.mem_map]) hR hB ⟨by simp [vBad, h, one], rfl, rfl⟩
  · have hd := decide_eq_false h
    simp (disch := (first | decide | omega)) only [a_vc11, hA, hd, go_sem]
    exact leave_pure (xs := [.v (.bool (decide ((n : Int) > 1125899906842624)))]) (.inr rfl) (by simp (disch := (first | decide | omega)) only [resVs, resV, go_sem, hA, hd]) (by simp only [one, AVlt_v, AVlt_any, AVlt_sl, AVlt_ptr, AVlt_mp, AVlt_agg, AVlt_tup, AVlt_fn, RowsLt_nil, RowsLt_live, RowsLt_dead, List.mem_cons, List.not_mem_nil, List.forall_mem_cons, List.forall_mem_nil, or_false, false_or, forall_eq_or_imp, forall_eq, vs_lt, Nat.add_lt_add_iff_left, Nat.reduceLT, true_and, and_true, and_self, List.length_cons, List.length_nil, Nat.reduceAdd, Nat.zero_add, implies_true, false_imp_iff, lt_T, List.mem_map]) hR hB ⟨by simp [vBad, h, one], rfl, rfl⟩
theorem vc1_spec (m : List (List Int)) (x : List Int) (hx : x.length ≤ 1000000) (id : Nat) (b : List Row) (hid : b[id]? = some (.live 0 1 [[.v (.isl 1 (m.map eRw))]])) : ACalls Try.prog 146 [.v (.isl 1 (x.map eI)), .ptr id 0 0 0] b [] (fun r b' l' => r = .v (.bool (badRow m.length x)) ∧ b' = b ∧ l' = []) := by
  refine calls_kept a_vc1_ok rfl (by decide) ?_
  intro B g hB hR hE hA
  simp only [KArgs] at hA
  have hBb : B = b := by rw [hB, List.append_nil]
  have hlt : id < B.length := by rw [hBb]; exact (List.getElem?_eq_some_iff.1 hid).1
  have hbase : ∀ l, hget B l id = some (.live 0 1 [[.v (.isl 1 (m.map eRw))]]) := fun l => by unfold hget; rw [if_pos hlt, hBb, hid]
  cases h1 : ((x.length : Int) != (m.length : Int))
  · simp (disch := (first | decide | omega)) only [a_vc1, hA, hbase, h1, List.length_map, go_sem]
    refine ACalls.nxt (contains1_spec x _ [] (vBadAt x) (by omega) _ _ (fun i hi => by unfold vBadAt; rw [getD_at hi]; exact vc11_spec _ _ _)) ?_
    have hq : badRow m.length x = (List.range x.length).any (vBadAt x) := by
      unfold badRow
      have : (x.length != m.length) = false := by simp at h1 ⊢; omega
      rw [this, Bool.false_or]
    simp (disch := (first | decide | omega)) only [hA, go_sem]
    exact leave_pure (xs := [.v (.bool ((List.range x.length).any (vBadAt x)))]) (.inr rfl) (by simp (disch := (first | decide | omega)) only [resVs, resV, go_sem, hA]) (by simp only [one, AVlt_v, AVlt_any, AVlt_sl, AVlt_ptr, AVlt_mp, AVlt_agg, AVlt_tup, AVlt_fn, RowsLt_nil, RowsLt_live, RowsLt_dead, List.mem_cons, List.not_mem_nil, List.forall_mem_cons, List.forall_mem_nil, or_false, false_or, forall_eq_or_imp, forall_eq, vs_lt, Nat.add_lt_add_iff_left, Nat.reduceLT, true_and, and_true, and_self, List.length_cons, List.length_nil, Nat.reduceAdd, Nat.zero_add, implies_true, false_imp_iff, lt_T, List.mem_map]) hR hB ⟨by rw [hq]; rfl, rfl, rfl⟩
  · have hq : badRow m.length x = true := by
      unfold badRow
      have : (x.length != m.length) = true := by simp at h1 ⊢; omega
      rw [this, Bool.true_or]
    simp (disch := (first | decide | omega)) only [a_vc1, hA, hbase, h1, List.length_map, go_sem]
    exact leave_pure (xs := [.v (.bool true)]) (.inr rfl) (by simp (disch := (first | decide | omega)) only [resVs, resV, go_sem, hA]) (by simp only [one, AVlt_v, AVlt_any, AVlt_sl, AVlt_ptr, AVlt_mp, AVlt_agg, AVlt_tup, AVlt_fn, RowsLt_nil, RowsLt_live, RowsLt_dead, List.mem_cons, List.not_mem_nil, List.forall_mem_cons, List.forall_mem_nil, or_false, false_or, forall_eq_or_imp, forall_eq, vs_lt, Nat.add_lt_add_iff_left, Nat.reduceLT, true_and, and_true, and_self, List.length_cons, List.length_nil, Nat.reduceAdd, Nat.zero_add, implies_true, false_imp_iff, lt_T, List.mem_map]) hR hB ⟨by rw [hq]; rfl, rfl, rfl⟩
/-- The rows are not so long. -/
def Fit (m : List (List Int)) : Prop := m.length ≤ 1000000 ∧ ∀ r ∈ m, r.length ≤ 1000000
theorem mValid_spec (m : List (List Int)) (hF : Fit m) (b l : List Row) : ACalls Try.prog 113 [.v (.isl 1 (m.map eRw))] b l (fun r b' l' => r = .v (.bool (isM m)) ∧ b' = b ∧ l' = l) := by
  refine calls_kept a_mValid_ok rfl (by decide) ?_
  intro B g hB hR hE hA
  simp only [KArgs] at hA
  by_cases h1 : 1 ≤ m.length
  · by_cases h2 : m.length ≤ 8
    · have hd1 : decide ((m.length : Int) < 1) = false := decide_eq_false (by omega)
      have hd2 : decide ((8 : Int) < m.length) = false := decide_eq_false (by omega)
      simp (disch := (first | decide | omega)) only [a_mValid, hA, List.length_map, hd1, hd2, go_sem]
      refine ACalls.nxt (containsM_spec m _ [.ptr B.length 0 0 0] (badRowAt m) hF.1 _ _ (fun i hi => by
        unfold badRowAt; rw [rowAt_at hi]
        exact vc1_spec m m[i] (hF.2 _ (List.getElem_mem hi)) B.length _ (by rw [List.getElem?_append_right (Nat.le_refl _)]; simp))) ?_
      simp (disch := (first | decide | omega)) only [hA, go_sem]
      exact leave_pure (xs := [.v (.bool (!(List.range m.length).any (badRowAt m)))]) (.inr rfl) (by simp (disch := (first | decide | omega)) only [resVs, resV, go_sem, hA]) (by simp only [one, AVlt_v, AVlt_any, AVlt_sl, AVlt_ptr, AVlt_mp, AVlt_agg, AVlt_tup, AVlt_fn, RowsLt_nil, RowsLt_live, RowsLt_dead, List.mem_cons, List.not_mem_nil, List.forall_mem_cons, List.forall_mem_nil, or_false, false_or, forall_eq_or_imp, forall_eq, vs_lt, Nat.add_lt_add_iff_left, Nat.reduceLT, true_and, and_true, and_self, List.length_cons, List.length_nil, Nat.reduceAdd, Nat.zero_add, implies_true, false_imp_iff, lt_T, List.mem_map]) hR hB ⟨by simp [isM, h1, h2, one], rfl, rfl⟩
    · have hd1 : decide ((m.length : Int) < 1) = false := decide_eq_false (by omega)
      have hd2 : decide ((8 : Int) < m.length) = true := decide_eq_true (by omega)
      simp (disch := (first | decide | omega)) only [a_mValid, hA, List.length_map, hd1, hd2, go_sem]
      exact leave_pure (xs := [.v (.bool false)]) (.inr rfl) (by simp (disch := (first | decide | omega)) only [resVs, resV, go_sem, hA]) (by simp only [one, AVlt_v, AVlt_any, AVlt_sl, AVlt_ptr, AVlt_mp, AVlt_agg, AVlt_tup, AVlt_fn, RowsLt_nil, RowsLt_live, RowsLt_dead, List.mem_cons, List.not_mem_nil, List.forall_mem_cons, List.forall_mem_nil, or_false, false_or, forall_eq_or_imp, forall_eq, vs_lt, Nat.add_lt_add_iff_left, Nat.reduceLT, true_and, and_true, and_self, List.length_cons, List.length_nil, Nat.reduceAdd, Nat.zero_add, implies_true, false_imp_iff, lt_T, List.mem_map]) hR hB ⟨by simp [isM, h1, h2, one], rfl, rfl⟩
  · have hd1 : decide ((m.length : Int) < 1) = true := decide_eq_true (by omega)
    simp (disch := (first | decide | omega)) only [a_mValid, hA, List.length_map, hd1, go_sem]
    exact leave_pure (xs := [.v (.bool false)]) (.inr rfl) (by simp (disch := (first | decide | omega)) only [resVs, resV, go_sem, hA]) (by simp only [one, AVlt_v, AVlt_any, AVlt_sl, AVlt_ptr, AVlt_mp, AVlt_agg, AVlt_tup, AVlt_fn, RowsLt_nil, RowsLt_live, RowsLt_dead, List.mem_cons, List.not_mem_nil, List.forall_mem_cons, List.forall_mem_nil, or_false, false_or, forall_eq_or_imp, forall_eq, vs_lt, Nat.add_lt_add_iff_left, Nat.reduceLT, true_and, and_true, and_self, List.length_cons, List.length_nil, Nat.reduceAdd, Nat.zero_add, implies_true, false_imp_iff, lt_T, List.mem_map]) hR hB ⟨by simp [isM, h1, one], rfl, rfl⟩
/-- Cells of which the first i point to rows of their own. -/
def cTo (base i : Nat) (ver len : Nat → Nat) (j : Nat) : List AV := if j < i then [.sl (base + (j + 1)) (ver j) 0 (len j)] else [.v .zsl]
theorem cTo_next {n base i ver len : Nat} {v0 l0 : Nat → Nat} (hv : v0 i = ver) (hl : l0 i = len) : (fl n (cTo base i v0 l0)).set i [.sl (base + (i + 1)) ver 0 len] = fl n (cTo base (i + 1) v0 l0) := by
  rw [fl_set]
  refine fl_congr (fun j hj => ?_)
  unfold fUp cTo
  by_cases h : j = i
  · subst h; rw [if_pos rfl, if_pos (by omega), hv, hl]
  · rw [if_neg h]
    by_cases h2 : j < i
    · rw [if_pos h2, if_pos (by omega)]
    · rw [if_neg h2, if_neg (by omega)]
theorem cTo_self {base i : Nat} {ver len : Nat → Nat} : cTo base i ver len i = [.v .zsl] := by unfold cTo; rw [if_neg (by omega)]
theorem cTo_zero {n base : Nat} {ver len : Nat → Nat} : List.replicate n [AV.v .zsl] = fl n (cTo base 0 ver len) := by
  apply List.ext_getElem?
  intro j
  by_cases hj : j < n
  · rw [fl_get hj, List.getElem?_replicate, if_pos hj]; unfold cTo; rw [if_neg (by omega)]
  · rw [fl_none (by omega), List.getElem?_replicate, if_neg hj]
theorem mR_start {n v0 base sz : Nat} {ver : Nat → Nat} {R : Nat → List (List IV)} : mR n v0 base sz 0 ver R = .live v0 1 (fl n (cTo base n ver (fun j => (R j).length))) :: fl n (fun j => .live (ver j) sz (vs (R j))) := by
  unfold mR
  congr 1
  · congr 1
    refine fl_congr (fun j hj => ?_)
    unfold mC cTo; rw [if_neg (by omega), if_pos hj]
theorem mR_lt {n v0 base sz m : Nat} {ver : Nat → Nat} {R : Nat → List (List IV)} (h : base + (n + 1) ≤ m) : RowsLt m (mR n v0 base sz 0 ver R) := by
  intro id ver' sz' els hr row hrow c hc
  unfold mR at hr
  cases id with
  | zero =>
    rw [List.getElem?_cons_zero] at hr
    cases hr
    obtain ⟨j, hj, rfl⟩ := List.mem_map.1 hrow
    simp only [List.mem_singleton] at hc
    subst hc
    have := List.mem_range.1 hj
    unfold mC
    rw [if_neg (by omega)]
    exact .sl _ _ _ _ (by omega)
  | succ id =>
    rw [List.getElem?_cons_succ] at hr
    by_cases hid : id < n
    · rw [fl_get hid] at hr
      unfold mD at hr
      rw [if_neg (by omega)] at hr
      cases hr
      obtain ⟨r0, _, rfl⟩ := List.mem_map.1 hrow
      obtain ⟨x0, _, rfl⟩ := List.mem_map.1 hc
      exact .v _
    · rw [fl_none (by omega)] at hr; cases hr
/-- A matrix of which i rows are made. -/
def pM (n v0 base sz i : Nat) (ver : Nat → Nat) (R : Nat → List (List IV)) : List Row := .live v0 1 (fl n (cTo base i ver (fun j => (R j).length))) :: fl i (fun j => .live (ver j) sz (vs (R j)))
theorem pM_lt {n v0 base sz i m : Nat} {ver : Nat → Nat} {R : Nat → List (List IV)} (h : base + (i + 1) ≤ m) : RowsLt m (pM n v0 base sz i ver R) := by
  intro id ver' sz' els hr row hrow c hc
  unfold pM at hr
  cases id with
  | zero =>
    rw [List.getElem?_cons_zero] at hr
    cases hr
    obtain ⟨j, hj, rfl⟩ := List.mem_map.1 hrow
    unfold cTo at hc
    split at hc
    · simp only [List.mem_singleton] at hc
      subst hc
      exact .sl _ _ _ _ (by omega)
    · simp only [List.mem_singleton] at hc
      subst hc
      exact .v _
  | succ id =>
    rw [List.getElem?_cons_succ] at hr
    by_cases hid : id < i
    · rw [fl_get hid] at hr
      cases hr
      obtain ⟨r0, _, rfl⟩ := List.mem_map.1 hrow
      obtain ⟨x0, _, rfl⟩ := List.mem_map.1 hc
      exact .v _
    · rw [fl_none (by omega)] at hr; cases hr
theorem pM_len {n v0 base sz i : Nat} {ver : Nat → Nat} {R : Nat → List (List IV)} : (pM n v0 base sz i ver R).length = i + 1 := by simp [pM, fl_len]
theorem pM_all {n v0 base sz : Nat} {ver : Nat → Nat} {R : Nat → List (List IV)} : pM n v0 base sz n ver R = mR n v0 base sz 0 ver R := mR_start.symm
theorem mR_len {n v0 base sz i : Nat} {ver : Nat → Nat} {R : Nat → List (List IV)} : (mR n v0 base sz i ver R).length = n + 1 := by simp [mR, fl_len]
def zRows (m : Nat) (_ : Nat) : List (List IV) := (List.replicate m (0 : Int)).map eI
theorem zRows_len (m i : Nat) : (zRows m i).length = m := by simp [zRows]
def zeroM (n : Nat) : List (List Int) := fl n fun _ => List.replicate n 0
def zeroMR (n : Int) : AV := if 1 ≤ n ∧ n ≤ 8 then .tup [.v (.isl 1 ((zeroM n.toNat).map eRw)), .v (.int .i64 0)] else .tup [.v .zsl, .v (.int .i64 2)]
theorem mZero_spec (n : Int) (b l : List Row) : ACalls Try.prog 141 [.v (.int .i64 n)] b l (fun r b' l' => r = zeroMR n ∧ b' = b ∧ l' = l) := by
  refine calls_kept a_mZero_ok rfl (by decide) ?_
  intro B g hB hR hE hA
  simp only [KArgs] at hA
  by_cases h1 : n < 1
  · have hd := decide_eq_true h1
    simp (disch := (first | decide | omega)) only [a_mZero, hA, hd, go_sem]
    exact leave_pure (xs := [.v .zsl, .v (.int .i64 2)]) (.inr rfl) (by simp (disch := (first | decide | omega)) only [resVs, resV, go_sem, hA]) (by simp only [one, AVlt_v, AVlt_any, AVlt_sl, AVlt_ptr, AVlt_mp, AVlt_agg, AVlt_tup, AVlt_fn, RowsLt_nil, RowsLt_live, RowsLt_dead, List.mem_cons, List.not_mem_nil, List.forall_mem_cons, List.forall_mem_nil, or_false, false_or, forall_eq_or_imp, forall_eq, vs_lt, Nat.add_lt_add_iff_left, Nat.reduceLT, true_and, and_true, and_self, List.length_cons, List.length_nil, Nat.reduceAdd, Nat.zero_add, implies_true, false_imp_iff, lt_T, List.mem_map]) hR hB ⟨by rw [zeroMR, if_neg (by omega)]; rfl, rfl, rfl⟩
  have hd := decide_eq_false h1
  by_cases h2 : n > 8
  · have hd2 := decide_eq_true h2
    simp (disch := (first | decide | omega)) only [a_mZero, hA, hd, hd2, go_sem]
    exact leave_pure (xs := [.v .zsl, .v (.int .i64 2)]) (.inr rfl) (by simp (disch := (first | decide | omega)) only [resVs, resV, go_sem, hA]) (by simp only [one, AVlt_v, AVlt_any, AVlt_sl, AVlt_ptr, AVlt_mp, AVlt_agg, AVlt_tup, AVlt_fn, RowsLt_nil, RowsLt_live, RowsLt_dead, List.mem_cons, List.not_mem_nil, List.forall_mem_cons, List.forall_mem_nil, or_false, false_or, forall_eq_or_imp, forall_eq, vs_lt, Nat.add_lt_add_iff_left, Nat.reduceLT, true_and, and_true, and_self, List.length_cons, List.length_nil, Nat.reduceAdd, Nat.zero_add, implies_true, false_imp_iff, lt_T, List.mem_map]) hR hB ⟨by rw [zeroMR, if_neg (by omega)]; rfl, rfl, rfl⟩
  have hd2 := decide_eq_false h2
  obtain ⟨m, rfl⟩ : ∃ m : Nat, n = m := ⟨n.toNat, by omega⟩
  have hz : List.replicate m [AV.v .zsl] = fl m (cTo B.length 0 (fun _ => 0) (fun j => (zRows m j).length)) := cTo_zero
  simp (disch := (first | decide | omega)) only [a_mZero, hA, hd, hd2, hz, go_sem]
  refine loop_kept (ι := Nat) r_mZero0 (fun i => [(16, .v (.int .i64 i))]) 1 (fun i => pM m 0 B.length 1 i (fun _ => 0) (zRows m))
    (fun i => i ≤ m) (fun i => m - i) 0 (Nat.zero_le _) (by (repeat (first | exact hE.mono (by omega) | refine KLt.up ?_ (by simp (disch := omega) only [AVlt_v, AVlt_any, AVlt_sl, AVlt_ptr, AVlt_mp, AVlt_agg, AVlt_tup, AVlt_fn, RowsLt_nil, RowsLt_live, RowsLt_dead, List.mem_cons, List.not_mem_nil, List.forall_mem_cons, List.forall_mem_nil, or_false, false_or, forall_eq_or_imp, forall_eq, vs_lt, Nat.add_lt_add_iff_left, Nat.reduceLT, true_and, and_true, and_self, List.length_cons, List.length_nil, Nat.reduceAdd, Nat.zero_add, implies_true, false_imp_iff, lt_T, List.mem_map])))) (by ((try simp (disch := decide) only [hA, go_sem]) <;> (repeat' (first | exact trivial | refine And.intro ?_ ?_)) <;> (first | rfl | (congr 2; omega)))) (fun e => by simp only [pM, fl_zero]; exact Weak.refl _ _ _) ?_
  intro g1 hE1 hEE1 hg1 i hi
  by_cases hlt : i < m
  · have hrep : List.replicate m [AV.v (.int .i64 0)] = vs (zRows m i) := by simp [vs, zRows, eI]
    have cs := cTo_next (n := m) (base := B.length) (i := i) (v0 := fun _ => 0) (l0 := fun j => (zRows m j).length) (ver := 0) (len := m) rfl (zRows_len m i)
    have ds := fl_next (n := i) (f := fun j => Row.live 0 1 (vs (zRows m j))) rfl
    simp (disch := (first | decide | omega)) only [hA, hg1, pM, fl_len, fl_get, setFrom, cellsOf, hrep, cTo_self, cs, ds, go_sem]
    refine ⟨i + 1, hlt, by simp only; omega, ?_⟩
    exact Weak.kround (l1 := pM m 0 B.length 1 (i + 1) (fun _ => 0) (zRows m)) (p := r_mZero0) (k := 1) (by ((repeat refine (kAny_up rfl).trans ?_); exact hEE1)) (by ((try simp (disch := decide) only [hA, go_sem]) <;> (repeat' (first | exact trivial | refine And.intro ?_ ?_)) <;> (first | rfl | (congr 2; omega)))) (junk := []) (by simp only [pM, List.append_nil]) hE1 (by rw [pM_len]; omega) (by simp (disch := omega) only [KOvLt, AVlt_v, AVlt_any, AVlt_sl, AVlt_ptr, AVlt_mp, AVlt_agg, AVlt_tup, AVlt_fn, RowsLt_nil, RowsLt_live, RowsLt_dead, List.mem_cons, List.not_mem_nil, List.forall_mem_cons, List.forall_mem_nil, or_false, false_or, forall_eq_or_imp, forall_eq, vs_lt, Nat.add_lt_add_iff_left, Nat.reduceLT, true_and, and_true, and_self, List.length_cons, List.length_nil, Nat.reduceAdd, Nat.zero_add, implies_true, false_imp_iff, lt_T, List.mem_map]) hR (pM_lt (by rw [pM_len]; omega))
  · simp (disch := (first | decide | omega)) only [hA, hg1, go_sem]
    obtain rfl : i = m := by omega
    refine leave_mat2 (n := i) (v0 := 0) (sz := 1) (ver := fun _ => 0) (R := zRows i) (z := .int .i64 0) (junk := []) (.inr rfl) (by simp (disch := (first | decide | omega)) only [resVs, resV, hA, hg1, go_sem]) (by rw [← pM_all, List.append_nil]) hR hB ⟨?_, rfl, rfl⟩
    rw [zeroMR, if_pos (by omega), Int.toNat_natCast, zeroM, fl_map]
    rfl
/-- The end of a function that hands out rows of its own as they are. -/
theorem leave_keep {rs : List ARes} {Q : AV → List Row → List Row → Prop} {B e l : _} {ex : AExit} (hex : ex = .normal ∨ ex = .ret) {y : AV} {keep junk : List Row} (hx : resVs e B l rs = some [y]) (hl : l = keep ++ junk)
    (hR : RowsLt B.length B) (hy : AVlt (B.length + keep.length) y) (hk : RowsLt (B.length + keep.length) keep) {b0 l0 : List Row} (hB : B = b0 ++ l0) (hq : Q y b0 (l0 ++ keep)) : Leaves rs Q b0.length ex e B l :=
  leave hex hx (y := y) (Weak.trim (l1 := keep) hl (by intro x hx; simp only [one, List.mem_singleton] at hx; subst hx; exact hy) (hR.mono (by omega)) hk) hB hq
/-- The rows of a matrix. -/
def rowsM (m : List (List Int)) (j : Nat) : List (List IV) := (rowAt m j).map eI
theorem copied_spec (m : List (List Int)) (hm : isM m = true) (b l : List Row) : ACalls Try.prog 107 [.v (.isl 1 (m.map eRw))] b l (fun r b' l' => r = .sl (b.length + l.length) 0 0 m.length ∧ b' = b ∧ l' = l ++ mR m.length 0 (b.length + l.length) 1 0 (fun _ => 1) (rowsM m)) := by
  refine calls_kept a_copied_ok rfl (by decide) ?_
  intro B g hB hR hE hA
  simp only [KArgs] at hA
  obtain ⟨l1, l2, l3, _⟩ := isM_open hm
  have hz : List.replicate m.length [AV.v .zsl] = fl m.length (cTo B.length 0 (fun _ => 1) (fun j => (rowsM m j).length)) := cTo_zero
  simp (disch := (first | decide | omega)) only [a_copied, hA, List.length_map, hz, go_sem]
  refine loop_kept (ι := Nat) r_copied0 (fun i => [(11, .v (.int .i64 i))]) 1 (fun i => pM m.length 0 B.length 1 i (fun _ => 1) (rowsM m))
    (fun i => i ≤ m.length) (fun i => m.length - i) 0 (Nat.zero_le _) (by (repeat (first | exact hE.mono (by omega) | refine KLt.up ?_ (by simp (disch := omega) only [AVlt_v, AVlt_any, AVlt_sl, AVlt_ptr, AVlt_mp, AVlt_agg, AVlt_tup, AVlt_fn, RowsLt_nil, RowsLt_live, RowsLt_dead, List.mem_cons, List.not_mem_nil, List.forall_mem_cons, List.forall_mem_nil, or_false, false_or, forall_eq_or_imp, forall_eq, vs_lt, Nat.add_lt_add_iff_left, Nat.reduceLT, true_and, and_true, and_self, List.length_cons, List.length_nil, Nat.reduceAdd, Nat.zero_add, implies_true, false_imp_iff, lt_T, List.mem_map])))) (by ((try simp (disch := decide) only [hA, go_sem]) <;> (repeat' (first | exact trivial | refine And.intro ?_ ?_)) <;> (first | rfl | (congr 2; omega)))) (fun e => by simp only [pM, fl_zero]; exact Weak.refl _ _ _) ?_
  intro g1 hE1 hEE1 hg1 i hi
  by_cases hlt : i < m.length
  · have hri := rowAt_at hlt
    have hrl : (rowsM m i).length = m.length := by unfold rowsM; rw [List.length_map, l3 i hlt]
    have hil : m[i].length = m.length := by rw [← hri]; exact l3 i hlt
    have cs := cTo_next (n := m.length) (base := B.length) (i := i) (v0 := fun _ => 1) (l0 := fun j => (rowsM m j).length) (ver := 1) (len := m.length) rfl hrl
    have ds := fl_next (n := i) (f := fun j => Row.live 1 1 (vs (rowsM m j))) (x := Row.live 1 1 (vs (m[i].map eI))) (by unfold rowsM; rw [hri])
    simp (disch := (first | decide | omega)) only [hA, hg1, pM, eRw, go_sem]
    refine ACalls.nxt (clo1_spec m[i] (by omega) (by omega) _ _) ?_
    rw [hil]
    simp (disch := (first | decide | omega)) only [hA, hg1, fl_len, fl_get, setFrom, cellsOf, cTo_self, cs, ds, go_sem]
    refine ⟨i + 1, hlt, by simp only; omega, ?_⟩
    exact Weak.kround (l1 := pM m.length 0 B.length 1 (i + 1) (fun _ => 1) (rowsM m)) (p := r_copied0) (k := 1) (by ((repeat refine (kAny_up rfl).trans ?_); exact hEE1)) (by ((try simp (disch := decide) only [hA, go_sem]) <;> (repeat' (first | exact trivial | refine And.intro ?_ ?_)) <;> (first | rfl | (congr 2; omega)))) (junk := []) (by simp only [pM, List.append_nil]) hE1 (by rw [pM_len]; omega) (by simp (disch := omega) only [KOvLt, AVlt_v, AVlt_any, AVlt_sl, AVlt_ptr, AVlt_mp, AVlt_agg, AVlt_tup, AVlt_fn, RowsLt_nil, RowsLt_live, RowsLt_dead, List.mem_cons, List.not_mem_nil, List.forall_mem_cons, List.forall_mem_nil, or_false, false_or, forall_eq_or_imp, forall_eq, vs_lt, Nat.add_lt_add_iff_left, Nat.reduceLT, true_and, and_true, and_self, List.length_cons, List.length_nil, Nat.reduceAdd, Nat.zero_add, implies_true, false_imp_iff, lt_T, List.mem_map]) hR (pM_lt (by rw [pM_len]; omega))
  · simp (disch := (first | decide | omega)) only [hA, hg1, go_sem]
    obtain rfl : i = m.length := by omega
    have hBl : B.length = b.length + l.length := by rw [hB, List.length_append]
    exact leave_keep (y := .sl B.length 0 0 m.length) (keep := mR m.length 0 B.length 1 0 (fun _ => 1) (rowsM m)) (junk := []) (.inr rfl) (by simp (disch := (first | decide | omega)) only [resVs, resV, hA, hg1, go_sem]) (by rw [← pM_all, List.append_nil]) hR (by rw [mR_len]; exact .sl _ _ _ _ (by omega)) (mR_lt (by rw [mR_len]; omega)) hB ⟨by rw [hBl], rfl, by rw [hBl]⟩
theorem mC_0 {base sz j : Nat} {ver : Nat → Nat} {R : Nat → List (List IV)} : mC base sz 0 ver R j = .sl (base + (j + 1)) (ver j) 0 (R j).length := by unfold mC; rw [if_neg (by omega)]
theorem mD_0 {sz j : Nat} {ver : Nat → Nat} {R : Nat → List (List IV)} : mD sz 0 ver R j = .live (ver j) sz (vs (R j)) := by unfold mD; rw [if_neg (by omega)]
theorem mD_set {n sz p v : Nat} {ver : Nat → Nat} {R : Nat → List (List IV)} {x : List (List IV)} (hv : ver p = v) : (fl n (mD sz 0 ver R)).set p (.live v sz (vs x)) = fl n (mD sz 0 ver (fUp R p x)) := by
  rw [fl_set]
  refine fl_congr (fun j hj => ?_)
  unfold fUp mD
  by_cases h : j = p
  · subst h; simp [hv]
  · simp [h]
theorem mC_set {n base sz p : Nat} {ver : Nat → Nat} {R : Nat → List (List IV)} {x : List (List IV)} (hx : x.length = (R p).length) : (fl n fun j => [mC base sz 0 ver R j]) = fl n fun j => [mC base sz 0 ver (fUp R p x) j] := by
  refine fl_congr (fun j hj => ?_)
  rw [mC_0, mC_0]
  unfold fUp
  by_cases h : j = p
  · subst h; rw [if_pos rfl, hx]
  · rw [if_neg h]
def ent (m : List (List Int)) (i j : Nat) : Int := (rowAt m i).getD j 0
def tickM (m : List (List Int)) (p : Nat) : List (List Int) := fl m.length fun i => if i = p then (rowAt m p).set p (ent m p p + 1) else rowAt m i
def tickME (m : List (List Int)) (p : Int) : Int := if isM m = false then 1 else if p < 0 ∨ p ≥ m.length then 2 else if ent m p.toNat p.toNat ≥ 1125899906842624 then 9 else 0
def tickMR (m : List (List Int)) (p : Int) : AV := if tickME m p = 0 then .tup [.v (.isl 1 ((tickM m p.toNat).map eRw)), .v (.int .i64 0)] else .tup [.v .zsl, .v (.int .i64 (tickME m p))]
theorem mV_rows {n : Nat} {f : Nat → List Int} : mV n 1 (fun j => (f j).map eI) = (fl n f).map eRw := by
  unfold mV; rw [fl_map]; rfl
theorem mTick_spec (m : List (List Int)) (hF : Fit m) (p : Int) (b l : List Row) : ACalls Try.prog 144 [.v (.isl 1 (m.map eRw)), .v (.int .i64 p)] b l (fun r b' l' => r = tickMR m p ∧ b' = b ∧ l' = l) := by
  refine calls_kept a_mTick_ok rfl (by decide) ?_
  intro B g hB hR hE hA
  simp only [KArgs] at hA
  simp (disch := decide) only [a_mTick, hA, go_sem]
  refine ACalls.nxt (mValid_spec m hF _ _) ?_
  cases h1 : isM m
  · simp (disch := decide) only [hA, go_sem]
    have e : tickME m p = 1 := by simp [tickME, h1]
    exact leave_pure (xs := [.v .zsl, .v (.int .i64 1)]) (.inr rfl) (by simp (disch := (first | decide | omega)) only [resVs, resV, go_sem, hA]) (by simp only [one, AVlt_v, AVlt_any, AVlt_sl, AVlt_ptr, AVlt_mp, AVlt_agg, AVlt_tup, AVlt_fn, RowsLt_nil, RowsLt_live, RowsLt_dead, List.mem_cons, List.not_mem_nil, List.forall_mem_cons, List.forall_mem_nil, or_false, false_or, forall_eq_or_imp, forall_eq, vs_lt, Nat.add_lt_add_iff_left, Nat.reduceLT, true_and, and_true, and_self, List.length_cons, List.length_nil, Nat.reduceAdd, Nat.zero_add, implies_true, false_imp_iff, lt_T, List.mem_map]) hR hB ⟨by simp [tickMR, e, one], rfl, rfl⟩
  obtain ⟨l1, l2, l3, l4⟩ := isM_open h1
  by_cases h2 : p < 0
  · have hd := decide_eq_true h2
    have e : tickME m p = 2 := by simp [tickME, h1, h2]
    simp (disch := (first | decide | omega)) only [hA, hd, go_sem]
    exact leave_pure (xs := [.v .zsl, .v (.int .i64 2)]) (.inr rfl) (by simp (disch := (first | decide | omega)) only [resVs, resV, go_sem, hA, hd]) (by simp only [one, AVlt_v, AVlt_any, AVlt_sl, AVlt_ptr, AVlt_mp, AVlt_agg, AVlt_tup, AVlt_fn, RowsLt_nil, RowsLt_live, RowsLt_dead, List.mem_cons, List.not_mem_nil, List.forall_mem_cons, List.forall_mem_nil, or_false, false_or, forall_eq_or_imp, forall_eq, vs_lt, Nat.add_lt_add_iff_left, Nat.reduceLT, true_and, and_true, and_self, List.length_cons, List.length_nil, Nat.reduceAdd, Nat.zero_add, implies_true, false_imp_iff, lt_T, List.mem_map]) hR hB ⟨by simp [tickMR, e, one], rfl, rfl⟩
  have hd := decide_eq_false h2
  by_cases h3 : p ≥ m.length
  · have hd2 : decide ((m.length : Int) ≤ p) = true := decide_eq_true h3
    have e : tickME m p = 2 := by simp [tickME, h1, h3]
    simp (disch := (first | decide | omega)) only [hA, List.length_map, hd, hd2, go_sem]
    exact leave_pure (xs := [.v .zsl, .v (.int .i64 2)]) (.inr rfl) (by simp (disch := (first | decide | omega)) only [resVs, resV, go_sem, hA, hd]) (by simp only [one, AVlt_v, AVlt_any, AVlt_sl, AVlt_ptr, AVlt_mp, AVlt_agg, AVlt_tup, AVlt_fn, RowsLt_nil, RowsLt_live, RowsLt_dead, List.mem_cons, List.not_mem_nil, List.forall_mem_cons, List.forall_mem_nil, or_false, false_or, forall_eq_or_imp, forall_eq, vs_lt, Nat.add_lt_add_iff_left, Nat.reduceLT, true_and, and_true, and_self, List.length_cons, List.length_nil, Nat.reduceAdd, Nat.zero_add, implies_true, false_imp_iff, lt_T, List.mem_map]) hR hB ⟨by simp [tickMR, e, one], rfl, rfl⟩
  have hd2 : decide ((m.length : Int) ≤ p) = false := decide_eq_false h3
  obtain ⟨n, rfl⟩ : ∃ n : Nat, p = n := ⟨p.toNat, by omega⟩
  have hn : n < m.length := by omega
  have hri := rowAt_at hn
  have hnl : n < m[n].length := by rw [← hri, l3 n hn]; exact hn
  have hg := getD_at (d := 0) hnl
  have he : ent m n n = m[n][n] := by unfold ent; rw [hri, hg]
  have hr := l4 n n hn hn
  rw [hri, hg] at hr
  by_cases h4 : m[n][n] ≥ 1125899906842624
  · have hd3 : decide ((1125899906842624 : Int) ≤ m[n][n]) = true := decide_eq_true h4
    have e : tickME m n = 9 := by
      unfold tickME
      rw [if_neg (by simp [h1]), if_neg (by omega), if_pos (by rw [Int.toNat_natCast, he]; exact h4)]
    simp (disch := (first | decide | omega)) only [hA, List.length_map, hd, hd2, eRw, eI, hd3, go_sem]
    exact leave_pure (xs := [.v .zsl, .v (.int .i64 9)]) (.inr rfl) (by simp (disch := (first | decide | omega)) only [resVs, resV, go_sem, hA, hd]) (by simp only [one, AVlt_v, AVlt_any, AVlt_sl, AVlt_ptr, AVlt_mp, AVlt_agg, AVlt_tup, AVlt_fn, RowsLt_nil, RowsLt_live, RowsLt_dead, List.mem_cons, List.not_mem_nil, List.forall_mem_cons, List.forall_mem_nil, or_false, false_or, forall_eq_or_imp, forall_eq, vs_lt, Nat.add_lt_add_iff_left, Nat.reduceLT, true_and, and_true, and_self, List.length_cons, List.length_nil, Nat.reduceAdd, Nat.zero_add, implies_true, false_imp_iff, lt_T, List.mem_map]) hR hB ⟨by simp [tickMR, e, one], rfl, rfl⟩
  have hd3 : decide ((1125899906842624 : Int) ≤ m[n][n]) = false := decide_eq_false h4
  have e : tickME m n = 0 := by
    unfold tickME
    rw [if_neg (by simp [h1]), if_neg (by omega), if_neg (by rw [Int.toNat_natCast, he]; exact h4)]
  simp (disch := (first | decide | omega)) only [hA, List.length_map, hd, hd2, eRw, eI, hd3, go_sem]
  refine ACalls.nxt (copied_spec m h1 _ _) ?_
  have hRn : rowsM m n = m[n].map eI := by unfold rowsM; rw [hri]
  have hRl : (rowsM m n).length = m.length := by rw [hRn, List.length_map, ← hri, l3 n hn]
  have hst : (m[n].map eI).set n [.int .i64 (m[n][n] + 1)] = (m[n].set n (m[n][n] + 1)).map eI := by rw [List.map_set]; rfl
  have ds := mD_set (n := m.length) (sz := 1) (p := n) (v := 1) (ver := fun _ => 1) (R := rowsM m) (x := (m[n].set n (m[n][n] + 1)).map eI) rfl
  have cs := mC_set (n := m.length) (base := B.length) (sz := 1) (p := n) (ver := fun _ => 1) (R := rowsM m) (x := (m[n].set n (m[n][n] + 1)).map eI) (by rw [hRl, List.length_map, List.length_set, ← hri, l3 n hn])
  simp (disch := (first | decide | omega)) only [hA, List.length_map, mR, fl_len, fl_get, mC_0, mD_0, hRn, hRl, eI, setFrom, cellsOf, hst, ds, go_sem]
  have hfin : mV m.length 1 (fUp (rowsM m) n ((m[n].set n (m[n][n] + 1)).map eI)) = (tickM m n).map eRw := by
    unfold tickM
    rw [← mV_rows]
    congr 1
    funext j
    unfold fUp rowsM
    by_cases hj : j = n
    · rw [if_pos hj, if_pos hj, he, hri]
    · rw [if_neg hj, if_neg hj]
  refine leave_mat2 (n := m.length) (v0 := 0) (sz := 1) (ver := fun _ => 1) (R := fUp (rowsM m) n ((m[n].set n (m[n][n] + 1)).map eI)) (z := .int .i64 0) (junk := []) (.inr rfl) (by simp (disch := (first | decide | omega)) only [resVs, resV, hA, go_sem]) (by unfold mR; rw [← cs]; simp only [mC_0, List.append_nil]) hR hB ⟨?_, rfl, rfl⟩
  rw [tickMR, if_pos e, Int.toNat_natCast, hfin]
def KRoundB {ι : Type} (N : Nat) (g : Nat → AV) (ov : ι → List (Nat × AV)) (Bs L : ι → List Row) (Cd : ι → Prop) (μ : ι → Nat) (i : ι) : List AV → List Row → List Row → Prop :=
  fun e b l => ∃ i', Cd i' ∧ μ i' < μ i ∧ Weak e b l (kOf N (kOv (ov i') g)) (Bs i') (L i')
theorem loop_keptB {P : Program} {c : ACode} {Q : AExit → List AV → List Row → List Row → Prop} {N : Nat} {f : Nat → AV} {b l : List Row} {ι : Type} (p : List (Nat × Nat)) (ov : ι → List (Nat × AV)) (k : Nat) (Bs L : ι → List Row) (Cd : ι → Prop) (μ : ι → Nat) (i0 : ι) (h0 : Cd i0)
    (hlt : KLt (b.length + k) f) (hov : KHas f (ov i0)) (hb : Bs i0 = b) (hw : ∀ e, Weak e b l e b (L i0))
    (step : ∀ g, KLt (b.length + k) g → kAny p g = g → (∀ n, kIn p n = false → g n = f n) → ∀ i, Cd i → run (ACalls P) Weak c (kOf N (kOv (ov i) g)) (Bs i) (L i) (seqQ (KRoundB N g ov Bs L Cd μ i) Q)) : run (ACalls P) Weak (.loop c) (kOf N f) b l Q :=
  loop_rule (fun i => kOf N (kOv (ov i) (kAny p f))) Bs L Cd μ i0 h0 (by rw [hb]; exact (Weak.named p _ hov).trans (hw _))
    (step (kAny p f) hlt.any kAny_idem (fun _ h => kAny_out h))
theorem RowsLt.setVs {m id v sz : Nat} {B : List Row} {rows : List (List IV)} (h : RowsLt m B) : RowsLt m (B.set id (.live v sz (vs rows))) := by
  intro i v' sz' els hr row hrow c hc
  by_cases hi : id = i
  · subst hi
    rw [List.getElem?_set] at hr
    simp only [if_true] at hr
    split at hr
    · cases hr
      obtain ⟨r0, _, rfl⟩ := List.mem_map.1 hrow
      obtain ⟨x0, _, rfl⟩ := List.mem_map.1 hc
      exact .v _
    · cases hr
  · rw [List.getElem?_set_ne hi] at hr
    exact h i v' sz' els hr row hrow c hc
theorem joinM1_spec (v w : List Int) (hv : v.length ≤ 1000000) (h : v.length = w.length) (i : Nat) (b l : List Row) (hi : l[i]? = some (.live 1 1 (vs (v.map eI)))) :
    ACalls Try.prog 163 [.sl (b.length + i) 1 0 v.length, .v (.isl 1 (w.map eI))] b l (fun r b' l' => r = .tup [] ∧ b' = b ∧ l' = l.set i (.live 1 1 (vs ((joinV v w).map eI)))) := by
  refine calls_kept a_join_ok rfl (by decide) ?_
  intro B g hB hR hE hA
  simp only [KArgs] at hA
  have hil : i < l.length := (List.getElem?_eq_some_iff.1 hi).1
  have hBi : B[b.length + i]? = some (.live 1 1 (vs (v.map eI))) := by rw [hB, List.getElem?_append_right (by omega), Nat.add_sub_cancel_left]; exact hi
  have hidB : b.length + i < B.length := (List.getElem?_eq_some_iff.1 hBi).1
  simp (disch := (first | decide | omega)) only [a_join, hA, List.length_map, go_sem]
  refine loop_keptB (ι := Nat) r_join0 (fun k => [(7, .v (.int .i64 k))]) 0 (fun k => B.set (b.length + i) (.live 1 1 (vs ((joTo v w k).map eI)))) (fun _ => [])
    (fun k => k ≤ v.length) (fun k => v.length - k) 0 (Nat.zero_le _) (by (repeat (first | exact hE.mono (by omega) | refine KLt.up ?_ (by simp (disch := omega) only [AVlt_v, AVlt_any, AVlt_sl, AVlt_ptr, AVlt_mp, AVlt_agg, AVlt_tup, AVlt_fn, RowsLt_nil, RowsLt_live, RowsLt_dead, List.mem_cons, List.not_mem_nil, List.forall_mem_cons, List.forall_mem_nil, or_false, false_or, forall_eq_or_imp, forall_eq, vs_lt, Nat.add_lt_add_iff_left, Nat.reduceLT, true_and, and_true, and_self, List.length_cons, List.length_nil, Nat.reduceAdd, Nat.zero_add, implies_true, false_imp_iff, lt_T, List.mem_map])))) (by ((try simp (disch := decide) only [hA, go_sem]) <;> (repeat' (first | exact trivial | refine And.intro ?_ ?_)) <;> (first | rfl | (congr 2; omega)))) (by
      rw [joTo_zero]
      apply List.ext_getElem?
      intro j
      by_cases hj : b.length + i = j
      · subst hj; rw [List.getElem?_set_self hidB, hBi]
      · rw [List.getElem?_set_ne hj]) (fun e => Weak.refl _ _ _) ?_
  intro g1 hE1 hEE1 hg1 k hk
  have hBk : ∀ q, (B.set (b.length + i) q).length = B.length := fun q => List.length_set
  have hgk : ∀ q l', hget (B.set (b.length + i) q) l' (b.length + i) = some q := fun q l' => by
    unfold hget; rw [if_pos (by rw [hBk]; exact hidB), List.getElem?_set_self hidB]
  by_cases hlt : k < v.length
  · have hlw : k < w.length := by omega
    have jl := joTo_len h k hk
    have jg := joTo_get h hlt (by omega)
    have js := joTo_set h hlt hlw
    have hm : (if v[k] < w[k] then w[k] else v[k]) = max v[k] w[k] := by split <;> omega
    have hsB : ∀ q q', hsetB (B.set (b.length + i) q) (b.length + i) q' = B.set (b.length + i) q' := fun q q' => by
      unfold hsetB; rw [if_pos (by rw [hBk]; exact hidB), List.set_set]
    have hsL : ∀ q q' l', hsetL (B.set (b.length + i) q) l' (b.length + i) q' = l' := fun q q' l' => by
      unfold hsetL; rw [if_pos (by rw [hBk]; exact hidB)]
    simp (disch := (first | decide | omega)) only [hA, hg1, hgk, hsB, hsL, eI, jg, hm, js, jl, setFrom, cellsOf, go_sem]
    refine ⟨k + 1, hlt, by simp only; omega, ?_⟩
    exact Weak.kround (p := r_join0) (k := 0) (l1 := []) (b := B.set (b.length + i) (.live 1 1 (vs ((joTo v w (k + 1)).map eI)))) (by ((repeat refine (kAny_up rfl).trans ?_); exact hEE1)) (by ((try simp (disch := decide) only [hA, go_sem]) <;> (repeat' (first | exact trivial | refine And.intro ?_ ?_)) <;> (first | rfl | (congr 2; omega)))) rfl (by rw [hBk]; exact hE1) (by simp) (by simp (disch := omega) only [KOvLt, AVlt_v, AVlt_any, AVlt_sl, AVlt_ptr, AVlt_mp, AVlt_agg, AVlt_tup, AVlt_fn, RowsLt_nil, RowsLt_live, RowsLt_dead, List.mem_cons, List.not_mem_nil, List.forall_mem_cons, List.forall_mem_nil, or_false, false_or, forall_eq_or_imp, forall_eq, vs_lt, Nat.add_lt_add_iff_left, Nat.reduceLT, true_and, and_true, and_self, List.length_cons, List.length_nil, Nat.reduceAdd, Nat.zero_add, implies_true, false_imp_iff, lt_T, List.mem_map]) (by rw [hBk]; exact RowsLt.setVs hR) (by simp (disch := omega) only [AVlt_v, AVlt_any, AVlt_sl, AVlt_ptr, AVlt_mp, AVlt_agg, AVlt_tup, AVlt_fn, RowsLt_nil, RowsLt_live, RowsLt_dead, List.mem_cons, List.not_mem_nil, List.forall_mem_cons, List.forall_mem_nil, or_false, false_or, forall_eq_or_imp, forall_eq, vs_lt, Nat.add_lt_add_iff_left, Nat.reduceLT, true_and, and_true, and_self, List.length_cons, List.length_nil, Nat.reduceAdd, Nat.zero_add, implies_true, false_imp_iff, lt_T, List.mem_map])
  · simp (disch := (first | decide | omega)) only [hA, hg1, go_sem]
    obtain rfl : k = v.length := by omega
    rw [joTo_all h]
    have hBb : B.set (b.length + i) (.live 1 1 (vs ((joinV v w).map eI))) = b ++ l.set i (.live 1 1 (vs ((joinV v w).map eI))) := by
      rw [hB, List.set_append_right _ _ (by omega), Nat.add_sub_cancel_left]
    rw [hBb]
    exact leave_pure (xs := []) (.inl rfl) (by simp only [resVs]) (by simp only [one]; exact .tup _ (by simp)) (by rw [← hBb, hBk]; exact RowsLt.setVs hR) rfl ⟨rfl, rfl, rfl⟩
theorem mR_put {n v0 base sz p v : Nat} {ver : Nat → Nat} {R : Nat → List (List IV)} {x : List (List IV)} (hv : ver p = v) (hx : x.length = (R p).length) : (mR n v0 base sz 0 ver R).set (p + 1) (.live v sz (vs x)) = mR n v0 base sz 0 ver (fUp R p x) := by
  unfold mR
  rw [List.set_cons_succ, mD_set hv, mC_set (base := base) (sz := sz) (ver := ver) hx]
theorem mR_congr {n v0 base sz : Nat} {ver : Nat → Nat} {R R' : Nat → List (List IV)} (h : ∀ j, j < n → R j = R' j) : mR n v0 base sz 0 ver R = mR n v0 base sz 0 ver R' := by
  unfold mR
  congr 1
  · congr 1
    refine fl_congr (fun j hj => ?_)
    rw [mC_0, mC_0, h j hj]
  · refine fl_congr (fun j hj => ?_)
    rw [mD_0, mD_0, h j hj]
theorem mR_first {n v0 sz : Nat} {B : List Row} {ver : Nat → Nat} {R : Nat → List (List IV)} : hget B (mR n v0 B.length sz 0 ver R) B.length = some (.live v0 1 (fl n fun j => [mC B.length sz 0 ver R j])) := by
  unfold hget; rw [if_neg (by omega), Nat.sub_self]; rfl
theorem mR_at0 {n v0 base sz i : Nat} {ver : Nat → Nat} {R : Nat → List (List IV)} (h : i < n) : (mR n v0 base sz 0 ver R)[i + 1]? = some (.live (ver i) sz (vs (R i))) := by
  unfold mR
  rw [List.getElem?_cons_succ, fl_get h, mD_0]
/-- Rows of which the first i are joined. -/
def rT (m got : List (List Int)) (i j : Nat) : List Int := if j < i then joinV (rowAt m j) (rowAt got j) else rowAt m j
def rTR (m got : List (List Int)) (i j : Nat) : List (List IV) := (rT m got i j).map eI
def recvF (m got : List (List Int)) (p q j : Nat) : List Int := if j = p then joinV (joinV (rowAt m p) (rowAt got p)) (rowAt got q) else joinV (rowAt m j) (rowAt got j)
def recvM (m : List (List Int)) (p : Nat) (got : List (List Int)) (q : Nat) : List (List Int) := fl m.length (recvF m got p q)
def recvE (m : List (List Int)) (p : Int) (got : List (List Int)) (q : Int) : Int :=
  if isM m = false ∨ isM got = false ∨ got.length ≠ m.length then 1 else if p < 0 ∨ p ≥ m.length ∨ q < 0 ∨ q ≥ m.length ∨ p = q then 2 else tickME (recvM m p.toNat got q.toNat) p
def recvR (m : List (List Int)) (p : Int) (got : List (List Int)) (q : Int) : AV := if recvE m p got q = 0 then .tup [.v (.isl 1 ((tickM (recvM m p.toNat got q.toNat) p.toNat).map eRw)), .v (.int .i64 0)] else .tup [.v .zsl, .v (.int .i64 (recvE m p got q))]
theorem recvM_row {m : List (List Int)} {p q j : Nat} {got : List (List Int)} (hj : j < m.length) : rowAt (recvM m p got q) j = recvF m got p q j := fl_getD hj
theorem recv_fit {m got : List (List Int)} {p q : Nat} (h1 : isM m = true) (h2 : isM got = true) (h3 : got.length = m.length) (hp : p < m.length) (hq : q < m.length) : Fit (recvM m p got q) ∧ ∀ j, j < m.length → (recvF m got p q j).length = m.length := by
  obtain ⟨l1, l2, l3, _⟩ := isM_open h1
  obtain ⟨k1, k2, k3, _⟩ := isM_open h2
  have jl : ∀ j, j < m.length → (joinV (rowAt m j) (rowAt got j)).length = m.length := fun j hj => by
    rw [joinV_len (by rw [l3 j hj, k3 j (by omega)]; omega), l3 j hj]
  have key : ∀ j, j < m.length → (recvF m got p q j).length = m.length := by
    intro j hj
    unfold recvF
    split
    · rw [joinV_len (by rw [jl p hp, k3 q (by omega)]; omega), jl p hp]
    · exact jl j hj
  refine ⟨⟨by unfold recvM; rw [fl_len]; omega, fun r hr => ?_⟩, key⟩
  obtain ⟨j, hj, rfl⟩ := List.mem_map.1 hr
  rw [key j (List.mem_range.1 hj)]; omega
set_option maxRecDepth 20000 in
theorem mReceive_spec (m got : List (List Int)) (hF : Fit m) (hG : Fit got) (p q : Int) (b l : List Row) : ACalls Try.prog 143 [.v (.isl 1 (m.map eRw)), .v (.int .i64 p), .v (.isl 1 (got.map eRw)), .v (.int .i64 q)] b l (fun r b' l' => r = recvR m p got q ∧ b' = b ∧ l' = l) := by
  refine calls_kept a_mReceive_ok rfl (by decide) ?_
  intro B g hB hR hE hA
  simp only [KArgs] at hA
  simp (disch := decide) only [a_mReceive, hA, List.length_map, go_sem]
  refine ACalls.nxt (mValid_spec m hF _ _) ?_
  cases h1 : isM m
  · have e : recvE m p got q = 1 := by unfold recvE; rw [if_pos (.inl h1)]
    simp (disch := decide) only [hA, go_sem]
    exact leave_pure (xs := [.v .zsl, .v (.int .i64 1)]) (.inr rfl) (by simp (disch := (first | decide | omega)) only [resVs, resV, go_sem, hA]) (by simp only [one, AVlt_v, AVlt_any, AVlt_sl, AVlt_ptr, AVlt_mp, AVlt_agg, AVlt_tup, AVlt_fn, RowsLt_nil, RowsLt_live, RowsLt_dead, List.mem_cons, List.not_mem_nil, List.forall_mem_cons, List.forall_mem_nil, or_false, false_or, forall_eq_or_imp, forall_eq, vs_lt, Nat.add_lt_add_iff_left, Nat.reduceLT, true_and, and_true, and_self, List.length_cons, List.length_nil, Nat.reduceAdd, Nat.zero_add, implies_true, false_imp_iff, lt_T, List.mem_map]) hR hB ⟨by rw [recvR, e, if_neg (by decide)]; rfl, rfl, rfl⟩
  simp (disch := decide) only [hA, go_sem]
  refine ACalls.nxt (mValid_spec got hG _ _) ?_
  cases h2 : isM got
  · have e : recvE m p got q = 1 := by unfold recvE; rw [if_pos (.inr (.inl h2))]
    simp (disch := decide) only [hA, go_sem]
    exact leave_pure (xs := [.v .zsl, .v (.int .i64 1)]) (.inr rfl) (by simp (disch := (first | decide | omega)) only [resVs, resV, go_sem, hA]) (by simp only [one, AVlt_v, AVlt_any, AVlt_sl, AVlt_ptr, AVlt_mp, AVlt_agg, AVlt_tup, AVlt_fn, RowsLt_nil, RowsLt_live, RowsLt_dead, List.mem_cons, List.not_mem_nil, List.forall_mem_cons, List.forall_mem_nil, or_false, false_or, forall_eq_or_imp, forall_eq, vs_lt, Nat.add_lt_add_iff_left, Nat.reduceLT, true_and, and_true, and_self, List.length_cons, List.length_nil, Nat.reduceAdd, Nat.zero_add, implies_true, false_imp_iff, lt_T, List.mem_map]) hR hB ⟨by rw [recvR, e, if_neg (by decide)]; rfl, rfl, rfl⟩
  by_cases h3 : got.length = m.length
  case neg =>
    have hd : ((got.length : Int) != (m.length : Int)) = true := by simp; omega
    have e : recvE m p got q = 1 := by unfold recvE; rw [if_pos (.inr (.inr h3))]
    simp (disch := decide) only [hA, List.length_map, hd, go_sem]
    exact leave_pure (xs := [.v .zsl, .v (.int .i64 1)]) (.inr rfl) (by simp (disch := (first | decide | omega)) only [resVs, resV, go_sem, hA]) (by simp only [one, AVlt_v, AVlt_any, AVlt_sl, AVlt_ptr, AVlt_mp, AVlt_agg, AVlt_tup, AVlt_fn, RowsLt_nil, RowsLt_live, RowsLt_dead, List.mem_cons, List.not_mem_nil, List.forall_mem_cons, List.forall_mem_nil, or_false, false_or, forall_eq_or_imp, forall_eq, vs_lt, Nat.add_lt_add_iff_left, Nat.reduceLT, true_and, and_true, and_self, List.length_cons, List.length_nil, Nat.reduceAdd, Nat.zero_add, implies_true, false_imp_iff, lt_T, List.mem_map]) hR hB ⟨by rw [recvR, e, if_neg (by decide)]; rfl, rfl, rfl⟩
  have hd : ((got.length : Int) != (m.length : Int)) = false := by simp [h3]
  have e1 : ¬ (isM m = false ∨ isM got = false ∨ got.length ≠ m.length) := by rw [h1, h2]; simp [h3]
  have e2 : (p < 0 ∨ p ≥ m.length ∨ q < 0 ∨ q ≥ m.length ∨ p = q) → recvE m p got q = 2 := fun h => by unfold recvE; rw [if_neg e1, if_pos h]
  by_cases c1 : p < 0
  · have d1 := decide_eq_true c1
    simp (disch := decide) only [hA, List.length_map, hd, d1, go_sem]
    exact leave_pure (xs := [.v .zsl, .v (.int .i64 2)]) (.inr rfl) (by simp (disch := (first | decide | omega)) only [resVs, resV, go_sem, hA]) (by simp only [one, AVlt_v, AVlt_any, AVlt_sl, AVlt_ptr, AVlt_mp, AVlt_agg, AVlt_tup, AVlt_fn, RowsLt_nil, RowsLt_live, RowsLt_dead, List.mem_cons, List.not_mem_nil, List.forall_mem_cons, List.forall_mem_nil, or_false, false_or, forall_eq_or_imp, forall_eq, vs_lt, Nat.add_lt_add_iff_left, Nat.reduceLT, true_and, and_true, and_self, List.length_cons, List.length_nil, Nat.reduceAdd, Nat.zero_add, implies_true, false_imp_iff, lt_T, List.mem_map]) hR hB ⟨by rw [recvR, e2 (.inl c1), if_neg (by decide)]; rfl, rfl, rfl⟩
  have d1 := decide_eq_false c1
  by_cases c2 : p ≥ m.length
  · have d2 : decide (p ≥ (m.length : Int)) = true := decide_eq_true c2
    simp (disch := decide) only [hA, List.length_map, hd, d1, d2, go_sem]
    exact leave_pure (xs := [.v .zsl, .v (.int .i64 2)]) (.inr rfl) (by simp (disch := (first | decide | omega)) only [resVs, resV, go_sem, hA]) (by simp only [one, AVlt_v, AVlt_any, AVlt_sl, AVlt_ptr, AVlt_mp, AVlt_agg, AVlt_tup, AVlt_fn, RowsLt_nil, RowsLt_live, RowsLt_dead, List.mem_cons, List.not_mem_nil, List.forall_mem_cons, List.forall_mem_nil, or_false, false_or, forall_eq_or_imp, forall_eq, vs_lt, Nat.add_lt_add_iff_left, Nat.reduceLT, true_and, and_true, and_self, List.length_cons, List.length_nil, Nat.reduceAdd, Nat.zero_add, implies_true, false_imp_iff, lt_T, List.mem_map]) hR hB ⟨by rw [recvR, e2 (.inr (.inl c2)), if_neg (by decide)]; rfl, rfl, rfl⟩
  have d2 : decide (p ≥ (m.length : Int)) = false := decide_eq_false c2
  by_cases c3 : q < 0
  · have d3 := decide_eq_true c3
    simp (disch := decide) only [hA, List.length_map, hd, d1, d2, d3, go_sem]
    exact leave_pure (xs := [.v .zsl, .v (.int .i64 2)]) (.inr rfl) (by simp (disch := (first | decide | omega)) only [resVs, resV, go_sem, hA]) (by simp only [one, AVlt_v, AVlt_any, AVlt_sl, AVlt_ptr, AVlt_mp, AVlt_agg, AVlt_tup, AVlt_fn, RowsLt_nil, RowsLt_live, RowsLt_dead, List.mem_cons, List.not_mem_nil, List.forall_mem_cons, List.forall_mem_nil, or_false, false_or, forall_eq_or_imp, forall_eq, vs_lt, Nat.add_lt_add_iff_left, Nat.reduceLT, true_and, and_true, and_self, List.length_cons, List.length_nil, Nat.reduceAdd, Nat.zero_add, implies_true, false_imp_iff, lt_T, List.mem_map]) hR hB ⟨by rw [recvR, e2 (.inr (.inr (.inl c3))), if_neg (by decide)]; rfl, rfl, rfl⟩
  have d3 := decide_eq_false c3
  by_cases c4 : q ≥ m.length
  · have d4 : decide (q ≥ (m.length : Int)) = true := decide_eq_true c4
    simp (disch := decide) only [hA, List.length_map, hd, d1, d2, d3, d4, go_sem]
    exact leave_pure (xs := [.v .zsl, .v (.int .i64 2)]) (.inr rfl) (by simp (disch := (first | decide | omega)) only [resVs, resV, go_sem, hA]) (by simp only [one, AVlt_v, AVlt_any, AVlt_sl, AVlt_ptr, AVlt_mp, AVlt_agg, AVlt_tup, AVlt_fn, RowsLt_nil, RowsLt_live, RowsLt_dead, List.mem_cons, List.not_mem_nil, List.forall_mem_cons, List.forall_mem_nil, or_false, false_or, forall_eq_or_imp, forall_eq, vs_lt, Nat.add_lt_add_iff_left, Nat.reduceLT, true_and, and_true, and_self, List.length_cons, List.length_nil, Nat.reduceAdd, Nat.zero_add, implies_true, false_imp_iff, lt_T, List.mem_map]) hR hB ⟨by rw [recvR, e2 (.inr (.inr (.inr (.inl c4)))), if_neg (by decide)]; rfl, rfl, rfl⟩
  have d4 : decide (q ≥ (m.length : Int)) = false := decide_eq_false c4
  by_cases c5 : p = q
  · have d5 : (p == q) = true := by simp [c5]
    simp (disch := decide) only [hA, List.length_map, hd, d1, d2, d3, d4, d5, go_sem]
    exact leave_pure (xs := [.v .zsl, .v (.int .i64 2)]) (.inr rfl) (by simp (disch := (first | decide | omega)) only [resVs, resV, go_sem, hA]) (by simp only [one, AVlt_v, AVlt_any, AVlt_sl, AVlt_ptr, AVlt_mp, AVlt_agg, AVlt_tup, AVlt_fn, RowsLt_nil, RowsLt_live, RowsLt_dead, List.mem_cons, List.not_mem_nil, List.forall_mem_cons, List.forall_mem_nil, or_false, false_or, forall_eq_or_imp, forall_eq, vs_lt, Nat.add_lt_add_iff_left, Nat.reduceLT, true_and, and_true, and_self, List.length_cons, List.length_nil, Nat.reduceAdd, Nat.zero_add, implies_true, false_imp_iff, lt_T, List.mem_map]) hR hB ⟨by rw [recvR, e2 (.inr (.inr (.inr (.inr c5)))), if_neg (by decide)]; rfl, rfl, rfl⟩
  have d5 : (p == q) = false := by simp [c5]
  have e3 : recvE m p got q = tickME (recvM m p.toNat got q.toNat) p := by unfold recvE; rw [if_neg e1, if_neg (by omega)]
  obtain ⟨np, rfl⟩ : ∃ n : Nat, p = n := ⟨p.toNat, by omega⟩
  obtain ⟨nq, rfl⟩ : ∃ n : Nat, q = n := ⟨q.toNat, by omega⟩
  rw [Int.toNat_natCast, Int.toNat_natCast] at e3
  obtain ⟨l1, l2, l3, _⟩ := isM_open h1
  obtain ⟨k1, k2, k3, _⟩ := isM_open h2
  have hp : np < m.length := by omega
  have hq : nq < m.length := by omega
  obtain ⟨hfit, hfl⟩ := recv_fit h1 h2 h3 hp hq
  simp (disch := decide) only [hA, List.length_map, hd, d1, d2, d3, d4, d5, go_sem]
  refine ACalls.nxt (copied_spec m h1 _ _) ?_
  have r0 : mR m.length 0 (B.length + 0) 1 0 (fun _ => 1) (rowsM m) = mR m.length 0 B.length 1 0 (fun _ => 1) (rTR m got 0) := mR_congr (fun j hj => by unfold rowsM rTR rT; rw [if_neg (by omega)])
  rw [List.length_nil, r0]
  simp (disch := (first | decide | omega)) only [hA, go_sem]
  refine loop_kept (ι := Nat) r_mReceive0 (fun i => [(55, .v (.int .i64 i))]) 1 (fun i => mR m.length 0 B.length 1 0 (fun _ => 1) (rTR m got i))
    (fun i => i ≤ m.length) (fun i => m.length - i) 0 (Nat.zero_le _) (by (repeat (first | exact hE.mono (by omega) | refine KLt.up ?_ (by simp (disch := omega) only [AVlt_v, AVlt_any, AVlt_sl, AVlt_ptr, AVlt_mp, AVlt_agg, AVlt_tup, AVlt_fn, RowsLt_nil, RowsLt_live, RowsLt_dead, List.mem_cons, List.not_mem_nil, List.forall_mem_cons, List.forall_mem_nil, or_false, false_or, forall_eq_or_imp, forall_eq, vs_lt, Nat.add_lt_add_iff_left, Nat.reduceLT, true_and, and_true, and_self, List.length_cons, List.length_nil, Nat.reduceAdd, Nat.zero_add, implies_true, false_imp_iff, lt_T, List.mem_map])))) (by ((try simp (disch := decide) only [hA, go_sem]) <;> (repeat' (first | exact trivial | refine And.intro ?_ ?_)) <;> (first | rfl | (congr 2; omega)))) (fun e => Weak.refl _ _ _) ?_
  intro g1 hE1 hEE1 hg1 i hi
  have hgO := mR_first (n := m.length) (v0 := 0) (sz := 1) (B := B) (ver := fun _ => 1) (R := rTR m got i)
  by_cases hlt : i < m.length
  · have hlg : i < got.length := by omega
    have hri := rowAt_at hlt
    have hgi := rowAt_at hlg
    have hl := l3 i hlt
    have hlw := k3 i hlg
    have hrt : rTR m got i i = (rowAt m i).map eI := by unfold rTR rT; rw [if_neg (by omega)]
    have hj := joinM1_spec (rowAt m i) (rowAt got i) (by omega) (by omega) (i + 1) B (mR m.length 0 B.length 1 0 (fun _ => 1) (rTR m got i)) (by rw [mR_at0 hlt, hrt])
    have hset : (mR m.length 0 B.length 1 0 (fun _ => 1) (rTR m got i)).set (i + 1) (.live 1 1 (vs ((joinV (rowAt m i) (rowAt got i)).map eI))) = mR m.length 0 B.length 1 0 (fun _ => 1) (rTR m got (i + 1)) := by
      rw [mR_put rfl (by rw [hrt, List.length_map, List.length_map, joinV_len (by omega)])]
      refine mR_congr (fun j hj => ?_)
      unfold fUp
      by_cases hji : j = i
      · subst hji; rw [if_pos rfl]; unfold rTR rT; rw [if_pos (by omega)]
      · rw [if_neg hji]; unfold rTR rT
        by_cases h9 : j < i
        · rw [if_pos h9, if_pos (by omega)]
        · rw [if_neg h9, if_neg (by omega)]
    rw [hset, hl, hgi] at hj
    have hrl : (rTR m got i i).length = m.length := by rw [hrt, List.length_map, hl]
    simp (disch := (first | decide | omega)) only [hA, hg1, hgO, eRw, fl_len, fl_get, mC_0, hrl, go_sem]
    refine ACalls.nxt hj ?_
    simp (disch := (first | decide | omega)) only [hA, hg1, go_sem]
    refine ⟨i + 1, hlt, by simp only; omega, ?_⟩
    exact Weak.kround (l1 := mR m.length 0 B.length 1 0 (fun _ => 1) (rTR m got (i + 1))) (p := r_mReceive0) (k := 1) (by ((repeat refine (kAny_up rfl).trans ?_); exact hEE1)) (by ((try simp (disch := decide) only [hA, go_sem]) <;> (repeat' (first | exact trivial | refine And.intro ?_ ?_)) <;> (first | rfl | (congr 2; omega)))) (junk := []) (by rw [List.append_nil]) hE1 (by rw [mR_len]; omega) (by simp (disch := omega) only [KOvLt, AVlt_v, AVlt_any, AVlt_sl, AVlt_ptr, AVlt_mp, AVlt_agg, AVlt_tup, AVlt_fn, RowsLt_nil, RowsLt_live, RowsLt_dead, List.mem_cons, List.not_mem_nil, List.forall_mem_cons, List.forall_mem_nil, or_false, false_or, forall_eq_or_imp, forall_eq, vs_lt, Nat.add_lt_add_iff_left, Nat.reduceLT, true_and, and_true, and_self, List.length_cons, List.length_nil, Nat.reduceAdd, Nat.zero_add, implies_true, false_imp_iff, lt_T, List.mem_map]) hR (mR_lt (by rw [mR_len]; omega))
  · obtain rfl : i = m.length := by omega
    have hlq : nq < got.length := by omega
    have hgq := rowAt_at hlq
    have hrt : rTR m got m.length np = (joinV (rowAt m np) (rowAt got np)).map eI := by unfold rTR rT; rw [if_pos hp]
    have hjl : (joinV (rowAt m np) (rowAt got np)).length = m.length := by rw [joinV_len (by rw [l3 np hp, k3 np (by omega)]; omega), l3 np hp]
    have hj := joinM1_spec (joinV (rowAt m np) (rowAt got np)) (rowAt got nq) (by omega) (by rw [hjl, k3 nq hlq]; omega) (np + 1) B (mR m.length 0 B.length 1 0 (fun _ => 1) (rTR m got m.length)) (by rw [mR_at0 hp, hrt])
    have hset : (mR m.length 0 B.length 1 0 (fun _ => 1) (rTR m got m.length)).set (np + 1) (.live 1 1 (vs ((joinV (joinV (rowAt m np) (rowAt got np)) (rowAt got nq)).map eI))) = mR m.length 0 B.length 1 0 (fun _ => 1) (fun j => (recvF m got np nq j).map eI) := by
      rw [mR_put rfl (by rw [hrt, List.length_map, List.length_map, joinV_len (by rw [hjl, k3 nq hlq]; omega)])]
      refine mR_congr (fun j hj => ?_)
      unfold fUp
      by_cases hji : j = np
      · subst hji; rw [if_pos rfl]; unfold recvF; rw [if_pos rfl]
      · rw [if_neg hji]; unfold rTR rT recvF; rw [if_pos hj, if_neg hji]
    rw [hset, hjl, hgq] at hj
    have hrl : (rTR m got m.length np).length = m.length := by rw [hrt, List.length_map, hjl]
    simp (disch := (first | decide | omega)) only [hA, hg1, hgO, eRw, fl_len, fl_get, mC_0, hrl, go_sem]
    refine ACalls.nxt hj ?_
    simp (disch := (first | decide | omega)) only [hA, hg1, go_sem]
    have hmv : mV m.length 1 (fun j => (recvF m got np nq j).map eI) = (recvM m np got nq).map eRw := mV_rows
    refine ACalls.mat (args' := [.v (.isl 1 (mV m.length 1 (fun j => (recvF m got np nq j).map eI))), .v (.int .i64 np)]) (fun i hi => ?_) (by
      have hv : (mV m.length 1 (fun j => (recvF m got np nq j).map eI)).length = m.length := by simp [mV, fl_len]
      simp only [List.map_cons, List.map_nil, deep, frz0, hv]
      rw [if_pos (by simp), List.drop_zero, List.take_of_length_le (by rw [hv]; exact Nat.le_refl _)]) (fun l9 => ?_)
    · simp only [List.map_cons, List.map_nil, deep, frz0]; rw [if_neg (by omega)]
    rw [hmv]
    refine ACalls.nxt (mTick_spec (recvM m np got nq) hfit np _ _) ?_
    by_cases ht : tickME (recvM m np got nq) np = 0
    · rw [tickMR, if_pos ht, Int.toNat_natCast]
      simp (disch := (first | decide | omega)) only [hA, hg1, go_sem]
      exact leave_pure (xs := [.v (.isl 1 ((tickM (recvM m np got nq) np).map eRw)), .v (.int .i64 0)]) (.inr rfl) (by simp (disch := (first | decide | omega)) only [resVs, resV, go_sem, hA, hg1]) (by simp only [one, AVlt_v, AVlt_any, AVlt_sl, AVlt_ptr, AVlt_mp, AVlt_agg, AVlt_tup, AVlt_fn, RowsLt_nil, RowsLt_live, RowsLt_dead, List.mem_cons, List.not_mem_nil, List.forall_mem_cons, List.forall_mem_nil, or_false, false_or, forall_eq_or_imp, forall_eq, vs_lt, Nat.add_lt_add_iff_left, Nat.reduceLT, true_and, and_true, and_self, List.length_cons, List.length_nil, Nat.reduceAdd, Nat.zero_add, implies_true, false_imp_iff, lt_T, List.mem_map]) hR hB ⟨by rw [recvR, e3, if_pos ht]; rfl, rfl, rfl⟩
    · rw [tickMR, if_neg ht]
      simp (disch := (first | decide | omega)) only [hA, hg1, go_sem]
      exact leave_pure (xs := [.v .zsl, .v (.int .i64 (tickME (recvM m np got nq) np))]) (.inr rfl) (by simp (disch := (first | decide | omega)) only [resVs, resV, go_sem, hA, hg1]) (by simp only [one, AVlt_v, AVlt_any, AVlt_sl, AVlt_ptr, AVlt_mp, AVlt_agg, AVlt_tup, AVlt_fn, RowsLt_nil, RowsLt_live, RowsLt_dead, List.mem_cons, List.not_mem_nil, List.forall_mem_cons, List.forall_mem_nil, or_false, false_or, forall_eq_or_imp, forall_eq, vs_lt, Nat.add_lt_add_iff_left, Nat.reduceLT, true_and, and_true, and_self, List.length_cons, List.length_nil, Nat.reduceAdd, Nat.zero_add, implies_true, false_imp_iff, lt_T, List.mem_map]) hR hB ⟨by rw [recvR, e3, if_neg ht]; rfl, rfl, rfl⟩
end Go.Proofs.Ytoaopldaleaijaa

namespace Go.Proofs.Ytoaopldaleaijaa
set_option linter.unusedVariables false
set_option linter.unusedSimpArgs false
attribute [local go_sem ↓] run_skip run_region run_draw run_seq run_block run_exit run_ret run_cond atN_app seqC_normal seqC_exit seqC_ret seqQ_normal seqQ_exit seqQ_ret blkQ_normal blkQ_exit blkQ_ret runOps_nil runOps_cons runD_nil runD_cons grdO_true grdO_false grdD_true grdD_false ifC_true ifC_false opS_val opS_call opS_two opK_app dS_val dS_call dS_two dK_app kUp_same kUp_ne
attribute [local go_sem] rechks_nil rechks_cons rechk gcase_true gcase_false ex_val ex_val0 gd_none gd_some ev_t ev_c evs_nil evs_cons evo_some evo_none hget_at hget_first hsetB_at hsetB_first hsetL_at hsetL_first ofOpt_some aop aload astore aslice aappend aiaddr aiaddrA afaddr alen alenS acopy amm acall alookup amupdate alenM comma keyEq apick binV binVB binVS isSh intOp strOp boolOp shOp eqC eqF and2 cellsOf setFrom fillA fillS rd rdI elems mk bounds AV.cell List.all_cons List.all_nil Bool.and_true Bool.true_and Bool.and_self List.length_cons List.length_nil List.length_append Nat.reduceAdd Nat.reduceSub Nat.reduceMul Nat.zero_add Nat.add_zero List.cons_append List.nil_append List.append_assoc List.append_nil List.getElem?_cons_zero List.getElem?_cons_succ List.getElem?_nil List.set_cons_zero List.set_cons_succ List.drop_zero List.drop_succ_cons List.take_zero List.take_succ_cons List.take_nil List.drop_nil List.map_cons List.map_nil Option.map_some if_true if_false Bool.false_eq_true and_self true_and and_true Nat.reduceLeDiff Nat.reduceLT Nat.le_refl Nat.reduceEqDiff ite_true ite_false beq_self_eq_true beq_true beq_false Bool.not_true Bool.not_false Bool.true_beq Bool.false_beq map_vs vs_len vs_get vs_take vs_drop vs_snoc1 vs_snoc2 vs_snoc3 vs_snoc5 vs_set1 vs_set2 vs_rep wrap_id le_T lt_T le_F lt_F leI_T ltI_T leI_F ltI_F geI gtI get_T decide_true decide_false room List.getElem?_map List.length_map List.length_take Int.toNat_natCast Nat.min_def Nat.min_self nth_kOf put_kOf put_kNo kOv_cons kOv_nil KHas KArgs List.getElem_cons_zero List.getElem_cons_succ
def a_rmZero : AFunc := ⟨1, 16, [.tmp 2],
  (.seq (.region [⟨(some 2), .mv (.c (.v .zsl)), none⟩])
  (.seq (.region [⟨(some 3), .mv (.c (.v .zsl)), none⟩])
  (.seq (.seq (.region [⟨(some 4), .mv (.c (.v (.int .i64 0))), none⟩])
  (.block 0 (.loop (.seq (.seq (.region [⟨(some 5), .mv (.t 4), none⟩, ⟨(some 6), .mv (.t 0), none⟩, ⟨(some 7), .bin .lss (.t 5) (.t 6), none⟩])
  (.cond (.t 7) .skip
  (.exit 0)))
  (.seq (.block 1 (.region [⟨(some 10), .mv (.t 3), none⟩, ⟨(some 11), .mv (.t 0), none⟩, ⟨(some 12), .mkslice 1 [(.v (.int .i64 0))] 8 (.t 11) (.t 11), none⟩, ⟨(some 13), .bslice 1 [(.v .zsl)] 1 [(0, (.t 12))], none⟩, ⟨(some 14), .append 1 24 (.t 10) (.t 13), none⟩, ⟨(some 3), .mv (.t 14), none⟩]))
  (.region [⟨(some 8), .mv (.t 4), none⟩, ⟨(some 9), .bin .add (.t 8) (.c (.v (.int .i64 1))), none⟩, ⟨(some 4), .mv (.t 9), none⟩]))))))
  (.seq (.region [⟨(some 15), .mv (.t 3), none⟩, ⟨(some 2), .mv (.t 15), none⟩])
  .ret))))⟩
theorem a_rmZero_ok : cFunc Try.prog 108 = some a_rmZero := by kernel_rfl
def r_rmZero0 : List (Nat × Nat) := [(3, 14)]
def a_rmCopy : AFunc := ⟨1, 35, [.tmp 2],
  (.seq (.region [⟨(some 2), .mv (.c (.v .zsl)), none⟩])
  (.seq (.region [⟨(some 6), .mv (.t 0), none⟩, ⟨(some 7), .len (.t 6), none⟩, ⟨(some 8), .call (.c (.fn 108 [])) [(.t 7)], none⟩, ⟨(some 3), .mv (.t 8), none⟩])
  (.seq (.seq (.region [⟨(some 4), .mv (.c (.v (.int .i64 0))), none⟩])
  (.block 0 (.loop (.seq (.seq (.region [⟨(some 9), .mv (.t 4), none⟩, ⟨(some 10), .mv (.t 0), none⟩, ⟨(some 11), .len (.t 10), none⟩, ⟨(some 12), .bin .lss (.t 9) (.t 11), none⟩])
  (.cond (.t 12) .skip
  (.exit 0)))
  (.seq (.block 1 (.seq (.region [⟨(some 5), .mv (.c (.v (.int .i64 0))), none⟩])
  (.block 2 (.loop (.seq (.seq (.region [⟨(some 15), .mv (.t 5), none⟩, ⟨(some 16), .mv (.t 0), none⟩, ⟨(some 17), .len (.t 16), none⟩, ⟨(some 18), .bin .lss (.t 15) (.t 17), none⟩])
  (.cond (.t 18) .skip
  (.exit 2)))
  (.seq (.block 3 (.draw [⟨0, ⟨(some 21), .mv (.t 3), none⟩, []⟩, ⟨1, ⟨(some 22), .mv (.t 4), none⟩, []⟩, ⟨2, ⟨(some 23), .iaddr 1 (.t 21) (.t 22), none⟩, []⟩, ⟨3, ⟨(some 24), .load none (.t 23), none⟩, []⟩, ⟨4, ⟨(some 25), .mv (.t 5), none⟩, []⟩, ⟨5, ⟨(some 26), .mv (.t 0), none⟩, []⟩, ⟨6, ⟨(some 27), .mv (.t 4), none⟩, []⟩, ⟨7, ⟨(some 28), .iaddr 1 (.t 26) (.t 27), none⟩, []⟩, ⟨8, ⟨(some 29), .load none (.t 28), none⟩, []⟩, ⟨9, ⟨(some 30), .mv (.t 5), none⟩, []⟩, ⟨10, ⟨(some 31), .iaddr 1 (.t 29) (.t 30), none⟩, []⟩, ⟨11, ⟨(some 32), .load none (.t 31), none⟩, []⟩, ⟨12, ⟨(some 33), .iaddr 1 (.t 24) (.t 25), none⟩, []⟩, ⟨13, ⟨none, .store 1 (.t 33) (.t 32), none⟩, []⟩]))
  (.region [⟨(some 19), .mv (.t 5), none⟩, ⟨(some 20), .bin .add (.t 19) (.c (.v (.int .i64 1))), none⟩, ⟨(some 5), .mv (.t 20), none⟩])))))))
  (.region [⟨(some 13), .mv (.t 4), none⟩, ⟨(some 14), .bin .add (.t 13) (.c (.v (.int .i64 1))), none⟩, ⟨(some 4), .mv (.t 14), none⟩]))))))
  (.seq (.region [⟨(some 34), .mv (.t 3), none⟩, ⟨(some 2), .mv (.t 34), none⟩])
  .ret))))⟩
theorem a_rmCopy_ok : cFunc Try.prog 145 = some a_rmCopy := by kernel_rfl
def r_rmCopy0 : List (Nat × Nat) := [(4, 5), (9, 33)]
def r_rmCopy1 : List (Nat × Nat) := [(5, 5), (15, 33)]
def a_rmTick : AFunc := ⟨2, 27, [.tmp 4, .tmp 5],
  (.seq (.region [⟨(some 4), .mv (.c (.v .zsl)), none⟩, ⟨(some 5), .mv (.c (.v (.bool false))), none⟩])
  (.seq (.region [⟨(some 7), .mv (.t 0), none⟩, ⟨(some 8), .call (.c (.fn 145 [])) [(.t 7)], none⟩, ⟨(some 6), .mv (.t 8), none⟩])
  (.seq (.region [⟨(some 9), .mv (.t 6), none⟩, ⟨(some 10), .mv (.t 1), none⟩, ⟨(some 11), .iaddr 1 (.t 9) (.t 10), none⟩, ⟨(some 12), .load none (.t 11), none⟩, ⟨(some 13), .mv (.t 1), none⟩, ⟨(some 14), .iaddr 1 (.t 12) (.t 13), none⟩, ⟨(some 15), .load none (.t 14), none⟩, ⟨(some 16), .bin .add (.t 15) (.c (.v (.int .i64 1))), none⟩, ⟨(some 17), .iaddr 1 (.t 12) (.t 13), none⟩, ⟨none, .store 1 (.t 17) (.t 16), none⟩])
  (.seq (.draw [⟨0, ⟨(some 18), .mv (.t 6), none⟩, []⟩, ⟨1, ⟨(some 19), .mv (.t 6), none⟩, []⟩, ⟨2, ⟨(some 20), .mv (.t 1), none⟩, []⟩, ⟨3, ⟨(some 21), .iaddr 1 (.t 19) (.t 20), none⟩, []⟩, ⟨4, ⟨(some 22), .load none (.t 21), none⟩, []⟩, ⟨5, ⟨(some 23), .mv (.t 1), none⟩, []⟩, ⟨6, ⟨(some 24), .iaddr 1 (.t 22) (.t 23), none⟩, []⟩, ⟨7, ⟨(some 25), .load none (.t 24), none⟩, []⟩, ⟨8, ⟨(some 26), .bin .leq (.t 25) (.c (.v (.int .i64 1125899906842624))), none⟩, []⟩, ⟨9, ⟨(some 4), .mv (.t 18), none⟩, []⟩, ⟨10, ⟨(some 5), .mv (.t 26), none⟩, []⟩])
  .ret))))⟩
theorem a_rmTick_ok : cFunc Try.prog 109 = some a_rmTick := by kernel_rfl
def a_rmReceive : AFunc := ⟨4, 81, [.tmp 8, .tmp 9],
  (.seq (.region [⟨(some 8), .mv (.c (.v .zsl)), none⟩, ⟨(some 9), .mv (.c (.v (.bool false))), none⟩])
  (.seq (.region [⟨(some 14), .mv (.t 0), none⟩, ⟨(some 15), .call (.c (.fn 145 [])) [(.t 14)], none⟩, ⟨(some 10), .mv (.t 15), none⟩])
  (.seq (.seq (.region [⟨(some 11), .mv (.c (.v (.int .i64 0))), none⟩])
  (.block 0 (.loop (.seq (.seq (.region [⟨(some 16), .mv (.t 11), none⟩, ⟨(some 17), .mv (.t 0), none⟩, ⟨(some 18), .len (.t 17), none⟩, ⟨(some 19), .bin .lss (.t 16) (.t 18), none⟩])
  (.cond (.t 19) .skip
  (.exit 0)))
  (.seq (.block 1 (.seq (.region [⟨(some 12), .mv (.c (.v (.int .i64 0))), none⟩])
  (.block 2 (.loop (.seq (.seq (.region [⟨(some 22), .mv (.t 12), none⟩, ⟨(some 23), .mv (.t 0), none⟩, ⟨(some 24), .len (.t 23), none⟩, ⟨(some 25), .bin .lss (.t 22) (.t 24), none⟩])
  (.cond (.t 25) .skip
  (.exit 2)))
  (.seq (.block 3 (.draw [⟨0, ⟨(some 28), .mv (.t 10), none⟩, []⟩, ⟨1, ⟨(some 29), .mv (.t 11), none⟩, []⟩, ⟨2, ⟨(some 30), .iaddr 1 (.t 28) (.t 29), none⟩, []⟩, ⟨3, ⟨(some 31), .load none (.t 30), none⟩, []⟩, ⟨4, ⟨(some 32), .mv (.t 12), none⟩, []⟩, ⟨5, ⟨(some 33), .mv (.t 10), none⟩, []⟩, ⟨6, ⟨(some 34), .mv (.t 11), none⟩, []⟩, ⟨7, ⟨(some 35), .iaddr 1 (.t 33) (.t 34), none⟩, []⟩, ⟨8, ⟨(some 36), .load none (.t 35), none⟩, []⟩, ⟨9, ⟨(some 37), .mv (.t 12), none⟩, []⟩, ⟨10, ⟨(some 38), .iaddr 1 (.t 36) (.t 37), none⟩, []⟩, ⟨11, ⟨(some 39), .load none (.t 38), none⟩, []⟩, ⟨12, ⟨(some 40), .mv (.t 2), none⟩, []⟩, ⟨13, ⟨(some 41), .mv (.t 11), none⟩, []⟩, ⟨14, ⟨(some 42), .iaddr 1 (.t 40) (.t 41), none⟩, []⟩, ⟨15, ⟨(some 43), .load none (.t 42), none⟩, []⟩, ⟨16, ⟨(some 44), .mv (.t 12), none⟩, []⟩, ⟨17, ⟨(some 45), .iaddr 1 (.t 43) (.t 44), none⟩, []⟩, ⟨18, ⟨(some 46), .load none (.t 45), none⟩, []⟩, ⟨19, ⟨(some 47), .mm true (.t 39) (.t 46), none⟩, []⟩, ⟨20, ⟨(some 48), .iaddr 1 (.t 31) (.t 32), none⟩, []⟩, ⟨21, ⟨none, .store 1 (.t 48) (.t 47), none⟩, []⟩]))
  (.region [⟨(some 26), .mv (.t 12), none⟩, ⟨(some 27), .bin .add (.t 26) (.c (.v (.int .i64 1))), none⟩, ⟨(some 12), .mv (.t 27), none⟩])))))))
  (.region [⟨(some 20), .mv (.t 11), none⟩, ⟨(some 21), .bin .add (.t 20) (.c (.v (.int .i64 1))), none⟩, ⟨(some 11), .mv (.t 21), none⟩]))))))
  (.seq (.seq (.region [⟨(some 13), .mv (.c (.v (.int .i64 0))), none⟩])
  (.block 4 (.loop (.seq (.seq (.region [⟨(some 49), .mv (.t 13), none⟩, ⟨(some 50), .mv (.t 0), none⟩, ⟨(some 51), .len (.t 50), none⟩, ⟨(some 52), .bin .lss (.t 49) (.t 51), none⟩])
  (.cond (.t 52) .skip
  (.exit 4)))
  (.seq (.block 5 (.draw [⟨0, ⟨(some 55), .mv (.t 10), none⟩, []⟩, ⟨1, ⟨(some 56), .mv (.t 1), none⟩, []⟩, ⟨2, ⟨(some 57), .iaddr 1 (.t 55) (.t 56), none⟩, []⟩, ⟨3, ⟨(some 58), .load none (.t 57), none⟩, []⟩, ⟨4, ⟨(some 59), .mv (.t 13), none⟩, []⟩, ⟨5, ⟨(some 60), .mv (.t 10), none⟩, []⟩, ⟨6, ⟨(some 61), .mv (.t 1), none⟩, []⟩, ⟨7, ⟨(some 62), .iaddr 1 (.t 60) (.t 61), none⟩, []⟩, ⟨8, ⟨(some 63), .load none (.t 62), none⟩, []⟩, ⟨9, ⟨(some 64), .mv (.t 13), none⟩, []⟩, ⟨10, ⟨(some 65), .iaddr 1 (.t 63) (.t 64), none⟩, []⟩, ⟨11, ⟨(some 66), .load none (.t 65), none⟩, []⟩, ⟨12, ⟨(some 67), .mv (.t 2), none⟩, []⟩, ⟨13, ⟨(some 68), .mv (.t 3), none⟩, []⟩, ⟨14, ⟨(some 69), .iaddr 1 (.t 67) (.t 68), none⟩, []⟩, ⟨15, ⟨(some 70), .load none (.t 69), none⟩, []⟩, ⟨16, ⟨(some 71), .mv (.t 13), none⟩, []⟩, ⟨17, ⟨(some 72), .iaddr 1 (.t 70) (.t 71), none⟩, []⟩, ⟨18, ⟨(some 73), .load none (.t 72), none⟩, []⟩, ⟨19, ⟨(some 74), .mm true (.t 66) (.t 73), none⟩, []⟩, ⟨20, ⟨(some 75), .iaddr 1 (.t 58) (.t 59), none⟩, []⟩, ⟨21, ⟨none, .store 1 (.t 75) (.t 74), none⟩, []⟩]))
  (.region [⟨(some 53), .mv (.t 13), none⟩, ⟨(some 54), .bin .add (.t 53) (.c (.v (.int .i64 1))), none⟩, ⟨(some 13), .mv (.t 54), none⟩]))))))
  (.seq (.region [⟨(some 76), .mv (.t 10), none⟩, ⟨(some 77), .mv (.t 1), none⟩, ⟨(some 78), .call (.c (.fn 109 [])) [(.t 76), (.t 77)], none⟩, ⟨(some 79), .extract 0 (.t 78), none⟩, ⟨(some 80), .extract 1 (.t 78), none⟩, ⟨(some 8), .mv (.t 79), none⟩, ⟨(some 9), .mv (.t 80), none⟩])
  .ret)))))⟩
theorem a_rmReceive_ok : cFunc Try.prog 111 = some a_rmReceive := by kernel_rfl
def r_rmReceive0 : List (Nat × Nat) := [(11, 12), (16, 48)]
def r_rmReceive1 : List (Nat × Nat) := [(12, 12), (22, 48)]
def r_rmReceive2 : List (Nat × Nat) := [(13, 13), (49, 75)]
def a_rmSame : AFunc := ⟨2, 53, [.tmp 4],
  (.seq (.region [⟨(some 4), .mv (.c (.v (.bool false))), none⟩])
  (.seq (.seq (.region [⟨(some 7), .mv (.t 0), none⟩, ⟨(some 8), .len (.t 7), none⟩, ⟨(some 9), .mv (.t 1), none⟩, ⟨(some 10), .len (.t 9), none⟩, ⟨(some 11), .bin .neq (.t 8) (.t 10), none⟩])
  (.cond (.t 11) (.seq (.region [⟨(some 4), .mv (.c (.v (.bool false))), none⟩])
  .ret)
  .skip))
  (.seq (.seq (.region [⟨(some 5), .mv (.c (.v (.int .i64 0))), none⟩])
  (.block 0 (.loop (.seq (.seq (.region [⟨(some 12), .mv (.t 5), none⟩, ⟨(some 13), .mv (.t 0), none⟩, ⟨(some 14), .len (.t 13), none⟩, ⟨(some 15), .bin .lss (.t 12) (.t 14), none⟩])
  (.cond (.t 15) .skip
  (.exit 0)))
  (.seq (.block 1 (.seq (.seq (.draw [⟨0, ⟨(some 18), .mv (.t 0), none⟩, []⟩, ⟨1, ⟨(some 19), .mv (.t 5), none⟩, []⟩, ⟨2, ⟨(some 20), .iaddr 1 (.t 18) (.t 19), none⟩, []⟩, ⟨3, ⟨(some 21), .load none (.t 20), none⟩, []⟩, ⟨4, ⟨(some 22), .len (.t 21), none⟩, []⟩, ⟨5, ⟨(some 23), .mv (.t 1), none⟩, []⟩, ⟨6, ⟨(some 24), .mv (.t 5), none⟩, []⟩, ⟨7, ⟨(some 25), .iaddr 1 (.t 23) (.t 24), none⟩, []⟩, ⟨8, ⟨(some 26), .load none (.t 25), none⟩, []⟩, ⟨9, ⟨(some 27), .len (.t 26), none⟩, []⟩, ⟨10, ⟨(some 28), .bin .neq (.t 22) (.t 27), none⟩, []⟩])
  (.cond (.t 28) (.seq (.region [⟨(some 4), .mv (.c (.v (.bool false))), none⟩])
  .ret)
  .skip))
  (.seq (.region [⟨(some 6), .mv (.c (.v (.int .i64 0))), none⟩])
  (.block 2 (.loop (.seq (.seq (.region [⟨(some 29), .mv (.t 6), none⟩, ⟨(some 30), .mv (.t 0), none⟩, ⟨(some 31), .mv (.t 5), none⟩, ⟨(some 32), .iaddr 1 (.t 30) (.t 31), none⟩, ⟨(some 33), .load none (.t 32), none⟩, ⟨(some 34), .len (.t 33), none⟩, ⟨(some 35), .bin .lss (.t 29) (.t 34), none⟩])
  (.cond (.t 35) .skip
  (.exit 2)))
  (.seq (.block 3 (.seq (.draw [⟨0, ⟨(some 38), .mv (.t 0), none⟩, []⟩, ⟨1, ⟨(some 39), .mv (.t 5), none⟩, []⟩, ⟨2, ⟨(some 40), .iaddr 1 (.t 38) (.t 39), none⟩, []⟩, ⟨3, ⟨(some 41), .load none (.t 40), none⟩, []⟩, ⟨4, ⟨(some 42), .mv (.t 6), none⟩, []⟩, ⟨5, ⟨(some 43), .iaddr 1 (.t 41) (.t 42), none⟩, []⟩, ⟨6, ⟨(some 44), .load none (.t 43), none⟩, []⟩, ⟨7, ⟨(some 45), .mv (.t 1), none⟩, []⟩, ⟨8, ⟨(some 46), .mv (.t 5), none⟩, []⟩, ⟨9, ⟨(some 47), .iaddr 1 (.t 45) (.t 46), none⟩, []⟩, ⟨10, ⟨(some 48), .load none (.t 47), none⟩, []⟩, ⟨11, ⟨(some 49), .mv (.t 6), none⟩, []⟩, ⟨12, ⟨(some 50), .iaddr 1 (.t 48) (.t 49), none⟩, []⟩, ⟨13, ⟨(some 51), .load none (.t 50), none⟩, []⟩, ⟨14, ⟨(some 52), .bin .neq (.t 44) (.t 51), none⟩, []⟩])
  (.cond (.t 52) (.seq (.region [⟨(some 4), .mv (.c (.v (.bool false))), none⟩])
  .ret)
  .skip)))
  (.region [⟨(some 36), .mv (.t 6), none⟩, ⟨(some 37), .bin .add (.t 36) (.c (.v (.int .i64 1))), none⟩, ⟨(some 6), .mv (.t 37), none⟩]))))))))
  (.region [⟨(some 16), .mv (.t 5), none⟩, ⟨(some 17), .bin .add (.t 16) (.c (.v (.int .i64 1))), none⟩, ⟨(some 5), .mv (.t 17), none⟩]))))))
  (.seq (.region [⟨(some 4), .mv (.c (.v (.bool true))), none⟩])
  .ret))))⟩
theorem a_rmSame_ok : cFunc Try.prog 58 = some a_rmSame := by kernel_rfl
def r_rmSame0 : List (Nat × Nat) := [(4, 6), (12, 52)]
def r_rmSame1 : List (Nat × Nat) := [(4, 4), (6, 6), (29, 52)]

theorem fl_app1 {α : Type} {n : Nat} {f : Nat → α} {x : α} {r : List α} : (fl n f ++ x :: r)[n]? = some x := by
  rw [List.getElem?_append_right (by rw [fl_len]; exact Nat.le_refl _), fl_len, Nat.sub_self]; rfl
theorem fl_app2 {α : Type} {n : Nat} {f : Nat → α} {x y : α} {r : List α} : (fl n f ++ x :: y :: r)[n + 1]? = some y := by
  rw [List.getElem?_append_right (by rw [fl_len]; omega), fl_len, Nat.add_sub_cancel_left]; rfl
theorem mR_snoc {n v0 base sz v len : Nat} {ver : Nat → Nat} {R : Nat → List (List IV)} {x : List (List IV)} (hv : ver n = v) (hx : R n = x) (hl : x.length = len) :
    Row.live v0 1 ((fl n fun j => [AV.sl (base + (j + 1)) (ver j) 0 (R j).length]) ++ [[.sl (base + (n + 1)) v 0 len]]) :: (fl n (mD sz 0 ver R) ++ [.live v sz (vs x)]) = mR (n + 1) v0 base sz 0 ver R := by
  unfold mR
  congr 1
  · congr 1
    rw [fl_next (f := fun j => [AV.sl (base + (j + 1)) (ver j) 0 (R j).length]) (by rw [hv, hx, hl])]
    refine fl_congr (fun j hj => ?_)
    rw [mC_0]
  · rw [fl_next (f := mD sz 0 ver R) (by rw [mD_0, hv, hx])]
theorem rmZero_spec (n : Nat) (hn : n ≤ 1000000) (b l : List Row) : ACalls Try.prog 108 [.v (.int .i64 n)] b l (fun r b' l' => r = .sl (b.length + l.length) n 0 n ∧ b' = b ∧ l' = l ++ mR n n (b.length + l.length) 1 0 (fun _ => 0) (zRows n)) := by
  refine calls_kept a_rmZero_ok rfl (by decide) ?_
  intro B g hB hR hE hA
  simp only [KArgs] at hA
  simp (disch := decide) only [a_rmZero, hA, go_sem]
  refine loop_kept_nil (ι := Nat) 3 1 r_rmZero0 (fun i => [(3, .sl B.length i 0 i), (4, .v (.int .i64 i))]) 1 (fun i => mR i i B.length 1 0 (fun _ => 0) (zRows n))
    (fun i => i ≤ n) (fun i => n - i) 0 (Nat.zero_le _) (by simp (disch := decide) only [hA, go_sem]) (by decide) rfl (by (repeat (first | exact hE.mono (by omega) | refine KLt.up ?_ (by simp (disch := omega) only [AVlt_v, AVlt_any, AVlt_sl, AVlt_ptr, AVlt_mp, AVlt_agg, AVlt_tup, AVlt_fn, RowsLt_nil, RowsLt_live, RowsLt_dead, List.mem_cons, List.not_mem_nil, List.forall_mem_cons, List.forall_mem_nil, or_false, false_or, forall_eq_or_imp, forall_eq, vs_lt, Nat.add_lt_add_iff_left, Nat.reduceLT, true_and, and_true, and_self, List.length_cons, List.length_nil, Nat.reduceAdd, Nat.zero_add, implies_true, false_imp_iff, lt_T, List.mem_map])))) (by ((try simp (disch := decide) only [hA, go_sem]) <;> (repeat' (first | exact trivial | refine And.intro ?_ ?_)) <;> (first | rfl | (congr 2; omega)))) (fun e => Weak.refl _ _ _) ?_
  intro g1 hE1 hEE1 hg1 i hi
  by_cases hlt : i < n
  · have hrep : List.replicate n [AV.v (.int .i64 0)] = vs (zRows n i) := by simp [vs, zRows, eI]
    have sn := mR_snoc (n := i) (v0 := i + 1) (base := B.length) (sz := 1) (ver := fun _ => 0) (R := zRows n) rfl rfl (zRows_len n i)
    have tk : ∀ f : Nat → List AV, (fl i f).take i = fl i f := fun f => fl_take (Nat.le_refl _)
    simp (disch := (first | decide | omega)) only [hA, hg1, mR, mC_0, mD_0, fl_len, hrep, setFrom, cellsOf, List.replicate_succ, List.replicate_zero, tk, fl_app1, fl_app2, go_sem]
    refine ⟨i + 1, hlt, by simp only; omega, ?_⟩
    exact Weak.kround (l1 := mR (i + 1) (i + 1) B.length 1 0 (fun _ => 0) (zRows n)) (junk := [.live 0 1 [[.sl (B.length + (i + 1)) 0 0 n]]]) (p := r_rmZero0) (k := 1) (by ((repeat refine (kAny_up rfl).trans ?_); exact hEE1)) (by ((try simp (disch := decide) only [hA, go_sem]) <;> (repeat' (first | exact trivial | refine And.intro ?_ ?_)) <;> (first | rfl | (congr 2; omega)))) (by
      rw [← sn]; simp only [List.cons_append, List.append_assoc, List.nil_append]) hE1 (by rw [mR_len]; omega) (by rw [mR_len]; simp (disch := omega) only [KOvLt, AVlt_v, AVlt_any, AVlt_sl, AVlt_ptr, AVlt_mp, AVlt_agg, AVlt_tup, AVlt_fn, RowsLt_nil, RowsLt_live, RowsLt_dead, List.mem_cons, List.not_mem_nil, List.forall_mem_cons, List.forall_mem_nil, or_false, false_or, forall_eq_or_imp, forall_eq, vs_lt, Nat.add_lt_add_iff_left, Nat.reduceLT, true_and, and_true, and_self, List.length_cons, List.length_nil, Nat.reduceAdd, Nat.zero_add, implies_true, false_imp_iff, lt_T, List.mem_map]) hR (mR_lt (by rw [mR_len]; omega))
  · simp (disch := (first | decide | omega)) only [hA, hg1, go_sem]
    obtain rfl : i = n := by omega
    have hBl : B.length = b.length + l.length := by rw [hB, List.length_append]
    exact leave_keep (y := .sl B.length i 0 i) (keep := mR i i B.length 1 0 (fun _ => 0) (zRows i)) (junk := []) (.inr rfl) (by simp (disch := (first | decide | omega)) only [resVs, resV, hA, hg1, go_sem]) (by rw [List.append_nil]) hR (by rw [mR_len]; exact .sl _ _ _ _ (by omega)) (mR_lt (by rw [mR_len]; omega)) hB ⟨by rw [hBl], rfl, by rw [hBl]⟩
def rowsF (f : Nat → List Int) (j : Nat) : List (List IV) := (f j).map eI
def phF (n : Nat) (a z : Nat → Nat → Int) (i k j : Nat) : List Int := fl n fun c => if j < i ∨ (j = i ∧ c < k) then a j c else z j c
section
variable {n v0 base i k v : Nat} {a z : Nat → Nat → Int}
theorem ph_len {j : Nat} : (phF n a z i k j).length = n := fl_len
theorem rowsF_len {f : Nat → List Int} {j : Nat} : (rowsF f j).length = (f j).length := by simp [rowsF]
theorem ph_at (h : k < (phF n a z i k i).length) : (phF n a z i k i)[k] = z i k :=
  (fl_getE (f := fun c => if i < i ∨ (i = i ∧ c < k) then a i c else z i c) h).trans (if_neg (by omega))
theorem ph_put : (mR n v0 base 1 0 (fun _ => v) (rowsF (phF n a z i k))).set (i + 1) (.live v 1 (vs (((phF n a z i k i).map eI).set k [.int .i64 (a i k)]))) = mR n v0 base 1 0 (fun _ => v) (rowsF (phF n a z i (k + 1))) := by
  rw [mR_put rfl (by rw [List.length_set, List.length_map, rowsF_len])]
  refine mR_congr (fun j hj => ?_)
  unfold fUp rowsF
  by_cases hji : j = i
  · subst hji
    rw [if_pos rfl, show [IV.int .i64 (a j k)] = eI (a j k) from rfl, ← List.map_set]
    congr 1
    unfold phF
    rw [fl_set]
    refine fl_congr (fun c hc => ?_)
    unfold fUp
    by_cases hck : c = k
    · subst hck; rw [if_pos rfl, if_pos (by omega)]
    · rw [if_neg hck]
      show (if j < j ∨ j = j ∧ c < k then a j c else z j c) = (if j < j ∨ j = j ∧ c < k + 1 then a j c else z j c)
      by_cases h2 : c < k
      · rw [if_pos (by omega), if_pos (by omega)]
      · rw [if_neg (by omega), if_neg (by omega)]
  · rw [if_neg hji]
    congr 1
    unfold phF
    refine fl_congr (fun c hc => ?_)
    by_cases h2 : j < i
    · rw [if_pos (by omega), if_pos (by omega)]
    · rw [if_neg (by omega), if_neg (by omega)]
theorem ph_next : mR n v0 base 1 0 (fun _ => v) (rowsF (phF n a z i n)) = mR n v0 base 1 0 (fun _ => v) (rowsF (phF n a z (i + 1) 0)) := by
  refine mR_congr (fun j hj => ?_)
  unfold rowsF phF
  congr 1
  refine fl_congr (fun c hc => ?_)
  by_cases h2 : j ≤ i
  · rw [if_pos (by omega), if_pos (by omega)]
  · rw [if_neg (by omega), if_neg (by omega)]
theorem ph_start : phF n a z 0 0 = fun j => fl n (z j) := by
  funext j
  unfold phF
  refine fl_congr (fun c hc => ?_)
  rw [if_neg (by omega)]
theorem ph_end {j : Nat} (hj : j < n) : phF n a z n 0 j = fl n (a j) := by
  unfold phF
  refine fl_congr (fun c hc => ?_)
  rw [if_pos (by omega)]
end
theorem row_fl {m : List (List Int)} {j n : Nat} (h : (rowAt m j).length = n) : fl n (ent m j) = rowAt m j := by
  rw [← fl_list (l := rowAt m j) (d := 0), h]; rfl
theorem rmCopy_spec (m : List (List Int)) (hm : isM m = true) (b l : List Row) : ACalls Try.prog 145 [.v (.isl 1 (m.map eRw))] b l (fun r b' l' => r = .sl (b.length + l.length) m.length 0 m.length ∧ b' = b ∧ l' = l ++ mR m.length m.length (b.length + l.length) 1 0 (fun _ => 0) (rowsM m)) := by
  refine calls_kept a_rmCopy_ok rfl (by decide) ?_
  intro B g hB hR hE hA
  simp only [KArgs] at hA
  obtain ⟨l1, l2, l3, _⟩ := isM_open hm
  simp (disch := decide) only [a_rmCopy, hA, List.length_map, go_sem]
  refine ACalls.nxt (rmZero_spec m.length (by omega) _ _) ?_
  have r0 : mR m.length m.length (B.length + 0) 1 0 (fun _ => 0) (zRows m.length) = mR m.length m.length B.length 1 0 (fun _ => 0) (rowsF (phF m.length (ent m) (fun _ _ => 0) 0 0)) := mR_congr (fun j hj => by
    unfold zRows rowsF; rw [ph_start]
    congr 1
    apply List.ext_getElem?
    intro c
    by_cases hc : c < m.length
    · rw [fl_get hc, List.getElem?_replicate, if_pos hc]
    · rw [fl_none (by omega), List.getElem?_replicate, if_neg hc])
  rw [List.length_nil, r0]
  simp (disch := (first | decide | omega)) only [hA, go_sem]
  refine loop_kept (ι := Nat) r_rmCopy0 (fun i => [(4, .v (.int .i64 i))]) 1 (fun i => mR m.length m.length B.length 1 0 (fun _ => 0) (rowsF (phF m.length (ent m) (fun _ _ => 0) i 0)))
    (fun i => i ≤ m.length) (fun i => m.length - i) 0 (Nat.zero_le _) (by (repeat (first | exact hE.mono (by omega) | refine KLt.up ?_ (by simp (disch := omega) only [AVlt_v, AVlt_any, AVlt_sl, AVlt_ptr, AVlt_mp, AVlt_agg, AVlt_tup, AVlt_fn, RowsLt_nil, RowsLt_live, RowsLt_dead, List.mem_cons, List.not_mem_nil, List.forall_mem_cons, List.forall_mem_nil, or_false, false_or, forall_eq_or_imp, forall_eq, vs_lt, Nat.add_lt_add_iff_left, Nat.reduceLT, true_and, and_true, and_self, List.length_cons, List.length_nil, Nat.reduceAdd, Nat.zero_add, implies_true, false_imp_iff, lt_T, List.mem_map])))) (by ((try simp (disch := decide) only [hA, go_sem]) <;> (repeat' (first | exact trivial | refine And.intro ?_ ?_)) <;> (first | rfl | (congr 2; omega)))) (fun e => Weak.refl _ _ _) ?_
  intro g1 hE1 hEE1 hg1 i hi
  by_cases hlt : i < m.length
  · have hri := rowAt_at hlt
    have hil : m[i].length = m.length := by rw [← hri, l3 i hlt]
    simp (disch := (first | decide | omega)) only [hA, hg1, List.length_map, go_sem]
    refine loop_kept (ι := Nat) r_rmCopy1 (fun k => [(5, .v (.int .i64 k))]) 1 (fun k => mR m.length m.length B.length 1 0 (fun _ => 0) (rowsF (phF m.length (ent m) (fun _ _ => 0) i k)))
      (fun k => k ≤ m.length) (fun k => m.length - k) 0 (Nat.zero_le _) (by (repeat (first | exact hE1.mono (by omega) | refine KLt.up ?_ (by simp (disch := omega) only [AVlt_v, AVlt_any, AVlt_sl, AVlt_ptr, AVlt_mp, AVlt_agg, AVlt_tup, AVlt_fn, RowsLt_nil, RowsLt_live, RowsLt_dead, List.mem_cons, List.not_mem_nil, List.forall_mem_cons, List.forall_mem_nil, or_false, false_or, forall_eq_or_imp, forall_eq, vs_lt, Nat.add_lt_add_iff_left, Nat.reduceLT, true_and, and_true, and_self, List.length_cons, List.length_nil, Nat.reduceAdd, Nat.zero_add, implies_true, false_imp_iff, lt_T, List.mem_map])))) (by ((try simp (disch := decide) only [hA, hg1, go_sem]) <;> (repeat' (first | exact trivial | refine And.intro ?_ ?_)) <;> (first | rfl | (congr 2; omega)))) (fun e => Weak.refl _ _ _) ?_
    intro g2 hE2 hEE2 hg2 k hk
    by_cases hkl : k < m.length
    · have hki : k < m[i].length := by omega
      have he : m[i][k] = ent m i k := by unfold ent; rw [hri, getD_at hki]
      have hgO := mR_first (n := m.length) (v0 := m.length) (sz := 1) (B := B) (ver := fun _ => 0) (R := rowsF (phF m.length (ent m) (fun _ _ => 0) i k))
      have hgI := mR_at0 (v0 := m.length) (base := B.length) (sz := 1) (ver := fun _ => 0) (R := rowsF (phF m.length (ent m) (fun _ _ => 0) i k)) hlt
      have hfi : rowsF (phF m.length (ent m) (fun _ _ => 0) i k) i = (phF m.length (ent m) (fun _ _ => 0) i k i).map eI := rfl
      have hpl := ph_len (n := m.length) (a := ent m) (z := fun _ _ => 0) (i := i) (k := k) (j := i)
      have hpp := ph_put (n := m.length) (v0 := m.length) (base := B.length) (v := 0) (a := ent m) (z := fun _ _ => 0) (i := i) (k := k)
      simp (disch := (first | decide | omega)) only [hA, hg1, hg2, hgO, hgI, hfi, hpl, fl_len, fl_get, mC_0, eRw, eI, he, List.length_map, setFrom, cellsOf, hpp, go_sem]
      refine ⟨k + 1, hkl, by simp only; omega, ?_⟩
      exact Weak.kround (l1 := mR m.length m.length B.length 1 0 (fun _ => 0) (rowsF (phF m.length (ent m) (fun _ _ => 0) i (k + 1)))) (p := r_rmCopy1) (k := 1) (by ((repeat refine (kAny_up rfl).trans ?_); exact hEE2)) (by ((try simp (disch := decide) only [hA, go_sem]) <;> (repeat' (first | exact trivial | refine And.intro ?_ ?_)) <;> (first | rfl | (congr 2; omega)))) (junk := []) (by rw [List.append_nil]) hE2 (by rw [mR_len]; omega) (by simp (disch := omega) only [KOvLt, AVlt_v, AVlt_any, AVlt_sl, AVlt_ptr, AVlt_mp, AVlt_agg, AVlt_tup, AVlt_fn, RowsLt_nil, RowsLt_live, RowsLt_dead, List.mem_cons, List.not_mem_nil, List.forall_mem_cons, List.forall_mem_nil, or_false, false_or, forall_eq_or_imp, forall_eq, vs_lt, Nat.add_lt_add_iff_left, Nat.reduceLT, true_and, and_true, and_self, List.length_cons, List.length_nil, Nat.reduceAdd, Nat.zero_add, implies_true, false_imp_iff, lt_T, List.mem_map]) hR (mR_lt (by rw [mR_len]; omega))
    · simp (disch := (first | decide | omega)) only [hA, hg1, hg2, List.length_map, go_sem]
      obtain rfl : k = m.length := by omega
      rw [ph_next]
      refine ⟨i + 1, hlt, by simp only; omega, ?_⟩
      exact Weak.kround (l1 := mR m.length m.length B.length 1 0 (fun _ => 0) (rowsF (phF m.length (ent m) (fun _ _ => 0) (i + 1) 0))) (p := r_rmCopy0) (k := 1) (by ((repeat refine (kAny_up rfl).trans ?_); refine (kAny_sub hg2 (kIn_sub rfl)).trans ?_; (repeat refine (kAny_up rfl).trans ?_); exact hEE1)) (by ((try simp (disch := decide) only [hA, hg1, go_sem]) <;> (repeat' (first | exact trivial | refine And.intro ?_ ?_)) <;> (first | rfl | (congr 2; omega)))) (junk := []) (by rw [List.append_nil]) hE1 (by rw [mR_len]; omega) (by simp (disch := omega) only [KOvLt, AVlt_v, AVlt_any, AVlt_sl, AVlt_ptr, AVlt_mp, AVlt_agg, AVlt_tup, AVlt_fn, RowsLt_nil, RowsLt_live, RowsLt_dead, List.mem_cons, List.not_mem_nil, List.forall_mem_cons, List.forall_mem_nil, or_false, false_or, forall_eq_or_imp, forall_eq, vs_lt, Nat.add_lt_add_iff_left, Nat.reduceLT, true_and, and_true, and_self, List.length_cons, List.length_nil, Nat.reduceAdd, Nat.zero_add, implies_true, false_imp_iff, lt_T, List.mem_map]) hR (mR_lt (by rw [mR_len]; omega))
  · simp (disch := (first | decide | omega)) only [hA, hg1, List.length_map, go_sem]
    obtain rfl : i = m.length := by omega
    have hBl : B.length = b.length + l.length := by rw [hB, List.length_append]
    have hend : mR m.length m.length B.length 1 0 (fun _ => 0) (rowsF (phF m.length (ent m) (fun _ _ => 0) m.length 0)) = mR m.length m.length B.length 1 0 (fun _ => 0) (rowsM m) := mR_congr (fun j hj => by
      unfold rowsF rowsM; rw [ph_end hj, row_fl (l3 j hj)])
    rw [hend]
    exact leave_keep (y := .sl B.length m.length 0 m.length) (keep := mR m.length m.length B.length 1 0 (fun _ => 0) (rowsM m)) (junk := []) (.inr rfl) (by simp (disch := (first | decide | omega)) only [resVs, resV, hA, hg1, go_sem]) (by rw [List.append_nil]) hR (by rw [mR_len]; exact .sl _ _ _ _ (by omega)) (mR_lt (by rw [mR_len]; omega)) hB ⟨by rw [hBl], rfl, by rw [hBl]⟩
theorem isM_mk {m : List (List Int)} (h1 : 1 ≤ m.length) (h2 : m.length ≤ 8) (h3 : ∀ i, i < m.length → (rowAt m i).length = m.length) (h4 : ∀ i j, i < m.length → j < m.length → 0 ≤ ent m i j ∧ ent m i j ≤ 1125899906842624) : isM m = true := by
  have : (List.range m.length).any (badRowAt m) = false := by
    rw [List.any_eq_false]
    intro i hi
    have hi := List.mem_range.1 hi
    unfold badRowAt badRow
    rw [h3 i hi]
    have h5 : (List.range m.length).any (vBadAt (rowAt m i)) = false := by
      rw [List.any_eq_false]
      intro j hj
      have := h4 i j hi (List.mem_range.1 hj)
      unfold ent at this
      simp only [vBadAt, vBad, Bool.or_eq_true, decide_eq_true_eq]
      omega
    rw [h5]; simp
  simp [isM, h1, h2, this]
theorem recv_isM {m got : List (List Int)} {p q : Nat} (h1 : isM m = true) (h2 : isM got = true) (h3 : got.length = m.length) (hp : p < m.length) (hq : q < m.length) : isM (recvM m p got q) = true := by
  obtain ⟨l1, l2, l3, l4⟩ := isM_open h1
  obtain ⟨k1, k2, k3, k4⟩ := isM_open h2
  obtain ⟨_, hl⟩ := recv_fit h1 h2 h3 hp hq
  have rl : (recvM m p got q).length = m.length := fl_len
  refine isM_mk (by omega) (by omega) (fun i hi => ?_) (fun i j hi hj => ?_)
  · rw [rl] at hi ⊢
    rw [recvM_row hi, hl i hi]
  · rw [rl] at hi hj
    unfold ent
    rw [recvM_row hi]
    have a1 := l4 i j hi hj
    have a2 := k4 i j (by omega) (by omega)
    have a3 := l4 p j hp hj
    have a4 := k4 p j (by omega) (by omega)
    have a5 := k4 q j (by omega) (by omega)
    have jg : ∀ i, i < m.length → (joinV (rowAt m i) (rowAt got i)).getD j 0 = max ((rowAt m i).getD j 0) ((rowAt got i).getD j 0) := fun i hi => joinV_get (by rw [l3 i hi, k3 i (by omega)]; omega) (by rw [l3 i hi]; exact hj)
    unfold recvF
    split
    · have jl : (joinV (rowAt m p) (rowAt got p)).length = m.length := by rw [joinV_len (by rw [l3 p hp, k3 p (by omega)]; omega), l3 p hp]
      rw [joinV_get (by rw [jl, k3 q (by omega)]; omega) (by rw [jl]; exact hj), jg p hp]
      omega
    · rw [jg i hi]
      omega
def rTickR (m : List (List Int)) (p : Nat) : AV := .tup [.v (.isl 1 ((tickM m p).map eRw)), .v (.bool (decide (ent m p p + 1 ≤ 1125899906842624)))]
theorem rmTick_spec (m : List (List Int)) (hm : isM m = true) (n : Nat) (hn : n < m.length) (b l : List Row) : ACalls Try.prog 109 [.v (.isl 1 (m.map eRw)), .v (.int .i64 n)] b l (fun r b' l' => r = rTickR m n ∧ b' = b ∧ l' = l) := by
  refine calls_kept a_rmTick_ok rfl (by decide) ?_
  intro B g hB hR hE hA
  simp only [KArgs] at hA
  obtain ⟨l1, l2, l3, l4⟩ := isM_open hm
  have hri := rowAt_at hn
  have hil : m[n].length = m.length := by rw [← hri, l3 n hn]
  have hnl : n < m[n].length := by omega
  have hg := getD_at (d := 0) hnl
  have he : ent m n n = m[n][n] := by unfold ent; rw [hri, hg]
  have hr := l4 n n hn hn
  rw [hri, hg] at hr
  simp (disch := decide) only [a_rmTick, hA, List.length_map, go_sem]
  refine ACalls.nxt (rmCopy_spec m hm _ _) ?_
  rw [List.length_nil, Nat.add_zero, List.nil_append]
  have hgO := mR_first (n := m.length) (v0 := m.length) (sz := 1) (B := B) (ver := fun _ => 0) (R := rowsM m)
  have hgI := mR_at0 (v0 := m.length) (base := B.length) (sz := 1) (ver := fun _ => 0) (R := rowsM m) hn
  have hRn : rowsM m n = m[n].map eI := by unfold rowsM; rw [hri]
  have hst : (m[n].map eI).set n [.int .i64 (m[n][n] + 1)] = (m[n].set n (m[n][n] + 1)).map eI := by rw [List.map_set]; rfl
  have hsl : (m[n].set n (m[n][n] + 1)).length = m.length := by rw [List.length_set, hil]
  have hmp := mR_put (n := m.length) (v0 := m.length) (base := B.length) (sz := 1) (p := n) (v := 0) (ver := fun _ => 0) (R := rowsM m) (x := (m[n].set n (m[n][n] + 1)).map eI) rfl (by rw [hRn, List.length_map, List.length_map, hsl, hil])
  have hgO2 := mR_first (n := m.length) (v0 := m.length) (sz := 1) (B := B) (ver := fun _ => 0) (R := fUp (rowsM m) n ((m[n].set n (m[n][n] + 1)).map eI))
  have hgI2 := mR_at0 (v0 := m.length) (base := B.length) (sz := 1) (ver := fun _ => 0) (R := fUp (rowsM m) n ((m[n].set n (m[n][n] + 1)).map eI)) hn
  have hsg : ∀ h : n < (m[n].set n (m[n][n] + 1)).length, (m[n].set n (m[n][n] + 1))[n] = m[n][n] + 1 := fun h => by simp
  have hfin : mV m.length 1 (fUp (rowsM m) n ((m[n].set n (m[n][n] + 1)).map eI)) = (tickM m n).map eRw := by
    unfold tickM
    rw [← mV_rows]
    congr 1
    funext j
    unfold fUp rowsM
    by_cases hj : j = n
    · rw [if_pos hj, if_pos hj, he, hri]
    · rw [if_neg hj, if_neg hj]
  simp (disch := (first | decide | omega)) only [hA, hgO, hgI, hRn, hil, fl_len, fl_get, mC_0, eI, List.length_map, setFrom, cellsOf, hst, hmp, hgO2, hgI2, fUp_same, hsl, hsg, go_sem]
  refine leave_mat2 (n := m.length) (v0 := m.length) (sz := 1) (ver := fun _ => 0) (R := fUp (rowsM m) n ((m[n].set n (m[n][n] + 1)).map eI)) (z := .bool (decide (m[n][n] + 1 ≤ 1125899906842624))) (junk := []) (.inr rfl) (by simp (disch := (first | decide | omega)) only [resVs, resV, hA, go_sem]) (by rw [List.append_nil]) hR hB ⟨?_, rfl, rfl⟩
  rw [rTickR, hfin, he]
def jaF (m got : List (List Int)) (i c : Nat) : Int := max (ent m i c) (ent got i c)
def jqF (m got : List (List Int)) (p q j c : Nat) : Int := if j = p then max (jaF m got p c) (ent got q c) else jaF m got j c
/-- The row p, of which the first k entries are joined once more. -/
def qF (n : Nat) (m got : List (List Int)) (p q k j : Nat) : List Int := fl n fun c => if j = p ∧ c < k then jqF m got p q p c else jaF m got j c
section
variable {n v0 base k v p q : Nat} {m got : List (List Int)}
theorem q_len {j : Nat} : (qF n m got p q k j).length = n := fl_len
theorem q_at (h : k < (qF n m got p q k p).length) : (qF n m got p q k p)[k] = jaF m got p k :=
  (fl_getE (f := fun c => if p = p ∧ c < k then jqF m got p q p c else jaF m got p c) h).trans (if_neg (by omega))
theorem q_put : (mR n v0 base 1 0 (fun _ => v) (rowsF (qF n m got p q k))).set (p + 1) (.live v 1 (vs (((qF n m got p q k p).map eI).set k [.int .i64 (jqF m got p q p k)]))) = mR n v0 base 1 0 (fun _ => v) (rowsF (qF n m got p q (k + 1))) := by
  rw [mR_put rfl (by rw [List.length_set, List.length_map, rowsF_len])]
  refine mR_congr (fun j hj => ?_)
  unfold fUp rowsF
  by_cases hji : j = p
  · subst hji
    rw [if_pos rfl, show [IV.int .i64 (jqF m got j q j k)] = eI (jqF m got j q j k) from rfl, ← List.map_set]
    congr 1
    unfold qF
    rw [fl_set]
    refine fl_congr (fun c hc => ?_)
    unfold fUp
    by_cases hck : c = k
    · subst hck; rw [if_pos rfl, if_pos (by omega)]
    · rw [if_neg hck]
      show (if j = j ∧ c < k then jqF m got j q j c else jaF m got j c) = (if j = j ∧ c < k + 1 then jqF m got j q j c else jaF m got j c)
      by_cases h2 : c < k
      · rw [if_pos (by omega), if_pos (by omega)]
      · rw [if_neg (by omega), if_neg (by omega)]
  · rw [if_neg hji]
    congr 1
    unfold qF
    refine fl_congr (fun c hc => ?_)
    rw [if_neg (by omega), if_neg (by omega)]
end
theorem joinV_fl {v w : List Int} {n : Nat} (h1 : v.length = n) (h2 : w.length = n) : joinV v w = fl n fun c => max (v.getD c 0) (w.getD c 0) := by
  refine ext_getD (by rw [joinV_len (by omega), fl_len, h1]) (fun i hi => ?_)
  rw [joinV_len (by omega)] at hi
  rw [joinV_get (by omega) hi, fl_getD (by omega)]
def rRecvR (m : List (List Int)) (p : Nat) (got : List (List Int)) (q : Nat) : AV := rTickR (recvM m p got q) p
set_option maxRecDepth 20000 in
theorem rmReceive_spec (m got : List (List Int)) (hm : isM m = true) (hg : isM got = true) (hl : got.length = m.length) (p q : Nat) (hp : p < m.length) (hq : q < m.length) (b l : List Row) : ACalls Try.prog 111 [.v (.isl 1 (m.map eRw)), .v (.int .i64 p), .v (.isl 1 (got.map eRw)), .v (.int .i64 q)] b l (fun r b' l' => r = rRecvR m p got q ∧ b' = b ∧ l' = l) := by
  refine calls_kept a_rmReceive_ok rfl (by decide) ?_
  intro B g hB hR hE hA
  simp only [KArgs] at hA
  obtain ⟨l1, l2, l3, _⟩ := isM_open hm
  obtain ⟨k1, k2, k3, _⟩ := isM_open hg
  simp (disch := decide) only [a_rmReceive, hA, List.length_map, go_sem]
  refine ACalls.nxt (rmCopy_spec m hm _ _) ?_
  have r0 : mR m.length m.length (B.length + 0) 1 0 (fun _ => 0) (rowsM m) = mR m.length m.length B.length 1 0 (fun _ => 0) (rowsF (phF m.length (jaF m got) (ent m) 0 0)) := mR_congr (fun j hj => by
    unfold rowsM rowsF; rw [ph_start]; show _ = List.map eI (fl m.length (ent m j)); rw [row_fl (l3 j hj)])
  rw [List.length_nil, r0]
  simp (disch := (first | decide | omega)) only [hA, go_sem]
  refine loop_kept (ι := Nat) r_rmReceive0 (fun i => [(11, .v (.int .i64 i))]) 1 (fun i => mR m.length m.length B.length 1 0 (fun _ => 0) (rowsF (phF m.length (jaF m got) (ent m) i 0)))
    (fun i => i ≤ m.length) (fun i => m.length - i) 0 (Nat.zero_le _) (by (repeat (first | exact hE.mono (by omega) | refine KLt.up ?_ (by simp (disch := omega) only [AVlt_v, AVlt_any, AVlt_sl, AVlt_ptr, AVlt_mp, AVlt_agg, AVlt_tup, AVlt_fn, RowsLt_nil, RowsLt_live, RowsLt_dead, List.mem_cons, List.not_mem_nil, List.forall_mem_cons, List.forall_mem_nil, or_false, false_or, forall_eq_or_imp, forall_eq, vs_lt, Nat.add_lt_add_iff_left, Nat.reduceLT, true_and, and_true, and_self, List.length_cons, List.length_nil, Nat.reduceAdd, Nat.zero_add, implies_true, false_imp_iff, lt_T, List.mem_map])))) (by ((try simp (disch := decide) only [hA, go_sem]) <;> (repeat' (first | exact trivial | refine And.intro ?_ ?_)) <;> (first | rfl | (congr 2; omega)))) (fun e => Weak.refl _ _ _) ?_
  intro g1 hE1 hEE1 hg1 i hi
  by_cases hlt : i < m.length
  · have hlg : i < got.length := by omega
    have hri := rowAt_at hlt
    have hgi := rowAt_at hlg
    have hgl : got[i].length = m.length := by rw [← hgi, k3 i hlg, hl]
    simp (disch := (first | decide | omega)) only [hA, hg1, List.length_map, go_sem]
    refine loop_kept (ι := Nat) r_rmReceive1 (fun k => [(12, .v (.int .i64 k))]) 1 (fun k => mR m.length m.length B.length 1 0 (fun _ => 0) (rowsF (phF m.length (jaF m got) (ent m) i k)))
      (fun k => k ≤ m.length) (fun k => m.length - k) 0 (Nat.zero_le _) (by (repeat (first | exact hE1.mono (by omega) | refine KLt.up ?_ (by simp (disch := omega) only [AVlt_v, AVlt_any, AVlt_sl, AVlt_ptr, AVlt_mp, AVlt_agg, AVlt_tup, AVlt_fn, RowsLt_nil, RowsLt_live, RowsLt_dead, List.mem_cons, List.not_mem_nil, List.forall_mem_cons, List.forall_mem_nil, or_false, false_or, forall_eq_or_imp, forall_eq, vs_lt, Nat.add_lt_add_iff_left, Nat.reduceLT, true_and, and_true, and_self, List.length_cons, List.length_nil, Nat.reduceAdd, Nat.zero_add, implies_true, false_imp_iff, lt_T, List.mem_map])))) (by ((try simp (disch := decide) only [hA, hg1, go_sem]) <;> (repeat' (first | exact trivial | refine And.intro ?_ ?_)) <;> (first | rfl | (congr 2; omega)))) (fun e => Weak.refl _ _ _) ?_
    intro g2 hE2 hEE2 hg2 k hk
    by_cases hkl : k < m.length
    · have hkg : k < got[i].length := by omega
      have he : got[i][k] = ent got i k := by unfold ent; rw [hgi, getD_at hkg]
      have hgO := mR_first (n := m.length) (v0 := m.length) (sz := 1) (B := B) (ver := fun _ => 0) (R := rowsF (phF m.length (jaF m got) (ent m) i k))
      have hgI := mR_at0 (v0 := m.length) (base := B.length) (sz := 1) (ver := fun _ => 0) (R := rowsF (phF m.length (jaF m got) (ent m) i k)) hlt
      have hfi : rowsF (phF m.length (jaF m got) (ent m) i k) i = (phF m.length (jaF m got) (ent m) i k i).map eI := rfl
      have hpl := ph_len (n := m.length) (a := jaF m got) (z := ent m) (i := i) (k := k) (j := i)
      have hpa := ph_at (n := m.length) (a := jaF m got) (z := ent m) (i := i) (k := k) (by rw [hpl]; exact hkl)
      have hpp := ph_put (n := m.length) (v0 := m.length) (base := B.length) (v := 0) (a := jaF m got) (z := ent m) (i := i) (k := k)
      have hmx : (if ent m i k < ent got i k then ent got i k else ent m i k) = jaF m got i k := by unfold jaF; split <;> omega
      simp (disch := (first | decide | omega)) only [hA, hg1, hg2, hgO, hgI, hfi, hpl, hpa, fl_len, fl_get, mC_0, eRw, eI, he, hmx, List.length_map, setFrom, cellsOf, hpp, go_sem]
      refine ⟨k + 1, hkl, by simp only; omega, ?_⟩
      exact Weak.kround (l1 := mR m.length m.length B.length 1 0 (fun _ => 0) (rowsF (phF m.length (jaF m got) (ent m) i (k + 1)))) (p := r_rmReceive1) (k := 1) (by ((repeat refine (kAny_up rfl).trans ?_); exact hEE2)) (by ((try simp (disch := decide) only [hA, go_sem]) <;> (repeat' (first | exact trivial | refine And.intro ?_ ?_)) <;> (first | rfl | (congr 2; omega)))) (junk := []) (by rw [List.append_nil]) hE2 (by rw [mR_len]; omega) (by simp (disch := omega) only [KOvLt, AVlt_v, AVlt_any, AVlt_sl, AVlt_ptr, AVlt_mp, AVlt_agg, AVlt_tup, AVlt_fn, RowsLt_nil, RowsLt_live, RowsLt_dead, List.mem_cons, List.not_mem_nil, List.forall_mem_cons, List.forall_mem_nil, or_false, false_or, forall_eq_or_imp, forall_eq, vs_lt, Nat.add_lt_add_iff_left, Nat.reduceLT, true_and, and_true, and_self, List.length_cons, List.length_nil, Nat.reduceAdd, Nat.zero_add, implies_true, false_imp_iff, lt_T, List.mem_map]) hR (mR_lt (by rw [mR_len]; omega))
    · simp (disch := (first | decide | omega)) only [hA, hg1, hg2, List.length_map, go_sem]
      obtain rfl : k = m.length := by omega
      rw [ph_next]
      refine ⟨i + 1, hlt, by simp only; omega, ?_⟩
      exact Weak.kround (l1 := mR m.length m.length B.length 1 0 (fun _ => 0) (rowsF (phF m.length (jaF m got) (ent m) (i + 1) 0))) (p := r_rmReceive0) (k := 1) (by ((repeat refine (kAny_up rfl).trans ?_); refine (kAny_sub hg2 (kIn_sub rfl)).trans ?_; (repeat refine (kAny_up rfl).trans ?_); exact hEE1)) (by ((try simp (disch := decide) only [hA, hg1, go_sem]) <;> (repeat' (first | exact trivial | refine And.intro ?_ ?_)) <;> (first | rfl | (congr 2; omega)))) (junk := []) (by rw [List.append_nil]) hE1 (by rw [mR_len]; omega) (by simp (disch := omega) only [KOvLt, AVlt_v, AVlt_any, AVlt_sl, AVlt_ptr, AVlt_mp, AVlt_agg, AVlt_tup, AVlt_fn, RowsLt_nil, RowsLt_live, RowsLt_dead, List.mem_cons, List.not_mem_nil, List.forall_mem_cons, List.forall_mem_nil, or_false, false_or, forall_eq_or_imp, forall_eq, vs_lt, Nat.add_lt_add_iff_left, Nat.reduceLT, true_and, and_true, and_self, List.length_cons, List.length_nil, Nat.reduceAdd, Nat.zero_add, implies_true, false_imp_iff, lt_T, List.mem_map]) hR (mR_lt (by rw [mR_len]; omega))
  · simp (disch := (first | decide | omega)) only [hA, hg1, List.length_map, go_sem]
    obtain rfl : i = m.length := by omega
    have r1 : mR m.length m.length B.length 1 0 (fun _ => 0) (rowsF (phF m.length (jaF m got) (ent m) m.length 0)) = mR m.length m.length B.length 1 0 (fun _ => 0) (rowsF (qF m.length m got p q 0)) := mR_congr (fun j hj => by
      unfold rowsF; rw [ph_end hj]
      congr 1
      unfold qF
      refine fl_congr (fun c hc => ?_)
      rw [if_neg (by omega)])
    rw [r1]
    have hlq : q < got.length := by omega
    have hgq := rowAt_at hlq
    have hgl : got[q].length = m.length := by rw [← hgq, k3 q hlq, hl]
    refine loop_kept (ι := Nat) r_rmReceive2 (fun k => [(13, .v (.int .i64 k))]) 1 (fun k => mR m.length m.length B.length 1 0 (fun _ => 0) (rowsF (qF m.length m got p q k)))
      (fun k => k ≤ m.length) (fun k => m.length - k) 0 (Nat.zero_le _) (by (repeat (first | exact hE1.mono (by omega) | refine KLt.up ?_ (by simp (disch := omega) only [AVlt_v, AVlt_any, AVlt_sl, AVlt_ptr, AVlt_mp, AVlt_agg, AVlt_tup, AVlt_fn, RowsLt_nil, RowsLt_live, RowsLt_dead, List.mem_cons, List.not_mem_nil, List.forall_mem_cons, List.forall_mem_nil, or_false, false_or, forall_eq_or_imp, forall_eq, vs_lt, Nat.add_lt_add_iff_left, Nat.reduceLT, true_and, and_true, and_self, List.length_cons, List.length_nil, Nat.reduceAdd, Nat.zero_add, implies_true, false_imp_iff, lt_T, List.mem_map])))) (by ((try simp (disch := decide) only [hA, hg1, go_sem]) <;> (repeat' (first | exact trivial | refine And.intro ?_ ?_)) <;> (first | rfl | (congr 2; omega)))) (fun e => Weak.refl _ _ _) ?_
    intro g2 hE2 hEE2 hg2 k hk
    by_cases hkl : k < m.length
    · have hkg : k < got[q].length := by omega
      have he : got[q][k] = ent got q k := by unfold ent; rw [hgq, getD_at hkg]
      have hgO := mR_first (n := m.length) (v0 := m.length) (sz := 1) (B := B) (ver := fun _ => 0) (R := rowsF (qF m.length m got p q k))
      have hgI := mR_at0 (v0 := m.length) (base := B.length) (sz := 1) (ver := fun _ => 0) (R := rowsF (qF m.length m got p q k)) hp
      have hfi : rowsF (qF m.length m got p q k) p = (qF m.length m got p q k p).map eI := rfl
      have hpl := q_len (n := m.length) (m := m) (got := got) (p := p) (q := q) (k := k) (j := p)
      have hpa := q_at (n := m.length) (m := m) (got := got) (p := p) (q := q) (k := k) (by rw [hpl]; exact hkl)
      have hpp := q_put (n := m.length) (v0 := m.length) (base := B.length) (v := 0) (m := m) (got := got) (p := p) (q := q) (k := k)
      have hmx : (if jaF m got p k < ent got q k then ent got q k else jaF m got p k) = jqF m got p q p k := by unfold jqF; rw [if_pos rfl]; split <;> omega
      simp (disch := (first | decide | omega)) only [hA, hg1, hg2, hgO, hgI, hfi, hpl, hpa, fl_len, fl_get, mC_0, eRw, eI, he, hmx, List.length_map, setFrom, cellsOf, hpp, go_sem]
      refine ⟨k + 1, hkl, by simp only; omega, ?_⟩
      exact Weak.kround (l1 := mR m.length m.length B.length 1 0 (fun _ => 0) (rowsF (qF m.length m got p q (k + 1)))) (p := r_rmReceive2) (k := 1) (by ((repeat refine (kAny_up rfl).trans ?_); exact hEE2)) (by ((try simp (disch := decide) only [hA, go_sem]) <;> (repeat' (first | exact trivial | refine And.intro ?_ ?_)) <;> (first | rfl | (congr 2; omega)))) (junk := []) (by rw [List.append_nil]) hE2 (by rw [mR_len]; omega) (by simp (disch := omega) only [KOvLt, AVlt_v, AVlt_any, AVlt_sl, AVlt_ptr, AVlt_mp, AVlt_agg, AVlt_tup, AVlt_fn, RowsLt_nil, RowsLt_live, RowsLt_dead, List.mem_cons, List.not_mem_nil, List.forall_mem_cons, List.forall_mem_nil, or_false, false_or, forall_eq_or_imp, forall_eq, vs_lt, Nat.add_lt_add_iff_left, Nat.reduceLT, true_and, and_true, and_self, List.length_cons, List.length_nil, Nat.reduceAdd, Nat.zero_add, implies_true, false_imp_iff, lt_T, List.mem_map]) hR (mR_lt (by rw [mR_len]; omega))
    · simp (disch := (first | decide | omega)) only [hA, hg1, hg2, List.length_map, go_sem]
      obtain rfl : k = m.length := by omega
      have hrows : ∀ j, j < m.length → qF m.length m got p q m.length j = recvF m got p q j := by
        intro j hj
        have jf : ∀ i, i < m.length → joinV (rowAt m i) (rowAt got i) = fl m.length fun c => jaF m got i c := fun i hi => joinV_fl (l3 i hi) (by rw [k3 i (by omega), hl])
        unfold qF recvF
        by_cases hjp : j = p
        · subst hjp
          rw [if_pos rfl, jf j hj, joinV_fl fl_len (by rw [k3 q hlq, hl])]
          refine fl_congr (fun c hc => ?_)
          rw [if_pos ⟨rfl, hc⟩, fl_getD hc]
          unfold jqF; rw [if_pos rfl]; rfl
        · rw [if_neg hjp, jf j hj]
          refine fl_congr (fun c hc => ?_)
          rw [if_neg (by omega)]
      have r2 : mR m.length m.length B.length 1 0 (fun _ => 0) (rowsF (qF m.length m got p q m.length)) = mR m.length m.length B.length 1 0 (fun _ => 0) (fun j => (recvF m got p q j).map eI) := mR_congr (fun j hj => by
        unfold rowsF; rw [hrows j hj])
      rw [r2]
      have hmv : mV m.length 1 (fun j => (recvF m got p q j).map eI) = (recvM m p got q).map eRw := mV_rows
      refine ACalls.mat (args' := [.v (.isl 1 (mV m.length 1 (fun j => (recvF m got p q j).map eI))), .v (.int .i64 p)]) (fun i hi => ?_) (by
        have hv : (mV m.length 1 (fun j => (recvF m got p q j).map eI)).length = m.length := by simp [mV, fl_len]
        simp only [List.map_cons, List.map_nil, deep, frz0, hv]
        rw [if_pos (by simp), List.drop_zero, List.take_of_length_le (by rw [hv]; exact Nat.le_refl _)]) (fun l9 => ?_)
      · simp only [List.map_cons, List.map_nil, deep, frz0]; rw [if_neg (by omega)]
      rw [hmv]
      refine ACalls.nxt (rmTick_spec (recvM m p got q) (recv_isM hm hg hl hp hq) p (by unfold recvM; rw [fl_len]; exact hp) _ _) ?_
      rw [rTickR]
      simp (disch := (first | decide | omega)) only [hA, hg1, hg2, go_sem]
      exact leave_pure (xs := [.v (.isl 1 ((tickM (recvM m p got q) p).map eRw)), .v (.bool (decide (ent (recvM m p got q) p p + 1 ≤ 1125899906842624)))]) (.inr rfl) (by simp (disch := (first | decide | omega)) only [resVs, resV, go_sem, hA, hg1, hg2]) (by simp only [one, AVlt_v, AVlt_any, AVlt_sl, AVlt_ptr, AVlt_mp, AVlt_agg, AVlt_tup, AVlt_fn, RowsLt_nil, RowsLt_live, RowsLt_dead, List.mem_cons, List.not_mem_nil, List.forall_mem_cons, List.forall_mem_nil, or_false, false_or, forall_eq_or_imp, forall_eq, vs_lt, Nat.add_lt_add_iff_left, Nat.reduceLT, true_and, and_true, and_self, List.length_cons, List.length_nil, Nat.reduceAdd, Nat.zero_add, implies_true, false_imp_iff, lt_T, List.mem_map]) hR hB ⟨by rw [rRecvR, rTickR]; rfl, rfl, rfl⟩
theorem rmSame_spec (v w : List (List Int)) (hv : Fit v) (hw : Fit w) (b l : List Row) : ACalls Try.prog 58 [.v (.isl 1 (v.map eRw)), .v (.isl 1 (w.map eRw))] b l (fun r b' l' => r = .v (.bool (decide (v = w))) ∧ b' = b ∧ l' = l) := by
  refine calls_kept a_rmSame_ok rfl (by decide) ?_
  intro B g hB hR hE hA
  simp only [KArgs] at hA
  have hv1 := hv.1
  have hw1 := hw.1
  by_cases hl : v.length = w.length
  case neg =>
    have hd : ((v.length : Int) != (w.length : Int)) = true := by simp; omega
    have hne : decide (v = w) = false := by
      rw [decide_eq_false_iff_not]; intro h; subst h; exact hl rfl
    simp (disch := (first | decide | omega)) only [a_rmSame, hA, List.length_map, hd, go_sem]
    exact leave_pure (xs := [.v (.bool false)]) (.inr rfl) (by simp (disch := (first | decide | omega)) only [resVs, resV, go_sem, hA]) (by simp only [one, AVlt_v, AVlt_any, AVlt_sl, AVlt_ptr, AVlt_mp, AVlt_agg, AVlt_tup, AVlt_fn, RowsLt_nil, RowsLt_live, RowsLt_dead, List.mem_cons, List.not_mem_nil, List.forall_mem_cons, List.forall_mem_nil, or_false, false_or, forall_eq_or_imp, forall_eq, vs_lt, Nat.add_lt_add_iff_left, Nat.reduceLT, true_and, and_true, and_self, List.length_cons, List.length_nil, Nat.reduceAdd, Nat.zero_add, implies_true, false_imp_iff, lt_T, List.mem_map]) hR hB ⟨by rw [hne]; rfl, rfl, rfl⟩
  have hd : ((v.length : Int) != (w.length : Int)) = false := by simp [hl]
  simp (disch := (first | decide | omega)) only [a_rmSame, hA, List.length_map, hd, go_sem]
  refine loop_kept (ι := Nat) r_rmSame0 (fun i => [(5, .v (.int .i64 i))]) 0 (fun _ => [])
    (fun i => i ≤ v.length ∧ ∀ j, j < i → v.getD j [] = w.getD j []) (fun i => v.length - i) 0 ⟨Nat.zero_le _, fun j hj => by omega⟩ (by (repeat (first | exact hE.mono (by omega) | refine KLt.up ?_ (by simp (disch := omega) only [AVlt_v, AVlt_any, AVlt_sl, AVlt_ptr, AVlt_mp, AVlt_agg, AVlt_tup, AVlt_fn, RowsLt_nil, RowsLt_live, RowsLt_dead, List.mem_cons, List.not_mem_nil, List.forall_mem_cons, List.forall_mem_nil, or_false, false_or, forall_eq_or_imp, forall_eq, vs_lt, Nat.add_lt_add_iff_left, Nat.reduceLT, true_and, and_true, and_self, List.length_cons, List.length_nil, Nat.reduceAdd, Nat.zero_add, implies_true, false_imp_iff, lt_T, List.mem_map])))) (by ((try simp (disch := decide) only [hA, go_sem]) <;> (repeat' (first | exact trivial | refine And.intro ?_ ?_)) <;> (first | rfl | (congr 2; omega)))) (fun e => Weak.refl _ _ _) ?_
  rintro g1 hE1 hEE1 hg1 i ⟨hi, h0⟩
  by_cases hlt : i < v.length
  · have hlw : i < w.length := by omega
    have hvi := hv.2 _ (List.getElem_mem hlt)
    have hwi := hw.2 _ (List.getElem_mem hlw)
    have hne : v[i] ≠ w[i] → decide (v = w) = false := by
      intro he; rw [decide_eq_false_iff_not]; intro h; subst h; exact he rfl
    by_cases hil : v[i].length = w[i].length
    case neg =>
      have hd2 : ((v[i].length : Int) != (w[i].length : Int)) = true := by simp; omega
      simp (disch := (first | decide | omega)) only [hA, hg1, eRw, List.length_map, hd2, go_sem]
      exact leave_pure (xs := [.v (.bool false)]) (.inr rfl) (by simp (disch := (first | decide | omega)) only [resVs, resV, go_sem, hA, hg1]) (by simp only [one, AVlt_v, AVlt_any, AVlt_sl, AVlt_ptr, AVlt_mp, AVlt_agg, AVlt_tup, AVlt_fn, RowsLt_nil, RowsLt_live, RowsLt_dead, List.mem_cons, List.not_mem_nil, List.forall_mem_cons, List.forall_mem_nil, or_false, false_or, forall_eq_or_imp, forall_eq, vs_lt, Nat.add_lt_add_iff_left, Nat.reduceLT, true_and, and_true, and_self, List.length_cons, List.length_nil, Nat.reduceAdd, Nat.zero_add, implies_true, false_imp_iff, lt_T, List.mem_map]) hR hB ⟨by rw [hne (fun h => hil (by rw [h]))]; rfl, rfl, rfl⟩
    have hd2 : ((v[i].length : Int) != (w[i].length : Int)) = false := by simp [hil]
    simp (disch := (first | decide | omega)) only [hA, hg1, eRw, List.length_map, hd2, go_sem]
    refine loop_kept (ι := Nat) r_rmSame1 (fun k => [(6, .v (.int .i64 k))]) 0 (fun _ => [])
      (fun k => k ≤ v[i].length ∧ ∀ j, j < k → v[i].getD j 0 = w[i].getD j 0) (fun k => v[i].length - k) 0 ⟨Nat.zero_le _, fun j hj => by omega⟩ (by (repeat (first | exact hE1.mono (by omega) | refine KLt.up ?_ (by simp (disch := omega) only [AVlt_v, AVlt_any, AVlt_sl, AVlt_ptr, AVlt_mp, AVlt_agg, AVlt_tup, AVlt_fn, RowsLt_nil, RowsLt_live, RowsLt_dead, List.mem_cons, List.not_mem_nil, List.forall_mem_cons, List.forall_mem_nil, or_false, false_or, forall_eq_or_imp, forall_eq, vs_lt, Nat.add_lt_add_iff_left, Nat.reduceLT, true_and, and_true, and_self, List.length_cons, List.length_nil, Nat.reduceAdd, Nat.zero_add, implies_true, false_imp_iff, lt_T, List.mem_map])))) (by ((try simp (disch := decide) only [hA, hg1, go_sem]) <;> (repeat' (first | exact trivial | refine And.intro ?_ ?_)) <;> (first | rfl | (congr 2; omega)))) (fun e => Weak.refl _ _ _) ?_
    rintro g2 hE2 hEE2 hg2 k ⟨hk, hk0⟩
    by_cases hkl : k < v[i].length
    · have hkw : k < w[i].length := by omega
      by_cases he : v[i][k] = w[i][k]
      · have hd3 : (v[i][k] != w[i][k]) = false := by simp [he]
        simp (disch := (first | decide | omega)) only [hA, hg1, hg2, eRw, eI, List.length_map, hd3, go_sem]
        refine ⟨k + 1, ⟨hkl, fun j hj => ?_⟩, by simp only; omega, ?_⟩
        · rcases Nat.lt_or_ge j k with hji | hji
          · exact hk0 j hji
          · have : j = k := by omega
            subst this
            rw [getD_at hkl, getD_at hkw, he]
        exact Weak.kround (p := r_rmSame1) (k := 0) (by ((repeat refine (kAny_up rfl).trans ?_); exact hEE2)) (by ((try simp (disch := decide) only [hA, go_sem]) <;> (repeat' (first | exact trivial | refine And.intro ?_ ?_)) <;> (first | rfl | (congr 2; omega)))) rfl hE2 (by simp) (by simp (disch := omega) only [KOvLt, AVlt_v, AVlt_any, AVlt_sl, AVlt_ptr, AVlt_mp, AVlt_agg, AVlt_tup, AVlt_fn, RowsLt_nil, RowsLt_live, RowsLt_dead, List.mem_cons, List.not_mem_nil, List.forall_mem_cons, List.forall_mem_nil, or_false, false_or, forall_eq_or_imp, forall_eq, vs_lt, Nat.add_lt_add_iff_left, Nat.reduceLT, true_and, and_true, and_self, List.length_cons, List.length_nil, Nat.reduceAdd, Nat.zero_add, implies_true, false_imp_iff, lt_T, List.mem_map]) hR (by simp (disch := omega) only [AVlt_v, AVlt_any, AVlt_sl, AVlt_ptr, AVlt_mp, AVlt_agg, AVlt_tup, AVlt_fn, RowsLt_nil, RowsLt_live, RowsLt_dead, List.mem_cons, List.not_mem_nil, List.forall_mem_cons, List.forall_mem_nil, or_false, false_or, forall_eq_or_imp, forall_eq, vs_lt, Nat.add_lt_add_iff_left, Nat.reduceLT, true_and, and_true, and_self, List.length_cons, List.length_nil, Nat.reduceAdd, Nat.zero_add, implies_true, false_imp_iff, lt_T, List.mem_map])
      · have hd3 : (v[i][k] != w[i][k]) = true := by simp [he]
        have hn2 : v[i] ≠ w[i] := fun h => he (by rw [← getD_at (d := 0) hkl, ← getD_at (d := 0) hkw, h])
        simp (disch := (first | decide | omega)) only [hA, hg1, hg2, eRw, eI, List.length_map, hd3, go_sem]
        exact leave_pure (xs := [.v (.bool false)]) (.inr rfl) (by simp (disch := (first | decide | omega)) only [resVs, resV, go_sem, hA, hg1, hg2]) (by simp only [one, AVlt_v, AVlt_any, AVlt_sl, AVlt_ptr, AVlt_mp, AVlt_agg, AVlt_tup, AVlt_fn, RowsLt_nil, RowsLt_live, RowsLt_dead, List.mem_cons, List.not_mem_nil, List.forall_mem_cons, List.forall_mem_nil, or_false, false_or, forall_eq_or_imp, forall_eq, vs_lt, Nat.add_lt_add_iff_left, Nat.reduceLT, true_and, and_true, and_self, List.length_cons, List.length_nil, Nat.reduceAdd, Nat.zero_add, implies_true, false_imp_iff, lt_T, List.mem_map]) hR hB ⟨by rw [hne hn2]; rfl, rfl, rfl⟩
    · simp (disch := (first | decide | omega)) only [hA, hg1, hg2, eRw, List.length_map, go_sem]
      obtain rfl : k = v[i].length := by omega
      refine ⟨i + 1, ⟨hlt, fun j hj => ?_⟩, by simp only; omega, ?_⟩
      · rcases Nat.lt_or_ge j i with hji | hji
        · exact h0 j hji
        · have : j = i := by omega
          subst this
          rw [getD_at hlt, getD_at hlw]
          exact ext_getD hil hk0
      exact Weak.kround (p := r_rmSame0) (k := 0) (by ((repeat refine (kAny_up rfl).trans ?_); refine (kAny_sub hg2 (kIn_sub rfl)).trans ?_; (repeat refine (kAny_up rfl).trans ?_); exact hEE1)) (by ((try simp (disch := decide) only [hA, hg1, go_sem]) <;> (repeat' (first | exact trivial | refine And.intro ?_ ?_)) <;> (first | rfl | (congr 2; omega)))) rfl hE1 (by simp) (by simp (disch := omega) only [KOvLt, AVlt_v, AVlt_any, AVlt_sl, AVlt_ptr, AVlt_mp, AVlt_agg, AVlt_tup, AVlt_fn, RowsLt_nil, RowsLt_live, RowsLt_dead, List.mem_cons, List.not_mem_nil, List.forall_mem_cons, List.forall_mem_nil, or_false, false_or, forall_eq_or_imp, forall_eq, vs_lt, Nat.add_lt_add_iff_left, Nat.reduceLT, true_and, and_true, and_self, List.length_cons, List.length_nil, Nat.reduceAdd, Nat.zero_add, implies_true, false_imp_iff, lt_T, List.mem_map]) hR (by simp (disch := omega) only [AVlt_v, AVlt_any, AVlt_sl, AVlt_ptr, AVlt_mp, AVlt_agg, AVlt_tup, AVlt_fn, RowsLt_nil, RowsLt_live, RowsLt_dead, List.mem_cons, List.not_mem_nil, List.forall_mem_cons, List.forall_mem_nil, or_false, false_or, forall_eq_or_imp, forall_eq, vs_lt, Nat.add_lt_add_iff_left, Nat.reduceLT, true_and, and_true, and_self, List.length_cons, List.length_nil, Nat.reduceAdd, Nat.zero_add, implies_true, false_imp_iff, lt_T, List.mem_map])
  · simp (disch := (first | decide | omega)) only [hA, hg1, List.length_map, go_sem]
    obtain rfl : i = v.length := by omega
    have he : decide (v = w) = true := decide_eq_true (List.ext_getElem hl (fun j h1 h2 => by have := h0 j h1; rwa [getD_at h1, getD_at h2] at this))
    exact leave_pure (xs := [.v (.bool true)]) (.inr rfl) (by simp (disch := (first | decide | omega)) only [resVs, resV, go_sem, hA, hg1]) (by simp only [one, AVlt_v, AVlt_any, AVlt_sl, AVlt_ptr, AVlt_mp, AVlt_agg, AVlt_tup, AVlt_fn, RowsLt_nil, RowsLt_live, RowsLt_dead, List.mem_cons, List.not_mem_nil, List.forall_mem_cons, List.forall_mem_nil, or_false, false_or, forall_eq_or_imp, forall_eq, vs_lt, Nat.add_lt_add_iff_left, Nat.reduceLT, true_and, and_true, and_self, List.length_cons, List.length_nil, Nat.reduceAdd, Nat.zero_add, implies_true, false_imp_iff, lt_T, List.mem_map]) hR hB ⟨by rw [he]; rfl, rfl, rfl⟩
end Go.Proofs.Ytoaopldaleaijaa

namespace Go.Proofs.Ytoaopldaleaijaa
open Go.RowKit
set_option linter.unusedVariables false

theorem findG_next {t : Tr} {P : Nat × Nat → Bool} {k j : Nat} (h : (idsTo t k j).find? P = none) (hx : P (k, j + 1) = false) : (idsTo t k (j + 1)).find? P = none := by
  rw [idsTo_succ, List.find?_append, h]
  simp [hx]
theorem findG_stop {t : Tr} {P : Nat × Nat → Bool} {k j : Nat} (hk : k < t.length) (hj : j < t[k].evs.length) (h : (idsTo t k j).find? P = none) (hx : P (k, j + 1) = true) : (ids t).find? P = some (k, j + 1) := by
  obtain ⟨r, hr⟩ := idsTo_prefix t k (j + 1) hk hj
  rw [← hr, idsTo_succ, List.append_assoc, List.find?_append, h]
  simp [hx]
theorem findG_all {t : Tr} {P : Nat × Nat → Bool} (h : (idsTo t t.length 0).find? P = none) : (ids t).find? P = none := by
  rw [idsTo_all] at h; exact h
theorem findG_zero {t : Tr} {f : Nat × Nat → Nat} (h : (ids t).find? (fun x => f x != 0) = none) : ∀ x ∈ ids t, f x = 0 := fun x hx => by
  rw [List.find?_eq_none] at h
  simpa using h x hx

open Classical in
noncomputable def hbB (t : Tr) (x : Nat × Nat) : Bool := decide (Hb t x x)
open Classical in
theorem hbB_true {t : Tr} {x : Nat × Nat} (h : Hb t x x) : hbB t x = true := by unfold hbB; exact decide_eq_true h
open Classical in
theorem hbB_false {t : Tr} {x : Nat × Nat} (h : ¬ Hb t x x) : hbB t x = false := by unfold hbB; exact decide_eq_false h

set_option maxRecDepth 100000 in
set_option maxHeartbeats 8000000 in
theorem rFault_any (u : Value) (t : Tr) (w : World) (hS : Sm t) (hs : SlR 3 RPr w u t) :
    Calls Try.prog 77 #[.agg #[u]] w fun e w' => FPost t w e w' := by
  have HHD := hide (fun p (hp : p < t.length) w' (he : Ext w w') => rhead_any u t p w' hp hS (hs.ext RPr.keeps he))
  have HFO := hide (fun (hS : Small t) p i (hp : p < t.length) (hi : i < t[p].evs.length) w' (he : Ext w w') => rform_any u t p i w' hp hi hS (hs.ext RPr.keeps he))
  have HPA0 := hide (fun (hS : Small t) p i (hx : (p, i) ∈ ids t) (hf : formedB t.length p (evAt t (p, i)) = true) w' (he : Ext w w') => paired_any u t p i w' hx hf hS (hs.ext RPr.keeps he))
  have HAC0 := hide (fun (hS : Small t) (h1 : ∀ x ∈ ids t, pairF t x = 0) (h2 : ∀ x ∈ ids t, formedB t.length x.1 (evAt t x) = true) w' (he : Ext w w') => acyclic_any u t w' h1 h2 hS (hs.ext RPr.keeps he))
  have HPS0 := hide (fun (hS : Small t) p i (hx : (p, i) ∈ ids t) (hP : Paired t) (hN : (ids t).length ≤ 1000000) w' (he : Ext w w') => Past_any u t p i w' hx hP hN hS (hs.ext RPr.keeps he))
  obtain ⟨A, c, rfl, _, hcm, hc⟩ := hs.at_
  have HC := hide hc
  have hnp := hS.np
  clear hs hc
  unfold idVal at *
  go_enter Try.func77, Try.ntmps77
  cases hin : inB t.length 1 8
  · have HF := hide (fault_len hin)
    have hd : t.length < 1 ∨ 8 < t.length := by simp [inB] at hin; omega
    clear hin
    rcases hd with hd | hd
    · have hd1 : decide ((t.length : Int) < 1) = true := decide_eq_true (by omega)
      clear hd
      go_wp2_with fail
      refine bodyPost_ret (v := .tuple #[idVal (0, 0), .int .i64 1]) ?_ rfl ⟨by rw [HF.out]; rfl, ((Ext.refl w).alloc _).alloc _⟩
      simp [results, Try.f77, go_sem, idVal]
    · have hd1 : decide ((t.length : Int) < 1) = false := decide_eq_false (by omega)
      have hd2 : decide ((8 : Int) < (t.length : Int)) = true := decide_eq_true (by omega)
      clear hd
      go_wp2_with fail
      refine bodyPost_ret (v := .tuple #[idVal (0, 0), .int .i64 1]) ?_ rfl ⟨by rw [HF.out]; rfl, ((Ext.refl w).alloc _).alloc _⟩
      simp [results, Try.f77, go_sem, idVal]
  · have HIN := hide hin
    have hd1 : decide ((t.length : Int) < 1) = false := decide_eq_false (by simp [inB] at hin; omega)
    have hd2 : decide ((8 : Int) < (t.length : Int)) = false := decide_eq_false (by simp [inB] at hin; omega)
    clear hin
    go_wp2_with fail
    clear hd1 hd2
    have btW := (BoxN.new w 24 #[.slice A t.length c]).alloc (.cells #[.int .i64 0, .int .i64 0] 26)
    have brW : BoxN ((w.alloc (.cells #[.slice A t.length c] 24)).alloc (.cells #[.int .i64 0, .int .i64 0] 26)) (w.heap.size + 1) 26 #[.int .i64 0, .int .i64 0] := BoxN.newAt _ _ (by simp)
    have hx1 := ((Ext.refl w).alloc (.cells #[.slice A t.length c] 24)).alloc (.cells #[.int .i64 0, .int .i64 0] 26)
    generalize (w.alloc (.cells #[.slice A t.length c] 24)).alloc (.cells #[.int .i64 0, .int .i64 0] 26) = W1 at *
    go_loopw [4] (fun i wr => ∃ k : Nat, k ≤ t.length ∧ i = .int .i64 k ∧ (∀ q, q < k → headF t q = 0) ∧ Ext W1 wr) (fun i _ => t.length - (intOf i).toNat)
    case atStart => exact ⟨0, Nat.zero_le _, rfl, fun q hq => absurd hq (Nat.not_lt_zero _), Ext.refl _⟩
    case round =>
      obtain ⟨k, hk, rfl, h0, hxx⟩ := hrel
      have H0 := hide h0
      clear h0
      have bt2 := btW.ext hxx
      have br2 := brW.ext hxx
      have t0 : wr.cell? ⟨w.heap.size, 0, none⟩ = some (.slice A t.length c) := bt2.cell (j := 0) rfl
      have lt1 := bt2.lt
      have lt2 := br2.lt
      have hxw := hx1.trans hxx
      by_cases hlt : k < t.length
      · go_wp2_with fail
        refine (HHD.out k hlt _ hxw).mono ?_
        rintro e w2 ⟨rfl, he2⟩
        by_cases hz : headF t k = 0
        · have HZ := hide hz
          rw [hz]
          clear hz
          go_wp2_with fail
          go_roundw
          case rel => exact ⟨k + 1, hlt, by go_num, fun q hq => (Nat.lt_succ_iff_lt_or_eq.1 hq).elim (H0.out q) (fun e => e ▸ HZ.out), hxx.trans he2⟩
          case measure => simp [intOf]; omega
        · have HF := hide (fault_head HIN.out hlt H0.out hz)
          have hne2 : ((headF t k : Int) != 0) = true := by simp; omega
          have hne3 : ¬ ((headF t k : Int) = 0) := by omega
          have br3 := br2.ext he2
          have f0 := br3.frozen 0
          have f1 := br3.frozen 1
          have r0 := br3.cell (j := 0) rfl
          have r1 := br3.cell (j := 1) rfl
          have hxw2 := hxw.trans he2
          go_wp2_with fail
          obtain ⟨Wr, hWr⟩ : ∃ Wr, ((w2).setCell ⟨w.heap.size + 1, 0, none⟩ (Value.int .i64 k)).setCell ⟨w.heap.size + 1, 1, none⟩ (Value.int .i64 0) = Wr := ⟨_, rfl⟩
          rw [hWr]
          have s1 : BoxN Wr (w.heap.size + 1) 26 #[.int .i64 k, .int .i64 0] := by rw [← hWr]; ((repeat (first | with_reducible assumption | with_reducible exact KeepsFrom.refl _ _ | with_reducible refine KF.set ?_ _ _ | with_reducible refine KF.alloc ?_ _ | with_reducible refine KF.drew ?_ | with_reducible refine KF.drewN ?_ _ | with_reducible refine KF.ext ?_ (by assumption) | with_reducible exact Below.refl _ _ | with_reducible refine BL.set ?_ _ _ _ (by omega) | with_reducible refine BL.alloc ?_ _ (by omega) | with_reducible refine BL.drew ?_ | with_reducible refine BL.drewN ?_ _ | with_reducible refine BL.ext ?_ (by assumption) (by omega) | with_reducible exact Ext.refl _ | with_reducible refine Ext.set ?_ (by omega) _ | with_reducible refine Ext.alloc ?_ _ | with_reducible refine Ext.drew ?_ | with_reducible refine Ext.drewN ?_ _ | with_reducible refine Ext.trans ?_ (by assumption) | with_reducible refine BoxN.alloc ?_ _ | with_reducible refine BoxN.drew ?_ | with_reducible refine BoxN.drewN ?_ _ | with_reducible refine BoxN.other ?_ (by omega) _ | with_reducible refine BoxN.set ?_ _ _ | with_reducible apply BoxN.set1 | with_reducible apply BoxN.set2_1 | with_reducible apply BoxN.set2_0 | with_reducible apply BoxN.set5_4 | with_reducible apply BoxN.set5_3 | with_reducible apply BoxN.set5_2 | with_reducible apply BoxN.set5_1 | with_reducible apply BoxN.set5_0 | with_reducible apply BoxN.set3_2 | with_reducible apply BoxN.set3_1 | with_reducible apply BoxN.set3_0 | with_reducible apply BoxN.set4_3 | with_reducible apply BoxN.set4_2 | with_reducible apply BoxN.set4_1 | with_reducible apply BoxN.set4_0 | with_reducible refine BoxN.ext ?_ (by assumption))); done)
          have sx : Ext w Wr := by rw [← hWr]; ((repeat (first | with_reducible assumption | with_reducible exact KeepsFrom.refl _ _ | with_reducible refine KF.set ?_ _ _ | with_reducible refine KF.alloc ?_ _ | with_reducible refine KF.drew ?_ | with_reducible refine KF.drewN ?_ _ | with_reducible refine KF.ext ?_ (by assumption) | with_reducible exact Below.refl _ _ | with_reducible refine BL.set ?_ _ _ _ (by omega) | with_reducible refine BL.alloc ?_ _ (by omega) | with_reducible refine BL.drew ?_ | with_reducible refine BL.drewN ?_ _ | with_reducible refine BL.ext ?_ (by assumption) (by omega) | with_reducible exact Ext.refl _ | with_reducible refine Ext.set ?_ (by omega) _ | with_reducible refine Ext.alloc ?_ _ | with_reducible refine Ext.drew ?_ | with_reducible refine Ext.drewN ?_ _ | with_reducible refine Ext.trans ?_ (by assumption) | with_reducible refine BoxN.alloc ?_ _ | with_reducible refine BoxN.drew ?_ | with_reducible refine BoxN.drewN ?_ _ | with_reducible refine BoxN.other ?_ (by omega) _ | with_reducible refine BoxN.set ?_ _ _ | with_reducible apply BoxN.set1 | with_reducible apply BoxN.set2_1 | with_reducible apply BoxN.set2_0 | with_reducible apply BoxN.set5_4 | with_reducible apply BoxN.set5_3 | with_reducible apply BoxN.set5_2 | with_reducible apply BoxN.set5_1 | with_reducible apply BoxN.set5_0 | with_reducible apply BoxN.set3_2 | with_reducible apply BoxN.set3_1 | with_reducible apply BoxN.set3_0 | with_reducible apply BoxN.set4_3 | with_reducible apply BoxN.set4_2 | with_reducible apply BoxN.set4_1 | with_reducible apply BoxN.set4_0 | with_reducible refine BoxN.ext ?_ (by assumption))); done)
          clear hWr
          refine bodyPost_ret (v := .tuple #[idVal (k, 0), .int .i64 (headF t k)]) ?_ rfl ⟨by first | (rw [HF.out]; done) | (rw [HF.out]; rfl), sx⟩
          simp [results, Try.f77, go_sem, idVal, s1.cell (j := 0) rfl, s1.cell (j := 1) rfl]
      · obtain rfl : k = t.length := by omega
        have hS := hS.small H0.out
        have HFO := hide (HFO.out hS)
        have HPA0 := hide (HPA0.out hS)
        have HAC0 := hide (HAC0.out hS)
        have HPS0 := hide (HPS0.out hS)
        go_wp2_with fail
        clear t0 lt1 lt2 bt2 br2 hxw
        go_loopw [6] (fun i wr => ∃ k : Nat, k ≤ t.length ∧ i = .int .i64 k ∧ (idsTo t k 0).find? (fun x => formF t x != 0) = none ∧ Ext W1 wr) (fun i _ => t.length - (intOf i).toNat)
        case atStart => exact ⟨0, Nat.zero_le _, rfl, rfl, hxx⟩
        case round =>
          obtain ⟨k, hk, rfl, hno, hx⟩ := hrel
          have HNO := hide hno
          clear hno
          have bt2 := btW.ext hx
          have br2 := brW.ext hx
          have hxw := hx1.trans hx
          have t0 : wr.cell? ⟨w.heap.size, 0, none⟩ = some (.slice A t.length c) := bt2.cell (j := 0) rfl
          have lt1 := bt2.lt
          have lt2 := br2.lt
          by_cases hlt : k < t.length
          · obtain ⟨b, off, rfl, hel⟩ := HC.out (by omega)
            obtain ⟨_, _, v2, c2, hs2⟩ := hel k hlt
            obtain ⟨A2, k2, rfl, _, _, hc2⟩ := hs2.at_
            have hne := hS.ne _ (List.getElem_mem hlt)
            clear hel hs2 hc2
            go_wp2_with fail
            clear t0 bt2 br2 hxw lt1 lt2
            go_loopw [7] (fun i wr => ∃ j : Nat, j ≤ t[k].evs.length ∧ i = .int .i64 j ∧ (idsTo t k j).find? (fun x => formF t x != 0) = none ∧ Ext W1 wr) (fun i _ => t[k].evs.length - (intOf i).toNat)
            case atStart => exact ⟨0, Nat.zero_le _, rfl, HNO.out, hx⟩
            case round =>
              clear hx
              obtain ⟨j, hj, rfl, hno2, hx⟩ := hrel
              have HNO2 := hide hno2
              clear hno2
              have bt2 := btW.ext hx
              have br2 := brW.ext hx
              have hxw := hx1.trans hx
              have t0 : wr.cell? ⟨w.heap.size, 0, none⟩ = some (.slice (some ⟨b, off, none⟩) t.length c) := bt2.cell (j := 0) rfl
              have lt1 := bt2.lt
              have lt2 := br2.lt
              have c2' := hxw.cellAt c2
              by_cases hlj : j < t[k].evs.length
              · have hxi : (k, j + 1) ∈ ids t := mem_ids.2 ⟨hlt, by simp, hlj⟩
                have HXI := hide hxi
                clear hxi
                go_wp2_with fail
                refine (HFO.out k j hlt hlj _ hxw).mono ?_
                rintro e w2 ⟨rfl, he2⟩
                by_cases hz : formF t (k, j + 1) = 0
                · have HN := hide (findG_next (P := fun x => formF t x != 0) HNO2.out (by simp [hz]))
                  rw [hz]
                  clear hz
                  go_wp2_with fail
                  go_roundw
                  case rel => exact ⟨j + 1, hlj, by go_num, HN.out, hx.trans he2⟩
                  case measure => simp [intOf]; omega
                · have HF := hide (fault_form HIN.out H0.out (findG_stop (P := fun x => formF t x != 0) hlt hlj HNO2.out (by simp [hz])))
                  have hne2 : ((formF t (k, j + 1) : Int) != 0) = true := by simp; omega
                  have hne3 : ¬ ((formF t (k, j + 1) : Int) = 0) := by omega
                  have br3 := br2.ext he2
                  have f0 := br3.frozen 0
                  have f1 := br3.frozen 1
                  have r0 := br3.cell (j := 0) rfl
                  have r1 := br3.cell (j := 1) rfl
                  have hxw2 := hxw.trans he2
                  go_wp2_with fail
                  obtain ⟨Wr, hWr⟩ : ∃ Wr, ((w2).setCell ⟨w.heap.size + 1, 0, none⟩ (Value.int .i64 k)).setCell ⟨w.heap.size + 1, 1, none⟩ (Value.int .i64 ((j : Int) + 1)) = Wr := ⟨_, rfl⟩
                  rw [hWr]
                  have s1 : BoxN Wr (w.heap.size + 1) 26 #[.int .i64 k, .int .i64 ((j : Int) + 1)] := by rw [← hWr]; ((repeat (first | with_reducible assumption | with_reducible exact KeepsFrom.refl _ _ | with_reducible refine KF.set ?_ _ _ | with_reducible refine KF.alloc ?_ _ | with_reducible refine KF.drew ?_ | with_reducible refine KF.drewN ?_ _ | with_reducible refine KF.ext ?_ (by assumption) | with_reducible exact Below.refl _ _ | with_reducible refine BL.set ?_ _ _ _ (by omega) | with_reducible refine BL.alloc ?_ _ (by omega) | with_reducible refine BL.drew ?_ | with_reducible refine BL.drewN ?_ _ | with_reducible refine BL.ext ?_ (by assumption) (by omega) | with_reducible exact Ext.refl _ | with_reducible refine Ext.set ?_ (by omega) _ | with_reducible refine Ext.alloc ?_ _ | with_reducible refine Ext.drew ?_ | with_reducible refine Ext.drewN ?_ _ | with_reducible refine Ext.trans ?_ (by assumption) | with_reducible refine BoxN.alloc ?_ _ | with_reducible refine BoxN.drew ?_ | with_reducible refine BoxN.drewN ?_ _ | with_reducible refine BoxN.other ?_ (by omega) _ | with_reducible refine BoxN.set ?_ _ _ | with_reducible apply BoxN.set1 | with_reducible apply BoxN.set2_1 | with_reducible apply BoxN.set2_0 | with_reducible apply BoxN.set5_4 | with_reducible apply BoxN.set5_3 | with_reducible apply BoxN.set5_2 | with_reducible apply BoxN.set5_1 | with_reducible apply BoxN.set5_0 | with_reducible apply BoxN.set3_2 | with_reducible apply BoxN.set3_1 | with_reducible apply BoxN.set3_0 | with_reducible apply BoxN.set4_3 | with_reducible apply BoxN.set4_2 | with_reducible apply BoxN.set4_1 | with_reducible apply BoxN.set4_0 | with_reducible refine BoxN.ext ?_ (by assumption))); done)
                  have sx : Ext w Wr := by rw [← hWr]; ((repeat (first | with_reducible assumption | with_reducible exact KeepsFrom.refl _ _ | with_reducible refine KF.set ?_ _ _ | with_reducible refine KF.alloc ?_ _ | with_reducible refine KF.drew ?_ | with_reducible refine KF.drewN ?_ _ | with_reducible refine KF.ext ?_ (by assumption) | with_reducible exact Below.refl _ _ | with_reducible refine BL.set ?_ _ _ _ (by omega) | with_reducible refine BL.alloc ?_ _ (by omega) | with_reducible refine BL.drew ?_ | with_reducible refine BL.drewN ?_ _ | with_reducible refine BL.ext ?_ (by assumption) (by omega) | with_reducible exact Ext.refl _ | with_reducible refine Ext.set ?_ (by omega) _ | with_reducible refine Ext.alloc ?_ _ | with_reducible refine Ext.drew ?_ | with_reducible refine Ext.drewN ?_ _ | with_reducible refine Ext.trans ?_ (by assumption) | with_reducible refine BoxN.alloc ?_ _ | with_reducible refine BoxN.drew ?_ | with_reducible refine BoxN.drewN ?_ _ | with_reducible refine BoxN.other ?_ (by omega) _ | with_reducible refine BoxN.set ?_ _ _ | with_reducible apply BoxN.set1 | with_reducible apply BoxN.set2_1 | with_reducible apply BoxN.set2_0 | with_reducible apply BoxN.set5_4 | with_reducible apply BoxN.set5_3 | with_reducible apply BoxN.set5_2 | with_reducible apply BoxN.set5_1 | with_reducible apply BoxN.set5_0 | with_reducible apply BoxN.set3_2 | with_reducible apply BoxN.set3_1 | with_reducible apply BoxN.set3_0 | with_reducible apply BoxN.set4_3 | with_reducible apply BoxN.set4_2 | with_reducible apply BoxN.set4_1 | with_reducible apply BoxN.set4_0 | with_reducible refine BoxN.ext ?_ (by assumption))); done)
                  clear hWr
                  refine bodyPost_ret (v := .tuple #[idVal (k, j + 1), .int .i64 (formF t (k, j + 1))]) ?_ rfl ⟨by first | (rw [HF.out]; done) | (rw [HF.out]; rfl), sx⟩
                  simp [results, Try.f77, go_sem, idVal, s1.cell (j := 0) rfl, s1.cell (j := 1) rfl]
              · obtain rfl : j = t[k].evs.length := by omega
                go_wp2_with fail
                go_roundw
                case rel => exact ⟨k + 1, hlt, by go_num, by rw [← idsTo_next t k hlt]; exact HNO2.out, hx⟩
                case measure => simp [intOf]; omega
          · obtain rfl : k = t.length := by omega
            have HALL := hide (findG_all HNO.out)
            have HFN := hide HALL.out
            have HPA := hide (fun p j (hx : (p, j + 1) ∈ ids t) w' (he : Ext w w') => (show ((j + 1 : Nat) : Int) = (j : Int) + 1 from by push_cast; rfl) ▸ HPA0.out p (j + 1) hx (formF_formed (findG_zero HFN.out _ hx)) w' he)
            clear HALL
            go_wp2_with fail
            clear t0 lt1 lt2 bt2 br2 hxw HNO
            go_loopw [9] (fun i wr => ∃ k : Nat, k ≤ t.length ∧ i = .int .i64 k ∧ (idsTo t k 0).find? (fun x => pairF t x != 0) = none ∧ Ext W1 wr) (fun i _ => t.length - (intOf i).toNat)
            case atStart => exact ⟨0, Nat.zero_le _, rfl, rfl, hx⟩
            case round =>
              clear hx
              obtain ⟨k, hk, rfl, hno, hx⟩ := hrel
              have HNO := hide hno
              clear hno
              have bt2 := btW.ext hx
              have br2 := brW.ext hx
              have hxw := hx1.trans hx
              have t0 : wr.cell? ⟨w.heap.size, 0, none⟩ = some (.slice A t.length c) := bt2.cell (j := 0) rfl
              have lt1 := bt2.lt
              have lt2 := br2.lt
              by_cases hlt : k < t.length
              · obtain ⟨b, off, rfl, hel⟩ := HC.out (by omega)
                obtain ⟨_, _, v2, c2, hs2⟩ := hel k hlt
                obtain ⟨A2, k2, rfl, _, _, hc2⟩ := hs2.at_
                have hne := hS.ne _ (List.getElem_mem hlt)
                clear hel hs2 hc2
                go_wp2_with fail
                clear t0 bt2 br2 hxw lt1 lt2
                go_loopw [10] (fun i wr => ∃ j : Nat, j ≤ t[k].evs.length ∧ i = .int .i64 j ∧ (idsTo t k j).find? (fun x => pairF t x != 0) = none ∧ Ext W1 wr) (fun i _ => t[k].evs.length - (intOf i).toNat)
                case atStart => exact ⟨0, Nat.zero_le _, rfl, HNO.out, hx⟩
                case round =>
                  clear hx
                  obtain ⟨j, hj, rfl, hno2, hx⟩ := hrel
                  have HNO2 := hide hno2
                  clear hno2
                  have bt2 := btW.ext hx
                  have br2 := brW.ext hx
                  have hxw := hx1.trans hx
                  have t0 : wr.cell? ⟨w.heap.size, 0, none⟩ = some (.slice (some ⟨b, off, none⟩) t.length c) := bt2.cell (j := 0) rfl
                  have lt1 := bt2.lt
                  have lt2 := br2.lt
                  have c2' := hxw.cellAt c2
                  by_cases hlj : j < t[k].evs.length
                  · have hxi : (k, j + 1) ∈ ids t := mem_ids.2 ⟨hlt, by simp, hlj⟩
                    have HXI := hide hxi
                    clear hxi
                    go_wp2_with fail
                    have bxn := BoxN.new wr 26 #[.int .i64 k, .int .i64 ((j : Int) + 1)]
                    have hxn := hxw.alloc (.cells #[.int .i64 k, .int .i64 ((j : Int) + 1)] 26)
                    have hx1n := hx.alloc (.cells #[.int .i64 k, .int .i64 ((j : Int) + 1)] 26)
                    have brn := br2.alloc (.cells #[.int .i64 k, .int .i64 ((j : Int) + 1)] 26)
                    clear t0 lt1 lt2 c2' bt2 br2 hx hxw
                    generalize wr.heap.size = gx at *
                    generalize (wr.alloc (.cells #[.int .i64 k, .int .i64 ((j : Int) + 1)] 26)) = W3 at *
                    refine (HPA.out k j HXI.out _ hxn).mono ?_
                    rintro e w2 ⟨rfl, he2⟩
                    by_cases hz : pairF t (k, j + 1) = 0
                    · have HN := hide (findG_next (P := fun x => pairF t x != 0) HNO2.out (by simp [hz]))
                      rw [hz]
                      clear hz
                      go_wp2_with fail
                      go_roundw
                      case rel => exact ⟨j + 1, hlj, by go_num, HN.out, hx1n.trans he2⟩
                      case measure => simp [intOf]; omega
                    · have HF := hide (fault_pair HIN.out H0.out HFN.out (findG_stop (P := fun x => pairF t x != 0) hlt hlj HNO2.out (by simp [hz])))
                      have hne2 : ((pairF t (k, j + 1) : Int) != 0) = true := by simp; omega
                      have hne3 : ¬ ((pairF t (k, j + 1) : Int) = 0) := by omega
                      have br3 := brn.ext he2
                      have f0 := br3.frozen 0
                      have f1 := br3.frozen 1
                      have r0 := br3.cell (j := 0) rfl
                      have r1 := br3.cell (j := 1) rfl
                      have bx3 := bxn.ext he2
                      have x0 := bx3.cell (j := 0) rfl
                      have x1 := bx3.cell (j := 1) rfl
                      have hxw2 := hxn.trans he2
                      go_wp2_with fail
                      obtain ⟨Wr, hWr⟩ : ∃ Wr, ((w2).setCell ⟨w.heap.size + 1, 0, none⟩ (Value.int .i64 k)).setCell ⟨w.heap.size + 1, 1, none⟩ (Value.int .i64 ((j : Int) + 1)) = Wr := ⟨_, rfl⟩
                      rw [hWr]
                      have s1 : BoxN Wr (w.heap.size + 1) 26 #[.int .i64 k, .int .i64 ((j : Int) + 1)] := by rw [← hWr]; ((repeat (first | with_reducible assumption | with_reducible exact KeepsFrom.refl _ _ | with_reducible refine KF.set ?_ _ _ | with_reducible refine KF.alloc ?_ _ | with_reducible refine KF.drew ?_ | with_reducible refine KF.drewN ?_ _ | with_reducible refine KF.ext ?_ (by assumption) | with_reducible exact Below.refl _ _ | with_reducible refine BL.set ?_ _ _ _ (by omega) | with_reducible refine BL.alloc ?_ _ (by omega) | with_reducible refine BL.drew ?_ | with_reducible refine BL.drewN ?_ _ | with_reducible refine BL.ext ?_ (by assumption) (by omega) | with_reducible exact Ext.refl _ | with_reducible refine Ext.set ?_ (by omega) _ | with_reducible refine Ext.alloc ?_ _ | with_reducible refine Ext.drew ?_ | with_reducible refine Ext.drewN ?_ _ | with_reducible refine Ext.trans ?_ (by assumption) | with_reducible refine BoxN.alloc ?_ _ | with_reducible refine BoxN.drew ?_ | with_reducible refine BoxN.drewN ?_ _ | with_reducible refine BoxN.other ?_ (by omega) _ | with_reducible refine BoxN.set ?_ _ _ | with_reducible apply BoxN.set1 | with_reducible apply BoxN.set2_1 | with_reducible apply BoxN.set2_0 | with_reducible apply BoxN.set5_4 | with_reducible apply BoxN.set5_3 | with_reducible apply BoxN.set5_2 | with_reducible apply BoxN.set5_1 | with_reducible apply BoxN.set5_0 | with_reducible apply BoxN.set3_2 | with_reducible apply BoxN.set3_1 | with_reducible apply BoxN.set3_0 | with_reducible apply BoxN.set4_3 | with_reducible apply BoxN.set4_2 | with_reducible apply BoxN.set4_1 | with_reducible apply BoxN.set4_0 | with_reducible refine BoxN.ext ?_ (by assumption))); done)
                      have sx : Ext w Wr := by rw [← hWr]; ((repeat (first | with_reducible assumption | with_reducible exact KeepsFrom.refl _ _ | with_reducible refine KF.set ?_ _ _ | with_reducible refine KF.alloc ?_ _ | with_reducible refine KF.drew ?_ | with_reducible refine KF.drewN ?_ _ | with_reducible refine KF.ext ?_ (by assumption) | with_reducible exact Below.refl _ _ | with_reducible refine BL.set ?_ _ _ _ (by omega) | with_reducible refine BL.alloc ?_ _ (by omega) | with_reducible refine BL.drew ?_ | with_reducible refine BL.drewN ?_ _ | with_reducible refine BL.ext ?_ (by assumption) (by omega) | with_reducible exact Ext.refl _ | with_reducible refine Ext.set ?_ (by omega) _ | with_reducible refine Ext.alloc ?_ _ | with_reducible refine Ext.drew ?_ | with_reducible refine Ext.drewN ?_ _ | with_reducible refine Ext.trans ?_ (by assumption) | with_reducible refine BoxN.alloc ?_ _ | with_reducible refine BoxN.drew ?_ | with_reducible refine BoxN.drewN ?_ _ | with_reducible refine BoxN.other ?_ (by omega) _ | with_reducible refine BoxN.set ?_ _ _ | with_reducible apply BoxN.set1 | with_reducible apply BoxN.set2_1 | with_reducible apply BoxN.set2_0 | with_reducible apply BoxN.set5_4 | with_reducible apply BoxN.set5_3 | with_reducible apply BoxN.set5_2 | with_reducible apply BoxN.set5_1 | with_reducible apply BoxN.set5_0 | with_reducible apply BoxN.set3_2 | with_reducible apply BoxN.set3_1 | with_reducible apply BoxN.set3_0 | with_reducible apply BoxN.set4_3 | with_reducible apply BoxN.set4_2 | with_reducible apply BoxN.set4_1 | with_reducible apply BoxN.set4_0 | with_reducible refine BoxN.ext ?_ (by assumption))); done)
                      clear hWr
                      refine bodyPost_ret (v := .tuple #[idVal (k, j + 1), .int .i64 (pairF t (k, j + 1))]) ?_ rfl ⟨by first | (rw [HF.out]; done) | (rw [HF.out]; rfl), sx⟩
                      simp [results, Try.f77, go_sem, idVal, s1.cell (j := 0) rfl, s1.cell (j := 1) rfl]
                  · obtain rfl : j = t[k].evs.length := by omega
                    go_wp2_with fail
                    go_roundw
                    case rel => exact ⟨k + 1, hlt, by go_num, by rw [← idsTo_next t k hlt]; exact HNO2.out, hx⟩
                    case measure => simp [intOf]; omega
              · obtain rfl : k = t.length := by omega
                have HALL := hide (findG_all HNO.out)
                have HPN := hide HALL.out
                have hP : Paired t := ⟨fun x hx => formF_formed (findG_zero HFN.out x hx), findG_zero HPN.out⟩
                have HPS := hide (fun p j (hx : (p, j + 1) ∈ ids t) w' (he : Ext w w') => (show ((j + 1 : Nat) : Int) = (j : Int) + 1 from by push_cast; rfl) ▸ HPS0.out p (j + 1) hx hP (ids_few hS.np hS.ne HIN.out H0.out) w' he)
                have HAC := hide (HAC0.out hP.pair hP.form)
                clear hP HALL
                go_wp2_with fail
                refine (HAC.out _ hxw).mono ?_
                rintro e w2 ⟨b, rfl, hb, he2⟩
                cases b
                · go_wp2_with fail
                  replace hx := hx.trans he2
                  clear t0 lt1 lt2 bt2 br2 hxw he2 hb HNO
                  obtain ⟨WB, hWB⟩ : ∃ WB : World, w2 = WB := ⟨_, rfl⟩
                  rw [hWB] at hx ⊢
                  clear hWB
                  go_loopw [13] (fun i wr => ∃ k : Nat, k ≤ t.length ∧ i = .int .i64 k ∧ (idsTo t k 0).find? (hbB t) = none ∧ Ext W1 wr) (fun i _ => t.length - (intOf i).toNat)
                  case atStart => exact ⟨0, Nat.zero_le _, rfl, rfl, hx⟩
                  case round =>
                    clear hx
                    obtain ⟨k, hk, rfl, hno, hx⟩ := hrel
                    have HNO := hide hno
                    clear hno
                    have bt2 := btW.ext hx
                    have br2 := brW.ext hx
                    have hxw := hx1.trans hx
                    have t0 : wr.cell? ⟨w.heap.size, 0, none⟩ = some (.slice A t.length c) := bt2.cell (j := 0) rfl
                    have lt1 := bt2.lt
                    have lt2 := br2.lt
                    by_cases hlt : k < t.length
                    · obtain ⟨b, off, rfl, hel⟩ := HC.out (by omega)
                      obtain ⟨_, _, v2, c2, hs2⟩ := hel k hlt
                      obtain ⟨A2, k2, rfl, _, _, hc2⟩ := hs2.at_
                      have hne := hS.ne _ (List.getElem_mem hlt)
                      clear hel hs2 hc2
                      go_wp2_with fail
                      clear t0 bt2 br2 hxw lt1 lt2
                      go_loopw [14] (fun i wr => ∃ j : Nat, j ≤ t[k].evs.length ∧ i = .int .i64 j ∧ (idsTo t k j).find? (hbB t) = none ∧ Ext W1 wr) (fun i _ => t[k].evs.length - (intOf i).toNat)
                      case atStart => exact ⟨0, Nat.zero_le _, rfl, HNO.out, hx⟩
                      case round =>
                        clear hx
                        obtain ⟨j, hj, rfl, hno2, hx⟩ := hrel
                        have HNO2 := hide hno2
                        clear hno2
                        have bt2 := btW.ext hx
                        have br2 := brW.ext hx
                        have hxw := hx1.trans hx
                        have t0 : wr.cell? ⟨w.heap.size, 0, none⟩ = some (.slice (some ⟨b, off, none⟩) t.length c) := bt2.cell (j := 0) rfl
                        have lt1 := bt2.lt
                        have lt2 := br2.lt
                        have c2' := hxw.cellAt c2
                        by_cases hlj : j < t[k].evs.length
                        · have hxi : (k, j + 1) ∈ ids t := mem_ids.2 ⟨hlt, by simp, hlj⟩
                          have HXI := hide hxi
                          clear hxi
                          go_wp2_with fail
                          have bxn := BoxN.new wr 26 #[.int .i64 k, .int .i64 ((j : Int) + 1)]
                          have hxn := hxw.alloc (.cells #[.int .i64 k, .int .i64 ((j : Int) + 1)] 26)
                          have hx1n := hx.alloc (.cells #[.int .i64 k, .int .i64 ((j : Int) + 1)] 26)
                          have brn := br2.alloc (.cells #[.int .i64 k, .int .i64 ((j : Int) + 1)] 26)
                          clear t0 lt1 lt2 c2' bt2 br2 hx hxw
                          generalize wr.heap.size = gx at *
                          generalize (wr.alloc (.cells #[.int .i64 k, .int .i64 ((j : Int) + 1)] 26)) = W3 at *
                          refine (HPS.out k j HXI.out _ hxn).mono ?_
                          rintro e w2 ⟨v9, gs, S, rfl, hgr, hgl, hiff, he2⟩
                          have hyg : k < gs.length := by rw [hgl.1]; exact hlt
                          have hgl2 : gs[k].2 = t[k].evs.length + 1 := hgl.2 k hyg hlt
                          have hHB := hide (hiff (k, j + 1) HXI.out)
                          obtain ⟨gO, offO, capO, curO, rfl, hBO, hbO, hO1, hO2, hO3, hcO⟩ := hgr.out.open_ (by omega)
                          have o0 : w2.cell? ⟨gO, offO + k, none⟩ = some (.slice (some ⟨gs[k].1, 0, none⟩) gs[k].2 gs[k].2) := hbO.cell (hcO k _ (by rw [List.getElem?_map, List.getElem?_eq_getElem hyg]; rfl))
                          have rr0 : w2.cell? ⟨gs[k].1, j + 1, none⟩ = some (.bool (decide ((k, j + 1) ∈ S))) := (hgr.row k hyg).1.cell (rowM_get (by rw [hgl2]; omega))
                          have hlO := hbO.lt
                          have hlR := (hgr.row k hyg).1.lt
                          have hi1 : (k : Int) < (gs.length : Int) := by omega
                          have hi3 : (j : Int) + 1 < (gs[k].2 : Int) := by rw [hgl2]; omega
                          have hcap : gs[k].2 ≤ 1000001 := by rw [hgl2]; omega
                          have hi2 : (0 : Int) ≤ (k : Int) := by omega
                          have hi4 : (0 : Int) ≤ (j : Int) + 1 := by omega
                          have br3 := brn.ext he2
                          have f0 := br3.frozen 0
                          have f1 := br3.frozen 1
                          have r0 := br3.cell (j := 0) rfl
                          have r1 := br3.cell (j := 1) rfl
                          have bx3 := bxn.ext he2
                          have x0 := bx3.cell (j := 0) rfl
                          have x1 := bx3.cell (j := 1) rfl
                          have hxw2 := hxn.trans he2
                          clear hgr hgl hiff hbO hcO hgl2
                          unfold maxLen at hO2
                          generalize gs[k].1 = gb at *
                          generalize gs[k].2 = gn at *
                          cases hz : decide ((k, j + 1) ∈ S)
                          · have HN := hide (findG_next (P := hbB t) HNO2.out (hbB_false fun h => of_decide_eq_false hz (hHB.out.2 h)))
                            rw [hz] at rr0
                            clear hz
                            go_wp2_with fail
                            go_roundw
                            case rel => exact ⟨j + 1, hlj, by go_num, HN.out, hx1n.trans he2⟩
                            case measure => simp [intOf]; omega
                          · have HF := hide (fault_hb HIN.out H0.out HFN.out HPN.out (show hbFirst t = _ from findG_stop (P := hbB t) hlt hlj HNO2.out (hbB_true (hHB.out.1 (of_decide_eq_true hz)))))
                            rw [hz] at rr0
                            clear hz
                            go_wp2_with fail
                            obtain ⟨Wr, hWr⟩ : ∃ Wr, ((w2).setCell ⟨w.heap.size + 1, 0, none⟩ (Value.int .i64 k)).setCell ⟨w.heap.size + 1, 1, none⟩ (Value.int .i64 ((j : Int) + 1)) = Wr := ⟨_, rfl⟩
                            rw [hWr]
                            have s1 : BoxN Wr (w.heap.size + 1) 26 #[.int .i64 k, .int .i64 ((j : Int) + 1)] := by rw [← hWr]; ((repeat (first | with_reducible assumption | with_reducible exact KeepsFrom.refl _ _ | with_reducible refine KF.set ?_ _ _ | with_reducible refine KF.alloc ?_ _ | with_reducible refine KF.drew ?_ | with_reducible refine KF.drewN ?_ _ | with_reducible refine KF.ext ?_ (by assumption) | with_reducible exact Below.refl _ _ | with_reducible refine BL.set ?_ _ _ _ (by omega) | with_reducible refine BL.alloc ?_ _ (by omega) | with_reducible refine BL.drew ?_ | with_reducible refine BL.drewN ?_ _ | with_reducible refine BL.ext ?_ (by assumption) (by omega) | with_reducible exact Ext.refl _ | with_reducible refine Ext.set ?_ (by omega) _ | with_reducible refine Ext.alloc ?_ _ | with_reducible refine Ext.drew ?_ | with_reducible refine Ext.drewN ?_ _ | with_reducible refine Ext.trans ?_ (by assumption) | with_reducible refine BoxN.alloc ?_ _ | with_reducible refine BoxN.drew ?_ | with_reducible refine BoxN.drewN ?_ _ | with_reducible refine BoxN.other ?_ (by omega) _ | with_reducible refine BoxN.set ?_ _ _ | with_reducible apply BoxN.set1 | with_reducible apply BoxN.set2_1 | with_reducible apply BoxN.set2_0 | with_reducible apply BoxN.set5_4 | with_reducible apply BoxN.set5_3 | with_reducible apply BoxN.set5_2 | with_reducible apply BoxN.set5_1 | with_reducible apply BoxN.set5_0 | with_reducible apply BoxN.set3_2 | with_reducible apply BoxN.set3_1 | with_reducible apply BoxN.set3_0 | with_reducible apply BoxN.set4_3 | with_reducible apply BoxN.set4_2 | with_reducible apply BoxN.set4_1 | with_reducible apply BoxN.set4_0 | with_reducible refine BoxN.ext ?_ (by assumption))); done)
                            have sx : Ext w Wr := by rw [← hWr]; ((repeat (first | with_reducible assumption | with_reducible exact KeepsFrom.refl _ _ | with_reducible refine KF.set ?_ _ _ | with_reducible refine KF.alloc ?_ _ | with_reducible refine KF.drew ?_ | with_reducible refine KF.drewN ?_ _ | with_reducible refine KF.ext ?_ (by assumption) | with_reducible exact Below.refl _ _ | with_reducible refine BL.set ?_ _ _ _ (by omega) | with_reducible refine BL.alloc ?_ _ (by omega) | with_reducible refine BL.drew ?_ | with_reducible refine BL.drewN ?_ _ | with_reducible refine BL.ext ?_ (by assumption) (by omega) | with_reducible exact Ext.refl _ | with_reducible refine Ext.set ?_ (by omega) _ | with_reducible refine Ext.alloc ?_ _ | with_reducible refine Ext.drew ?_ | with_reducible refine Ext.drewN ?_ _ | with_reducible refine Ext.trans ?_ (by assumption) | with_reducible refine BoxN.alloc ?_ _ | with_reducible refine BoxN.drew ?_ | with_reducible refine BoxN.drewN ?_ _ | with_reducible refine BoxN.other ?_ (by omega) _ | with_reducible refine BoxN.set ?_ _ _ | with_reducible apply BoxN.set1 | with_reducible apply BoxN.set2_1 | with_reducible apply BoxN.set2_0 | with_reducible apply BoxN.set5_4 | with_reducible apply BoxN.set5_3 | with_reducible apply BoxN.set5_2 | with_reducible apply BoxN.set5_1 | with_reducible apply BoxN.set5_0 | with_reducible apply BoxN.set3_2 | with_reducible apply BoxN.set3_1 | with_reducible apply BoxN.set3_0 | with_reducible apply BoxN.set4_3 | with_reducible apply BoxN.set4_2 | with_reducible apply BoxN.set4_1 | with_reducible apply BoxN.set4_0 | with_reducible refine BoxN.ext ?_ (by assumption))); done)
                            clear hWr
                            refine bodyPost_ret (v := .tuple #[idVal (k, j + 1), .int .i64 10]) ?_ rfl ⟨by first | (rw [HF.out]; done) | (rw [HF.out]; rfl), sx⟩
                            simp [results, Try.f77, go_sem, idVal, s1.cell (j := 0) rfl, s1.cell (j := 1) rfl]
                        · obtain rfl : j = t[k].evs.length := by omega
                          go_wp2_with fail
                          go_roundw
                          case rel => exact ⟨k + 1, hlt, by go_num, by rw [← idsTo_next t k hlt]; exact HNO2.out, hx⟩
                          case measure => simp [intOf]; omega
                    · obtain rfl : k = t.length := by omega
                      have HALL := hide (findG_all HNO.out)
                      have HF := hide (fault_ok HIN.out H0.out HFN.out HPN.out (show hbFirst t = none from HALL.out))
                      have f0 := br2.frozen 0
                      have f1 := br2.frozen 1
                      have r0 := br2.cell (j := 0) rfl
                      have r1 := br2.cell (j := 1) rfl
                      go_wp2_with fail
                      obtain ⟨Wr, hWr⟩ : ∃ Wr, (wr.setCell ⟨w.heap.size + 1, 0, none⟩ (Value.int .i64 0)).setCell ⟨w.heap.size + 1, 1, none⟩ (Value.int .i64 0) = Wr := ⟨_, rfl⟩
                      rw [hWr]
                      have s1 : BoxN Wr (w.heap.size + 1) 26 #[.int .i64 0, .int .i64 0] := by rw [← hWr]; ((repeat (first | with_reducible assumption | with_reducible exact KeepsFrom.refl _ _ | with_reducible refine KF.set ?_ _ _ | with_reducible refine KF.alloc ?_ _ | with_reducible refine KF.drew ?_ | with_reducible refine KF.drewN ?_ _ | with_reducible refine KF.ext ?_ (by assumption) | with_reducible exact Below.refl _ _ | with_reducible refine BL.set ?_ _ _ _ (by omega) | with_reducible refine BL.alloc ?_ _ (by omega) | with_reducible refine BL.drew ?_ | with_reducible refine BL.drewN ?_ _ | with_reducible refine BL.ext ?_ (by assumption) (by omega) | with_reducible exact Ext.refl _ | with_reducible refine Ext.set ?_ (by omega) _ | with_reducible refine Ext.alloc ?_ _ | with_reducible refine Ext.drew ?_ | with_reducible refine Ext.drewN ?_ _ | with_reducible refine Ext.trans ?_ (by assumption) | with_reducible refine BoxN.alloc ?_ _ | with_reducible refine BoxN.drew ?_ | with_reducible refine BoxN.drewN ?_ _ | with_reducible refine BoxN.other ?_ (by omega) _ | with_reducible refine BoxN.set ?_ _ _ | with_reducible apply BoxN.set1 | with_reducible apply BoxN.set2_1 | with_reducible apply BoxN.set2_0 | with_reducible apply BoxN.set5_4 | with_reducible apply BoxN.set5_3 | with_reducible apply BoxN.set5_2 | with_reducible apply BoxN.set5_1 | with_reducible apply BoxN.set5_0 | with_reducible apply BoxN.set3_2 | with_reducible apply BoxN.set3_1 | with_reducible apply BoxN.set3_0 | with_reducible apply BoxN.set4_3 | with_reducible apply BoxN.set4_2 | with_reducible apply BoxN.set4_1 | with_reducible apply BoxN.set4_0 | with_reducible refine BoxN.ext ?_ (by assumption))); done)
                      have sx : Ext w Wr := by rw [← hWr]; ((repeat (first | with_reducible assumption | with_reducible exact KeepsFrom.refl _ _ | with_reducible refine KF.set ?_ _ _ | with_reducible refine KF.alloc ?_ _ | with_reducible refine KF.drew ?_ | with_reducible refine KF.drewN ?_ _ | with_reducible refine KF.ext ?_ (by assumption) | with_reducible exact Below.refl _ _ | with_reducible refine BL.set ?_ _ _ _ (by omega) | with_reducible refine BL.alloc ?_ _ (by omega) | with_reducible refine BL.drew ?_ | with_reducible refine BL.drewN ?_ _ | with_reducible refine BL.ext ?_ (by assumption) (by omega) | with_reducible exact Ext.refl _ | with_reducible refine Ext.set ?_ (by omega) _ | with_reducible refine Ext.alloc ?_ _ | with_reducible refine Ext.drew ?_ | with_reducible refine Ext.drewN ?_ _ | with_reducible refine Ext.trans ?_ (by assumption) | with_reducible refine BoxN.alloc ?_ _ | with_reducible refine BoxN.drew ?_ | with_reducible refine BoxN.drewN ?_ _ | with_reducible refine BoxN.other ?_ (by omega) _ | with_reducible refine BoxN.set ?_ _ _ | with_reducible apply BoxN.set1 | with_reducible apply BoxN.set2_1 | with_reducible apply BoxN.set2_0 | with_reducible apply BoxN.set5_4 | with_reducible apply BoxN.set5_3 | with_reducible apply BoxN.set5_2 | with_reducible apply BoxN.set5_1 | with_reducible apply BoxN.set5_0 | with_reducible apply BoxN.set3_2 | with_reducible apply BoxN.set3_1 | with_reducible apply BoxN.set3_0 | with_reducible apply BoxN.set4_3 | with_reducible apply BoxN.set4_2 | with_reducible apply BoxN.set4_1 | with_reducible apply BoxN.set4_0 | with_reducible refine BoxN.ext ?_ (by assumption))); done)
                      clear hWr
                      refine bodyPost_ret (v := .tuple #[idVal (0, 0), .int .i64 0]) ?_ rfl ⟨by first | (rw [HF.out]; done) | (rw [HF.out]; rfl), sx⟩
                      simp [results, Try.f77, go_sem, idVal, s1.cell (j := 0) rfl, s1.cell (j := 1) rfl]

                · have HNB := hide (show (ids t).find? (hbB t) = none from by
                    rw [List.find?_eq_none]; intro x hx; rw [hbB_false (hb rfl x hx)]; exact Bool.false_ne_true)
                  have HF := hide (fault_ok HIN.out H0.out HFN.out HPN.out (show hbFirst t = none from HNB.out))
                  have br3 := br2.ext he2
                  have f0 := br3.frozen 0
                  have f1 := br3.frozen 1
                  have r0 := br3.cell (j := 0) rfl
                  have r1 := br3.cell (j := 1) rfl
                  have hxw2 := hxw.trans he2
                  go_wp2_with fail
                  obtain ⟨Wr, hWr⟩ : ∃ Wr, (w2.setCell ⟨w.heap.size + 1, 0, none⟩ (Value.int .i64 0)).setCell ⟨w.heap.size + 1, 1, none⟩ (Value.int .i64 0) = Wr := ⟨_, rfl⟩
                  rw [hWr]
                  have s1 : BoxN Wr (w.heap.size + 1) 26 #[.int .i64 0, .int .i64 0] := by rw [← hWr]; ((repeat (first | with_reducible assumption | with_reducible exact KeepsFrom.refl _ _ | with_reducible refine KF.set ?_ _ _ | with_reducible refine KF.alloc ?_ _ | with_reducible refine KF.drew ?_ | with_reducible refine KF.drewN ?_ _ | with_reducible refine KF.ext ?_ (by assumption) | with_reducible exact Below.refl _ _ | with_reducible refine BL.set ?_ _ _ _ (by omega) | with_reducible refine BL.alloc ?_ _ (by omega) | with_reducible refine BL.drew ?_ | with_reducible refine BL.drewN ?_ _ | with_reducible refine BL.ext ?_ (by assumption) (by omega) | with_reducible exact Ext.refl _ | with_reducible refine Ext.set ?_ (by omega) _ | with_reducible refine Ext.alloc ?_ _ | with_reducible refine Ext.drew ?_ | with_reducible refine Ext.drewN ?_ _ | with_reducible refine Ext.trans ?_ (by assumption) | with_reducible refine BoxN.alloc ?_ _ | with_reducible refine BoxN.drew ?_ | with_reducible refine BoxN.drewN ?_ _ | with_reducible refine BoxN.other ?_ (by omega) _ | with_reducible refine BoxN.set ?_ _ _ | with_reducible apply BoxN.set1 | with_reducible apply BoxN.set2_1 | with_reducible apply BoxN.set2_0 | with_reducible apply BoxN.set5_4 | with_reducible apply BoxN.set5_3 | with_reducible apply BoxN.set5_2 | with_reducible apply BoxN.set5_1 | with_reducible apply BoxN.set5_0 | with_reducible apply BoxN.set3_2 | with_reducible apply BoxN.set3_1 | with_reducible apply BoxN.set3_0 | with_reducible apply BoxN.set4_3 | with_reducible apply BoxN.set4_2 | with_reducible apply BoxN.set4_1 | with_reducible apply BoxN.set4_0 | with_reducible refine BoxN.ext ?_ (by assumption))); done)
                  have sx : Ext w Wr := by rw [← hWr]; ((repeat (first | with_reducible assumption | with_reducible exact KeepsFrom.refl _ _ | with_reducible refine KF.set ?_ _ _ | with_reducible refine KF.alloc ?_ _ | with_reducible refine KF.drew ?_ | with_reducible refine KF.drewN ?_ _ | with_reducible refine KF.ext ?_ (by assumption) | with_reducible exact Below.refl _ _ | with_reducible refine BL.set ?_ _ _ _ (by omega) | with_reducible refine BL.alloc ?_ _ (by omega) | with_reducible refine BL.drew ?_ | with_reducible refine BL.drewN ?_ _ | with_reducible refine BL.ext ?_ (by assumption) (by omega) | with_reducible exact Ext.refl _ | with_reducible refine Ext.set ?_ (by omega) _ | with_reducible refine Ext.alloc ?_ _ | with_reducible refine Ext.drew ?_ | with_reducible refine Ext.drewN ?_ _ | with_reducible refine Ext.trans ?_ (by assumption) | with_reducible refine BoxN.alloc ?_ _ | with_reducible refine BoxN.drew ?_ | with_reducible refine BoxN.drewN ?_ _ | with_reducible refine BoxN.other ?_ (by omega) _ | with_reducible refine BoxN.set ?_ _ _ | with_reducible apply BoxN.set1 | with_reducible apply BoxN.set2_1 | with_reducible apply BoxN.set2_0 | with_reducible apply BoxN.set5_4 | with_reducible apply BoxN.set5_3 | with_reducible apply BoxN.set5_2 | with_reducible apply BoxN.set5_1 | with_reducible apply BoxN.set5_0 | with_reducible apply BoxN.set3_2 | with_reducible apply BoxN.set3_1 | with_reducible apply BoxN.set3_0 | with_reducible apply BoxN.set4_3 | with_reducible apply BoxN.set4_2 | with_reducible apply BoxN.set4_1 | with_reducible apply BoxN.set4_0 | with_reducible refine BoxN.ext ?_ (by assumption))); done)
                  clear hWr
                  refine bodyPost_ret (v := .tuple #[idVal (0, 0), .int .i64 0]) ?_ rfl ⟨by first | (rw [HF.out]; done) | (rw [HF.out]; rfl), sx⟩
                  simp [results, Try.f77, go_sem, idVal, s1.cell (j := 0) rfl, s1.cell (j := 1) rfl]
theorem rValid_any (u : Value) (t : Tr) (w : World) (hS : Sm t) (hs : SlR 3 RPr w u t) :
    Calls Try.prog 17 #[.agg #[u]] w fun e w' => e = .returned (.bool (validL t)) ∧ Ext w w' := by
  have HF := hide (fun w' (he : Ext w w') => rFault_any u t w' hS (hs.ext RPr.keeps he))
  obtain ⟨A, c, rfl, _, hcm, _⟩ := hs.at_
  go_enter Try.func17, Try.ntmps17
  go_wp2_with fail
  refine (HF.out _ ((Ext.refl w).alloc _)).mono ?_
  rintro e w2 ⟨rfl, he2⟩
  unfold idVal
  go_wp2
  go_ret
  refine ⟨ret_bool ?_, Ext.alloc (Ext.trans ((Ext.refl w).alloc _) he2) _⟩
  unfold validL
  rw [Bool.eq_iff_iff]; simp
end Go.Proofs.Ytoaopldaleaijaa

namespace Go.Proofs.Ytoaopldaleaijaa
set_option linter.unusedVariables false

def idA (x : Nat × Nat) : AV := .agg [.v (.int .i64 x.1), .v (.int .i64 x.2)]
theorem idA_rep (w : World) (F : Nat → Prop) (L : LMap) (x : Nat × Nat) : RepA w F L (idA x) (idVal x) := by
  refine RepL.agg (vs := #[.int .i64 x.1, .int .i64 x.2]) ?_
  exact RepL.cons (.v _ _ (.int _ _)) (RepL.cons (.v _ _ (.int _ _)) RepL.nil)
theorem repL_cons {w : World} {F : Nat → Prop} {L : LMap} {x : AV} {xs : List AV} {vs : List Value} (h : RepL w F L (x :: xs) vs) : ∃ v us, vs = v :: us ∧ RepA w F L x v ∧ RepL w F L xs us := by
  obtain ⟨h1, h2⟩ := h
  cases vs with
  | nil => simp at h1
  | cons v us => exact ⟨v, us, rfl, h2 0 x v rfl rfl, by simpa using h1, fun i a u ha hu => h2 (i + 1) a u ha hu⟩
theorem repL_nil {w : World} {F : Nat → Prop} {L : LMap} {vs : List Value} (h : RepL w F L [] vs) : vs = [] := by
  have := h.1
  exact List.eq_nil_of_length_eq_zero (by simpa using this.symm)
theorem repL_tr {w : World} {F : Nat → Prop} {L : LMap} {t : Tr} {xs : List AV} {vs : Array Value} (hn : Nm t) (h : RepL w F L (.agg [.v (eT t)] :: xs) vs.toList) : ∃ u us, vs = (.agg #[u] :: us).toArray ∧ SlR 3 RPr w u t ∧ RepL w F L xs us := by
  obtain ⟨v, us, h1, h2, h3⟩ := repL_cons h
  obtain ⟨cs, rfl, h4⟩ := h2.aggL
  obtain ⟨u, rest, h5, h6, h7⟩ := repL_cons h4
  have := repL_nil h7
  subst this
  have hcs : cs = #[u] := Array.toList_inj.1 (by rw [h5])
  subst hcs
  exact ⟨u, us, Array.toList_inj.1 (by rw [h1]), tr_in hn h6.vI, h3⟩

section
theorem valid_specS (t : Tr) (hS : Sm t) (hN : Nm t) (b l : List Row) : ACalls Try.prog 67 [.agg [.v (eT t)]] b l (fun r b' l' => r = .v (.bool (validL t)) ∧ b' = b ∧ l' = l) := by
  refine ACalls.of_ext ⟨_, Try.func67, by kernel_rfl, by kernel_rfl⟩ (fun F L w vs hr => ?_)
  obtain ⟨u, us, rfl, hs, hr2⟩ := repL_tr hN hr
  obtain rfl := repL_nil hr2
  refine (Valid_any u t w hS hs).mono ?_
  rintro e w' ⟨rfl, he⟩
  exact ⟨he, _, _, rfl, .v _ _ (.bool _), rfl, rfl, rfl⟩
theorem rvalid_specS (t : Tr) (hS : Sm t) (hN : Nm t) (b l : List Row) : ACalls Try.prog 17 [.agg [.v (eT t)]] b l (fun r b' l' => r = .v (.bool (validL t)) ∧ b' = b ∧ l' = l) := by
  refine ACalls.of_ext ⟨_, Try.func17, by kernel_rfl, by kernel_rfl⟩ (fun F L w vs hr => ?_)
  obtain ⟨u, us, rfl, hs, hr2⟩ := repL_tr hN hr
  obtain rfl := repL_nil hr2
  refine (rValid_any u t w hS hs).mono ?_
  rintro e w' ⟨rfl, he⟩
  exact ⟨he, _, _, rfl, .v _ _ (.bool _), rfl, rfl, rfl⟩
theorem valid_spec (t : Tr) (hS : Small t) (hN : Nm t) (b l : List Row) : ACalls Try.prog 67 [.agg [.v (eT t)]] b l (fun r b' l' => r = .v (.bool (validL t)) ∧ b' = b ∧ l' = l) := valid_specS t hS.sm hN b l
end
end Go.Proofs.Ytoaopldaleaijaa

namespace Go.Proofs.Ytoaopldaleaijaa
set_option linter.unusedVariables false
set_option linter.unusedSimpArgs false
attribute [local go_sem ↓] run_skip run_region run_draw run_seq run_block run_exit run_ret run_cond atN_app seqC_normal seqC_exit seqC_ret seqQ_normal seqQ_exit seqQ_ret blkQ_normal blkQ_exit blkQ_ret runOps_nil runOps_cons runD_nil runD_cons grdO_true grdO_false grdD_true grdD_false ifC_true ifC_false opS_val opS_call opS_two opK_app dS_val dS_call dS_two dK_app kUp_same kUp_ne
attribute [local go_sem] rechks_nil rechks_cons rechk gcase_true gcase_false ex_val ex_val0 gd_none gd_some ev_t ev_c evs_nil evs_cons evo_some evo_none hget_at hget_first hsetB_at hsetB_first hsetL_at hsetL_first ofOpt_some aop aload astore aslice aappend aiaddr aiaddrA afaddr alen alenS acopy amm acall alookup amupdate alenM comma keyEq apick binV binVB binVS isSh intOp strOp boolOp shOp eqC eqF and2 cellsOf setFrom fillA fillS rd rdI elems mk bounds AV.cell List.all_cons List.all_nil Bool.and_true Bool.true_and Bool.and_self List.length_cons List.length_nil List.length_append Nat.reduceAdd Nat.reduceSub Nat.reduceMul Nat.zero_add Nat.add_zero List.cons_append List.nil_append List.append_assoc List.append_nil List.getElem?_cons_zero List.getElem?_cons_succ List.getElem?_nil List.set_cons_zero List.set_cons_succ List.drop_zero List.drop_succ_cons List.take_zero List.take_succ_cons List.take_nil List.drop_nil List.map_cons List.map_nil Option.map_some if_true if_false Bool.false_eq_true and_self true_and and_true Nat.reduceLeDiff Nat.reduceLT Nat.le_refl Nat.reduceEqDiff ite_true ite_false beq_self_eq_true beq_true beq_false Bool.not_true Bool.not_false Bool.true_beq Bool.false_beq map_vs vs_len vs_get vs_take vs_drop vs_snoc1 vs_snoc2 vs_snoc3 vs_snoc5 vs_set1 vs_set2 vs_rep wrap_id le_T lt_T le_F lt_F leI_T ltI_T leI_F ltI_F geI gtI get_T decide_true decide_false room List.getElem?_map List.length_map List.length_take Int.toNat_natCast Nat.min_def Nat.min_self nth_kOf put_kOf put_kNo kOv_cons kOv_nil KHas KArgs List.getElem_cons_zero List.getElem_cons_succ
theorem frz0_lt {m id ver sz : Nat} {rows : List (List IV)} {x : AV} (h : AVlt m x) (hm : m ≤ id) : frz0 id ver sz rows x = x := by
  cases h with
  | sl i v o n hi => simp only [frz0]; rw [if_neg (by omega)]
  | _ => rfl
theorem frz_lt {m id ver sz : Nat} {rows : List (List IV)} {x : AV} (h : AVlt m x) (hm : m ≤ id) : frz id ver sz rows x = x := by
  cases h with
  | agg cs hc =>
    simp only [frz]
    congr 1
    rw [List.map_congr_left (fun c hcc => frz0_lt (hc c hcc) hm), List.map_id']
  | tup cs hc =>
    simp only [frz]
    congr 1
    rw [List.map_congr_left (fun c hcc => frz0_lt (hc c hcc) hm), List.map_id']
  | sl i v o n hi => exact frz0_lt (.sl i v o n hi) hm
  | _ => rfl
theorem KHas.frz {f : Nat → AV} {m id ver sz : Nat} {rows : List (List IV)} (hm : m ≤ id) : ∀ {ov : List (Nat × AV)}, KHas f ov → KOvLt m ov → KHas (fun n => frz id ver sz rows (f n)) ov
  | [], _, _ => trivial
  | (n, x) :: r, h, ho => ⟨by show Go.Proofs.Ytoaopldaleaijaa.frz id ver sz rows (f n) = x; rw [h.1]; exact frz_lt ho.1 hm, KHas.frz hm h.2 ho.2⟩
end Go.Proofs.Ytoaopldaleaijaa

namespace Go.Proofs.Ytoaopldaleaijaa
set_option linter.unusedVariables false
set_option linter.unusedSimpArgs false
theorem fl_const {α : Type} {n : Nat} {x : α} : fl n (fun _ => x) = List.replicate n x := by
  apply List.ext_getElem?
  intro j
  by_cases hj : j < n
  · rw [fl_get hj, List.getElem?_replicate_of_lt hj]
  · rw [fl_none (by omega), List.getElem?_eq_none (by simp; omega)]
/-- What is left to do. -/
def remN (len D : Nat → Nat) : Nat → Nat
  | 0 => 0
  | n + 1 => remN len D n + (len n - D n)
theorem remN_up {len D : Nat → Nat} {p v : Nat} : ∀ {n : Nat}, n ≤ p → remN len (fUp D p v) n = remN len D n
  | 0, _ => rfl
  | n + 1, h => by
    unfold remN
    rw [remN_up (by omega), fUp_ne (by omega)]
theorem remN_step {len D : Nat → Nat} {p : Nat} (hd : D p < len p) : ∀ {n : Nat}, p < n → remN len (fUp D p (D p + 1)) n + 1 = remN len D n
  | 0, h => by omega
  | n + 1, h => by
    unfold remN
    by_cases hp : p < n
    · have := remN_step (n := n) hd hp
      rw [fUp_ne (by omega)]; omega
    · obtain rfl : p = n := by omega
      rw [remN_up (Nat.le_refl _), fUp_same]; omega
def remT (t : Tr) (D : Nat → Nat) : Nat := remN (fun p => (evsOf t p).length) D t.length
theorem remT_step {t : Tr} {D : Nat → Nat} {p : Nat} (hp : p < t.length) (hd : D p < (evsOf t p).length) : remT t (fUp D p (D p + 1)) + 1 = remT t D := remN_step (len := fun p => (evsOf t p).length) hd hp
/-- The next event of a process can be done. -/
def Rdy (t : Tr) (D : Nat → Nat) (p : Nat) : Prop := D p < (evsOf t p).length ∧ ((evAt t (p, D p + 1)).kind = 3 → (sndr t (p, D p + 1)).2 ≤ D (sndr t (p, D p + 1)).1)
theorem none_left {t : Tr} (hv : Vok t) {D : Nat → Nat} (hD : ∀ p, p < t.length → D p ≤ (evsOf t p).length) (h : ∀ p, p < t.length → ¬ Rdy t D p) : ∀ p, p < t.length → D p = (evsOf t p).length := by
  intro p hp
  refine Classical.byContradiction fun hn => ?_
  obtain ⟨q, h1, h2, h3⟩ := some_ready hv D hD ⟨p, hp, by have := hD p hp; omega⟩
  exact h q h1 ⟨h2, h3⟩
end Go.Proofs.Ytoaopldaleaijaa

namespace Go.Proofs.Ytoaopldaleaijaa
set_option linter.unusedVariables false
set_option linter.unusedSimpArgs false
theorem not_hb_zero {t : Tr} {x : Nat × Nat} {q : Nat} : ¬ Hb t x (q, 0) := by
  intro h
  obtain ⟨y, hd, _⟩ := h.back
  rcases hd with ⟨h1, _⟩ | ⟨_, h1⟩
  · simp at h1
  · have := mem_pos (firstOf_find h1).2.2
    simp at this
theorem vc_zero {t : Tr} {p q : Nat} : vc t (p, 0) q = 0 := by
  unfold vc
  rw [List.countP_eq_zero]
  intro i _ h
  rw [leB_iff] at h
  rcases h with h | h
  · simp at h
  · exact not_hb_zero h
theorem vc_row {t : Tr} {q a b j : Nat} (h : a ≤ b) (hb : b ≤ (evsOf t q).length) : vc t (q, a) j ≤ vc t (q, b) j := by
  by_cases ha : a = 0
  · subst ha; rw [vc_zero]; omega
  · exact vc_mono (le_row h hb) j
theorem vc_max {t : Tr} {q a c j : Nat} (ha : a ≤ (evsOf t q).length) (hc : c ≤ (evsOf t q).length) : vc t (q, max a c) j = max (vc t (q, a) j) (vc t (q, c) j) := by
  rcases Nat.le_total a c with h | h
  · have := vc_row (t := t) (j := j) h hc
    rw [Nat.max_eq_right h, Nat.max_eq_right this]
  · have := vc_row (t := t) (j := j) h ha
    rw [Nat.max_eq_left h, Nat.max_eq_left this]
theorem vc_self {t : Tr} (hv : Vok t) {p i : Nat} (hp : p < t.length) (hi : i ≤ (evsOf t p).length) : vc t (p, i) p = i := by
  cases i with
  | zero => exact vc_zero
  | succ i => exact vc_own hv (mem_ids2.2 ⟨hp, hi⟩)
theorem vc_stepA {t : Tr} (hv : Vok t) {p i : Nat} (hx : (p, i + 1) ∈ ids t) {q : Nat} (hq : q < t.length) :
    vc t (p, i + 1) q = max (vc t (p, i) q) (if (evAt t (p, i + 1)).kind = 3 then vc t (sndr t (p, i + 1)) q else 0) + if q = p then 1 else 0 := by
  rw [vc_step hv hx hq]
  unfold vPrev vRecv
  by_cases hi : i = 0
  · subst hi; simp only [if_true, vc_zero]
  · rw [if_neg hi]
noncomputable def mE (t : Tr) (x : Nat × Nat) (q j : Nat) : Nat := vc t (q, vc t x q) j
/-- The matrix after an event. -/
noncomputable def mtx (t : Tr) (x : Nat × Nat) : List (List Int) := fl t.length fun q => fl t.length fun j => (mE t x q j : Int)
theorem mtx_len {t : Tr} {x : Nat × Nat} : (mtx t x).length = t.length := fl_len
theorem mtx_row {t : Tr} {x : Nat × Nat} {q : Nat} (h : q < t.length) : rowAt (mtx t x) q = fl t.length fun j => (mE t x q j : Int) := fl_getD h
theorem mtx_ent {t : Tr} {x : Nat × Nat} {q j : Nat} (h : q < t.length) (hj : j < t.length) : ent (mtx t x) q j = mE t x q j := by
  unfold ent; rw [mtx_row h, fl_getD hj]
theorem mtx_zero {t : Tr} {p : Nat} : mtx t (p, 0) = zeroM t.length := by
  unfold mtx zeroM
  refine fl_congr (fun q _ => ?_)
  rw [← fl_const]
  refine fl_congr (fun j _ => ?_)
  unfold mE
  rw [vc_zero, vc_zero]; rfl
theorem mtx_isM {t : Tr} (hv : Vok t) (hS : Small t) (h1 : 1 ≤ t.length) (x : Nat × Nat) : isM (mtx t x) = true := by
  refine isM_mk (by rw [mtx_len]; exact h1) (by rw [mtx_len]; exact hv.hi) (fun i hi => ?_) (fun i j hi hj => ?_)
  · rw [mtx_len] at hi ⊢; rw [mtx_row hi, fl_len]
  · rw [mtx_len] at hi hj
    rw [mtx_ent hi hj]
    unfold mE
    have h2 := vc_le (t := t) (x := (i, vc t x i)) (q := j)
    have h3 := hS.ne _ (List.getElem_mem hj)
    rw [evsOf_lt hj] at h2
    omega
theorem mtx_fit {t : Tr} (hv : Vok t) (x : Nat × Nat) : Fit (mtx t x) := by
  have h8 := hv.hi
  refine ⟨by rw [mtx_len]; omega, fun r hr => ?_⟩
  obtain ⟨q, hq, rfl⟩ := List.mem_map.1 hr
  rw [fl_len]; omega
theorem mtx_tick {t : Tr} (hv : Vok t) {p i : Nat} (hx : (p, i + 1) ∈ ids t) (hk : (evAt t (p, i + 1)).kind ≠ 3) : mtx t (p, i + 1) = tickM (mtx t (p, i)) p := by
  obtain ⟨hp, hi⟩ := mem_ids2.1 hx
  have st : ∀ q, q < t.length → vc t (p, i + 1) q = vc t (p, i) q + if q = p then 1 else 0 := fun q hq => by rw [vc_stepA hv hx hq, if_neg hk]; simp
  unfold tickM
  rw [mtx_len]
  unfold mtx
  refine fl_congr (fun q hq => ?_)
  by_cases hqp : q = p
  · subst hqp
    rw [if_pos rfl, show rowAt (fl t.length fun q' => fl t.length fun j => (mE t (q, i) q' j : Int)) q = fl t.length fun j => (mE t (q, i) q j : Int) from fl_getD hq, fl_set]
    refine fl_congr (fun j hj => ?_)
    have e1 : mE t (q, i + 1) q j = vc t (q, i + 1) j := by unfold mE; rw [vc_own hv hx]
    have e2 : ∀ j, mE t (q, i) q j = vc t (q, i) j := fun j => by unfold mE; rw [vc_self hv hq (by omega)]
    have e3 : ent (mtx t (q, i)) q q = vc t (q, i) q := by rw [mtx_ent hq hq, e2]
    unfold mtx at e3
    rw [e3, e1, st j hj]
    by_cases hjq : j = q
    · subst hjq; rw [fUp_same, if_pos rfl]; omega
    · rw [fUp_ne hjq, if_neg hjq, e2]; omega
  · rw [if_neg hqp, show rowAt (fl t.length fun q' => fl t.length fun j => (mE t (p, i) q' j : Int)) q = fl t.length fun j => (mE t (p, i) q j : Int) from fl_getD hq]
    refine fl_congr (fun j hj => ?_)
    unfold mE
    rw [st q hq, if_neg hqp, Nat.add_zero]
theorem mtx_recv {t : Tr} (hv : Vok t) {p i : Nat} (hx : (p, i + 1) ∈ ids t) (hk : (evAt t (p, i + 1)).kind = 3) :
    mtx t (p, i + 1) = tickM (recvM (mtx t (p, i)) p (mtx t (sndr t (p, i + 1))) (sndr t (p, i + 1)).1) p := by
  obtain ⟨hp, hi⟩ := mem_ids2.1 hx
  obtain ⟨hs, hb⟩ := sndr_in hv hx hk
  have st : ∀ q, q < t.length → vc t (p, i + 1) q = max (vc t (p, i) q) (vc t (sndr t (p, i + 1)) q) + if q = p then 1 else 0 := fun q hq => by rw [vc_stepA hv hx hq, if_pos hk]
  generalize hsd : sndr t (p, i + 1) = s at *
  obtain ⟨sp, si⟩ := s
  obtain ⟨hsp, hs1, hs2⟩ := mem_ids.1 hs
  simp only at hsp hs1 hs2
  have hsl : si ≤ (evsOf t sp).length := by rw [evsOf_lt hsp]; exact hs2
  have hsi : vc t (sp, si) sp = si := vc_self hv hsp hsl
  have hle : vc t (sp, si) p ≤ i := by
    refine Nat.le_of_not_lt fun h => ?_
    have := (vc_iff (x := (sp, si)) hi).2 h
    have h2 := rk_lt hv hx hb
    rcases this with h3 | h3
    · rw [h3] at h2; omega
    · have h4 := rk_lt hv hs h3; omega
  have hrl : ∀ x q, q < t.length → (rowAt (mtx t x) q).length = t.length := fun x q hq => by rw [mtx_row hq, fl_len]
  have hrg : ∀ x q j, q < t.length → j < t.length → (rowAt (mtx t x) q).getD j 0 = mE t x q j := fun x q j hq hj => by rw [mtx_row hq, fl_getD hj]
  have hml : (recvM (mtx t (p, i)) p (mtx t (sp, si)) sp).length = t.length := by unfold recvM; rw [fl_len, mtx_len]
  have hrow : ∀ q, q < t.length → rowAt (recvM (mtx t (p, i)) p (mtx t (sp, si)) sp) q = fl t.length fun j => if q = p then max (max (mE t (p, i) p j : Int) (mE t (sp, si) p j)) (mE t (sp, si) sp j) else max (mE t (p, i) q j : Int) (mE t (sp, si) q j) := by
    intro q hq
    rw [recvM_row (by rw [mtx_len]; exact hq)]
    unfold recvF
    by_cases hqp : q = p
    · rw [if_pos hqp, joinV_fl (hrl _ _ hp) (hrl _ _ hp), joinV_fl (n := t.length) fl_len (hrl _ _ hsp)]
      refine fl_congr (fun j hj => ?_)
      rw [if_pos hqp, fl_getD hj, hrg _ _ _ hp hj, hrg _ _ _ hp hj, hrg _ _ _ hsp hj]
    · rw [if_neg hqp, joinV_fl (hrl _ _ hq) (hrl _ _ hq)]
      refine fl_congr (fun j hj => ?_)
      rw [if_neg hqp, hrg _ _ _ hq hj, hrg _ _ _ hq hj]
  have ep : ∀ j, j < t.length → max (max (mE t (p, i) p j : Int) (mE t (sp, si) p j)) (mE t (sp, si) sp j) = max (vc t (p, i) j : Int) (vc t (sp, si) j) := by
    intro j hj
    have a1 : mE t (p, i) p j = vc t (p, i) j := by unfold mE; rw [vc_self hv hp (by omega)]
    have a2 : mE t (sp, si) sp j = vc t (sp, si) j := by unfold mE; rw [hsi]
    have a3 : mE t (sp, si) p j ≤ vc t (p, i) j := by unfold mE; exact vc_row hle (by omega)
    rw [a1, a2]; omega
  unfold tickM
  rw [hml]
  unfold mtx
  refine fl_congr (fun q hq => ?_)
  by_cases hqp : q = p
  · subst hqp
    rw [if_pos rfl]
    unfold ent
    have e3 := hrow q hq
    unfold mtx at e3
    rw [e3, fl_set]
    refine fl_congr (fun j hj => ?_)
    have e1 : mE t (q, i + 1) q j = vc t (q, i + 1) j := by unfold mE; rw [vc_own hv hx]
    rw [e1, st j hj]
    by_cases hjq : j = q
    · subst hjq
      rw [fUp_same, if_pos rfl, fl_getD hj, if_pos rfl, ep j hj]; omega
    · rw [fUp_ne hjq, if_neg hjq, if_pos rfl, ep j hj]; omega
  · rw [if_neg hqp]
    have e3 := hrow q hq
    unfold mtx at e3
    rw [e3]
    refine fl_congr (fun j hj => ?_)
    rw [if_neg hqp]
    have e4 : mE t (p, i + 1) q j = max (mE t (p, i) q j) (mE t (sp, si) q j) := by
      unfold mE
      rw [st q hq, if_neg hqp, Nat.add_zero, vc_max vc_le vc_le]
    rw [e4]; omega
end Go.Proofs.Ytoaopldaleaijaa

namespace Go.Proofs.Ytoaopldaleaijaa
set_option linter.unusedVariables false
set_option linter.unusedSimpArgs false
attribute [local go_sem ↓] run_skip run_region run_draw run_seq run_block run_exit run_ret run_cond atN_app seqC_normal seqC_exit seqC_ret seqQ_normal seqQ_exit seqQ_ret blkQ_normal blkQ_exit blkQ_ret runOps_nil runOps_cons runD_nil runD_cons grdO_true grdO_false grdD_true grdD_false ifC_true ifC_false opS_val opS_call opS_two opK_app dS_val dS_call dS_two dK_app kUp_same kUp_ne
attribute [local go_sem] rechks_nil rechks_cons rechk gcase_true gcase_false ex_val ex_val0 gd_none gd_some ev_t ev_c evs_nil evs_cons evo_some evo_none hget_at hget_first hsetB_at hsetB_first hsetL_at hsetL_first ofOpt_some aop aload astore aslice aappend aiaddr aiaddrA afaddr alen alenS acopy amm acall alookup amupdate alenM comma keyEq apick binV binVB binVS isSh intOp strOp boolOp shOp eqC eqF and2 cellsOf setFrom fillA fillS rd rdI elems mk bounds AV.cell List.all_cons List.all_nil Bool.and_true Bool.true_and Bool.and_self List.length_cons List.length_nil List.length_append Nat.reduceAdd Nat.reduceSub Nat.reduceMul Nat.zero_add Nat.add_zero List.cons_append List.nil_append List.append_assoc List.append_nil List.getElem?_cons_zero List.getElem?_cons_succ List.getElem?_nil List.set_cons_zero List.set_cons_succ List.drop_zero List.drop_succ_cons List.take_zero List.take_succ_cons List.take_nil List.drop_nil List.map_cons List.map_nil Option.map_some if_true if_false Bool.false_eq_true and_self true_and and_true Nat.reduceLeDiff Nat.reduceLT Nat.le_refl Nat.reduceEqDiff ite_true ite_false beq_self_eq_true beq_true beq_false Bool.not_true Bool.not_false Bool.true_beq Bool.false_beq map_vs vs_len vs_get vs_take vs_drop vs_snoc1 vs_snoc2 vs_snoc3 vs_snoc5 vs_set1 vs_set2 vs_rep wrap_id le_T lt_T le_F lt_F leI_T ltI_T leI_F ltI_F geI gtI get_T decide_true decide_false room List.getElem?_map List.length_map List.length_take Int.toNat_natCast Nat.min_def Nat.min_self nth_kOf put_kOf put_kNo kOv_cons kOv_nil KHas KArgs List.getElem_cons_zero List.getElem_cons_succ
theorem hget_low {B : List Row} {s : Nat} {r : Row} (h : B[s]? = some r) (l : List Row) : hget B l s = some r := by
  unfold hget; rw [if_pos (List.getElem?_eq_some_iff.1 h).1, h]
end Go.Proofs.Ytoaopldaleaijaa

namespace Go.Proofs.Ytoaopldaleaijaa
set_option linter.unusedVariables false
set_option linter.unusedSimpArgs false
attribute [local go_sem ↓] run_skip run_region run_draw run_seq run_block run_exit run_ret run_cond atN_app seqC_normal seqC_exit seqC_ret seqQ_normal seqQ_exit seqQ_ret blkQ_normal blkQ_exit blkQ_ret runOps_nil runOps_cons runD_nil runD_cons grdO_true grdO_false grdD_true grdD_false ifC_true ifC_false opS_val opS_call opS_two opK_app dS_val dS_call dS_two dK_app kUp_same kUp_ne
attribute [local go_sem] rechks_nil rechks_cons rechk gcase_true gcase_false ex_val ex_val0 gd_none gd_some ev_t ev_c evs_nil evs_cons evo_some evo_none hget_at hget_first hsetB_at hsetB_first hsetL_at hsetL_first ofOpt_some aop aload astore aslice aappend aiaddr aiaddrA afaddr alen alenS acopy amm acall alookup amupdate alenM comma keyEq apick binV binVB binVS isSh intOp strOp boolOp shOp eqC eqF and2 cellsOf setFrom fillA fillS rd rdI elems mk bounds AV.cell List.all_cons List.all_nil Bool.and_true Bool.true_and Bool.and_self List.length_cons List.length_nil List.length_append Nat.reduceAdd Nat.reduceSub Nat.reduceMul Nat.zero_add Nat.add_zero List.cons_append List.nil_append List.append_assoc List.append_nil List.getElem?_cons_zero List.getElem?_cons_succ List.getElem?_nil List.set_cons_zero List.set_cons_succ List.drop_zero List.drop_succ_cons List.take_zero List.take_succ_cons List.take_nil List.drop_nil List.map_cons List.map_nil Option.map_some if_true if_false Bool.false_eq_true and_self true_and and_true Nat.reduceLeDiff Nat.reduceLT Nat.le_refl Nat.reduceEqDiff ite_true ite_false beq_self_eq_true beq_true beq_false Bool.not_true Bool.not_false Bool.true_beq Bool.false_beq map_vs vs_len vs_get vs_take vs_drop vs_snoc1 vs_snoc2 vs_snoc3 vs_snoc5 vs_set1 vs_set2 vs_rep wrap_id le_T lt_T le_F lt_F leI_T ltI_T leI_F ltI_F geI gtI get_T decide_true decide_false room List.getElem?_map List.length_map List.length_take Int.toNat_natCast Nat.min_def Nat.min_self nth_kOf put_kOf put_kNo kOv_cons kOv_nil KHas KArgs List.getElem_cons_zero List.getElem_cons_succ
section
variable {α : Type} {n : Nat} {C : Nat → α} {T : List α}
theorem fa_at {p : Nat} (h : p < n) : (fl n C ++ T)[p]? = some (C p) := by rw [List.getElem?_append_left (by rw [fl_len]; exact h), fl_get h]
theorem fa_tail {j : Nat} : (fl n C ++ T)[n + j]? = T[j]? := by rw [List.getElem?_append_right (by rw [fl_len]; omega), fl_len, Nat.add_sub_cancel_left]
theorem fa_tail0 : (fl n C ++ T)[n]? = T[0]? := fa_tail (j := 0)
theorem fa_set {p : Nat} {x : α} (h : p < n) : (fl n C ++ T).set p x = fl n (fUp C p x) ++ T := by rw [List.set_append_left _ _ (by rw [fl_len]; exact h), fl_set]
theorem fa_settail {j : Nat} {x : α} : (fl n C ++ T).set (n + j) x = fl n C ++ T.set j x := by rw [List.set_append_right _ _ (by rw [fl_len]; omega), fl_len, Nat.add_sub_cancel_left]
theorem fa_settail0 {x : α} : (fl n C ++ T).set n x = fl n C ++ T.set 0 x := fa_settail (j := 0)
end
end Go.Proofs.Ytoaopldaleaijaa

namespace Go.Proofs.Ytoaopldaleaijaa
set_option linter.unusedVariables false
set_option linter.unusedSimpArgs false
attribute [local go_sem ↓] run_skip run_region run_draw run_seq run_block run_exit run_ret run_cond atN_app seqC_normal seqC_exit seqC_ret seqQ_normal seqQ_exit seqQ_ret blkQ_normal blkQ_exit blkQ_ret runOps_nil runOps_cons runD_nil runD_cons grdO_true grdO_false grdD_true grdD_false ifC_true ifC_false opS_val opS_call opS_two opK_app dS_val dS_call dS_two dK_app kUp_same kUp_ne
attribute [local go_sem] rechks_nil rechks_cons rechk gcase_true gcase_false ex_val ex_val0 gd_none gd_some ev_t ev_c evs_nil evs_cons evo_some evo_none hget_at hget_first hsetB_at hsetB_first hsetL_at hsetL_first ofOpt_some aop aload astore aslice aappend aiaddr aiaddrA afaddr alen alenS acopy amm acall alookup amupdate alenM comma keyEq apick binV binVB binVS isSh intOp strOp boolOp shOp eqC eqF and2 cellsOf setFrom fillA fillS rd rdI elems mk bounds AV.cell List.all_cons List.all_nil Bool.and_true Bool.true_and Bool.and_self List.length_cons List.length_nil List.length_append Nat.reduceAdd Nat.reduceSub Nat.reduceMul Nat.zero_add Nat.add_zero List.cons_append List.nil_append List.append_assoc List.append_nil List.getElem?_cons_zero List.getElem?_cons_succ List.getElem?_nil List.set_cons_zero List.set_cons_succ List.drop_zero List.drop_succ_cons List.take_zero List.take_succ_cons List.take_nil List.drop_nil List.map_cons List.map_nil Option.map_some if_true if_false Bool.false_eq_true and_self true_and and_true Nat.reduceLeDiff Nat.reduceLT Nat.le_refl Nat.reduceEqDiff ite_true ite_false beq_self_eq_true beq_true beq_false Bool.not_true Bool.not_false Bool.true_beq Bool.false_beq map_vs vs_len vs_get vs_take vs_drop vs_snoc1 vs_snoc2 vs_snoc3 vs_snoc5 vs_set1 vs_set2 vs_rep wrap_id le_T lt_T le_F lt_F leI_T ltI_T leI_F ltI_F geI gtI get_T decide_true decide_false room List.getElem?_map List.length_map List.length_take Int.toNat_natCast Nat.min_def Nat.min_self nth_kOf put_kOf put_kNo kOv_cons kOv_nil KHas KArgs List.getElem_cons_zero List.getElem_cons_succ
def Dn (t : Tr) (D : Nat → Nat) : Prop := ∀ p, p < t.length → D p ≤ (evsOf t p).length
/-- What a round has done since its start at D0, before process n. -/
def Prg (t : Tr) (D0 D : Nat → Nat) (ag : Bool) (n : Nat) : Prop := Dn t D ∧ (ag = false → D = D0 ∧ ∀ q, q < n → ¬ Rdy t D0 q) ∧ (ag = true → remT t D < remT t D0)
end Go.Proofs.Ytoaopldaleaijaa

namespace Go.Proofs.Ytoaopldaleaijaa
set_option linter.unusedVariables false
set_option linter.unusedSimpArgs false
attribute [local go_sem ↓] run_skip run_region run_draw run_seq run_block run_exit run_ret run_cond atN_app seqC_normal seqC_exit seqC_ret seqQ_normal seqQ_exit seqQ_ret blkQ_normal blkQ_exit blkQ_ret runOps_nil runOps_cons runD_nil runD_cons grdO_true grdO_false grdD_true grdD_false ifC_true ifC_false opS_val opS_call opS_two opK_app dS_val dS_call dS_two dK_app kUp_same kUp_ne
attribute [local go_sem] rechks_nil rechks_cons rechk gcase_true gcase_false ex_val ex_val0 gd_none gd_some ev_t ev_c evs_nil evs_cons evo_some evo_none hget_at hget_first hsetB_at hsetB_first hsetL_at hsetL_first ofOpt_some aop aload astore aslice aappend aiaddr aiaddrA afaddr alen alenS acopy amm acall alookup amupdate alenM comma keyEq apick binV binVB binVS isSh intOp strOp boolOp shOp eqC eqF and2 cellsOf setFrom fillA fillS rd rdI elems mk bounds AV.cell List.all_cons List.all_nil Bool.and_true Bool.true_and Bool.and_self List.length_cons List.length_nil List.length_append Nat.reduceAdd Nat.reduceSub Nat.reduceMul Nat.zero_add Nat.add_zero List.cons_append List.nil_append List.append_assoc List.append_nil List.getElem?_cons_zero List.getElem?_cons_succ List.getElem?_nil List.set_cons_zero List.set_cons_succ List.drop_zero List.drop_succ_cons List.take_zero List.take_succ_cons List.take_nil List.drop_nil List.map_cons List.map_nil Option.map_some if_true if_false Bool.false_eq_true and_self true_and and_true Nat.reduceLeDiff Nat.reduceLT Nat.le_refl Nat.reduceEqDiff ite_true ite_false beq_self_eq_true beq_true beq_false Bool.not_true Bool.not_false Bool.true_beq Bool.false_beq map_vs vs_len vs_get vs_take vs_drop vs_snoc1 vs_snoc2 vs_snoc3 vs_snoc5 vs_set1 vs_set2 vs_rep wrap_id le_T lt_T le_F lt_F leI_T ltI_T leI_F ltI_F geI gtI get_T decide_true decide_false room List.getElem?_map List.length_map List.length_take Int.toNat_natCast Nat.min_def Nat.min_self nth_kOf put_kOf put_kNo kOv_cons kOv_nil KHas KArgs List.getElem_cons_zero List.getElem_cons_succ
def a_IndE : AFunc := ⟨2, 19, [.tmp 4],
  (.seq (.region [⟨(some 4), .mv (.c (.v (.int .i64 0))), none⟩])
  (.seq (.seq (.region [⟨(some 6), .mv (.t 0), none⟩, ⟨(some 7), .len (.t 6), none⟩, ⟨(some 8), .mv (.c (.v (.int .i64 0))), none⟩])
  (.block 0 (.loop (.seq (.region [⟨(some 9), .bin .lss (.t 8) (.t 7), none⟩])
  (.seq (.cond (.t 9) .skip
  (.exit 0))
  (.seq (.block 1 (.seq (.region [⟨(some 10), .mv (.t 8), none⟩, ⟨(some 5), .mv (.t 10), none⟩])
  (.seq (.region [⟨(some 11), .mv (.t 1), none⟩, ⟨(some 12), .mv (.t 0), none⟩, ⟨(some 13), .mv (.t 5), none⟩, ⟨(some 14), .iaddr 5 (.t 12) (.t 13), none⟩, ⟨(some 15), .load (some 5) (.t 14), none⟩, ⟨(some 16), .call (.t 11) [(.t 15)], none⟩])
  (.cond (.t 16) (.seq (.region [⟨(some 17), .mv (.t 5), none⟩, ⟨(some 4), .mv (.t 17), none⟩])
  .ret)
  .skip))))
  (.region [⟨(some 18), .bin .add (.t 8) (.c (.v (.int .i64 1))), none⟩, ⟨(some 8), .mv (.t 18), none⟩])))))))
  (.seq (.region [⟨(some 4), .mv (.c (.v (.int .i64 (-1)))), none⟩])
  .ret)))⟩
theorem a_IndE_ok : cFunc Try.prog 24 = some a_IndE := by kernel_rfl
def r_IndE0 : List (Nat × Nat) := [(4, 5), (8, 18)]
def a_ConE : AFunc := ⟨2, 9, [.tmp 4],
  (.seq (.region [⟨(some 4), .mv (.c (.v (.bool false))), none⟩])
  (.seq (.region [⟨(some 5), .mv (.t 0), none⟩, ⟨(some 6), .mv (.t 1), none⟩, ⟨(some 7), .call (.c (.fn 24 [])) [(.t 5), (.t 6)], none⟩, ⟨(some 8), .bin .geq (.t 7) (.c (.v (.int .i64 0))), none⟩, ⟨(some 4), .mv (.t 8), none⟩])
  .ret))⟩
theorem a_ConE_ok : cFunc Try.prog 75 = some a_ConE := by kernel_rfl

theorem indexE_spec (v : List (Ev)) (k : Nat) (caps : List AV) (p : Nat → Bool) (hn : v.length ≤ 1000000) (b l : List Row)
    (hp : ∀ (i : Nat) (h : i < v.length), ACalls Try.prog k (.agg ((eEv v[i]).map .v) :: caps) (b ++ l) [] (fun r b' l' => r = .v (.bool (p i)) ∧ b' = b ++ l ∧ l' = [])) :
    ACalls Try.prog 24 [.v (.isl 5 (v.map eEv)), .fn k caps] b l (fun r b' l' => r = .v (.int .i64 (firstP p v.length)) ∧ b' = b ∧ l' = l) := by
  refine calls_kept a_IndE_ok rfl (by decide) ?_
  intro B g hB hR hE hA
  simp only [KArgs] at hA
  simp (disch := decide) only [a_IndE, hA, List.length_map, go_sem]
  refine loop_kept (ι := Nat) r_IndE0 (fun i => [(8, .v (.int .i64 i))]) 0 (fun _ => [])
    (fun i => i ≤ v.length ∧ ∀ j, j < i → p j = false) (fun i => v.length - i) 0 ⟨Nat.zero_le _, fun j hj => by omega⟩ (by (repeat (first | exact hE.mono (by omega) | refine KLt.up ?_ (by simp (disch := omega) only [AVlt_v, AVlt_any, AVlt_sl, AVlt_ptr, AVlt_mp, AVlt_agg, AVlt_tup, AVlt_fn, RowsLt_nil, RowsLt_live, RowsLt_dead, List.mem_cons, List.not_mem_nil, List.forall_mem_cons, List.forall_mem_nil, or_false, false_or, forall_eq_or_imp, forall_eq, vs_lt, Nat.add_lt_add_iff_left, Nat.reduceLT, true_and, and_true, and_self, List.length_cons, List.length_nil, Nat.reduceAdd, Nat.zero_add, implies_true, false_imp_iff, lt_T, List.mem_map])))) (by ((try simp (disch := decide) only [hA, go_sem]) <;> (repeat' (first | exact trivial | refine And.intro ?_ ?_)) <;> (first | rfl | (congr 2; omega)))) (fun e => Weak.refl _ _ _) ?_
  rintro g1 hE1 hEE1 hg1 i ⟨hi, h0⟩
  by_cases hlt : i < v.length
  · have hpi0 := hp i hlt
    try simp only [eEv, List.map_cons, List.map_nil] at hpi0
    simp (disch := (first | decide | omega)) only [hA, hg1, eEv, List.length_map, go_sem]
    refine ACalls_mono _ _ _ _ _ _ (hB ▸ hpi0) ?_
    rintro r b' l' ⟨rfl, rfl, rfl⟩
    cases hpi : p i
    · simp (disch := (first | decide | omega)) only [hA, hg1, hpi, go_sem]
      refine ⟨i + 1, ⟨hlt, fun j hj => ?_⟩, by simp only; omega, ?_⟩
      · rcases Nat.lt_or_ge j i with hji | hji
        · exact h0 j hji
        · have : j = i := by omega
          rw [this]; exact hpi
      exact Weak.kround (p := r_IndE0) (k := 0) (by ((repeat refine (kAny_up rfl).trans ?_); exact hEE1)) (by ((try simp (disch := decide) only [hA, go_sem]) <;> (repeat' (first | exact trivial | refine And.intro ?_ ?_)) <;> (first | rfl | (congr 2; omega)))) rfl hE1 (by simp) (by simp (disch := omega) only [KOvLt, AVlt_v, AVlt_any, AVlt_sl, AVlt_ptr, AVlt_mp, AVlt_agg, AVlt_tup, AVlt_fn, RowsLt_nil, RowsLt_live, RowsLt_dead, List.mem_cons, List.not_mem_nil, List.forall_mem_cons, List.forall_mem_nil, or_false, false_or, forall_eq_or_imp, forall_eq, vs_lt, Nat.add_lt_add_iff_left, Nat.reduceLT, true_and, and_true, and_self, List.length_cons, List.length_nil, Nat.reduceAdd, Nat.zero_add, implies_true, false_imp_iff, lt_T, List.mem_map]) hR (by simp (disch := omega) only [AVlt_v, AVlt_any, AVlt_sl, AVlt_ptr, AVlt_mp, AVlt_agg, AVlt_tup, AVlt_fn, RowsLt_nil, RowsLt_live, RowsLt_dead, List.mem_cons, List.not_mem_nil, List.forall_mem_cons, List.forall_mem_nil, or_false, false_or, forall_eq_or_imp, forall_eq, vs_lt, Nat.add_lt_add_iff_left, Nat.reduceLT, true_and, and_true, and_self, List.length_cons, List.length_nil, Nat.reduceAdd, Nat.zero_add, implies_true, false_imp_iff, lt_T, List.mem_map])
    · simp (disch := (first | decide | omega)) only [hA, hg1, hpi, go_sem]
      exact leave_pure (xs := [.v (.int .i64 i)]) (.inr rfl) (by simp (disch := (first | decide | omega)) only [resVs, resV, go_sem, hA, hg1]) (by simp only [one, AVlt_v, AVlt_any, AVlt_sl, AVlt_ptr, AVlt_mp, AVlt_agg, AVlt_tup, AVlt_fn, RowsLt_nil, RowsLt_live, RowsLt_dead, List.mem_cons, List.not_mem_nil, List.forall_mem_cons, List.forall_mem_nil, or_false, false_or, forall_eq_or_imp, forall_eq, vs_lt, Nat.add_lt_add_iff_left, Nat.reduceLT, true_and, and_true, and_self, List.length_cons, List.length_nil, Nat.reduceAdd, Nat.zero_add, implies_true, false_imp_iff, lt_T, List.mem_map]) hR hB ⟨by rw [firstP_at hlt h0 hpi]; rfl, rfl, rfl⟩
  · simp (disch := (first | decide | omega)) only [hA, hg1, List.length_map, go_sem]
    obtain rfl : i = v.length := by omega
    exact leave_pure (xs := [.v (.int .i64 (-1))]) (.inr rfl) (by simp (disch := (first | decide | omega)) only [resVs, resV, go_sem, hA, hg1]) (by simp only [one, AVlt_v, AVlt_any, AVlt_sl, AVlt_ptr, AVlt_mp, AVlt_agg, AVlt_tup, AVlt_fn, RowsLt_nil, RowsLt_live, RowsLt_dead, List.mem_cons, List.not_mem_nil, List.forall_mem_cons, List.forall_mem_nil, or_false, false_or, forall_eq_or_imp, forall_eq, vs_lt, Nat.add_lt_add_iff_left, Nat.reduceLT, true_and, and_true, and_self, List.length_cons, List.length_nil, Nat.reduceAdd, Nat.zero_add, implies_true, false_imp_iff, lt_T, List.mem_map]) hR hB ⟨by rw [firstP_none h0]; rfl, rfl, rfl⟩
end Go.Proofs.Ytoaopldaleaijaa
