/- Texts of one proof, laid together: PF, PH, TS. No condition. -/
import Derived.Test.YtnnnccibhhnbaaaST7
import Derived.Test.YtnnnccibhhnbaaaST6
namespace Go.Proofs.Ytnnnccibhhnbaaa
open Go.RowKit
set_option linter.unusedVariables false
attribute [local go_sem] Oper.semAt_some

def RInt (w : World) (b o : Nat) (x : Int) : Prop := w.cell? ⟨b, o, none⟩ = some (.int .i64 x)
theorem RInt.keeps : Keeps RInt := fun _ _ _ _ _ he h => he.cellAt h
def cAt (cs : List Int) (p : Nat) : Int := cs.getD p 0
def rangeB (t : Tr) (cs : List Int) (p : Nat) : Bool := inB (cAt cs p) 0 (evsOf t p).length
/-- A receive in the cut whose sending is not in it. -/
def badL (t : Tr) (cs : List Int) (x : Nat × Nat) : Bool :=
  (evAt t x).kind == 3 && (!decide ((x.2 : Int) > cAt cs x.1) && decide (((firstOf t (ids t) 2 (evAt t x).msg).2 : Int) > cAt cs (firstOf t (ids t) 2 (evAt t x).msg).1))
noncomputable def prefC (t : Tr) (cs : List Int) : Nat :=
  if validL t = false ∨ cs.length ≠ t.length then 1 else if (List.range cs.length).all (rangeB t cs) = false then 2 else if (ids t).any (badL t cs) = true then 18 else 0
def PfPost (t : Tr) (cs : List Int) (F : Nat → Prop) (w : World) (e : Ending) (w' : World) : Prop := Ext w w' ∧
  ∃ v, e = .returned (.tuple #[v, .int .i64 (prefC t cs)]) ∧
    ((prefC t cs ≠ 0 ∧ ∃ s, v = .agg #[.slice s 0 0]) ∨ (prefC t cs = 0 ∧ ∃ F' : Nat → Prop, (∀ b, F b → F' b) ∧ (∀ b, b < w.heap.size → F' b → F b) ∧ (∀ b, F' b → b < w'.heap.size) ∧ RepA w' F' (fun _ _ => none) (.agg [.v (eT (firstL t cs))]) v))

theorem repL_cons' {w : World} {F : Nat → Prop} {L : LMap} {x : AV} {xs : List AV} {vs : List Value} (h : RepL w F L (x :: xs) vs) : ∃ v us, vs = v :: us ∧ RepA w F L x v ∧ RepL w F L xs us := by
  obtain ⟨h1, h2⟩ := h
  cases vs with
  | nil => simp at h1
  | cons v us => exact ⟨v, us, rfl, h2 0 x v rfl rfl, by simpa using h1, fun i a u ha hu => h2 (i + 1) a u ha hu⟩
theorem repL_nil' {w : World} {F : Nat → Prop} {L : LMap} {vs : List Value} (h : RepL w F L [] vs) : vs = [] := by
  have := h.1
  exact List.eq_nil_of_length_eq_zero (by simpa using this.symm)
structure ValidOk (t : Tr) : Prop where
  lo : 1 ≤ t.length
  hi : t.length ≤ 8
  head : ∀ p, p < t.length → headF t p = 0
  form : ∀ x ∈ ids t, formF t x = 0
  pair : ∀ x ∈ ids t, pairF t x = 0
  acyc : ∀ x ∈ ids t, ¬ Hb t x x
theorem valid_ok {t : Tr} (h : validL t = true) : ValidOk t := by
  unfold validL faultL at h
  split at h
  · simp at h
  rename_i hl
  split at h
  · rename_i p hp
    have := List.find?_some hp
    simp at h this; exact absurd h this
  rename_i h1
  split at h
  · rename_i p hp
    have := List.find?_some hp
    simp at h this; exact absurd h this
  rename_i h2
  split at h
  · rename_i p hp
    have := List.find?_some hp
    simp at h this; exact absurd h this
  rename_i h3
  split at h
  · simp at h
  rename_i h4
  rw [List.find?_eq_none] at h1 h2 h3 h4
  refine ⟨by omega, by omega, fun p hp => ?_, fun x hx => ?_, fun x hx => ?_, fun x hx => ?_⟩
  · simpa using h1 p (List.mem_range.2 hp)
  · simpa using h2 x hx
  · simpa using h3 x hx
  · simpa using h4 x hx
theorem valid_form {t : Tr} (h : validL t = true) : ∀ x ∈ ids t, formedB t.length x.1 (evAt t x) = true := fun x hx => formF_formed ((valid_ok h).form x hx)
theorem valid_pairs {t : Tr} (h : validL t = true) : (ids t).find? (fun x => pairF t x != 0) = none := by
  rw [List.find?_eq_none]; intro x hx; simp [(valid_ok h).pair x hx]

theorem first_mem (t : Tr) (cs : List Int) (hC : CutOk t cs) (F : Nat → Prop) (w : World) (hF : ∀ b, F b → b < w.heap.size) {u uc : Value} (hu : RepI w F (eT t) u) (huc : RepI w F (.isl 1 (cs.map eI)) uc) :
    Calls Try.prog 101 #[.agg #[u], uc] w fun e w' => ∃ v F1, e = .returned (.agg #[v]) ∧ Ext w w' ∧ (∀ b, F b → F1 b) ∧ (∀ b, b < w.heap.size → F1 b → F b) ∧ (∀ b, F1 b → b < w'.heap.size) ∧ RepA w' F1 (fun _ _ => none) (.agg [.v (eT (firstL t cs))]) (.agg #[v]) ∧ ∃ A n c, v = .slice A n c := by
  refine Calls.mono ((first_spec t cs hC [] []).2 F (fun _ _ => none) w _ (sim_nil hF) (RepL.cons (RepL.agg (vs := #[u]) (RepL.cons (.v _ _ hu) RepL.nil)) (RepL.cons (.v _ _ huc) RepL.nil))) ?_
  rintro en w' ⟨v, x, b', l', F', L', rfl, h2, h3, h4, h5, rfl, rfl, rfl⟩
  obtain ⟨vs, rfl, hl⟩ := h2.aggL
  obtain ⟨v, us, h6, h7, h8⟩ := repL_cons' hl
  have := repL_nil' h8
  subst this
  have hvs : vs = #[v] := Array.toList_inj.1 (by rw [h6])
  subst hvs
  refine ⟨v, F', rfl, step_nil_block h4, h4.imm, fun b hb hf => (h4.fnew b hb hf).elim id (fun ho => ?_), fun b hb => (h3.imm b hb).1, h2.cut (m := 0) (.agg _ (by intro c hc; simp at hc; subst hc; exact .v _)) (fun _ _ h => absurd h (Nat.not_lt_zero _)), ?_⟩
  case refine_2 =>
    obtain ⟨A, c, hv, _⟩ := repI_isl h7.vI
    exact ⟨A, _, c, hv⟩
  obtain ⟨i, v, s, e1, q, g1, g2, g3⟩ := ho
  cases g2
def PfI (t : Tr) (cs : List Int) (W0 : World) (l : List (Nat × Nat)) (W : World) : Prop := Ext W0 W ∧ ∀ x ∈ l, badL t cs x = false
def CellsAt (b : Nat) (p : Array Value → Prop) (W : World) : Prop := ∃ T c, BoxN W b T c ∧ p c
theorem cellsAt_from {β : Type} (b n : Nat) (p : Array Value → Prop) : OwnFrom n (fun (_ : β) W => CellsAt b p W) := by
  rintro s X Y row ⟨T, c, h, hp⟩ hg hrow
  exact ⟨T, c, h.kept hg (fun e' => by obtain ⟨_, o, ho, hc⟩ := hrow b e'.symm; rw [show X.heap[b]? = _ from h] at ho; cases ho; cases hc), hp⟩
def PfX (t : Tr) (cs : List Int) (w : World) (l : List (Nat × Nat)) (W : World) : Prop :=
  (∃ x, x ∈ l ∧ badL t cs x = true) ∧ CellsAt (w.heap.size + 1 + 1) (fun c => ∃ s, c[0]? = some (.slice s 0 0)) W ∧ CellsAt (w.heap.size + 1 + 1 + 1) (fun c => c[0]? = some (.int .i64 18)) W ∧ Ext w W
theorem pfi_from (t : Tr) (cs : List Int) (W0 : World) {n : Nat} (hn : W0.heap.size ≤ n) : OwnFrom n (fun (pre : List (Idt t)) W => PfI t cs W0 (pre.map (·.1)) W) :=
  OwnFrom.and (ext_from hn) (ownFrom_pure _ _)
theorem pfx_from (t : Tr) (cs : List Int) (w : World) {n : Nat} (hn : w.heap.size ≤ n) : OwnFrom n (fun (pre : List (Idt t)) W => PfX t cs w (pre.map (·.1)) W) :=
  OwnFrom.and (ownFrom_pure _ _) (OwnFrom.and (cellsAt_from _ _ _) (OwnFrom.and (cellsAt_from _ _ _) (ext_from hn)))

set_option maxRecDepth 100000 in
set_option maxHeartbeats 4000000 in
theorem Prefix_any (u uc : Value) (t : Tr) (cs : List Int) (F : Nat → Prop) (w : World) (hS : Small t) (hc : cs.length ≤ 1000000) (hN : Nm t) (hF : ∀ b, F b → b < w.heap.size) (hu : RepI w F (eT t) u) (huc : RepI w F (.isl 1 (cs.map eI)) uc) :
    Calls Try.prog 46 #[.agg #[u], uc] w fun e w' => PfPost t cs F w e w' := by
  have hs : SlR 3 RPr w u t := tr_in hN hu
  have hsc : SlR 1 RInt w uc cs := slr_of_rep (fun b o x _ h => rowInt (j := 0) h rfl) huc
  have HV := hide (fun w' (he : Ext w w') => callsIn_wide (n := 8).2 (Valid_any u t w' hS.sm (hs.ext RPr.keeps he)))
  have HI := hide (fun x lo hi w => callsIn_wide (n := 8).2 (in_any x lo hi w))
  have HU := hide hu
  have HUC := hide huc
  refine callsIn_wide (n := 9).1 ?_
  refine callsIn_of_wp_marks Try.func46 rfl trivial ?_ rfl
  simp only [Try.ntmps46, List.size_toArray, List.length_cons, List.length_nil, Nat.reduceAdd, Nat.reduceSub, Array.replicate_succ, Array.replicate_zero, List.push_toArray, List.append_toArray, List.nil_append, List.cons_append]
  obtain ⟨A, c, rfl, _, hcm, _⟩ := hs.at_
  obtain ⟨A2, c2, rfl, _, hcm2, _⟩ := hsc.at_
  gi_wp2_with fail
  refine ⟨trivial, ?_⟩
  have hx1 : Ext w (((((w).alloc (.cells #[.slice A t.length c] 24)).alloc (.cells #[.slice A2 cs.length c2] 41)).alloc (.cells #[.slice none 0 0] 24)).alloc (.cells #[.int .i64 0] 31)) := ((((Ext.refl w).alloc _).alloc _).alloc _).alloc _
  have bT : BoxN (((((w).alloc (.cells #[.slice A t.length c] 24)).alloc (.cells #[.slice A2 cs.length c2] 41)).alloc (.cells #[.slice none 0 0] 24)).alloc (.cells #[.int .i64 0] 31)) (w.heap.size) 24 #[.slice A t.length c] := (((BoxN.new _ _ _).alloc _).alloc _).alloc _
  have bC : BoxN (((((w).alloc (.cells #[.slice A t.length c] 24)).alloc (.cells #[.slice A2 cs.length c2] 41)).alloc (.cells #[.slice none 0 0] 24)).alloc (.cells #[.int .i64 0] 31)) (w.heap.size + 1) 41 #[.slice A2 cs.length c2] := ((BoxN.newAt _ _ (by simp)).alloc _).alloc _
  have b3 : BoxN (((((w).alloc (.cells #[.slice A t.length c] 24)).alloc (.cells #[.slice A2 cs.length c2] 41)).alloc (.cells #[.slice none 0 0] 24)).alloc (.cells #[.int .i64 0] 31)) (w.heap.size + 1 + 1) 24 #[.slice none 0 0] := (BoxN.newAt _ _ (by simp)).alloc _
  have b4 : BoxN (((((w).alloc (.cells #[.slice A t.length c] 24)).alloc (.cells #[.slice A2 cs.length c2] 41)).alloc (.cells #[.slice none 0 0] 24)).alloc (.cells #[.int .i64 0] 31)) (w.heap.size + 1 + 1 + 1) 31 #[.int .i64 0] := BoxN.newAt _ _ (by simp)
  generalize ((((w).alloc (.cells #[.slice A t.length c] 24)).alloc (.cells #[.slice A2 cs.length c2] 41)).alloc (.cells #[.slice none 0 0] 24)).alloc (.cells #[.int .i64 0] 31) = W1 at *
  refine (HV.out _ hx1).mono ?_
  rintro e w2 ⟨rfl, he2⟩
  replace hx1 := hx1.trans he2
  replace b3 := b3.ext he2
  replace b4 := b4.ext he2
  replace bT := bT.ext he2
  replace bC := bC.ext he2
  clear he2
  have f3 := b3.frozen 0
  have f4 := b4.frozen 0
  have r3 : w2.cell? ⟨w.heap.size + 1 + 1, 0, none⟩ = some (.slice none 0 0) := b3.cell (j := 0) rfl
  have r4 : w2.cell? ⟨w.heap.size + 1 + 1 + 1, 0, none⟩ = some (.int .i64 0) := b4.cell (j := 0) rfl
  have t0 : w2.cell? ⟨w.heap.size, 0, none⟩ = some (.slice A t.length c) := bT.cell (j := 0) rfl
  have tc : w2.cell? ⟨w.heap.size + 1, 0, none⟩ = some (.slice A2 cs.length c2) := bC.cell (j := 0) rfl
  -- an error: what is left
  have FIN : ∀ (wr : World) (k : Nat), Ext w wr → BoxN wr (w.heap.size + 1 + 1) 24 #[.slice none 0 0] → BoxN wr (w.heap.size + 1 + 1 + 1) 31 #[.int .i64 k] → k ≠ 0 → prefC t cs = k → PfPost t cs F w (.returned (.tuple #[.agg #[.slice none 0 0], .int .i64 k])) wr := by
    intro wr k h1 _ _ h2 h3
    exact ⟨h1, _, by rw [h3], .inl ⟨by rw [h3]; exact h2, _, rfl⟩⟩
  cases hv : validL t
  · have HC := hide (show prefC t cs = 1 by unfold prefC; rw [if_pos (.inl hv)])
    clear hv
    gi_wp2_with fail
    obtain ⟨Wr, hWr⟩ : ∃ Wr, (w2.setCell ⟨w.heap.size + 1 + 1, 0, none⟩ (Value.slice none 0 0)).setCell ⟨w.heap.size + 1 + 1 + 1, 0, none⟩ (Value.int .i64 1) = Wr := ⟨_, rfl⟩
    rw [hWr]
    have s1 : BoxN Wr (w.heap.size + 1 + 1) 24 #[.slice none 0 0] := by rw [← hWr]; ((repeat (first | with_reducible assumption | with_reducible exact KeepsFrom.refl _ _ | with_reducible refine KF.set ?_ _ _ | with_reducible refine KF.alloc ?_ _ | with_reducible refine KF.drew ?_ | with_reducible refine KF.drewN ?_ _ | with_reducible refine KF.ext ?_ (by assumption) | with_reducible exact Below.refl _ _ | with_reducible refine BL.set ?_ _ _ _ (by omega) | with_reducible refine BL.alloc ?_ _ (by omega) | with_reducible refine BL.drew ?_ | with_reducible refine BL.drewN ?_ _ | with_reducible refine BL.ext ?_ (by assumption) (by omega) | with_reducible exact Ext.refl _ | with_reducible refine Ext.set ?_ (by omega) _ | with_reducible refine Ext.alloc ?_ _ | with_reducible refine Ext.drew ?_ | with_reducible refine Ext.drewN ?_ _ | with_reducible refine Ext.trans ?_ (by assumption) | with_reducible refine BoxN.alloc ?_ _ | with_reducible refine BoxN.drew ?_ | with_reducible refine BoxN.drewN ?_ _ | with_reducible refine BoxN.other ?_ (by omega) _ | with_reducible refine BoxN.set ?_ _ _ | with_reducible apply BoxN.set1 | with_reducible apply BoxN.set2_1 | with_reducible apply BoxN.set2_0 | with_reducible apply BoxN.set5_4 | with_reducible apply BoxN.set5_3 | with_reducible apply BoxN.set5_2 | with_reducible apply BoxN.set5_1 | with_reducible apply BoxN.set5_0 | with_reducible apply BoxN.set3_2 | with_reducible apply BoxN.set3_1 | with_reducible apply BoxN.set3_0 | with_reducible apply BoxN.set4_3 | with_reducible apply BoxN.set4_2 | with_reducible apply BoxN.set4_1 | with_reducible apply BoxN.set4_0 | with_reducible refine BoxN.ext ?_ (by assumption))); done)
    have s2 : BoxN Wr (w.heap.size + 1 + 1 + 1) 31 #[.int .i64 1] := by rw [← hWr]; ((repeat (first | with_reducible assumption | with_reducible exact KeepsFrom.refl _ _ | with_reducible refine KF.set ?_ _ _ | with_reducible refine KF.alloc ?_ _ | with_reducible refine KF.drew ?_ | with_reducible refine KF.drewN ?_ _ | with_reducible refine KF.ext ?_ (by assumption) | with_reducible exact Below.refl _ _ | with_reducible refine BL.set ?_ _ _ _ (by omega) | with_reducible refine BL.alloc ?_ _ (by omega) | with_reducible refine BL.drew ?_ | with_reducible refine BL.drewN ?_ _ | with_reducible refine BL.ext ?_ (by assumption) (by omega) | with_reducible exact Ext.refl _ | with_reducible refine Ext.set ?_ (by omega) _ | with_reducible refine Ext.alloc ?_ _ | with_reducible refine Ext.drew ?_ | with_reducible refine Ext.drewN ?_ _ | with_reducible refine Ext.trans ?_ (by assumption) | with_reducible refine BoxN.alloc ?_ _ | with_reducible refine BoxN.drew ?_ | with_reducible refine BoxN.drewN ?_ _ | with_reducible refine BoxN.other ?_ (by omega) _ | with_reducible refine BoxN.set ?_ _ _ | with_reducible apply BoxN.set1 | with_reducible apply BoxN.set2_1 | with_reducible apply BoxN.set2_0 | with_reducible apply BoxN.set5_4 | with_reducible apply BoxN.set5_3 | with_reducible apply BoxN.set5_2 | with_reducible apply BoxN.set5_1 | with_reducible apply BoxN.set5_0 | with_reducible apply BoxN.set3_2 | with_reducible apply BoxN.set3_1 | with_reducible apply BoxN.set3_0 | with_reducible apply BoxN.set4_3 | with_reducible apply BoxN.set4_2 | with_reducible apply BoxN.set4_1 | with_reducible apply BoxN.set4_0 | with_reducible refine BoxN.ext ?_ (by assumption))); done)
    have sx : Ext w Wr := by rw [← hWr]; ((repeat (first | with_reducible assumption | with_reducible exact KeepsFrom.refl _ _ | with_reducible refine KF.set ?_ _ _ | with_reducible refine KF.alloc ?_ _ | with_reducible refine KF.drew ?_ | with_reducible refine KF.drewN ?_ _ | with_reducible refine KF.ext ?_ (by assumption) | with_reducible exact Below.refl _ _ | with_reducible refine BL.set ?_ _ _ _ (by omega) | with_reducible refine BL.alloc ?_ _ (by omega) | with_reducible refine BL.drew ?_ | with_reducible refine BL.drewN ?_ _ | with_reducible refine BL.ext ?_ (by assumption) (by omega) | with_reducible exact Ext.refl _ | with_reducible refine Ext.set ?_ (by omega) _ | with_reducible refine Ext.alloc ?_ _ | with_reducible refine Ext.drew ?_ | with_reducible refine Ext.drewN ?_ _ | with_reducible refine Ext.trans ?_ (by assumption) | with_reducible refine BoxN.alloc ?_ _ | with_reducible refine BoxN.drew ?_ | with_reducible refine BoxN.drewN ?_ _ | with_reducible refine BoxN.other ?_ (by omega) _ | with_reducible refine BoxN.set ?_ _ _ | with_reducible apply BoxN.set1 | with_reducible apply BoxN.set2_1 | with_reducible apply BoxN.set2_0 | with_reducible apply BoxN.set5_4 | with_reducible apply BoxN.set5_3 | with_reducible apply BoxN.set5_2 | with_reducible apply BoxN.set5_1 | with_reducible apply BoxN.set5_0 | with_reducible apply BoxN.set3_2 | with_reducible apply BoxN.set3_1 | with_reducible apply BoxN.set3_0 | with_reducible apply BoxN.set4_3 | with_reducible apply BoxN.set4_2 | with_reducible apply BoxN.set4_1 | with_reducible apply BoxN.set4_0 | with_reducible refine BoxN.ext ?_ (by assumption))); done)
    clear hWr
    exact ⟨.tuple #[.agg #[.slice none 0 0], .int .i64 1], by simp [results, Try.f46, go_sem, s1.cell (j := 0) rfl, s2.cell (j := 0) rfl], FIN Wr 1 sx s1 s2 (by decide) HC.out⟩
  · have HVL := hide hv
    clear hv
    by_cases hlen : cs.length = t.length
    case neg =>
      have hd : ((cs.length : Int) != (t.length : Int)) = true := by simp; omega
      have HC := hide (show prefC t cs = 1 by unfold prefC; rw [if_pos (.inr hlen)])
      clear hlen
      gi_wp2_with fail
      obtain ⟨Wr, hWr⟩ : ∃ Wr, (w2.setCell ⟨w.heap.size + 1 + 1, 0, none⟩ (Value.slice none 0 0)).setCell ⟨w.heap.size + 1 + 1 + 1, 0, none⟩ (Value.int .i64 1) = Wr := ⟨_, rfl⟩
      rw [hWr]
      have s1 : BoxN Wr (w.heap.size + 1 + 1) 24 #[.slice none 0 0] := by rw [← hWr]; ((repeat (first | with_reducible assumption | with_reducible exact KeepsFrom.refl _ _ | with_reducible refine KF.set ?_ _ _ | with_reducible refine KF.alloc ?_ _ | with_reducible refine KF.drew ?_ | with_reducible refine KF.drewN ?_ _ | with_reducible refine KF.ext ?_ (by assumption) | with_reducible exact Below.refl _ _ | with_reducible refine BL.set ?_ _ _ _ (by omega) | with_reducible refine BL.alloc ?_ _ (by omega) | with_reducible refine BL.drew ?_ | with_reducible refine BL.drewN ?_ _ | with_reducible refine BL.ext ?_ (by assumption) (by omega) | with_reducible exact Ext.refl _ | with_reducible refine Ext.set ?_ (by omega) _ | with_reducible refine Ext.alloc ?_ _ | with_reducible refine Ext.drew ?_ | with_reducible refine Ext.drewN ?_ _ | with_reducible refine Ext.trans ?_ (by assumption) | with_reducible refine BoxN.alloc ?_ _ | with_reducible refine BoxN.drew ?_ | with_reducible refine BoxN.drewN ?_ _ | with_reducible refine BoxN.other ?_ (by omega) _ | with_reducible refine BoxN.set ?_ _ _ | with_reducible apply BoxN.set1 | with_reducible apply BoxN.set2_1 | with_reducible apply BoxN.set2_0 | with_reducible apply BoxN.set5_4 | with_reducible apply BoxN.set5_3 | with_reducible apply BoxN.set5_2 | with_reducible apply BoxN.set5_1 | with_reducible apply BoxN.set5_0 | with_reducible apply BoxN.set3_2 | with_reducible apply BoxN.set3_1 | with_reducible apply BoxN.set3_0 | with_reducible apply BoxN.set4_3 | with_reducible apply BoxN.set4_2 | with_reducible apply BoxN.set4_1 | with_reducible apply BoxN.set4_0 | with_reducible refine BoxN.ext ?_ (by assumption))); done)
      have s2 : BoxN Wr (w.heap.size + 1 + 1 + 1) 31 #[.int .i64 1] := by rw [← hWr]; ((repeat (first | with_reducible assumption | with_reducible exact KeepsFrom.refl _ _ | with_reducible refine KF.set ?_ _ _ | with_reducible refine KF.alloc ?_ _ | with_reducible refine KF.drew ?_ | with_reducible refine KF.drewN ?_ _ | with_reducible refine KF.ext ?_ (by assumption) | with_reducible exact Below.refl _ _ | with_reducible refine BL.set ?_ _ _ _ (by omega) | with_reducible refine BL.alloc ?_ _ (by omega) | with_reducible refine BL.drew ?_ | with_reducible refine BL.drewN ?_ _ | with_reducible refine BL.ext ?_ (by assumption) (by omega) | with_reducible exact Ext.refl _ | with_reducible refine Ext.set ?_ (by omega) _ | with_reducible refine Ext.alloc ?_ _ | with_reducible refine Ext.drew ?_ | with_reducible refine Ext.drewN ?_ _ | with_reducible refine Ext.trans ?_ (by assumption) | with_reducible refine BoxN.alloc ?_ _ | with_reducible refine BoxN.drew ?_ | with_reducible refine BoxN.drewN ?_ _ | with_reducible refine BoxN.other ?_ (by omega) _ | with_reducible refine BoxN.set ?_ _ _ | with_reducible apply BoxN.set1 | with_reducible apply BoxN.set2_1 | with_reducible apply BoxN.set2_0 | with_reducible apply BoxN.set5_4 | with_reducible apply BoxN.set5_3 | with_reducible apply BoxN.set5_2 | with_reducible apply BoxN.set5_1 | with_reducible apply BoxN.set5_0 | with_reducible apply BoxN.set3_2 | with_reducible apply BoxN.set3_1 | with_reducible apply BoxN.set3_0 | with_reducible apply BoxN.set4_3 | with_reducible apply BoxN.set4_2 | with_reducible apply BoxN.set4_1 | with_reducible apply BoxN.set4_0 | with_reducible refine BoxN.ext ?_ (by assumption))); done)
      have sx : Ext w Wr := by rw [← hWr]; ((repeat (first | with_reducible assumption | with_reducible exact KeepsFrom.refl _ _ | with_reducible refine KF.set ?_ _ _ | with_reducible refine KF.alloc ?_ _ | with_reducible refine KF.drew ?_ | with_reducible refine KF.drewN ?_ _ | with_reducible refine KF.ext ?_ (by assumption) | with_reducible exact Below.refl _ _ | with_reducible refine BL.set ?_ _ _ _ (by omega) | with_reducible refine BL.alloc ?_ _ (by omega) | with_reducible refine BL.drew ?_ | with_reducible refine BL.drewN ?_ _ | with_reducible refine BL.ext ?_ (by assumption) (by omega) | with_reducible exact Ext.refl _ | with_reducible refine Ext.set ?_ (by omega) _ | with_reducible refine Ext.alloc ?_ _ | with_reducible refine Ext.drew ?_ | with_reducible refine Ext.drewN ?_ _ | with_reducible refine Ext.trans ?_ (by assumption) | with_reducible refine BoxN.alloc ?_ _ | with_reducible refine BoxN.drew ?_ | with_reducible refine BoxN.drewN ?_ _ | with_reducible refine BoxN.other ?_ (by omega) _ | with_reducible refine BoxN.set ?_ _ _ | with_reducible apply BoxN.set1 | with_reducible apply BoxN.set2_1 | with_reducible apply BoxN.set2_0 | with_reducible apply BoxN.set5_4 | with_reducible apply BoxN.set5_3 | with_reducible apply BoxN.set5_2 | with_reducible apply BoxN.set5_1 | with_reducible apply BoxN.set5_0 | with_reducible apply BoxN.set3_2 | with_reducible apply BoxN.set3_1 | with_reducible apply BoxN.set3_0 | with_reducible apply BoxN.set4_3 | with_reducible apply BoxN.set4_2 | with_reducible apply BoxN.set4_1 | with_reducible apply BoxN.set4_0 | with_reducible refine BoxN.ext ?_ (by assumption))); done)
      clear hWr
      exact ⟨.tuple #[.agg #[.slice none 0 0], .int .i64 1], by simp [results, Try.f46, go_sem, s1.cell (j := 0) rfl, s2.cell (j := 0) rfl], FIN Wr 1 sx s1 s2 (by decide) HC.out⟩
    case pos =>
      have hd : ((cs.length : Int) != (t.length : Int)) = false := by simp; omega
      have HLEN := hide hlen
      clear hlen
      have hnp := hS.np
      have hsz2 := hx1.size
      gi_wp2_with fail
      gi_loopw [28] (fun i wr => ∃ k : Nat, k ≤ cs.length ∧ i = .int .i64 k ∧ (∀ q, q < k → rangeB t cs q = true) ∧ wr = w2) (fun i _ => cs.length - (intOf i).toNat)
      case atStart => exact ⟨0, Nat.zero_le _, rfl, fun q hq => absurd hq (Nat.not_lt_zero _), rfl⟩
      case round =>
        obtain ⟨k, hk, rfl, h0, rfl⟩ := hrel
        have H0 := hide h0
        clear h0
        by_cases hlt : k < cs.length
        · have hlt2 : k < t.length := by rw [← HLEN.out]; exact hlt
          obtain ⟨A', c', hA', _, _, hc'⟩ := (hs.ext RPr.keeps hx1).at_
          obtain ⟨b', off', hb', hel⟩ := hc' (by omega)
          cases hA'
          subst hb'
          obtain ⟨_, _, v2, d2, hs2⟩ := hel k hlt2
          obtain ⟨A3, c3, rfl, _, _, _⟩ := hs2.at_
          obtain ⟨A'', c'', hA'', _, _, hcc⟩ := (hsc.ext RInt.keeps hx1).at_
          obtain ⟨b'', off'', hb'', helc⟩ := hcc (by omega)
          cases hA''
          subst hb''
          have hck := helc k hlt
          unfold RInt at hck
          rw [Nat.mul_one] at hck
          have hnk := hS.ne _ (List.getElem_mem hlt2)
          have HRB := hide (show rangeB t cs k = inB cs[k] 0 t[k].evs.length by unfold rangeB cAt evsOf; simp [List.getD, hlt, hlt2])
          clear hs2 hel hc' hcc helc
          have HIk := hide (HI.out cs[k] 0 t[k].evs.length)
          cases hr : inB cs[k] 0 t[k].evs.length
          · rw [hr] at HIk
            have HC := hide (show prefC t cs = 2 by
              unfold prefC
              rw [if_neg (by rw [HVL.out, HLEN.out]; simp), if_pos]
              rw [List.all_eq_false]
              exact ⟨k, List.mem_range.2 hlt, by rw [HRB.out, hr]; simp⟩)
            clear hr
            gi_wp2_with (refine ⟨trivial, ?_⟩; gi_at_call 98; refine (HIk.out _).mono ?_; rintro e w' ⟨rfl, rfl⟩)
            obtain ⟨Wr, hWr⟩ : ∃ Wr, (wr.setCell ⟨w.heap.size + 1 + 1, 0, none⟩ (Value.slice none 0 0)).setCell ⟨w.heap.size + 1 + 1 + 1, 0, none⟩ (Value.int .i64 2) = Wr := ⟨_, rfl⟩
            rw [hWr]
            have s1 : BoxN Wr (w.heap.size + 1 + 1) 24 #[.slice none 0 0] := by rw [← hWr]; ((repeat (first | with_reducible assumption | with_reducible exact KeepsFrom.refl _ _ | with_reducible refine KF.set ?_ _ _ | with_reducible refine KF.alloc ?_ _ | with_reducible refine KF.drew ?_ | with_reducible refine KF.drewN ?_ _ | with_reducible refine KF.ext ?_ (by assumption) | with_reducible exact Below.refl _ _ | with_reducible refine BL.set ?_ _ _ _ (by omega) | with_reducible refine BL.alloc ?_ _ (by omega) | with_reducible refine BL.drew ?_ | with_reducible refine BL.drewN ?_ _ | with_reducible refine BL.ext ?_ (by assumption) (by omega) | with_reducible exact Ext.refl _ | with_reducible refine Ext.set ?_ (by omega) _ | with_reducible refine Ext.alloc ?_ _ | with_reducible refine Ext.drew ?_ | with_reducible refine Ext.drewN ?_ _ | with_reducible refine Ext.trans ?_ (by assumption) | with_reducible refine BoxN.alloc ?_ _ | with_reducible refine BoxN.drew ?_ | with_reducible refine BoxN.drewN ?_ _ | with_reducible refine BoxN.other ?_ (by omega) _ | with_reducible refine BoxN.set ?_ _ _ | with_reducible apply BoxN.set1 | with_reducible apply BoxN.set2_1 | with_reducible apply BoxN.set2_0 | with_reducible apply BoxN.set5_4 | with_reducible apply BoxN.set5_3 | with_reducible apply BoxN.set5_2 | with_reducible apply BoxN.set5_1 | with_reducible apply BoxN.set5_0 | with_reducible apply BoxN.set3_2 | with_reducible apply BoxN.set3_1 | with_reducible apply BoxN.set3_0 | with_reducible apply BoxN.set4_3 | with_reducible apply BoxN.set4_2 | with_reducible apply BoxN.set4_1 | with_reducible apply BoxN.set4_0 | with_reducible refine BoxN.ext ?_ (by assumption))); done)
            have s2 : BoxN Wr (w.heap.size + 1 + 1 + 1) 31 #[.int .i64 2] := by rw [← hWr]; ((repeat (first | with_reducible assumption | with_reducible exact KeepsFrom.refl _ _ | with_reducible refine KF.set ?_ _ _ | with_reducible refine KF.alloc ?_ _ | with_reducible refine KF.drew ?_ | with_reducible refine KF.drewN ?_ _ | with_reducible refine KF.ext ?_ (by assumption) | with_reducible exact Below.refl _ _ | with_reducible refine BL.set ?_ _ _ _ (by omega) | with_reducible refine BL.alloc ?_ _ (by omega) | with_reducible refine BL.drew ?_ | with_reducible refine BL.drewN ?_ _ | with_reducible refine BL.ext ?_ (by assumption) (by omega) | with_reducible exact Ext.refl _ | with_reducible refine Ext.set ?_ (by omega) _ | with_reducible refine Ext.alloc ?_ _ | with_reducible refine Ext.drew ?_ | with_reducible refine Ext.drewN ?_ _ | with_reducible refine Ext.trans ?_ (by assumption) | with_reducible refine BoxN.alloc ?_ _ | with_reducible refine BoxN.drew ?_ | with_reducible refine BoxN.drewN ?_ _ | with_reducible refine BoxN.other ?_ (by omega) _ | with_reducible refine BoxN.set ?_ _ _ | with_reducible apply BoxN.set1 | with_reducible apply BoxN.set2_1 | with_reducible apply BoxN.set2_0 | with_reducible apply BoxN.set5_4 | with_reducible apply BoxN.set5_3 | with_reducible apply BoxN.set5_2 | with_reducible apply BoxN.set5_1 | with_reducible apply BoxN.set5_0 | with_reducible apply BoxN.set3_2 | with_reducible apply BoxN.set3_1 | with_reducible apply BoxN.set3_0 | with_reducible apply BoxN.set4_3 | with_reducible apply BoxN.set4_2 | with_reducible apply BoxN.set4_1 | with_reducible apply BoxN.set4_0 | with_reducible refine BoxN.ext ?_ (by assumption))); done)
            have sx : Ext w Wr := by rw [← hWr]; ((repeat (first | with_reducible assumption | with_reducible exact KeepsFrom.refl _ _ | with_reducible refine KF.set ?_ _ _ | with_reducible refine KF.alloc ?_ _ | with_reducible refine KF.drew ?_ | with_reducible refine KF.drewN ?_ _ | with_reducible refine KF.ext ?_ (by assumption) | with_reducible exact Below.refl _ _ | with_reducible refine BL.set ?_ _ _ _ (by omega) | with_reducible refine BL.alloc ?_ _ (by omega) | with_reducible refine BL.drew ?_ | with_reducible refine BL.drewN ?_ _ | with_reducible refine BL.ext ?_ (by assumption) (by omega) | with_reducible exact Ext.refl _ | with_reducible refine Ext.set ?_ (by omega) _ | with_reducible refine Ext.alloc ?_ _ | with_reducible refine Ext.drew ?_ | with_reducible refine Ext.drewN ?_ _ | with_reducible refine Ext.trans ?_ (by assumption) | with_reducible refine BoxN.alloc ?_ _ | with_reducible refine BoxN.drew ?_ | with_reducible refine BoxN.drewN ?_ _ | with_reducible refine BoxN.other ?_ (by omega) _ | with_reducible refine BoxN.set ?_ _ _ | with_reducible apply BoxN.set1 | with_reducible apply BoxN.set2_1 | with_reducible apply BoxN.set2_0 | with_reducible apply BoxN.set5_4 | with_reducible apply BoxN.set5_3 | with_reducible apply BoxN.set5_2 | with_reducible apply BoxN.set5_1 | with_reducible apply BoxN.set5_0 | with_reducible apply BoxN.set3_2 | with_reducible apply BoxN.set3_1 | with_reducible apply BoxN.set3_0 | with_reducible apply BoxN.set4_3 | with_reducible apply BoxN.set4_2 | with_reducible apply BoxN.set4_1 | with_reducible apply BoxN.set4_0 | with_reducible refine BoxN.ext ?_ (by assumption))); done)
            clear hWr
            exact ⟨.tuple #[.agg #[.slice none 0 0], .int .i64 2], by simp [results, Try.f46, go_sem, s1.cell (j := 0) rfl, s2.cell (j := 0) rfl], FIN Wr 2 sx s1 s2 (by decide) HC.out⟩
          · rw [hr] at HIk
            have HRT := hide (show rangeB t cs k = true by rw [HRB.out, hr])
            clear hr
            gi_wp2_with (refine ⟨trivial, ?_⟩; gi_at_call 98; refine (HIk.out _).mono ?_; rintro e w' ⟨rfl, rfl⟩)
            go_roundw
            case rel => exact ⟨k + 1, hlt, by go_num, fun q hq => (Nat.lt_succ_iff_lt_or_eq.1 hq).elim (H0.out q) (fun e => e ▸ HRT.out), by first | rfl | exact trivial⟩
            case measure => simp [intOf]; omega
        · obtain rfl : k = cs.length := by omega
          have HALL := hide (show (List.range cs.length).all (rangeB t cs) = true from List.all_eq_true.2 (fun q hq => H0.out q (List.mem_range.1 hq)))
          have hform := (valid_form HVL.out)
          have HM := hide (fun w' (he : Ext w w') => callsIn_wide (n := 8).2 (messageFault_any (.slice A t.length c) t w' hnp hS.ne (hs.ext RPr.keeps he) hform))
          gi_wp2_with fail
          refine ⟨trivial, ?_⟩
          refine (HM.out _ hx1).mono ?_
          rintro e w3 ⟨he3, hcase⟩
          have hlt4 := b4.lt
          rcases hcase with ⟨x, hx, _⟩ | ⟨_, bL, ls, hbL, hL, hA, rfl⟩
          · rw [valid_pairs HVL.out] at hx; cases hx
          replace hx1 := hx1.trans he3
          replace b3 := b3.ext he3
          replace b4 := b4.ext he3
          replace bT := bT.ext he3
          replace bC := bC.ext he3
          have hlt5 := b4.lt
          clear f3 f4 r3 r4 t0 tc he3
          have t0 : w3.cell? ⟨w.heap.size, 0, none⟩ = some (.slice A t.length c) := bT.cell (j := 0) rfl
          have lt0 := bT.lt
          have HFORM := hide hform
          clear hform
          have HA := hide hA
          clear hA
          unfold idVal
          gi_wp2_with (refine ⟨trivial, ?_⟩; gi_at_call 100; refine (callsIn_wide.2 (events_any _ _)).mono ?_; rintro e w' ⟨rfl, rfl⟩)
          have bt : BoxN (((w3.alloc (.cells #[.pointer (some ⟨bL, 0, none⟩)] 140)).alloc (.cells #[.int .i64 ((0 : Nat) : Int), .int .i64 ((0 : Nat) : Int)] 36)).alloc (.cells #[.slice A t.length c] 24)) (w3.heap.size + 1 + 1) 24 #[.slice A t.length c] := BoxN.newAt _ _ (by simp)
          have b8 : BoxN (((w3.alloc (.cells #[.pointer (some ⟨bL, 0, none⟩)] 140)).alloc (.cells #[.int .i64 ((0 : Nat) : Int), .int .i64 ((0 : Nat) : Int)] 36)).alloc (.cells #[.slice A t.length c] 24)) (w3.heap.size) 140 #[.pointer (some ⟨bL, 0, none⟩)] := ((BoxN.new _ _ _).alloc _).alloc _
          have hx0 : Ext w (((w3.alloc (.cells #[.pointer (some ⟨bL, 0, none⟩)] 140)).alloc (.cells #[.int .i64 ((0 : Nat) : Int), .int .i64 ((0 : Nat) : Int)] 36)).alloc (.cells #[.slice A t.length c] 24)) := ((hx1.alloc _).alloc _).alloc _
          replace b3 := (((b3.alloc (.cells #[.pointer (some ⟨bL, 0, none⟩)] 140)).alloc (.cells #[.int .i64 ((0 : Nat) : Int), .int .i64 ((0 : Nat) : Int)] 36)).alloc (.cells #[.slice A t.length c] 24))
          replace b4 := (((b4.alloc (.cells #[.pointer (some ⟨bL, 0, none⟩)] 140)).alloc (.cells #[.int .i64 ((0 : Nat) : Int), .int .i64 ((0 : Nat) : Int)] 36)).alloc (.cells #[.slice A t.length c] 24))
          replace bC := (((bC.alloc (.cells #[.pointer (some ⟨bL, 0, none⟩)] 140)).alloc (.cells #[.int .i64 ((0 : Nat) : Int), .int .i64 ((0 : Nat) : Int)] 36)).alloc (.cells #[.slice A t.length c] 24))
          replace hL := (((hL.alloc (.cells #[.pointer (some ⟨bL, 0, none⟩)] 140)).alloc (.cells #[.int .i64 ((0 : Nat) : Int), .int .i64 ((0 : Nat) : Int)] 36)).alloc (.cells #[.slice A t.length c] 24))
          replace bT := (((bT.alloc (.cells #[.pointer (some ⟨bL, 0, none⟩)] 140)).alloc (.cells #[.int .i64 ((0 : Nat) : Int), .int .i64 ((0 : Nat) : Int)] 36)).alloc (.cells #[.slice A t.length c] 24))
          have hsz0 : (((w3.alloc (.cells #[.pointer (some ⟨bL, 0, none⟩)] 140)).alloc (.cells #[.int .i64 ((0 : Nat) : Int), .int .i64 ((0 : Nat) : Int)] 36)).alloc (.cells #[.slice A t.length c] 24)).heap.size = w3.heap.size + 1 + 1 + 1 := by simp
          have hw3 := hx1.size
          generalize (((w3.alloc (.cells #[.pointer (some ⟨bL, 0, none⟩)] 140)).alloc (.cells #[.int .i64 ((0 : Nat) : Int), .int .i64 ((0 : Nat) : Int)] 36)).alloc (.cells #[.slice A t.length c] 24)) = W0 at *
          have hw0 : w.heap.size ≤ W0.heap.size := by omega
          clear t0 lt0
          refine wpIn_rangeFunc_ownH rfl (by omega) (gf := 141) (lb := #[.pointer (some ⟨w3.heap.size + 1 + 1, 0, none⟩)]) rfl trivial (callFunc_enter Try.func141 (by decide) rfl)
            (events_stops 8 (by omega) w (.slice A t.length c) t (w3.heap.size + 1 + 1) W0 hnp hS.ne hs hx0 (bt.cell rfl) (by omega)) belowK_t (belowK_b hw0) (Below.refl _ _) (fun _ => rfl)
            (fun pre W => PfI t cs W0 (pre.map (·.1)) W) (fun c pre W => c = .ret ∧ PfX t cs w (pre.map (·.1)) W) (pfi_from t cs W0 (Nat.le_refl _)) (fun c => OwnFrom.and (ownFrom_pure _ _) (pfx_from t cs w hw0)) ⟨Ext.refl _, fun x hx => by cases hx⟩
            (fun x a' W => ∃ B6 B7 A4 n4 c4 v13 v14, (w3.heap.size < B6 ∧ w3.heap.size < B7) ∧ BoxN W B6 36 #[.int .i64 x.1.1, .int .i64 x.1.2] ∧ BoxN W B7 103 #[.int .i64 (evAt t x.1).kind, .int .i64 (evAt t x.1).peer, .int .i64 (evAt t x.1).msg, .int .i64 (evAt t x.1).time, .slice A4 n4 c4] ∧
              a' = { tmps := #[.agg #[.slice A t.length c], .slice A2 cs.length c2, .pointer (some ⟨w.heap.size, 0, none⟩), .pointer (some ⟨w.heap.size + 1, 0, none⟩), .pointer (some ⟨w.heap.size + 1 + 1, 0, none⟩), .pointer (some ⟨w.heap.size + 1 + 1 + 1, 0, none⟩), u6, u7, .pointer (some ⟨w3.heap.size, 0, none⟩), .pointer (some ⟨w3.heap.size + 1, 0, none⟩), .int .i64 0, .pointer (some ⟨B6, 0, none⟩), .pointer (some ⟨B7, 0, none⟩), undef, .agg #[.slice A t.length c], .bool true, .bool false, .bool false, .slice A2 cs.length c2, .int .i64 cs.length, .pointer (some ⟨w.heap.size, 0, none⟩), .slice A t.length c, .int .i64 t.length, .bool false, .bool false, undef, .slice A2 cs.length c2, .int .i64 cs.length, .int .i64 cs.length, .bool false, u30, u31, u32, u33, u34, u35, u36, u37, u38, u39, u40, u41, u42, u43, u44, .tuple #[.pointer (some ⟨bL, 0, none⟩), .agg #[.int .i64 ((0 : Nat) : Int), .int .i64 ((0 : Nat) : Int)], .int .i64 0], .agg #[.slice A t.length c], .tuple #[.pointer (some ⟨bL, 0, none⟩), .agg #[.int .i64 ((0 : Nat) : Int), .int .i64 ((0 : Nat) : Int)], .int .i64 0], .pointer (some ⟨bL, 0, none⟩), .agg #[.int .i64 ((0 : Nat) : Int), .int .i64 ((0 : Nat) : Int)], .int .i64 0, .agg #[.slice A t.length c], .func (.func 141) #[] #[.pointer (some ⟨w3.heap.size + 1 + 1, 0, none⟩)], v13, v14, undef, undef, undef, undef, undef, undef, undef, undef, undef, undef, undef, undef, undef, undef, undef, undef, undef, undef, undef, undef, undef, undef, undef, undef, undef, undef, undef, undef, undef, undef, undef, undef], defers := [] })
            ?hax ?assign ?body ?done ?stop
          case hax =>
            rintro x a' _ X Y row ⟨B6, B7, A4, n4, c4, v13, v14, hB, b6, b7, ha⟩ hg hr
            exact ⟨B6, B7, A4, n4, c4, v13, v14, hB, boxN1_from B6 _ _ (fun (_ : Unit) => _) () X Y row b6 hg hr, boxN1_from B7 _ _ (fun (_ : Unit) => _) () X Y row b7 hg hr, ha⟩
          case assign =>
            rintro l pre x W K hI hK
            obtain ⟨a, hv, hsa⟩ := evVal_ok hs x.2
            obtain ⟨A4, c4, rfl, _, _, _⟩ := hsa.at_
            clear hsa
            simp only [hv]
            have hsW := hI.1.size
            unfold idVal
            gi_wp2
            exact hK _ _ (((KeepsOthers.alloc _ _).trans (KeepsOthers.alloc _ _)).from _) (((Below.refl _ W).alloc (by omega) _).alloc (by simp; omega) _) ((pfi_from t cs W0 (Nat.le_refl _)).alloc _ ((pfi_from t cs W0 (Nat.le_refl _)).alloc _ hI))
              ⟨W.heap.size, W.heap.size + 1, A4, _, c4, _, _, ⟨by omega, by omega⟩, (BoxN.new _ _ _).alloc _, BoxN.newAt _ _ (by simp), rfl⟩
          case body =>
            rintro l pre x a' W hlW ⟨r, hr⟩ hI ⟨B6, B7, A4, n4, c4, v13, v14, ⟨hB6, hB7⟩, b6, b7, rfl⟩ hlen
            obtain ⟨hxW, hno⟩ := hI
            have hsW := hxW.size
            have hxw := hx0.trans hxW
            replace b3 := b3.ext hxW
            replace b4 := b4.ext hxW
            replace bC := bC.ext hxW
            replace hL := hL.ext hxW
            replace b8 := b8.ext hxW
            obtain ⟨hx1p, hx1i, hx1l⟩ := mem_ids.1 x.2
            have hpc : x.1.1 < cs.length := by rw [HLEN.out]; exact hx1p
            have hcat : cAt cs x.1.1 = cs[x.1.1] := by unfold cAt; simp [List.getD, hpc]
            obtain ⟨F', hF'⟩ : ∃ F' : Nat → Prop, F' = fun b => F b ∨ b = w.heap.size + 1 ∨ b = w3.heap.size ∨ b = bL ∨ b = B6 ∨ b = B7 := ⟨_, rfl⟩
            have hFm : ∀ b, F b → F' b := fun b hb => by rw [hF']; exact .inl hb
            have hF1 : F' (w.heap.size + 1) := by rw [hF']; exact .inr (.inl rfl)
            have hF2 : F' w3.heap.size := by rw [hF']; exact .inr (.inr (.inl rfl))
            have hF3 : F' bL := by rw [hF']; exact .inr (.inr (.inr (.inl rfl)))
            have hF4 : F' B6 := by rw [hF']; exact .inr (.inr (.inr (.inr (.inl rfl))))
            have hF5 : F' B7 := by rw [hF']; exact .inr (.inr (.inr (.inr (.inr rfl))))
            have g1 := bC.lt
            have g2 := b8.lt
            have g3 := hL.lt
            have g4 := b6.lt
            have g5 := b7.lt
            have hbig := hx1.size
            have hFlt : ∀ b, F' b → b < W.heap.size ∧ b ≠ w.heap.size + 1 + 1 ∧ b ≠ w.heap.size + 1 + 1 + 1 := by
              intro b hb
              rw [hF'] at hb
              rcases hb with h | rfl | rfl | rfl | rfl | rfl
              · have := hF b h; exact ⟨by omega, by omega, by omega⟩
              all_goals exact ⟨by omega, by omega, by omega⟩
            have hcs : RepI W F' (.isl 1 (cs.map eI)) (.slice A2 cs.length c2) := HUC.out.mono hFm (fun b hb => hxw.block b (hF b hb))
            have p3 : RepI W F' (.iptr [.isl 1 (cs.map eI)] 0) (.pointer (some ⟨w.heap.size + 1, 0, none⟩)) := box_rep bC hF1 (fun j a hj => by
              cases j with
              | zero => simp at hj; subst hj; exact ⟨_, rfl, hcs⟩
              | succ j => simp at hj)
            have pL : RepI W F' (.iptr (letRow t) 0) (.pointer (some ⟨bL, 0, none⟩)) := letRow_rep hL HA.out hF3
            have p8 : RepI W F' (.iptr [.iptr (letRow t) 0] 0) (.pointer (some ⟨w3.heap.size, 0, none⟩)) := box_rep b8 hF2 (fun j a hj => by
              cases j with
              | zero => simp at hj; subst hj; exact ⟨_, rfl, pL⟩
              | succ j => simp at hj)
            have p11 : RepI W F' (.iptr [.int .i64 (x.1.1 : Int), .int .i64 (x.1.2 : Int)] 0) (.pointer (some ⟨B6, 0, none⟩)) := box_rep b6 hF4 (fun j a hj => by
              match j, hj with
              | 0, hj => cases hj; exact ⟨_, rfl, .int _ _⟩
              | 1, hj => cases hj; exact ⟨_, rfl, .int _ _⟩)
            have p12 : RepI W F' (.iptr [.int .i64 (evAt t x.1).kind, .int .i64 (evAt t x.1).peer, .int .i64 (evAt t x.1).msg] 0) (.pointer (some ⟨B7, 0, none⟩)) := box_rep b7 hF5 (fun j a hj => by
              match j, hj with
              | 0, hj => cases hj; exact ⟨_, rfl, .int _ _⟩
              | 1, hj => cases hj; exact ⟨_, rfl, .int _ _⟩
              | 2, hj => cases hj; exact ⟨_, rfl, .int _ _⟩)
            have hE : ∀ (L : LMap) (x4 x5 : AV), RepA W F' L x4 (.pointer (some ⟨w.heap.size + 1 + 1, 0, none⟩)) → RepA W F' L x5 (.pointer (some ⟨w.heap.size + 1 + 1 + 1, 0, none⟩)) →
                EnvR W F' L (envP cs (letRow t) x.1.1 x.1.2 (evAt t x.1).kind (evAt t x.1).peer (evAt t x.1).msg x4 x5) { tmps := #[.agg #[.slice A t.length c], .slice A2 cs.length c2, .pointer (some ⟨w.heap.size, 0, none⟩), .pointer (some ⟨w.heap.size + 1, 0, none⟩), .pointer (some ⟨w.heap.size + 1 + 1, 0, none⟩), .pointer (some ⟨w.heap.size + 1 + 1 + 1, 0, none⟩), u6, u7, .pointer (some ⟨w3.heap.size, 0, none⟩), .pointer (some ⟨w3.heap.size + 1, 0, none⟩), .int .i64 0, .pointer (some ⟨B6, 0, none⟩), .pointer (some ⟨B7, 0, none⟩), undef, .agg #[.slice A t.length c], .bool true, .bool false, .bool false, .slice A2 cs.length c2, .int .i64 cs.length, .pointer (some ⟨w.heap.size, 0, none⟩), .slice A t.length c, .int .i64 t.length, .bool false, .bool false, undef, .slice A2 cs.length c2, .int .i64 cs.length, .int .i64 cs.length, .bool false, u30, u31, u32, u33, u34, u35, u36, u37, u38, u39, u40, u41, u42, u43, u44, .tuple #[.pointer (some ⟨bL, 0, none⟩), .agg #[.int .i64 ((0 : Nat) : Int), .int .i64 ((0 : Nat) : Int)], .int .i64 0], .agg #[.slice A t.length c], .tuple #[.pointer (some ⟨bL, 0, none⟩), .agg #[.int .i64 ((0 : Nat) : Int), .int .i64 ((0 : Nat) : Int)], .int .i64 0], .pointer (some ⟨bL, 0, none⟩), .agg #[.int .i64 ((0 : Nat) : Int), .int .i64 ((0 : Nat) : Int)], .int .i64 0, .agg #[.slice A t.length c], .func (.func 141) #[] #[.pointer (some ⟨w3.heap.size + 1 + 1, 0, none⟩)], v13, v14, undef, undef, undef, undef, undef, undef, undef, undef, undef, undef, undef, undef, undef, undef, undef, undef, undef, undef, undef, undef, undef, undef, undef, undef, undef, undef, undef, undef, undef, undef, undef, undef], defers := [] } := by
              intro L x4 x5 h4 h5
              refine envR_of ?_
              unfold envP
              repeat (first | exact RepL.nil | refine RepL.cons (.any _) ?_ | refine RepL.cons (.v _ _ p3) ?_ | refine RepL.cons h4 ?_ | refine RepL.cons h5 ?_ | refine RepL.cons (.v _ _ p8) ?_ | refine RepL.cons (.v _ _ p11) ?_ | refine RepL.cons (.v _ _ p12) ?_)
            have hv3 : ∀ {b : Bool}, ((evAt t x.1).kind != 3) = b → ((evAt t x.1).kind == 3) = !b := by
              intro b h; cases b <;> simp_all [bne]
            have hcase : (badL t cs x.1 = false ∧ run (ACalls Try.prog) Weak a_pfBody (envP cs (letRow t) x.1.1 x.1.2 (evAt t x.1).kind (evAt t x.1).peer (evAt t x.1).msg .any .any) [] [] (fun ax e b l' => ax = .normal ∧ b = [])) ∨
                (badL t cs x.1 = true ∧ run (ACalls Try.prog) Weak a_pfBody (envP cs (letRow t) x.1.1 x.1.2 (evAt t x.1).kind (evAt t x.1).peer (evAt t x.1).msg (.ptr 0 0 0 0) (.ptr 1 0 0 0)) [.live 0 1 [[.v .zsl]], .live 0 1 [[.v (.int .i64 0)]]] []
                  (fun ax e b l' => ax = .ret ∧ b = [.live 0 1 [[.v .zsl]], .live 0 1 [[.v (.int .i64 18)]]])) := by
              cases hk : ((evAt t x.1).kind != 3)
              · have hk3 := hv3 hk
                by_cases hi : (x.1.2 : Int) > cs[x.1.1]
                · refine .inl ⟨?_, run_mono' ACalls_mono (pfBody_out cs (letRow t) x.1.1 x.1.2 _ _ _ .any .any [] [] hk hpc hi) (fun _ _ _ _ h => ⟨h.1, h.2.1⟩)⟩
                  unfold badL; rw [hcat, decide_eq_true hi]; simp
                · obtain ⟨m, q, hm, hm2, _, _, _⟩ := formed_open (HFORM.out x.1 x.2) (by simp at hk3; rw [hk3]; rfl)
                  obtain ⟨hf1, hf2⟩ : (firstOf t (ids t) 2 m).1 < cs.length ∧ cAt cs (firstOf t (ids t) 2 m).1 = cAt cs (firstOf t (ids t) 2 m).1 := by
                    refine ⟨?_, rfl⟩
                    unfold firstOf
                    cases hf : (ids t).find? (keyB t 2 m) with
                    | none => simp; omega
                    | some y => simp; rw [HLEN.out]; exact (mem_ids.1 (List.mem_of_find?_eq_some hf)).1
                  have hcf : cAt cs (firstOf t (ids t) 2 m).1 = cs[(firstOf t (ids t) 2 m).1] := by unfold cAt; simp [List.getD, hf1]
                  by_cases hg : ((firstOf t (ids t) 2 m).2 : Int) > cs[(firstOf t (ids t) 2 m).1]
                  · refine .inr ⟨?_, pfBody_bad cs (letRow t) x.1.1 x.1.2 _ _ _ m _ _ hk hpc hi hm hm2 (letRow_len t) (letRow_from hm2) hf1 hg⟩
                    unfold badL; rw [hcat, hm, hcf, decide_eq_true hg, decide_eq_false hi, hk3]; rfl
                  · refine .inl ⟨?_, pfBody_in cs (letRow t) x.1.1 x.1.2 _ _ _ .any .any [] [] m _ _ hk hpc hi hm hm2 (letRow_len t) (letRow_from hm2) hf1 hg (by simpa using RowsLt_nil) rfl⟩
                    unfold badL; rw [hcat, hm, hcf, decide_eq_false hg]; simp
              · have hk3 := hv3 hk
                refine .inl ⟨?_, run_mono' ACalls_mono (pfBody_kind cs (letRow t) x.1.1 x.1.2 _ _ _ .any .any [] [] hk) (fun _ _ _ _ h => ⟨h.1, h.2.1⟩)⟩
                unfold badL; rw [hk3]; rfl
            rcases hcase with ⟨hb, hrun⟩ | ⟨hb, hrun⟩
            · refine wpIn_mono (run_soundR (lp := l) (fun _ _ _ _ _ h => h) ACalls_mono _ a_pfBody (by kernel_rfl) _ [] [] _ hrun F' (fun _ _ => none) W _ (sim_nil (fun b hb => (hFlt b hb).1)) (hE _ _ _ (.any _) (.any _))) ?_
              rintro ex a1 w1 ⟨ax, e1, b1, l1, F1, L1, hex, s1, he1, st1, hb1, rfl, _⟩
              cases ex <;> first | exact hex.elim | skip
              have he := step_nil_block st1
              refine ⟨KF.ext (KeepsFrom.refl _ _) he, BL.ext (Below.refl _ _) he (by omega), hxW.trans he, fun y hy => ?_⟩
              rw [map_snoc] at hy
              rcases List.mem_append.1 hy with h | h
              · exact hno y h
              · simp at h; rw [h]; exact hb
            · refine wpIn_mono (run_soundR (lp := l) (fun _ _ _ _ _ h => h) ACalls_mono _ a_pfBody (by kernel_rfl) _ _ [] _ hrun F' (L2 (w.heap.size + 1 + 1) (w.heap.size + 1 + 1 + 1)) W _ (sim_two b3 b4 (by omega) rfl rfl (.v _ _ (.zsl _)) (.v _ _ (.int _ _)) hFlt) (hE _ _ _ (RepA.ptr 0 0 0 0 _ 0 1 1 rfl) (RepA.ptr 1 0 0 0 _ 0 1 1 rfl))) ?_
              rintro ex a1 w1 ⟨ax, e1, b1, l1, F1, L1, hex, s1, he1, st1, hb1, rfl, rfl⟩
              cases ex <;> first | exact hex.elim | skip
              have hblk : ∀ b, b < W.heap.size → b ≠ w.heap.size + 1 + 1 → b ≠ w.heap.size + 1 + 1 + 1 → w1.heap[b]? = W.heap[b]? := fun b hb h1 h2 => st1.block b hb (fun ho => (owned_two ho).elim h1 h2)
              have kf : KeepsFrom W0.heap.size W w1 := ⟨st1.size, fun k o hB hk ho => by
                refine (hblk k (Array.getElem?_eq_some_iff.1 hk).1 (by omega) (by omega)).trans hk⟩
              have ex1 : Ext w w1 := ⟨st1.os.trans hxw.os, st1.tape.trans hxw.tape, st1.output.trans hxw.output, Nat.le_trans hxw.size st1.size, fun b hb => (hblk b (by omega) (by omega) (by omega)).trans (hxw.block b hb)⟩
              have hL0 : L1 0 0 = some (.pl (w.heap.size + 1 + 1) 0 1 1) := st1.loc 0 0 _ (by simp) rfl
              have hL1 : L1 1 0 = some (.pl (w.heap.size + 1 + 1 + 1) 0 1 1) := st1.loc 1 0 _ (by simp) rfl
              refine ⟨kf, rfl, ⟨x.1, by rw [map_snoc]; simp, hb⟩, ?_, ?_, ex1⟩
              · obtain ⟨q, q1, q2⟩ := s1.row 0 0 1 [[.v .zsl]] rfl
                rw [hL0] at q1; cases q1
                obtain ⟨_, _, _, cur, T, k4, _, _, k7⟩ := q2
                obtain ⟨_, v, k8, k9⟩ := k7 0 [.v .zsl] 0 (.v .zsl) rfl rfl
                refine ⟨T, cur, k4, ?_⟩
                cases k9.vI
                exact ⟨_, k8⟩
              · obtain ⟨q, q1, q2⟩ := s1.row 1 0 1 [[.v (.int .i64 18)]] rfl
                rw [hL1] at q1; cases q1
                obtain ⟨_, _, _, cur, T, k4, _, _, k7⟩ := q2
                obtain ⟨_, v, k8, k9⟩ := k7 0 [.v (.int .i64 18)] 0 (.v (.int .i64 18)) rfl rfl
                refine ⟨T, cur, k4, ?_⟩
                cases k9.vI
                exact k8
          case done =>
            rintro D ys W hD hys ⟨hxW, hno⟩ hK
            rw [hys] at hno
            have hxw := hx0.trans hxW
            have hsW := hxW.size
            replace b3 := b3.ext hxW
            replace b4 := b4.ext hxW
            replace bC := bC.ext hxW
            replace bT := bT.ext hxW
            have HC0 := hide (show prefC t cs = 0 by
              unfold prefC
              rw [if_neg (by rw [HVL.out, HLEN.out]; simp), if_neg (by rw [HALL.out]; simp), if_neg]
              rw [Bool.not_eq_true, List.any_eq_false]
              intro x hx; rw [hno x hx]; simp)
            clear hno hys
            have hC : CutOk t cs := ⟨HLEN.out, hnp, hS.nv, hS.ne, hS.na, fun k h h2 => by
              have := List.all_eq_true.1 HALL.out k (List.mem_range.2 h2)
              unfold rangeB cAt evsOf inB at this
              simp [List.getD, h, h2] at this
              exact ⟨this.1, this.2⟩⟩
            have HFI := hide (fun W' (he : Ext w W') => callsIn_wide (n := 8).2 (first_mem t cs hC F W' (fun b hb => Nat.lt_of_lt_of_le (hF b hb) he.size) (HU.out.mono (fun _ h => h) (fun b hb => he.block b (hF b hb))) (HUC.out.mono (fun _ h => h) (fun b hb => he.block b (hF b hb)))))
            clear hC
            have t0 := bT.cell (j := 0) rfl
            have tc := bC.cell (j := 0) rfl
            have g0 := bT.lt
            gi_wp2_with fail
            refine ⟨trivial, ?_⟩
            refine (HFI.out _ hxw).mono ?_
            rintro e w5 ⟨u, F1, rfl, he5, k1, k2, k3, k4, A5, n5, c5, rfl⟩
            replace b3 := b3.ext he5
            replace b4 := b4.ext he5
            have hK5 : w5.heap[D]? = some (.deferred (some [])) := (he5.block D (Array.getElem?_eq_some_iff.1 hK).1).trans hK
            have hx5 := hxw.trans he5
            have hs5 := he5.size
            have f3 := b3.frozen 0
            have f4 := b4.frozen 0
            have r3 := b3.cell (j := 0) rfl
            have r4 := b4.cell (j := 0) rfl
            have HK4 := hide k4
            clear k4
            have HK1 := hide k1
            have HK2 := hide k2
            have HK3 := hide k3
            clear k1 k2 k3
            gi_wp2
            obtain ⟨Wr, hWr⟩ : ∃ Wr, (w5.setCell ⟨w.heap.size + 1 + 1, 0, none⟩ (Value.slice A5 n5 c5)).setCell ⟨w.heap.size + 1 + 1 + 1, 0, none⟩ (Value.int .i64 0) = Wr := ⟨_, rfl⟩
            rw [hWr]
            have s1 : BoxN Wr (w.heap.size + 1 + 1) 24 #[.slice A5 n5 c5] := by rw [← hWr]; ((repeat (first | with_reducible assumption | with_reducible exact KeepsFrom.refl _ _ | with_reducible refine KF.set ?_ _ _ | with_reducible refine KF.alloc ?_ _ | with_reducible refine KF.drew ?_ | with_reducible refine KF.drewN ?_ _ | with_reducible refine KF.ext ?_ (by assumption) | with_reducible exact Below.refl _ _ | with_reducible refine BL.set ?_ _ _ _ (by omega) | with_reducible refine BL.alloc ?_ _ (by omega) | with_reducible refine BL.drew ?_ | with_reducible refine BL.drewN ?_ _ | with_reducible refine BL.ext ?_ (by assumption) (by omega) | with_reducible exact Ext.refl _ | with_reducible refine Ext.set ?_ (by omega) _ | with_reducible refine Ext.alloc ?_ _ | with_reducible refine Ext.drew ?_ | with_reducible refine Ext.drewN ?_ _ | with_reducible refine Ext.trans ?_ (by assumption) | with_reducible refine BoxN.alloc ?_ _ | with_reducible refine BoxN.drew ?_ | with_reducible refine BoxN.drewN ?_ _ | with_reducible refine BoxN.other ?_ (by omega) _ | with_reducible refine BoxN.set ?_ _ _ | with_reducible apply BoxN.set1 | with_reducible apply BoxN.set2_1 | with_reducible apply BoxN.set2_0 | with_reducible apply BoxN.set5_4 | with_reducible apply BoxN.set5_3 | with_reducible apply BoxN.set5_2 | with_reducible apply BoxN.set5_1 | with_reducible apply BoxN.set5_0 | with_reducible apply BoxN.set3_2 | with_reducible apply BoxN.set3_1 | with_reducible apply BoxN.set3_0 | with_reducible apply BoxN.set4_3 | with_reducible apply BoxN.set4_2 | with_reducible apply BoxN.set4_1 | with_reducible apply BoxN.set4_0 | with_reducible refine BoxN.ext ?_ (by assumption))); done)
            have s2 : BoxN Wr (w.heap.size + 1 + 1 + 1) 31 #[.int .i64 0] := by rw [← hWr]; ((repeat (first | with_reducible assumption | with_reducible exact KeepsFrom.refl _ _ | with_reducible refine KF.set ?_ _ _ | with_reducible refine KF.alloc ?_ _ | with_reducible refine KF.drew ?_ | with_reducible refine KF.drewN ?_ _ | with_reducible refine KF.ext ?_ (by assumption) | with_reducible exact Below.refl _ _ | with_reducible refine BL.set ?_ _ _ _ (by omega) | with_reducible refine BL.alloc ?_ _ (by omega) | with_reducible refine BL.drew ?_ | with_reducible refine BL.drewN ?_ _ | with_reducible refine BL.ext ?_ (by assumption) (by omega) | with_reducible exact Ext.refl _ | with_reducible refine Ext.set ?_ (by omega) _ | with_reducible refine Ext.alloc ?_ _ | with_reducible refine Ext.drew ?_ | with_reducible refine Ext.drewN ?_ _ | with_reducible refine Ext.trans ?_ (by assumption) | with_reducible refine BoxN.alloc ?_ _ | with_reducible refine BoxN.drew ?_ | with_reducible refine BoxN.drewN ?_ _ | with_reducible refine BoxN.other ?_ (by omega) _ | with_reducible refine BoxN.set ?_ _ _ | with_reducible apply BoxN.set1 | with_reducible apply BoxN.set2_1 | with_reducible apply BoxN.set2_0 | with_reducible apply BoxN.set5_4 | with_reducible apply BoxN.set5_3 | with_reducible apply BoxN.set5_2 | with_reducible apply BoxN.set5_1 | with_reducible apply BoxN.set5_0 | with_reducible apply BoxN.set3_2 | with_reducible apply BoxN.set3_1 | with_reducible apply BoxN.set3_0 | with_reducible apply BoxN.set4_3 | with_reducible apply BoxN.set4_2 | with_reducible apply BoxN.set4_1 | with_reducible apply BoxN.set4_0 | with_reducible refine BoxN.ext ?_ (by assumption))); done)
            have sx : Ext w Wr := by rw [← hWr]; ((repeat (first | with_reducible assumption | with_reducible exact KeepsFrom.refl _ _ | with_reducible refine KF.set ?_ _ _ | with_reducible refine KF.alloc ?_ _ | with_reducible refine KF.drew ?_ | with_reducible refine KF.drewN ?_ _ | with_reducible refine KF.ext ?_ (by assumption) | with_reducible exact Below.refl _ _ | with_reducible refine BL.set ?_ _ _ _ (by omega) | with_reducible refine BL.alloc ?_ _ (by omega) | with_reducible refine BL.drew ?_ | with_reducible refine BL.drewN ?_ _ | with_reducible refine BL.ext ?_ (by assumption) (by omega) | with_reducible exact Ext.refl _ | with_reducible refine Ext.set ?_ (by omega) _ | with_reducible refine Ext.alloc ?_ _ | with_reducible refine Ext.drew ?_ | with_reducible refine Ext.drewN ?_ _ | with_reducible refine Ext.trans ?_ (by assumption) | with_reducible refine BoxN.alloc ?_ _ | with_reducible refine BoxN.drew ?_ | with_reducible refine BoxN.drewN ?_ _ | with_reducible refine BoxN.other ?_ (by omega) _ | with_reducible refine BoxN.set ?_ _ _ | with_reducible apply BoxN.set1 | with_reducible apply BoxN.set2_1 | with_reducible apply BoxN.set2_0 | with_reducible apply BoxN.set5_4 | with_reducible apply BoxN.set5_3 | with_reducible apply BoxN.set5_2 | with_reducible apply BoxN.set5_1 | with_reducible apply BoxN.set5_0 | with_reducible apply BoxN.set3_2 | with_reducible apply BoxN.set3_1 | with_reducible apply BoxN.set3_0 | with_reducible apply BoxN.set4_3 | with_reducible apply BoxN.set4_2 | with_reducible apply BoxN.set4_1 | with_reducible apply BoxN.set4_0 | with_reducible refine BoxN.ext ?_ (by assumption))); done)
            have hkf : KeepsFrom W0.heap.size w5 Wr := by rw [← hWr]; ((repeat (first | with_reducible assumption | with_reducible exact KeepsFrom.refl _ _ | with_reducible refine KF.set ?_ _ _ | with_reducible refine KF.alloc ?_ _ | with_reducible refine KF.drew ?_ | with_reducible refine KF.drewN ?_ _ | with_reducible refine KF.ext ?_ (by assumption) | with_reducible exact Below.refl _ _ | with_reducible refine BL.set ?_ _ _ _ (by omega) | with_reducible refine BL.alloc ?_ _ (by omega) | with_reducible refine BL.drew ?_ | with_reducible refine BL.drewN ?_ _ | with_reducible refine BL.ext ?_ (by assumption) (by omega) | with_reducible exact Ext.refl _ | with_reducible refine Ext.set ?_ (by omega) _ | with_reducible refine Ext.alloc ?_ _ | with_reducible refine Ext.drew ?_ | with_reducible refine Ext.drewN ?_ _ | with_reducible refine Ext.trans ?_ (by assumption) | with_reducible refine BoxN.alloc ?_ _ | with_reducible refine BoxN.drew ?_ | with_reducible refine BoxN.drewN ?_ _ | with_reducible refine BoxN.other ?_ (by omega) _ | with_reducible refine BoxN.set ?_ _ _ | with_reducible apply BoxN.set1 | with_reducible apply BoxN.set2_1 | with_reducible apply BoxN.set2_0 | with_reducible apply BoxN.set5_4 | with_reducible apply BoxN.set5_3 | with_reducible apply BoxN.set5_2 | with_reducible apply BoxN.set5_1 | with_reducible apply BoxN.set5_0 | with_reducible apply BoxN.set3_2 | with_reducible apply BoxN.set3_1 | with_reducible apply BoxN.set3_0 | with_reducible apply BoxN.set4_3 | with_reducible apply BoxN.set4_2 | with_reducible apply BoxN.set4_1 | with_reducible apply BoxN.set4_0 | with_reducible refine BoxN.ext ?_ (by assumption))); done)
            have hKW : Wr.heap[D]? = some (.deferred (some [])) := hkf.same D _ hD hK5 rfl
            have hDlt := (Array.getElem?_eq_some_iff.1 hK).1
            have hfar : ∀ b, F1 b → b < w5.heap.size ∧ b ≠ D ∧ b ≠ w.heap.size + 1 + 1 ∧ b ≠ w.heap.size + 1 + 1 + 1 := by
              intro b hb
              by_cases hbW : b < W.heap.size
              · have := hF b (HK2.out b hbW hb)
                exact ⟨HK3.out b hb, by omega, by omega, by omega⟩
              · exact ⟨HK3.out b hb, by omega, by omega, by omega⟩
            have hsame : ∀ b, F1 b → Wr.heap[b]? = w5.heap[b]? := by
              intro b hb
              obtain ⟨_, _, h1, h2⟩ := hfar b hb
              rw [← hWr]
              exact (Below.heap_setCell _ _ _ _ h2).trans (Below.heap_setCell _ _ _ _ h1)
            have hszr : Wr.heap.size = w5.heap.size := by rw [← hWr]; simp
            clear hWr
            have e2 := (s1.putObj hKW rfl (.deferred none)).cell (j := 0) rfl
            have e3 := (s2.putObj hKW rfl (.deferred none)).cell (j := 0) rfl
            refine ⟨by simp, .inl ⟨_, _, rfl, run_takeDeferred hKW, ?_⟩⟩
            refine ⟨.tuple #[.agg #[.slice A5 n5 c5], .int .i64 0], by simp [results, Try.f46, go_sem, e2, e3], sx.putObj (by omega) hKW _, _, by rw [HC0.out]; rfl, .inr ⟨HC0.out, F1, HK1.out, fun b hb hf => HK2.out b (by omega) hf, fun b hb => ?_, ?_⟩⟩
            · have := (hfar b hb).1
              rw [World.putObj_size]; omega
            · refine HK4.out.mono (fun _ h => h) (fun b hb => ?_) (fun _ _ _ h => h)
              obtain ⟨h0, h1, _, _⟩ := hfar b hb
              exact ((grownBy_putObj' Wr D (.deferred none)).block b (by omega) (by simpa using h1)).trans (hsame b hb)
          case stop =>
            rintro D c' pre W hD hpre ⟨rfl, ⟨x, hx, hb⟩, ⟨T4, c4, s4, s, q4⟩, ⟨T5, c5, s5, q5⟩, hxW⟩ hK
            have HC := hide (show prefC t cs = 18 by
              unfold prefC
              rw [if_neg (by rw [HVL.out, HLEN.out]; simp), if_neg (by rw [HALL.out]; simp), if_pos]
              exact List.any_eq_true.2 ⟨x, hpre.subset hx, hb⟩)
            clear hb hx hpre
            gi_wp2
            have e2 := (s4.putObj hK rfl (.deferred none)).cell q4
            have e3 := (s5.putObj hK rfl (.deferred none)).cell q5
            refine ⟨by simp, .inl ⟨_, _, rfl, run_takeDeferred hK, ?_⟩⟩
            refine ⟨.tuple #[.agg #[.slice s 0 0], .int .i64 18], ?_, hxW.putObj (by omega) hK _, _, by rw [HC.out]; rfl, .inl ⟨by rw [HC.out]; decide, _, rfl⟩⟩
            simp [results, Try.f46, go_sem, e2, e3]
end Go.Proofs.Ytnnnccibhhnbaaa

namespace Go.Proofs.Ytnnnccibhhnbaaa
set_option linter.unusedVariables false

/-- A contract whose result may lie in new memory. -/
theorem ACalls.of_new {P : Program} {f : Nat} {args : List AV} {b l : List Row} {Q : AV → List Row → List Row → Prop} (hf : ∃ fn, P.funcs[f]? = some fn ∧ (fn.name == "runtime.NumGoroutine") = false ∧ fn.body.isSome = true)
    (h : ∀ F L w (vs : Array Value), (∀ b, F b → b < w.heap.size) → RepL w F L args vs.toList → Calls P f vs w fun en w' => Ext w w' ∧ ∃ v x F', en = .returned v ∧ (∀ b, F b → F' b) ∧ (∀ b, b < w.heap.size → F' b → F b) ∧ (∀ b, F' b → b < w'.heap.size) ∧ RepA w' F' (fun _ _ => none) x v ∧ Q x b l) : ACalls P f args b l Q := by
  refine ⟨hf, fun F L w vs s hr => Calls.mono (h F L w vs (fun b hb => (s.imm b hb).1) hr) ?_⟩
  rintro en w' ⟨he, v, x, F', h1, h2, h3, h4, h5, h6⟩
  have hblk : ∀ k, k < w.heap.size → w'.heap[k]? = w.heap[k]? := he.block
  have hown : ∀ k, Owned L (b ++ l) k → k < w.heap.size := by
    rintro k ⟨id, ver, sz, els, q0, k1, k2, k3⟩
    obtain ⟨q, q1, q2⟩ := s.row id ver sz els k1
    rw [k2] at q1; cases q1
    exact q2.lt k3
  refine ⟨v, x, b, l, F', L, h1, h5.mono (fun _ h => h) (fun _ _ => rfl) (fun _ _ _ h => by cases h), ⟨fun i v z els hi => ?_, s.born, s.apart, fun k hk => ⟨h4 k hk, fun ho => (s.imm k (h3 k (hown k ho) hk)).2 ho⟩⟩,
    ⟨h2, fun _ _ _ _ h => h, he.os, he.tape, he.output, he.size, fun k hk _ => hblk k hk, fun _ _ h => h, fun _ _ _ h => h, fun k hk hf => .inl (h3 k hk hf)⟩, rfl, h6⟩
  obtain ⟨q, g1, g2⟩ := s.row i v z els hi
  exact ⟨q, g1, g2.mono (fun k hk => hblk k (g2.lt hk)) (fun _ _ hx => hx.mono h2 (fun k hk => hblk k (s.imm k hk).1) (fun _ _ _ h => h))⟩

noncomputable def prefV (t : Tr) (cs : List Int) : AV := if prefC t cs = 0 then .agg [.v (eT (firstL t cs))] else .agg [.v .zsl]
theorem prefix_spec (t : Tr) (hS : Small t) (hN : Nm t) (cs : List Int) (hc : cs.length ≤ 1000000) (b l : List Row) :
    ACalls Try.prog 46 [.agg [.v (eT t)], .v (.isl 1 (cs.map eI))] b l (fun r b' l' => r = .tup [prefV t cs, .v (.int .i64 (prefC t cs))] ∧ b' = b ∧ l' = l) := by
  refine ACalls.of_new ⟨_, Try.func46, by kernel_rfl, by kernel_rfl⟩ (fun F L w vs hF hr => ?_)
  obtain ⟨v, us, h1, h2, h3⟩ := repL_cons hr
  obtain ⟨v2, us2, rfl, h4, h5⟩ := repL_cons h3
  obtain rfl := repL_nil h5
  obtain ⟨vs1, rfl, hl⟩ := h2.aggL
  obtain ⟨u, us3, h6, h7, h8⟩ := repL_cons hl
  obtain rfl := repL_nil h8
  have hvs1 : vs1 = #[u] := Array.toList_inj.1 (by rw [h6])
  subst hvs1
  have hvs : vs = #[.agg #[u], v2] := Array.toList_inj.1 (by rw [h1])
  subst hvs
  refine (Prefix_any u v2 t cs F w hS hc hN hF h7.vI h4.vI).mono ?_
  rintro e w' ⟨he, v, rfl, hcase⟩
  refine ⟨he, ?_⟩
  rcases hcase with ⟨hne, s, rfl⟩ | ⟨h0, F', g1, g2, g3, g4⟩
  · refine ⟨_, _, F, rfl, fun _ h => h, fun _ _ h => h, fun b hb => Nat.lt_of_lt_of_le (hF b hb) he.size, RepL.tup (RepL.cons (RepL.agg (vs := #[.slice s 0 0]) (RepL.cons (.v _ _ (.zsl s)) RepL.nil)) (RepL.cons (.v _ _ (.int _ _)) RepL.nil)), ?_, rfl, rfl⟩
    unfold prefV; rw [if_neg hne]
  · refine ⟨_, _, F', rfl, g1, g2, g3, RepL.tup (RepL.cons g4 (RepL.cons (.v _ _ (.int _ _)) RepL.nil)), ?_, rfl, rfl⟩
    unfold prefV; rw [if_pos h0]

theorem pref_18 : prefC pairT [0, 1] = 18 := by
  unfold prefC
  rw [if_neg (by rw [pair_valid]; decide), if_neg (by decide), if_pos]
  kernel_rfl
theorem pref_0 : prefC pairT [1, 0] = 0 := by
  unfold prefC
  rw [if_neg (by rw [pair_valid]; decide), if_neg (by decide), if_neg]
  rw [Bool.not_eq_true]
  kernel_rfl
/-- The example of chapter 12. -/
theorem awake_spec (b l : List Row) : ACalls Try.prog 43 [] b l (fun r b' l' => r = .v (.bool true) ∧ b' = b ∧ l' = l) := by
  refine awake_of (fun b l => ?_) (fun b l => ?_) b l
  · refine ACalls_mono _ _ _ _ _ _ (prefix_spec pairT pair_small pair_nm [0, 1] (by decide) b l) ?_
    rintro r b' l' ⟨rfl, rfl, rfl⟩
    refine ⟨?_, rfl, rfl⟩
    unfold prefV; rw [pref_18]; rfl
  · refine ACalls_mono _ _ _ _ _ _ (prefix_spec pairT pair_small pair_nm [1, 0] (by decide) b l) ?_
    rintro r b' l' ⟨rfl, rfl, rfl⟩
    refine ⟨?_, rfl, rfl⟩
    unfold prefV; rw [pref_0]; rfl
end Go.Proofs.Ytnnnccibhhnbaaa

namespace Go.Proofs.Ytnnnccibhhnbaaa
set_option linter.unusedVariables false
theorem OkTr.fits {t : Tr} (h : OkTr t) : Fits t := by
  have e := maxLen_eq
  refine ⟨by have := h.1; omega, fun x hx => ?_, fun x hx => ?_, fun x hx => ?_⟩
  · have := (h.2 x hx).2.1; omega
  · have := (h.2 x hx).2.2; omega
  · have := (h.2 x hx).1.1; omega
end Go.Proofs.Ytnnnccibhhnbaaa
