/- Texts of one proof, laid together: PF, WI, RJ, RD, OM, KP, PP, RK, OA, RQ, RP, RG, RF. No condition. -/
import Derived.Test.YtfdekchpckdeiaaQA4
import Derived.StillTailTactics
import Derived.Laws.MakeOwn
import Derived.Deep.RegionWith
/- Walk: Prefix. No condition but on lengths. -/
namespace Go.Proofs.Ytfdekchpckdeiaa
open Go.RowKit
set_option linter.unusedVariables false
attribute [local go_sem] Oper.semAt_some

def RInt (w : World) (b o : Nat) (x : Int) : Prop := w.cell? ⟨b, o, none⟩ = some (.int .i64 x)
theorem RInt.keeps : Keeps RInt := fun _ _ _ _ _ he h => he.cellAt h
def cAt (cs : List Int) (p : Nat) : Int := cs.getD p 0
def rangeB (t : Tr) (cs : List Int) (p : Nat) : Bool := inB (cAt cs p) 0 (evsOf t p).length
/-- A receive in the cut whose sending is not in it. -/
def badL (t : Tr) (cs : List Int) (x : Nat × Nat) : Bool :=
  (evAt t x).kind == 3 && (!decide ((x.2 : Int) > cAt cs x.1) && decide (((firstOf t (ids t) 2 (evAt t x).msg).2 : Int) > cAt cs (firstOf t (ids t) 2 (evAt t x).msg).1))
noncomputable def prefC (t : Tr) (cs : List Int) : Nat :=
  if validL t = false ∨ cs.length ≠ t.length then 1 else if (List.range cs.length).all (rangeB t cs) = false then 2 else if (ids t).any (badL t cs) = true then 18 else 0
def PfPost (t : Tr) (cs : List Int) (F : Nat → Prop) (w : World) (e : Ending) (w' : World) : Prop := Ext w w' ∧
  ∃ v, e = .returned (.tuple #[v, .int .i64 (prefC t cs)]) ∧
    ((prefC t cs ≠ 0 ∧ ∃ s, v = .agg #[.slice s 0 0]) ∨ (prefC t cs = 0 ∧ ∃ F' : Nat → Prop, (∀ b, F b → F' b) ∧ (∀ b, b < w.heap.size → F' b → F b) ∧ (∀ b, F' b → b < w'.heap.size) ∧ RepA w' F' (fun _ _ => none) (.agg [.v (eT (firstL t cs))]) v))

theorem repL_cons' {w : World} {F : Nat → Prop} {L : LMap} {x : AV} {xs : List AV} {vs : List Value} (h : RepL w F L (x :: xs) vs) : ∃ v us, vs = v :: us ∧ RepA w F L x v ∧ RepL w F L xs us := by
  obtain ⟨h1, h2⟩ := h
  cases vs with
  | nil => simp at h1
  | cons v us => exact ⟨v, us, rfl, h2 0 x v rfl rfl, by simpa using h1, fun i a u ha hu => h2 (i + 1) a u ha hu⟩
theorem repL_nil' {w : World} {F : Nat → Prop} {L : LMap} {vs : List Value} (h : RepL w F L [] vs) : vs = [] := by
  have := h.1
  exact List.eq_nil_of_length_eq_zero (by simpa using this.symm)
structure ValidOk (t : Tr) : Prop where
  lo : 1 ≤ t.length
  hi : t.length ≤ 8
  head : ∀ p, p < t.length → headF t p = 0
  form : ∀ x ∈ ids t, formF t x = 0
  pair : ∀ x ∈ ids t, pairF t x = 0
  acyc : ∀ x ∈ ids t, ¬ Hb t x x
theorem valid_ok {t : Tr} (h : validL t = true) : ValidOk t := by
  unfold validL faultL at h
  split at h
  · simp at h
  rename_i hl
  split at h
  · rename_i p hp
    have := List.find?_some hp
    simp at h this; exact absurd h this
  rename_i h1
  split at h
  · rename_i p hp
    have := List.find?_some hp
    simp at h this; exact absurd h this
  rename_i h2
  split at h
  · rename_i p hp
    have := List.find?_some hp
    simp at h this; exact absurd h this
  rename_i h3
  split at h
  · simp at h
  rename_i h4
  rw [List.find?_eq_none] at h1 h2 h3 h4
  refine ⟨by omega, by omega, fun p hp => ?_, fun x hx => ?_, fun x hx => ?_, fun x hx => ?_⟩
  · simpa using h1 p (List.mem_range.2 hp)
  · simpa using h2 x hx
  · simpa using h3 x hx
  · simpa using h4 x hx
theorem valid_form {t : Tr} (h : validL t = true) : ∀ x ∈ ids t, formedB t.length x.1 (evAt t x) = true := fun x hx => formF_formed ((valid_ok h).form x hx)
theorem valid_pairs {t : Tr} (h : validL t = true) : (ids t).find? (fun x => pairF t x != 0) = none := by
  rw [List.find?_eq_none]; intro x hx; simp [(valid_ok h).pair x hx]

theorem first_mem (t : Tr) (cs : List Int) (hC : CutOk t cs) (F : Nat → Prop) (w : World) (hF : ∀ b, F b → b < w.heap.size) {u uc : Value} (hu : RepI w F (eT t) u) (huc : RepI w F (.isl 1 (cs.map eI)) uc) :
    Calls Try.prog 81 #[.agg #[u], uc] w fun e w' => ∃ v F1, e = .returned (.agg #[v]) ∧ Ext w w' ∧ (∀ b, F b → F1 b) ∧ (∀ b, b < w.heap.size → F1 b → F b) ∧ (∀ b, F1 b → b < w'.heap.size) ∧ RepA w' F1 (fun _ _ => none) (.agg [.v (eT (firstL t cs))]) (.agg #[v]) ∧ ∃ A n c, v = .slice A n c := by
  refine Calls.mono ((first_spec t cs hC [] []).2 F (fun _ _ => none) w _ (sim_nil hF) (RepL.cons (RepL.agg (vs := #[u]) (RepL.cons (.v _ _ hu) RepL.nil)) (RepL.cons (.v _ _ huc) RepL.nil))) ?_
  rintro en w' ⟨v, x, b', l', F', L', rfl, h2, h3, h4, h5, rfl, rfl, rfl⟩
  obtain ⟨vs, rfl, hl⟩ := h2.aggL
  obtain ⟨v, us, h6, h7, h8⟩ := repL_cons' hl
  have := repL_nil' h8
  subst this
  have hvs : vs = #[v] := Array.toList_inj.1 (by rw [h6])
  subst hvs
  refine ⟨v, F', rfl, step_nil_block h4, h4.imm, fun b hb hf => (h4.fnew b hb hf).elim id (fun ho => ?_), fun b hb => (h3.imm b hb).1, h2.cut (m := 0) (.agg _ (by intro c hc; simp at hc; subst hc; exact .v _)) (fun _ _ h => absurd h (Nat.not_lt_zero _)), ?_⟩
  case refine_2 =>
    obtain ⟨A, c, hv, _⟩ := repI_isl h7.vI
    exact ⟨A, _, c, hv⟩
  obtain ⟨i, v, s, e1, o, z, c, g1, g2⟩ := ho
  cases g2
def PfI (t : Tr) (cs : List Int) (W0 : World) (l : List (Nat × Nat)) (W : World) : Prop := Ext W0 W ∧ ∀ x ∈ l, badL t cs x = false
def CellsAt (b : Nat) (p : Array Value → Prop) (W : World) : Prop := ∃ T c, BoxN W b T c ∧ p c
theorem cellsAt_from {β : Type} (b n : Nat) (p : Array Value → Prop) : OwnFrom n (fun (_ : β) W => CellsAt b p W) := by
  rintro s X Y row ⟨T, c, h, hp⟩ hg hrow
  exact ⟨T, c, h.kept hg (fun e' => by obtain ⟨_, o, ho, hc⟩ := hrow b e'.symm; rw [show X.heap[b]? = _ from h] at ho; cases ho; cases hc), hp⟩
def PfX (t : Tr) (cs : List Int) (w : World) (l : List (Nat × Nat)) (W : World) : Prop :=
  (∃ x, x ∈ l ∧ badL t cs x = true) ∧ CellsAt (w.heap.size + 1 + 1) (fun c => ∃ s, c[0]? = some (.slice s 0 0)) W ∧ CellsAt (w.heap.size + 1 + 1 + 1) (fun c => c[0]? = some (.int .i64 18)) W ∧ Ext w W
theorem pfi_from (t : Tr) (cs : List Int) (W0 : World) {n : Nat} (hn : W0.heap.size ≤ n) : OwnFrom n (fun (pre : List (Idt t)) W => PfI t cs W0 (pre.map (·.1)) W) :=
  OwnFrom.and (ext_from hn) (ownFrom_pure _ _)
theorem pfx_from (t : Tr) (cs : List Int) (w : World) {n : Nat} (hn : w.heap.size ≤ n) : OwnFrom n (fun (pre : List (Idt t)) W => PfX t cs w (pre.map (·.1)) W) :=
  OwnFrom.and (ownFrom_pure _ _) (OwnFrom.and (cellsAt_from _ _ _) (OwnFrom.and (cellsAt_from _ _ _) (ext_from hn)))

set_option maxRecDepth 100000 in
set_option maxHeartbeats 4000000 in
theorem Prefix_any (u uc : Value) (t : Tr) (cs : List Int) (F : Nat → Prop) (w : World) (hS : Small t) (hc : cs.length ≤ 1000000) (hN : Nm t) (hF : ∀ b, F b → b < w.heap.size) (hu : RepI w F (eT t) u) (huc : RepI w F (.isl 1 (cs.map eI)) uc) :
    Calls Try.prog 20 #[.agg #[u], uc] w fun e w' => PfPost t cs F w e w' := by
  have hs : SlR 3 RPr w u t := tr_in hN hu
  have hsc : SlR 1 RInt w uc cs := slr_of_rep (fun b o x _ h => rowInt (j := 0) h rfl) huc
  have HV := hide (fun w' (he : Ext w w') => callsIn_wide (n := 8).2 (Valid_any u t w' hS (hs.ext RPr.keeps he)))
  have HI := hide (fun x lo hi w => callsIn_wide (n := 8).2 (in_any x lo hi w))
  have HU := hide hu
  have HUC := hide huc
  refine callsIn_wide (n := 9).1 ?_
  refine callsIn_of_wp_marks Try.func20 rfl trivial ?_ rfl
  simp only [Try.ntmps20, List.size_toArray, List.length_cons, List.length_nil, Nat.reduceAdd, Nat.reduceSub, Array.replicate_succ, Array.replicate_zero, List.push_toArray, List.append_toArray, List.nil_append, List.cons_append]
  obtain ⟨A, c, rfl, _, hcm, _⟩ := hs.at_
  obtain ⟨A2, c2, rfl, _, hcm2, _⟩ := hsc.at_
  gi_wp2_with fail
  refine ⟨trivial, ?_⟩
  have hx1 : Ext w (((((w).alloc (.cells #[.slice A t.length c] 24)).alloc (.cells #[.slice A2 cs.length c2] 34)).alloc (.cells #[.slice none 0 0] 24)).alloc (.cells #[.int .i64 0] 29)) := ((((Ext.refl w).alloc _).alloc _).alloc _).alloc _
  have bT : BoxN (((((w).alloc (.cells #[.slice A t.length c] 24)).alloc (.cells #[.slice A2 cs.length c2] 34)).alloc (.cells #[.slice none 0 0] 24)).alloc (.cells #[.int .i64 0] 29)) (w.heap.size) 24 #[.slice A t.length c] := (((BoxN.new _ _ _).alloc _).alloc _).alloc _
  have bC : BoxN (((((w).alloc (.cells #[.slice A t.length c] 24)).alloc (.cells #[.slice A2 cs.length c2] 34)).alloc (.cells #[.slice none 0 0] 24)).alloc (.cells #[.int .i64 0] 29)) (w.heap.size + 1) 34 #[.slice A2 cs.length c2] := ((BoxN.newAt _ _ (by simp)).alloc _).alloc _
  have b3 : BoxN (((((w).alloc (.cells #[.slice A t.length c] 24)).alloc (.cells #[.slice A2 cs.length c2] 34)).alloc (.cells #[.slice none 0 0] 24)).alloc (.cells #[.int .i64 0] 29)) (w.heap.size + 1 + 1) 24 #[.slice none 0 0] := (BoxN.newAt _ _ (by simp)).alloc _
  have b4 : BoxN (((((w).alloc (.cells #[.slice A t.length c] 24)).alloc (.cells #[.slice A2 cs.length c2] 34)).alloc (.cells #[.slice none 0 0] 24)).alloc (.cells #[.int .i64 0] 29)) (w.heap.size + 1 + 1 + 1) 29 #[.int .i64 0] := BoxN.newAt _ _ (by simp)
  generalize ((((w).alloc (.cells #[.slice A t.length c] 24)).alloc (.cells #[.slice A2 cs.length c2] 34)).alloc (.cells #[.slice none 0 0] 24)).alloc (.cells #[.int .i64 0] 29) = W1 at *
  refine (HV.out _ hx1).mono ?_
  rintro e w2 ⟨rfl, he2⟩
  replace hx1 := hx1.trans he2
  replace b3 := b3.ext he2
  replace b4 := b4.ext he2
  replace bT := bT.ext he2
  replace bC := bC.ext he2
  clear he2
  have f3 := b3.frozen 0
  have f4 := b4.frozen 0
  have r3 : w2.cell? ⟨w.heap.size + 1 + 1, 0, none⟩ = some (.slice none 0 0) := b3.cell (j := 0) rfl
  have r4 : w2.cell? ⟨w.heap.size + 1 + 1 + 1, 0, none⟩ = some (.int .i64 0) := b4.cell (j := 0) rfl
  have t0 : w2.cell? ⟨w.heap.size, 0, none⟩ = some (.slice A t.length c) := bT.cell (j := 0) rfl
  have tc : w2.cell? ⟨w.heap.size + 1, 0, none⟩ = some (.slice A2 cs.length c2) := bC.cell (j := 0) rfl
  -- an error: what is left
  have FIN : ∀ (wr : World) (k : Nat), Ext w wr → BoxN wr (w.heap.size + 1 + 1) 24 #[.slice none 0 0] → BoxN wr (w.heap.size + 1 + 1 + 1) 29 #[.int .i64 k] → k ≠ 0 → prefC t cs = k → PfPost t cs F w (.returned (.tuple #[.agg #[.slice none 0 0], .int .i64 k])) wr := by
    intro wr k h1 _ _ h2 h3
    exact ⟨h1, _, by rw [h3], .inl ⟨by rw [h3]; exact h2, _, rfl⟩⟩
  cases hv : validL t
  · have HC := hide (show prefC t cs = 1 by unfold prefC; rw [if_pos (.inl hv)])
    clear hv
    gi_wp2_with fail
    obtain ⟨Wr, hWr⟩ : ∃ Wr, (w2.setCell ⟨w.heap.size + 1 + 1, 0, none⟩ (Value.slice none 0 0)).setCell ⟨w.heap.size + 1 + 1 + 1, 0, none⟩ (Value.int .i64 1) = Wr := ⟨_, rfl⟩
    rw [hWr]
    have s1 : BoxN Wr (w.heap.size + 1 + 1) 24 #[.slice none 0 0] := by rw [← hWr]; ((repeat (first | with_reducible assumption | with_reducible exact KeepsFrom.refl _ _ | with_reducible refine KF.set ?_ _ _ | with_reducible refine KF.alloc ?_ _ | with_reducible refine KF.drew ?_ | with_reducible refine KF.drewN ?_ _ | with_reducible refine KF.ext ?_ (by assumption) | with_reducible exact Below.refl _ _ | with_reducible refine BL.set ?_ _ _ _ (by omega) | with_reducible refine BL.alloc ?_ _ (by omega) | with_reducible refine BL.drew ?_ | with_reducible refine BL.drewN ?_ _ | with_reducible refine BL.ext ?_ (by assumption) (by omega) | with_reducible exact Ext.refl _ | with_reducible refine Ext.set ?_ (by omega) _ | with_reducible refine Ext.alloc ?_ _ | with_reducible refine Ext.drew ?_ | with_reducible refine Ext.drewN ?_ _ | with_reducible refine Ext.trans ?_ (by assumption) | with_reducible refine BoxN.alloc ?_ _ | with_reducible refine BoxN.drew ?_ | with_reducible refine BoxN.drewN ?_ _ | with_reducible refine BoxN.other ?_ (by omega) _ | with_reducible refine BoxN.set ?_ _ _ | with_reducible apply BoxN.set1 | with_reducible apply BoxN.set2_1 | with_reducible apply BoxN.set2_0 | with_reducible apply BoxN.set5_4 | with_reducible apply BoxN.set5_3 | with_reducible apply BoxN.set5_2 | with_reducible apply BoxN.set5_1 | with_reducible apply BoxN.set5_0 | with_reducible apply BoxN.set3_2 | with_reducible apply BoxN.set3_1 | with_reducible apply BoxN.set3_0 | with_reducible apply BoxN.set4_3 | with_reducible apply BoxN.set4_2 | with_reducible apply BoxN.set4_1 | with_reducible apply BoxN.set4_0 | with_reducible refine BoxN.ext ?_ (by assumption))); done)
    have s2 : BoxN Wr (w.heap.size + 1 + 1 + 1) 29 #[.int .i64 1] := by rw [← hWr]; ((repeat (first | with_reducible assumption | with_reducible exact KeepsFrom.refl _ _ | with_reducible refine KF.set ?_ _ _ | with_reducible refine KF.alloc ?_ _ | with_reducible refine KF.drew ?_ | with_reducible refine KF.drewN ?_ _ | with_reducible refine KF.ext ?_ (by assumption) | with_reducible exact Below.refl _ _ | with_reducible refine BL.set ?_ _ _ _ (by omega) | with_reducible refine BL.alloc ?_ _ (by omega) | with_reducible refine BL.drew ?_ | with_reducible refine BL.drewN ?_ _ | with_reducible refine BL.ext ?_ (by assumption) (by omega) | with_reducible exact Ext.refl _ | with_reducible refine Ext.set ?_ (by omega) _ | with_reducible refine Ext.alloc ?_ _ | with_reducible refine Ext.drew ?_ | with_reducible refine Ext.drewN ?_ _ | with_reducible refine Ext.trans ?_ (by assumption) | with_reducible refine BoxN.alloc ?_ _ | with_reducible refine BoxN.drew ?_ | with_reducible refine BoxN.drewN ?_ _ | with_reducible refine BoxN.other ?_ (by omega) _ | with_reducible refine BoxN.set ?_ _ _ | with_reducible apply BoxN.set1 | with_reducible apply BoxN.set2_1 | with_reducible apply BoxN.set2_0 | with_reducible apply BoxN.set5_4 | with_reducible apply BoxN.set5_3 | with_reducible apply BoxN.set5_2 | with_reducible apply BoxN.set5_1 | with_reducible apply BoxN.set5_0 | with_reducible apply BoxN.set3_2 | with_reducible apply BoxN.set3_1 | with_reducible apply BoxN.set3_0 | with_reducible apply BoxN.set4_3 | with_reducible apply BoxN.set4_2 | with_reducible apply BoxN.set4_1 | with_reducible apply BoxN.set4_0 | with_reducible refine BoxN.ext ?_ (by assumption))); done)
    have sx : Ext w Wr := by rw [← hWr]; ((repeat (first | with_reducible assumption | with_reducible exact KeepsFrom.refl _ _ | with_reducible refine KF.set ?_ _ _ | with_reducible refine KF.alloc ?_ _ | with_reducible refine KF.drew ?_ | with_reducible refine KF.drewN ?_ _ | with_reducible refine KF.ext ?_ (by assumption) | with_reducible exact Below.refl _ _ | with_reducible refine BL.set ?_ _ _ _ (by omega) | with_reducible refine BL.alloc ?_ _ (by omega) | with_reducible refine BL.drew ?_ | with_reducible refine BL.drewN ?_ _ | with_reducible refine BL.ext ?_ (by assumption) (by omega) | with_reducible exact Ext.refl _ | with_reducible refine Ext.set ?_ (by omega) _ | with_reducible refine Ext.alloc ?_ _ | with_reducible refine Ext.drew ?_ | with_reducible refine Ext.drewN ?_ _ | with_reducible refine Ext.trans ?_ (by assumption) | with_reducible refine BoxN.alloc ?_ _ | with_reducible refine BoxN.drew ?_ | with_reducible refine BoxN.drewN ?_ _ | with_reducible refine BoxN.other ?_ (by omega) _ | with_reducible refine BoxN.set ?_ _ _ | with_reducible apply BoxN.set1 | with_reducible apply BoxN.set2_1 | with_reducible apply BoxN.set2_0 | with_reducible apply BoxN.set5_4 | with_reducible apply BoxN.set5_3 | with_reducible apply BoxN.set5_2 | with_reducible apply BoxN.set5_1 | with_reducible apply BoxN.set5_0 | with_reducible apply BoxN.set3_2 | with_reducible apply BoxN.set3_1 | with_reducible apply BoxN.set3_0 | with_reducible apply BoxN.set4_3 | with_reducible apply BoxN.set4_2 | with_reducible apply BoxN.set4_1 | with_reducible apply BoxN.set4_0 | with_reducible refine BoxN.ext ?_ (by assumption))); done)
    clear hWr
    exact ⟨.tuple #[.agg #[.slice none 0 0], .int .i64 1], by simp [results, Try.f20, go_sem, s1.cell (j := 0) rfl, s2.cell (j := 0) rfl], FIN Wr 1 sx s1 s2 (by decide) HC.out⟩
  · have HVL := hide hv
    clear hv
    by_cases hlen : cs.length = t.length
    case neg =>
      have hd : ((cs.length : Int) != (t.length : Int)) = true := by simp; omega
      have HC := hide (show prefC t cs = 1 by unfold prefC; rw [if_pos (.inr hlen)])
      clear hlen
      gi_wp2_with fail
      obtain ⟨Wr, hWr⟩ : ∃ Wr, (w2.setCell ⟨w.heap.size + 1 + 1, 0, none⟩ (Value.slice none 0 0)).setCell ⟨w.heap.size + 1 + 1 + 1, 0, none⟩ (Value.int .i64 1) = Wr := ⟨_, rfl⟩
      rw [hWr]
      have s1 : BoxN Wr (w.heap.size + 1 + 1) 24 #[.slice none 0 0] := by rw [← hWr]; ((repeat (first | with_reducible assumption | with_reducible exact KeepsFrom.refl _ _ | with_reducible refine KF.set ?_ _ _ | with_reducible refine KF.alloc ?_ _ | with_reducible refine KF.drew ?_ | with_reducible refine KF.drewN ?_ _ | with_reducible refine KF.ext ?_ (by assumption) | with_reducible exact Below.refl _ _ | with_reducible refine BL.set ?_ _ _ _ (by omega) | with_reducible refine BL.alloc ?_ _ (by omega) | with_reducible refine BL.drew ?_ | with_reducible refine BL.drewN ?_ _ | with_reducible refine BL.ext ?_ (by assumption) (by omega) | with_reducible exact Ext.refl _ | with_reducible refine Ext.set ?_ (by omega) _ | with_reducible refine Ext.alloc ?_ _ | with_reducible refine Ext.drew ?_ | with_reducible refine Ext.drewN ?_ _ | with_reducible refine Ext.trans ?_ (by assumption) | with_reducible refine BoxN.alloc ?_ _ | with_reducible refine BoxN.drew ?_ | with_reducible refine BoxN.drewN ?_ _ | with_reducible refine BoxN.other ?_ (by omega) _ | with_reducible refine BoxN.set ?_ _ _ | with_reducible apply BoxN.set1 | with_reducible apply BoxN.set2_1 | with_reducible apply BoxN.set2_0 | with_reducible apply BoxN.set5_4 | with_reducible apply BoxN.set5_3 | with_reducible apply BoxN.set5_2 | with_reducible apply BoxN.set5_1 | with_reducible apply BoxN.set5_0 | with_reducible apply BoxN.set3_2 | with_reducible apply BoxN.set3_1 | with_reducible apply BoxN.set3_0 | with_reducible apply BoxN.set4_3 | with_reducible apply BoxN.set4_2 | with_reducible apply BoxN.set4_1 | with_reducible apply BoxN.set4_0 | with_reducible refine BoxN.ext ?_ (by assumption))); done)
      have s2 : BoxN Wr (w.heap.size + 1 + 1 + 1) 29 #[.int .i64 1] := by rw [← hWr]; ((repeat (first | with_reducible assumption | with_reducible exact KeepsFrom.refl _ _ | with_reducible refine KF.set ?_ _ _ | with_reducible refine KF.alloc ?_ _ | with_reducible refine KF.drew ?_ | with_reducible refine KF.drewN ?_ _ | with_reducible refine KF.ext ?_ (by assumption) | with_reducible exact Below.refl _ _ | with_reducible refine BL.set ?_ _ _ _ (by omega) | with_reducible refine BL.alloc ?_ _ (by omega) | with_reducible refine BL.drew ?_ | with_reducible refine BL.drewN ?_ _ | with_reducible refine BL.ext ?_ (by assumption) (by omega) | with_reducible exact Ext.refl _ | with_reducible refine Ext.set ?_ (by omega) _ | with_reducible refine Ext.alloc ?_ _ | with_reducible refine Ext.drew ?_ | with_reducible refine Ext.drewN ?_ _ | with_reducible refine Ext.trans ?_ (by assumption) | with_reducible refine BoxN.alloc ?_ _ | with_reducible refine BoxN.drew ?_ | with_reducible refine BoxN.drewN ?_ _ | with_reducible refine BoxN.other ?_ (by omega) _ | with_reducible refine BoxN.set ?_ _ _ | with_reducible apply BoxN.set1 | with_reducible apply BoxN.set2_1 | with_reducible apply BoxN.set2_0 | with_reducible apply BoxN.set5_4 | with_reducible apply BoxN.set5_3 | with_reducible apply BoxN.set5_2 | with_reducible apply BoxN.set5_1 | with_reducible apply BoxN.set5_0 | with_reducible apply BoxN.set3_2 | with_reducible apply BoxN.set3_1 | with_reducible apply BoxN.set3_0 | with_reducible apply BoxN.set4_3 | with_reducible apply BoxN.set4_2 | with_reducible apply BoxN.set4_1 | with_reducible apply BoxN.set4_0 | with_reducible refine BoxN.ext ?_ (by assumption))); done)
      have sx : Ext w Wr := by rw [← hWr]; ((repeat (first | with_reducible assumption | with_reducible exact KeepsFrom.refl _ _ | with_reducible refine KF.set ?_ _ _ | with_reducible refine KF.alloc ?_ _ | with_reducible refine KF.drew ?_ | with_reducible refine KF.drewN ?_ _ | with_reducible refine KF.ext ?_ (by assumption) | with_reducible exact Below.refl _ _ | with_reducible refine BL.set ?_ _ _ _ (by omega) | with_reducible refine BL.alloc ?_ _ (by omega) | with_reducible refine BL.drew ?_ | with_reducible refine BL.drewN ?_ _ | with_reducible refine BL.ext ?_ (by assumption) (by omega) | with_reducible exact Ext.refl _ | with_reducible refine Ext.set ?_ (by omega) _ | with_reducible refine Ext.alloc ?_ _ | with_reducible refine Ext.drew ?_ | with_reducible refine Ext.drewN ?_ _ | with_reducible refine Ext.trans ?_ (by assumption) | with_reducible refine BoxN.alloc ?_ _ | with_reducible refine BoxN.drew ?_ | with_reducible refine BoxN.drewN ?_ _ | with_reducible refine BoxN.other ?_ (by omega) _ | with_reducible refine BoxN.set ?_ _ _ | with_reducible apply BoxN.set1 | with_reducible apply BoxN.set2_1 | with_reducible apply BoxN.set2_0 | with_reducible apply BoxN.set5_4 | with_reducible apply BoxN.set5_3 | with_reducible apply BoxN.set5_2 | with_reducible apply BoxN.set5_1 | with_reducible apply BoxN.set5_0 | with_reducible apply BoxN.set3_2 | with_reducible apply BoxN.set3_1 | with_reducible apply BoxN.set3_0 | with_reducible apply BoxN.set4_3 | with_reducible apply BoxN.set4_2 | with_reducible apply BoxN.set4_1 | with_reducible apply BoxN.set4_0 | with_reducible refine BoxN.ext ?_ (by assumption))); done)
      clear hWr
      exact ⟨.tuple #[.agg #[.slice none 0 0], .int .i64 1], by simp [results, Try.f20, go_sem, s1.cell (j := 0) rfl, s2.cell (j := 0) rfl], FIN Wr 1 sx s1 s2 (by decide) HC.out⟩
    case pos =>
      have hd : ((cs.length : Int) != (t.length : Int)) = false := by simp; omega
      have HLEN := hide hlen
      clear hlen
      have hnp := hS.np
      have hsz2 := hx1.size
      gi_wp2_with fail
      gi_loopw [28] (fun i wr => ∃ k : Nat, k ≤ cs.length ∧ i = .int .i64 k ∧ (∀ q, q < k → rangeB t cs q = true) ∧ wr = w2) (fun i _ => cs.length - (intOf i).toNat)
      case atStart => exact ⟨0, Nat.zero_le _, rfl, fun q hq => absurd hq (Nat.not_lt_zero _), rfl⟩
      case round =>
        obtain ⟨k, hk, rfl, h0, rfl⟩ := hrel
        have H0 := hide h0
        clear h0
        by_cases hlt : k < cs.length
        · have hlt2 : k < t.length := by rw [← HLEN.out]; exact hlt
          obtain ⟨A', c', hA', _, _, hc'⟩ := (hs.ext RPr.keeps hx1).at_
          obtain ⟨b', off', hb', hel⟩ := hc' (by omega)
          cases hA'
          subst hb'
          obtain ⟨_, _, v2, d2, hs2⟩ := hel k hlt2
          obtain ⟨A3, c3, rfl, _, _, _⟩ := hs2.at_
          obtain ⟨A'', c'', hA'', _, _, hcc⟩ := (hsc.ext RInt.keeps hx1).at_
          obtain ⟨b'', off'', hb'', helc⟩ := hcc (by omega)
          cases hA''
          subst hb''
          have hck := helc k hlt
          unfold RInt at hck
          rw [Nat.mul_one] at hck
          have hnk := hS.ne _ (List.getElem_mem hlt2)
          have HRB := hide (show rangeB t cs k = inB cs[k] 0 t[k].evs.length by unfold rangeB cAt evsOf; simp [List.getD, hlt, hlt2])
          clear hs2 hel hc' hcc helc
          have HIk := hide (HI.out cs[k] 0 t[k].evs.length)
          cases hr : inB cs[k] 0 t[k].evs.length
          · rw [hr] at HIk
            have HC := hide (show prefC t cs = 2 by
              unfold prefC
              rw [if_neg (by rw [HVL.out, HLEN.out]; simp), if_pos]
              rw [List.all_eq_false]
              exact ⟨k, List.mem_range.2 hlt, by rw [HRB.out, hr]; simp⟩)
            clear hr
            gi_wp2_with (refine ⟨trivial, ?_⟩; gi_at_call 71; refine (HIk.out _).mono ?_; rintro e w' ⟨rfl, rfl⟩)
            obtain ⟨Wr, hWr⟩ : ∃ Wr, (wr.setCell ⟨w.heap.size + 1 + 1, 0, none⟩ (Value.slice none 0 0)).setCell ⟨w.heap.size + 1 + 1 + 1, 0, none⟩ (Value.int .i64 2) = Wr := ⟨_, rfl⟩
            rw [hWr]
            have s1 : BoxN Wr (w.heap.size + 1 + 1) 24 #[.slice none 0 0] := by rw [← hWr]; ((repeat (first | with_reducible assumption | with_reducible exact KeepsFrom.refl _ _ | with_reducible refine KF.set ?_ _ _ | with_reducible refine KF.alloc ?_ _ | with_reducible refine KF.drew ?_ | with_reducible refine KF.drewN ?_ _ | with_reducible refine KF.ext ?_ (by assumption) | with_reducible exact Below.refl _ _ | with_reducible refine BL.set ?_ _ _ _ (by omega) | with_reducible refine BL.alloc ?_ _ (by omega) | with_reducible refine BL.drew ?_ | with_reducible refine BL.drewN ?_ _ | with_reducible refine BL.ext ?_ (by assumption) (by omega) | with_reducible exact Ext.refl _ | with_reducible refine Ext.set ?_ (by omega) _ | with_reducible refine Ext.alloc ?_ _ | with_reducible refine Ext.drew ?_ | with_reducible refine Ext.drewN ?_ _ | with_reducible refine Ext.trans ?_ (by assumption) | with_reducible refine BoxN.alloc ?_ _ | with_reducible refine BoxN.drew ?_ | with_reducible refine BoxN.drewN ?_ _ | with_reducible refine BoxN.other ?_ (by omega) _ | with_reducible refine BoxN.set ?_ _ _ | with_reducible apply BoxN.set1 | with_reducible apply BoxN.set2_1 | with_reducible apply BoxN.set2_0 | with_reducible apply BoxN.set5_4 | with_reducible apply BoxN.set5_3 | with_reducible apply BoxN.set5_2 | with_reducible apply BoxN.set5_1 | with_reducible apply BoxN.set5_0 | with_reducible apply BoxN.set3_2 | with_reducible apply BoxN.set3_1 | with_reducible apply BoxN.set3_0 | with_reducible apply BoxN.set4_3 | with_reducible apply BoxN.set4_2 | with_reducible apply BoxN.set4_1 | with_reducible apply BoxN.set4_0 | with_reducible refine BoxN.ext ?_ (by assumption))); done)
            have s2 : BoxN Wr (w.heap.size + 1 + 1 + 1) 29 #[.int .i64 2] := by rw [← hWr]; ((repeat (first | with_reducible assumption | with_reducible exact KeepsFrom.refl _ _ | with_reducible refine KF.set ?_ _ _ | with_reducible refine KF.alloc ?_ _ | with_reducible refine KF.drew ?_ | with_reducible refine KF.drewN ?_ _ | with_reducible refine KF.ext ?_ (by assumption) | with_reducible exact Below.refl _ _ | with_reducible refine BL.set ?_ _ _ _ (by omega) | with_reducible refine BL.alloc ?_ _ (by omega) | with_reducible refine BL.drew ?_ | with_reducible refine BL.drewN ?_ _ | with_reducible refine BL.ext ?_ (by assumption) (by omega) | with_reducible exact Ext.refl _ | with_reducible refine Ext.set ?_ (by omega) _ | with_reducible refine Ext.alloc ?_ _ | with_reducible refine Ext.drew ?_ | with_reducible refine Ext.drewN ?_ _ | with_reducible refine Ext.trans ?_ (by assumption) | with_reducible refine BoxN.alloc ?_ _ | with_reducible refine BoxN.drew ?_ | with_reducible refine BoxN.drewN ?_ _ | with_reducible refine BoxN.other ?_ (by omega) _ | with_reducible refine BoxN.set ?_ _ _ | with_reducible apply BoxN.set1 | with_reducible apply BoxN.set2_1 | with_reducible apply BoxN.set2_0 | with_reducible apply BoxN.set5_4 | with_reducible apply BoxN.set5_3 | with_reducible apply BoxN.set5_2 | with_reducible apply BoxN.set5_1 | with_reducible apply BoxN.set5_0 | with_reducible apply BoxN.set3_2 | with_reducible apply BoxN.set3_1 | with_reducible apply BoxN.set3_0 | with_reducible apply BoxN.set4_3 | with_reducible apply BoxN.set4_2 | with_reducible apply BoxN.set4_1 | with_reducible apply BoxN.set4_0 | with_reducible refine BoxN.ext ?_ (by assumption))); done)
            have sx : Ext w Wr := by rw [← hWr]; ((repeat (first | with_reducible assumption | with_reducible exact KeepsFrom.refl _ _ | with_reducible refine KF.set ?_ _ _ | with_reducible refine KF.alloc ?_ _ | with_reducible refine KF.drew ?_ | with_reducible refine KF.drewN ?_ _ | with_reducible refine KF.ext ?_ (by assumption) | with_reducible exact Below.refl _ _ | with_reducible refine BL.set ?_ _ _ _ (by omega) | with_reducible refine BL.alloc ?_ _ (by omega) | with_reducible refine BL.drew ?_ | with_reducible refine BL.drewN ?_ _ | with_reducible refine BL.ext ?_ (by assumption) (by omega) | with_reducible exact Ext.refl _ | with_reducible refine Ext.set ?_ (by omega) _ | with_reducible refine Ext.alloc ?_ _ | with_reducible refine Ext.drew ?_ | with_reducible refine Ext.drewN ?_ _ | with_reducible refine Ext.trans ?_ (by assumption) | with_reducible refine BoxN.alloc ?_ _ | with_reducible refine BoxN.drew ?_ | with_reducible refine BoxN.drewN ?_ _ | with_reducible refine BoxN.other ?_ (by omega) _ | with_reducible refine BoxN.set ?_ _ _ | with_reducible apply BoxN.set1 | with_reducible apply BoxN.set2_1 | with_reducible apply BoxN.set2_0 | with_reducible apply BoxN.set5_4 | with_reducible apply BoxN.set5_3 | with_reducible apply BoxN.set5_2 | with_reducible apply BoxN.set5_1 | with_reducible apply BoxN.set5_0 | with_reducible apply BoxN.set3_2 | with_reducible apply BoxN.set3_1 | with_reducible apply BoxN.set3_0 | with_reducible apply BoxN.set4_3 | with_reducible apply BoxN.set4_2 | with_reducible apply BoxN.set4_1 | with_reducible apply BoxN.set4_0 | with_reducible refine BoxN.ext ?_ (by assumption))); done)
            clear hWr
            exact ⟨.tuple #[.agg #[.slice none 0 0], .int .i64 2], by simp [results, Try.f20, go_sem, s1.cell (j := 0) rfl, s2.cell (j := 0) rfl], FIN Wr 2 sx s1 s2 (by decide) HC.out⟩
          · rw [hr] at HIk
            have HRT := hide (show rangeB t cs k = true by rw [HRB.out, hr])
            clear hr
            gi_wp2_with (refine ⟨trivial, ?_⟩; gi_at_call 71; refine (HIk.out _).mono ?_; rintro e w' ⟨rfl, rfl⟩)
            go_roundw
            case rel => exact ⟨k + 1, hlt, by go_num, fun q hq => (Nat.lt_succ_iff_lt_or_eq.1 hq).elim (H0.out q) (fun e => e ▸ HRT.out), by first | rfl | exact trivial⟩
            case measure => simp [intOf]; omega
        · obtain rfl : k = cs.length := by omega
          have HALL := hide (show (List.range cs.length).all (rangeB t cs) = true from List.all_eq_true.2 (fun q hq => H0.out q (List.mem_range.1 hq)))
          have hform := (valid_form HVL.out)
          have HM := hide (fun w' (he : Ext w w') => callsIn_wide (n := 8).2 (messageFault_any (.slice A t.length c) t w' hnp hS.ne (hs.ext RPr.keeps he) hform))
          gi_wp2_with fail
          refine ⟨trivial, ?_⟩
          refine (HM.out _ hx1).mono ?_
          rintro e w3 ⟨he3, hcase⟩
          have hlt4 := b4.lt
          rcases hcase with ⟨x, hx, _⟩ | ⟨_, bL, ls, hbL, hL, hA, rfl⟩
          · rw [valid_pairs HVL.out] at hx; cases hx
          replace hx1 := hx1.trans he3
          replace b3 := b3.ext he3
          replace b4 := b4.ext he3
          replace bT := bT.ext he3
          replace bC := bC.ext he3
          have hlt5 := b4.lt
          clear f3 f4 r3 r4 t0 tc he3
          have t0 : w3.cell? ⟨w.heap.size, 0, none⟩ = some (.slice A t.length c) := bT.cell (j := 0) rfl
          have lt0 := bT.lt
          have HFORM := hide hform
          clear hform
          have HA := hide hA
          clear hA
          unfold idVal
          gi_wp2_with (refine ⟨trivial, ?_⟩; gi_at_call 73; refine (callsIn_wide.2 (events_any _ _)).mono ?_; rintro e w' ⟨rfl, rfl⟩)
          have bt : BoxN (((w3.alloc (.cells #[.pointer (some ⟨bL, 0, none⟩)] 110)).alloc (.cells #[.int .i64 ((0 : Nat) : Int), .int .i64 ((0 : Nat) : Int)] 28)).alloc (.cells #[.slice A t.length c] 24)) (w3.heap.size + 1 + 1) 24 #[.slice A t.length c] := BoxN.newAt _ _ (by simp)
          have b8 : BoxN (((w3.alloc (.cells #[.pointer (some ⟨bL, 0, none⟩)] 110)).alloc (.cells #[.int .i64 ((0 : Nat) : Int), .int .i64 ((0 : Nat) : Int)] 28)).alloc (.cells #[.slice A t.length c] 24)) (w3.heap.size) 110 #[.pointer (some ⟨bL, 0, none⟩)] := ((BoxN.new _ _ _).alloc _).alloc _
          have hx0 : Ext w (((w3.alloc (.cells #[.pointer (some ⟨bL, 0, none⟩)] 110)).alloc (.cells #[.int .i64 ((0 : Nat) : Int), .int .i64 ((0 : Nat) : Int)] 28)).alloc (.cells #[.slice A t.length c] 24)) := ((hx1.alloc _).alloc _).alloc _
          replace b3 := (((b3.alloc (.cells #[.pointer (some ⟨bL, 0, none⟩)] 110)).alloc (.cells #[.int .i64 ((0 : Nat) : Int), .int .i64 ((0 : Nat) : Int)] 28)).alloc (.cells #[.slice A t.length c] 24))
          replace b4 := (((b4.alloc (.cells #[.pointer (some ⟨bL, 0, none⟩)] 110)).alloc (.cells #[.int .i64 ((0 : Nat) : Int), .int .i64 ((0 : Nat) : Int)] 28)).alloc (.cells #[.slice A t.length c] 24))
          replace bC := (((bC.alloc (.cells #[.pointer (some ⟨bL, 0, none⟩)] 110)).alloc (.cells #[.int .i64 ((0 : Nat) : Int), .int .i64 ((0 : Nat) : Int)] 28)).alloc (.cells #[.slice A t.length c] 24))
          replace hL := (((hL.alloc (.cells #[.pointer (some ⟨bL, 0, none⟩)] 110)).alloc (.cells #[.int .i64 ((0 : Nat) : Int), .int .i64 ((0 : Nat) : Int)] 28)).alloc (.cells #[.slice A t.length c] 24))
          replace bT := (((bT.alloc (.cells #[.pointer (some ⟨bL, 0, none⟩)] 110)).alloc (.cells #[.int .i64 ((0 : Nat) : Int), .int .i64 ((0 : Nat) : Int)] 28)).alloc (.cells #[.slice A t.length c] 24))
          have hsz0 : (((w3.alloc (.cells #[.pointer (some ⟨bL, 0, none⟩)] 110)).alloc (.cells #[.int .i64 ((0 : Nat) : Int), .int .i64 ((0 : Nat) : Int)] 28)).alloc (.cells #[.slice A t.length c] 24)).heap.size = w3.heap.size + 1 + 1 + 1 := by simp
          have hw3 := hx1.size
          generalize (((w3.alloc (.cells #[.pointer (some ⟨bL, 0, none⟩)] 110)).alloc (.cells #[.int .i64 ((0 : Nat) : Int), .int .i64 ((0 : Nat) : Int)] 28)).alloc (.cells #[.slice A t.length c] 24)) = W0 at *
          have hw0 : w.heap.size ≤ W0.heap.size := by omega
          clear t0 lt0
          refine wpIn_rangeFunc_ownH rfl (by omega) (gf := 115) (lb := #[.pointer (some ⟨w3.heap.size + 1 + 1, 0, none⟩)]) rfl trivial (callFunc_enter Try.func115 (by decide) rfl)
            (events_stops 8 (by omega) w (.slice A t.length c) t (w3.heap.size + 1 + 1) W0 hnp hS.ne hs hx0 (bt.cell rfl) (by omega)) belowK_t (belowK_b hw0) (Below.refl _ _) (fun _ => rfl)
            (fun pre W => PfI t cs W0 (pre.map (·.1)) W) (fun c pre W => c = .ret ∧ PfX t cs w (pre.map (·.1)) W) (pfi_from t cs W0 (Nat.le_refl _)) (fun c => OwnFrom.and (ownFrom_pure _ _) (pfx_from t cs w hw0)) ⟨Ext.refl _, fun x hx => by cases hx⟩
            (fun x a' W => ∃ B6 B7 A4 n4 c4 v13 v14, (w3.heap.size < B6 ∧ w3.heap.size < B7) ∧ BoxN W B6 28 #[.int .i64 x.1.1, .int .i64 x.1.2] ∧ BoxN W B7 49 #[.int .i64 (evAt t x.1).kind, .int .i64 (evAt t x.1).peer, .int .i64 (evAt t x.1).msg, .int .i64 (evAt t x.1).time, .slice A4 n4 c4] ∧
              a' = { tmps := #[.agg #[.slice A t.length c], .slice A2 cs.length c2, .pointer (some ⟨w.heap.size, 0, none⟩), .pointer (some ⟨w.heap.size + 1, 0, none⟩), .pointer (some ⟨w.heap.size + 1 + 1, 0, none⟩), .pointer (some ⟨w.heap.size + 1 + 1 + 1, 0, none⟩), u6, u7, .pointer (some ⟨w3.heap.size, 0, none⟩), .pointer (some ⟨w3.heap.size + 1, 0, none⟩), .int .i64 0, .pointer (some ⟨B6, 0, none⟩), .pointer (some ⟨B7, 0, none⟩), undef, .agg #[.slice A t.length c], .bool true, .bool false, .bool false, .slice A2 cs.length c2, .int .i64 cs.length, .pointer (some ⟨w.heap.size, 0, none⟩), .slice A t.length c, .int .i64 t.length, .bool false, .bool false, undef, .slice A2 cs.length c2, .int .i64 cs.length, .int .i64 cs.length, .bool false, u30, u31, u32, u33, u34, u35, u36, u37, u38, u39, u40, u41, u42, u43, u44, .tuple #[.pointer (some ⟨bL, 0, none⟩), .agg #[.int .i64 ((0 : Nat) : Int), .int .i64 ((0 : Nat) : Int)], .int .i64 0], .agg #[.slice A t.length c], .tuple #[.pointer (some ⟨bL, 0, none⟩), .agg #[.int .i64 ((0 : Nat) : Int), .int .i64 ((0 : Nat) : Int)], .int .i64 0], .pointer (some ⟨bL, 0, none⟩), .agg #[.int .i64 ((0 : Nat) : Int), .int .i64 ((0 : Nat) : Int)], .int .i64 0, .agg #[.slice A t.length c], .func (.func 115) #[] #[.pointer (some ⟨w3.heap.size + 1 + 1, 0, none⟩)], v13, v14, undef, undef, undef, undef, undef, undef, undef, undef, undef, undef, undef, undef, undef, undef, undef, undef, undef, undef, undef, undef, undef, undef, undef, undef, undef, undef, undef, undef, undef, undef, undef, undef], defers := [] })
            ?hax ?assign ?body ?done ?stop
          case hax =>
            rintro x a' _ X Y row ⟨B6, B7, A4, n4, c4, v13, v14, hB, b6, b7, ha⟩ hg hr
            exact ⟨B6, B7, A4, n4, c4, v13, v14, hB, boxN1_from B6 _ _ (fun (_ : Unit) => _) () X Y row b6 hg hr, boxN1_from B7 _ _ (fun (_ : Unit) => _) () X Y row b7 hg hr, ha⟩
          case assign =>
            rintro l pre x W K hI hK
            obtain ⟨a, hv, hsa⟩ := evVal_ok hs x.2
            obtain ⟨A4, c4, rfl, _, _, _⟩ := hsa.at_
            clear hsa
            simp only [hv]
            have hsW := hI.1.size
            unfold idVal
            gi_wp2
            exact hK _ _ (((KeepsOthers.alloc _ _).trans (KeepsOthers.alloc _ _)).from _) (((Below.refl _ W).alloc (by omega) _).alloc (by simp; omega) _) ((pfi_from t cs W0 (Nat.le_refl _)).alloc _ ((pfi_from t cs W0 (Nat.le_refl _)).alloc _ hI))
              ⟨W.heap.size, W.heap.size + 1, A4, _, c4, _, _, ⟨by omega, by omega⟩, (BoxN.new _ _ _).alloc _, BoxN.newAt _ _ (by simp), rfl⟩
          case body =>
            rintro l pre x a' W hlW ⟨r, hr⟩ hI ⟨B6, B7, A4, n4, c4, v13, v14, ⟨hB6, hB7⟩, b6, b7, rfl⟩ hlen
            obtain ⟨hxW, hno⟩ := hI
            have hsW := hxW.size
            have hxw := hx0.trans hxW
            replace b3 := b3.ext hxW
            replace b4 := b4.ext hxW
            replace bC := bC.ext hxW
            replace hL := hL.ext hxW
            replace b8 := b8.ext hxW
            obtain ⟨hx1p, hx1i, hx1l⟩ := mem_ids.1 x.2
            have hpc : x.1.1 < cs.length := by rw [HLEN.out]; exact hx1p
            have hcat : cAt cs x.1.1 = cs[x.1.1] := by unfold cAt; simp [List.getD, hpc]
            obtain ⟨F', hF'⟩ : ∃ F' : Nat → Prop, F' = fun b => F b ∨ b = w.heap.size + 1 ∨ b = w3.heap.size ∨ b = bL ∨ b = B6 ∨ b = B7 := ⟨_, rfl⟩
            have hFm : ∀ b, F b → F' b := fun b hb => by rw [hF']; exact .inl hb
            have hF1 : F' (w.heap.size + 1) := by rw [hF']; exact .inr (.inl rfl)
            have hF2 : F' w3.heap.size := by rw [hF']; exact .inr (.inr (.inl rfl))
            have hF3 : F' bL := by rw [hF']; exact .inr (.inr (.inr (.inl rfl)))
            have hF4 : F' B6 := by rw [hF']; exact .inr (.inr (.inr (.inr (.inl rfl))))
            have hF5 : F' B7 := by rw [hF']; exact .inr (.inr (.inr (.inr (.inr rfl))))
            have g1 := bC.lt
            have g2 := b8.lt
            have g3 := hL.lt
            have g4 := b6.lt
            have g5 := b7.lt
            have hbig := hx1.size
            have hFlt : ∀ b, F' b → b < W.heap.size ∧ b ≠ w.heap.size + 1 + 1 ∧ b ≠ w.heap.size + 1 + 1 + 1 := by
              intro b hb
              rw [hF'] at hb
              rcases hb with h | rfl | rfl | rfl | rfl | rfl
              · have := hF b h; exact ⟨by omega, by omega, by omega⟩
              all_goals exact ⟨by omega, by omega, by omega⟩
            have hcs : RepI W F' (.isl 1 (cs.map eI)) (.slice A2 cs.length c2) := HUC.out.mono hFm (fun b hb => hxw.block b (hF b hb))
            have p3 : RepI W F' (.iptr [.isl 1 (cs.map eI)] 0) (.pointer (some ⟨w.heap.size + 1, 0, none⟩)) := box_rep bC hF1 (fun j a hj => by
              cases j with
              | zero => simp at hj; subst hj; exact ⟨_, rfl, hcs⟩
              | succ j => simp at hj)
            have pL : RepI W F' (.iptr (letRow t) 0) (.pointer (some ⟨bL, 0, none⟩)) := letRow_rep hL HA.out hF3
            have p8 : RepI W F' (.iptr [.iptr (letRow t) 0] 0) (.pointer (some ⟨w3.heap.size, 0, none⟩)) := box_rep b8 hF2 (fun j a hj => by
              cases j with
              | zero => simp at hj; subst hj; exact ⟨_, rfl, pL⟩
              | succ j => simp at hj)
            have p11 : RepI W F' (.iptr [.int .i64 (x.1.1 : Int), .int .i64 (x.1.2 : Int)] 0) (.pointer (some ⟨B6, 0, none⟩)) := box_rep b6 hF4 (fun j a hj => by
              match j, hj with
              | 0, hj => cases hj; exact ⟨_, rfl, .int _ _⟩
              | 1, hj => cases hj; exact ⟨_, rfl, .int _ _⟩)
            have p12 : RepI W F' (.iptr [.int .i64 (evAt t x.1).kind, .int .i64 (evAt t x.1).peer, .int .i64 (evAt t x.1).msg] 0) (.pointer (some ⟨B7, 0, none⟩)) := box_rep b7 hF5 (fun j a hj => by
              match j, hj with
              | 0, hj => cases hj; exact ⟨_, rfl, .int _ _⟩
              | 1, hj => cases hj; exact ⟨_, rfl, .int _ _⟩
              | 2, hj => cases hj; exact ⟨_, rfl, .int _ _⟩)
            have hE : ∀ (L : LMap) (x4 x5 : AV), RepA W F' L x4 (.pointer (some ⟨w.heap.size + 1 + 1, 0, none⟩)) → RepA W F' L x5 (.pointer (some ⟨w.heap.size + 1 + 1 + 1, 0, none⟩)) →
                EnvR W F' L (envP cs (letRow t) x.1.1 x.1.2 (evAt t x.1).kind (evAt t x.1).peer (evAt t x.1).msg x4 x5) { tmps := #[.agg #[.slice A t.length c], .slice A2 cs.length c2, .pointer (some ⟨w.heap.size, 0, none⟩), .pointer (some ⟨w.heap.size + 1, 0, none⟩), .pointer (some ⟨w.heap.size + 1 + 1, 0, none⟩), .pointer (some ⟨w.heap.size + 1 + 1 + 1, 0, none⟩), u6, u7, .pointer (some ⟨w3.heap.size, 0, none⟩), .pointer (some ⟨w3.heap.size + 1, 0, none⟩), .int .i64 0, .pointer (some ⟨B6, 0, none⟩), .pointer (some ⟨B7, 0, none⟩), undef, .agg #[.slice A t.length c], .bool true, .bool false, .bool false, .slice A2 cs.length c2, .int .i64 cs.length, .pointer (some ⟨w.heap.size, 0, none⟩), .slice A t.length c, .int .i64 t.length, .bool false, .bool false, undef, .slice A2 cs.length c2, .int .i64 cs.length, .int .i64 cs.length, .bool false, u30, u31, u32, u33, u34, u35, u36, u37, u38, u39, u40, u41, u42, u43, u44, .tuple #[.pointer (some ⟨bL, 0, none⟩), .agg #[.int .i64 ((0 : Nat) : Int), .int .i64 ((0 : Nat) : Int)], .int .i64 0], .agg #[.slice A t.length c], .tuple #[.pointer (some ⟨bL, 0, none⟩), .agg #[.int .i64 ((0 : Nat) : Int), .int .i64 ((0 : Nat) : Int)], .int .i64 0], .pointer (some ⟨bL, 0, none⟩), .agg #[.int .i64 ((0 : Nat) : Int), .int .i64 ((0 : Nat) : Int)], .int .i64 0, .agg #[.slice A t.length c], .func (.func 115) #[] #[.pointer (some ⟨w3.heap.size + 1 + 1, 0, none⟩)], v13, v14, undef, undef, undef, undef, undef, undef, undef, undef, undef, undef, undef, undef, undef, undef, undef, undef, undef, undef, undef, undef, undef, undef, undef, undef, undef, undef, undef, undef, undef, undef, undef, undef], defers := [] } := by
              intro L x4 x5 h4 h5
              refine envR_of ?_
              unfold envP
              repeat (first | exact RepL.nil | refine RepL.cons (.any _) ?_ | refine RepL.cons (.v _ _ p3) ?_ | refine RepL.cons h4 ?_ | refine RepL.cons h5 ?_ | refine RepL.cons (.v _ _ p8) ?_ | refine RepL.cons (.v _ _ p11) ?_ | refine RepL.cons (.v _ _ p12) ?_)
            have hv3 : ∀ {b : Bool}, ((evAt t x.1).kind != 3) = b → ((evAt t x.1).kind == 3) = !b := by
              intro b h; cases b <;> simp_all [bne]
            have hcase : (badL t cs x.1 = false ∧ run (ACalls Try.prog) Weak a_pfBody (envP cs (letRow t) x.1.1 x.1.2 (evAt t x.1).kind (evAt t x.1).peer (evAt t x.1).msg .any .any) [] [] (fun ax e b l' => ax = .normal ∧ b = [])) ∨
                (badL t cs x.1 = true ∧ run (ACalls Try.prog) Weak a_pfBody (envP cs (letRow t) x.1.1 x.1.2 (evAt t x.1).kind (evAt t x.1).peer (evAt t x.1).msg (.ptr 0 0 0 0) (.ptr 1 0 0 0)) [.live 0 1 [[.v .zsl]], .live 0 1 [[.v (.int .i64 0)]]] []
                  (fun ax e b l' => ax = .ret ∧ b = [.live 0 1 [[.v .zsl]], .live 0 1 [[.v (.int .i64 18)]]])) := by
              cases hk : ((evAt t x.1).kind != 3)
              · have hk3 := hv3 hk
                by_cases hi : (x.1.2 : Int) > cs[x.1.1]
                · refine .inl ⟨?_, run_mono' ACalls_mono (pfBody_out cs (letRow t) x.1.1 x.1.2 _ _ _ .any .any [] [] hk hpc hi) (fun _ _ _ _ h => ⟨h.1, h.2.1⟩)⟩
                  unfold badL; rw [hcat, decide_eq_true hi]; simp
                · obtain ⟨m, q, hm, hm2, _, _, _⟩ := formed_open (HFORM.out x.1 x.2) (by simp at hk3; rw [hk3]; rfl)
                  obtain ⟨hf1, hf2⟩ : (firstOf t (ids t) 2 m).1 < cs.length ∧ cAt cs (firstOf t (ids t) 2 m).1 = cAt cs (firstOf t (ids t) 2 m).1 := by
                    refine ⟨?_, rfl⟩
                    unfold firstOf
                    cases hf : (ids t).find? (keyB t 2 m) with
                    | none => simp; omega
                    | some y => simp; rw [HLEN.out]; exact (mem_ids.1 (List.mem_of_find?_eq_some hf)).1
                  have hcf : cAt cs (firstOf t (ids t) 2 m).1 = cs[(firstOf t (ids t) 2 m).1] := by unfold cAt; simp [List.getD, hf1]
                  by_cases hg : ((firstOf t (ids t) 2 m).2 : Int) > cs[(firstOf t (ids t) 2 m).1]
                  · refine .inr ⟨?_, pfBody_bad cs (letRow t) x.1.1 x.1.2 _ _ _ m _ _ hk hpc hi hm hm2 (letRow_len t) (letRow_from hm2) hf1 hg⟩
                    unfold badL; rw [hcat, hm, hcf, decide_eq_true hg, decide_eq_false hi, hk3]; rfl
                  · refine .inl ⟨?_, pfBody_in cs (letRow t) x.1.1 x.1.2 _ _ _ .any .any [] [] m _ _ hk hpc hi hm hm2 (letRow_len t) (letRow_from hm2) hf1 hg (by simpa using RowsLt_nil) rfl⟩
                    unfold badL; rw [hcat, hm, hcf, decide_eq_false hg]; simp
              · have hk3 := hv3 hk
                refine .inl ⟨?_, run_mono' ACalls_mono (pfBody_kind cs (letRow t) x.1.1 x.1.2 _ _ _ .any .any [] [] hk) (fun _ _ _ _ h => ⟨h.1, h.2.1⟩)⟩
                unfold badL; rw [hk3]; rfl
            rcases hcase with ⟨hb, hrun⟩ | ⟨hb, hrun⟩
            · refine wpIn_mono (run_soundR (lp := l) (fun _ _ _ _ _ h => h) ACalls_mono _ a_pfBody (by kernel_rfl) _ [] [] _ hrun F' (fun _ _ => none) W _ (sim_nil (fun b hb => (hFlt b hb).1)) (hE _ _ _ (.any _) (.any _))) ?_
              rintro ex a1 w1 ⟨ax, e1, b1, l1, F1, L1, hex, s1, he1, st1, hb1, rfl, _⟩
              cases ex <;> first | exact hex.elim | skip
              have he := step_nil_block st1
              refine ⟨KF.ext (KeepsFrom.refl _ _) he, BL.ext (Below.refl _ _) he (by omega), hxW.trans he, fun y hy => ?_⟩
              rw [map_snoc] at hy
              rcases List.mem_append.1 hy with h | h
              · exact hno y h
              · simp at h; rw [h]; exact hb
            · refine wpIn_mono (run_soundR (lp := l) (fun _ _ _ _ _ h => h) ACalls_mono _ a_pfBody (by kernel_rfl) _ _ [] _ hrun F' (L2 (w.heap.size + 1 + 1) (w.heap.size + 1 + 1 + 1)) W _ (sim_two b3 b4 (by omega) rfl rfl (.v _ _ (.zsl _)) (.v _ _ (.int _ _)) hFlt) (hE _ _ _ (RepA.ptr 0 0 0 0 _ 0 1 1 rfl) (RepA.ptr 1 0 0 0 _ 0 1 1 rfl))) ?_
              rintro ex a1 w1 ⟨ax, e1, b1, l1, F1, L1, hex, s1, he1, st1, hb1, rfl, rfl⟩
              cases ex <;> first | exact hex.elim | skip
              have hblk : ∀ b, b < W.heap.size → b ≠ w.heap.size + 1 + 1 → b ≠ w.heap.size + 1 + 1 + 1 → w1.heap[b]? = W.heap[b]? := fun b hb h1 h2 => st1.block b hb (fun ho => (owned_two ho).elim h1 h2)
              have kf : KeepsFrom W0.heap.size W w1 := ⟨st1.size, fun k o hB hk ho => by
                refine (hblk k (Array.getElem?_eq_some_iff.1 hk).1 (by omega) (by omega)).trans hk⟩
              have ex1 : Ext w w1 := ⟨st1.os.trans hxw.os, st1.tape.trans hxw.tape, st1.output.trans hxw.output, Nat.le_trans hxw.size st1.size, fun b hb => (hblk b (by omega) (by omega) (by omega)).trans (hxw.block b hb)⟩
              have hL0 : L1 0 0 = some (.pl (w.heap.size + 1 + 1) 0 1 1) := st1.loc 0 0 _ (by simp) rfl
              have hL1 : L1 1 0 = some (.pl (w.heap.size + 1 + 1 + 1) 0 1 1) := st1.loc 1 0 _ (by simp) rfl
              refine ⟨kf, rfl, ⟨x.1, by rw [map_snoc]; simp, hb⟩, ?_, ?_, ex1⟩
              · obtain ⟨q, q1, q2⟩ := s1.row 0 0 1 [[.v .zsl]] rfl
                rw [hL0] at q1; cases q1
                obtain ⟨_, _, _, cur, T, k4, _, _, k7⟩ := q2
                obtain ⟨_, v, k8, k9⟩ := k7 0 [.v .zsl] 0 (.v .zsl) rfl rfl
                refine ⟨T, cur, k4, ?_⟩
                cases k9.vI
                exact ⟨_, k8⟩
              · obtain ⟨q, q1, q2⟩ := s1.row 1 0 1 [[.v (.int .i64 18)]] rfl
                rw [hL1] at q1; cases q1
                obtain ⟨_, _, _, cur, T, k4, _, _, k7⟩ := q2
                obtain ⟨_, v, k8, k9⟩ := k7 0 [.v (.int .i64 18)] 0 (.v (.int .i64 18)) rfl rfl
                refine ⟨T, cur, k4, ?_⟩
                cases k9.vI
                exact k8
          case done =>
            rintro D ys W hD hys ⟨hxW, hno⟩ hK
            rw [hys] at hno
            have hxw := hx0.trans hxW
            have hsW := hxW.size
            replace b3 := b3.ext hxW
            replace b4 := b4.ext hxW
            replace bC := bC.ext hxW
            replace bT := bT.ext hxW
            have HC0 := hide (show prefC t cs = 0 by
              unfold prefC
              rw [if_neg (by rw [HVL.out, HLEN.out]; simp), if_neg (by rw [HALL.out]; simp), if_neg]
              rw [Bool.not_eq_true, List.any_eq_false]
              intro x hx; rw [hno x hx]; simp)
            clear hno hys
            have hC : CutOk t cs := ⟨HLEN.out, hnp, hS.nv, hS.ne, hS.na, fun k h h2 => by
              have := List.all_eq_true.1 HALL.out k (List.mem_range.2 h2)
              unfold rangeB cAt evsOf inB at this
              simp [List.getD, h, h2] at this
              exact ⟨this.1, this.2⟩⟩
            have HFI := hide (fun W' (he : Ext w W') => callsIn_wide (n := 8).2 (first_mem t cs hC F W' (fun b hb => Nat.lt_of_lt_of_le (hF b hb) he.size) (HU.out.mono (fun _ h => h) (fun b hb => he.block b (hF b hb))) (HUC.out.mono (fun _ h => h) (fun b hb => he.block b (hF b hb)))))
            clear hC
            have t0 := bT.cell (j := 0) rfl
            have tc := bC.cell (j := 0) rfl
            have g0 := bT.lt
            gi_wp2_with fail
            refine ⟨trivial, ?_⟩
            refine (HFI.out _ hxw).mono ?_
            rintro e w5 ⟨u, F1, rfl, he5, k1, k2, k3, k4, A5, n5, c5, rfl⟩
            replace b3 := b3.ext he5
            replace b4 := b4.ext he5
            have hK5 : w5.heap[D]? = some (.deferred (some [])) := (he5.block D (Array.getElem?_eq_some_iff.1 hK).1).trans hK
            have hx5 := hxw.trans he5
            have hs5 := he5.size
            have f3 := b3.frozen 0
            have f4 := b4.frozen 0
            have r3 := b3.cell (j := 0) rfl
            have r4 := b4.cell (j := 0) rfl
            have HK4 := hide k4
            clear k4
            have HK1 := hide k1
            have HK2 := hide k2
            have HK3 := hide k3
            clear k1 k2 k3
            gi_wp2
            obtain ⟨Wr, hWr⟩ : ∃ Wr, (w5.setCell ⟨w.heap.size + 1 + 1, 0, none⟩ (Value.slice A5 n5 c5)).setCell ⟨w.heap.size + 1 + 1 + 1, 0, none⟩ (Value.int .i64 0) = Wr := ⟨_, rfl⟩
            rw [hWr]
            have s1 : BoxN Wr (w.heap.size + 1 + 1) 24 #[.slice A5 n5 c5] := by rw [← hWr]; ((repeat (first | with_reducible assumption | with_reducible exact KeepsFrom.refl _ _ | with_reducible refine KF.set ?_ _ _ | with_reducible refine KF.alloc ?_ _ | with_reducible refine KF.drew ?_ | with_reducible refine KF.drewN ?_ _ | with_reducible refine KF.ext ?_ (by assumption) | with_reducible exact Below.refl _ _ | with_reducible refine BL.set ?_ _ _ _ (by omega) | with_reducible refine BL.alloc ?_ _ (by omega) | with_reducible refine BL.drew ?_ | with_reducible refine BL.drewN ?_ _ | with_reducible refine BL.ext ?_ (by assumption) (by omega) | with_reducible exact Ext.refl _ | with_reducible refine Ext.set ?_ (by omega) _ | with_reducible refine Ext.alloc ?_ _ | with_reducible refine Ext.drew ?_ | with_reducible refine Ext.drewN ?_ _ | with_reducible refine Ext.trans ?_ (by assumption) | with_reducible refine BoxN.alloc ?_ _ | with_reducible refine BoxN.drew ?_ | with_reducible refine BoxN.drewN ?_ _ | with_reducible refine BoxN.other ?_ (by omega) _ | with_reducible refine BoxN.set ?_ _ _ | with_reducible apply BoxN.set1 | with_reducible apply BoxN.set2_1 | with_reducible apply BoxN.set2_0 | with_reducible apply BoxN.set5_4 | with_reducible apply BoxN.set5_3 | with_reducible apply BoxN.set5_2 | with_reducible apply BoxN.set5_1 | with_reducible apply BoxN.set5_0 | with_reducible apply BoxN.set3_2 | with_reducible apply BoxN.set3_1 | with_reducible apply BoxN.set3_0 | with_reducible apply BoxN.set4_3 | with_reducible apply BoxN.set4_2 | with_reducible apply BoxN.set4_1 | with_reducible apply BoxN.set4_0 | with_reducible refine BoxN.ext ?_ (by assumption))); done)
            have s2 : BoxN Wr (w.heap.size + 1 + 1 + 1) 29 #[.int .i64 0] := by rw [← hWr]; ((repeat (first | with_reducible assumption | with_reducible exact KeepsFrom.refl _ _ | with_reducible refine KF.set ?_ _ _ | with_reducible refine KF.alloc ?_ _ | with_reducible refine KF.drew ?_ | with_reducible refine KF.drewN ?_ _ | with_reducible refine KF.ext ?_ (by assumption) | with_reducible exact Below.refl _ _ | with_reducible refine BL.set ?_ _ _ _ (by omega) | with_reducible refine BL.alloc ?_ _ (by omega) | with_reducible refine BL.drew ?_ | with_reducible refine BL.drewN ?_ _ | with_reducible refine BL.ext ?_ (by assumption) (by omega) | with_reducible exact Ext.refl _ | with_reducible refine Ext.set ?_ (by omega) _ | with_reducible refine Ext.alloc ?_ _ | with_reducible refine Ext.drew ?_ | with_reducible refine Ext.drewN ?_ _ | with_reducible refine Ext.trans ?_ (by assumption) | with_reducible refine BoxN.alloc ?_ _ | with_reducible refine BoxN.drew ?_ | with_reducible refine BoxN.drewN ?_ _ | with_reducible refine BoxN.other ?_ (by omega) _ | with_reducible refine BoxN.set ?_ _ _ | with_reducible apply BoxN.set1 | with_reducible apply BoxN.set2_1 | with_reducible apply BoxN.set2_0 | with_reducible apply BoxN.set5_4 | with_reducible apply BoxN.set5_3 | with_reducible apply BoxN.set5_2 | with_reducible apply BoxN.set5_1 | with_reducible apply BoxN.set5_0 | with_reducible apply BoxN.set3_2 | with_reducible apply BoxN.set3_1 | with_reducible apply BoxN.set3_0 | with_reducible apply BoxN.set4_3 | with_reducible apply BoxN.set4_2 | with_reducible apply BoxN.set4_1 | with_reducible apply BoxN.set4_0 | with_reducible refine BoxN.ext ?_ (by assumption))); done)
            have sx : Ext w Wr := by rw [← hWr]; ((repeat (first | with_reducible assumption | with_reducible exact KeepsFrom.refl _ _ | with_reducible refine KF.set ?_ _ _ | with_reducible refine KF.alloc ?_ _ | with_reducible refine KF.drew ?_ | with_reducible refine KF.drewN ?_ _ | with_reducible refine KF.ext ?_ (by assumption) | with_reducible exact Below.refl _ _ | with_reducible refine BL.set ?_ _ _ _ (by omega) | with_reducible refine BL.alloc ?_ _ (by omega) | with_reducible refine BL.drew ?_ | with_reducible refine BL.drewN ?_ _ | with_reducible refine BL.ext ?_ (by assumption) (by omega) | with_reducible exact Ext.refl _ | with_reducible refine Ext.set ?_ (by omega) _ | with_reducible refine Ext.alloc ?_ _ | with_reducible refine Ext.drew ?_ | with_reducible refine Ext.drewN ?_ _ | with_reducible refine Ext.trans ?_ (by assumption) | with_reducible refine BoxN.alloc ?_ _ | with_reducible refine BoxN.drew ?_ | with_reducible refine BoxN.drewN ?_ _ | with_reducible refine BoxN.other ?_ (by omega) _ | with_reducible refine BoxN.set ?_ _ _ | with_reducible apply BoxN.set1 | with_reducible apply BoxN.set2_1 | with_reducible apply BoxN.set2_0 | with_reducible apply BoxN.set5_4 | with_reducible apply BoxN.set5_3 | with_reducible apply BoxN.set5_2 | with_reducible apply BoxN.set5_1 | with_reducible apply BoxN.set5_0 | with_reducible apply BoxN.set3_2 | with_reducible apply BoxN.set3_1 | with_reducible apply BoxN.set3_0 | with_reducible apply BoxN.set4_3 | with_reducible apply BoxN.set4_2 | with_reducible apply BoxN.set4_1 | with_reducible apply BoxN.set4_0 | with_reducible refine BoxN.ext ?_ (by assumption))); done)
            have hkf : KeepsFrom W0.heap.size w5 Wr := by rw [← hWr]; ((repeat (first | with_reducible assumption | with_reducible exact KeepsFrom.refl _ _ | with_reducible refine KF.set ?_ _ _ | with_reducible refine KF.alloc ?_ _ | with_reducible refine KF.drew ?_ | with_reducible refine KF.drewN ?_ _ | with_reducible refine KF.ext ?_ (by assumption) | with_reducible exact Below.refl _ _ | with_reducible refine BL.set ?_ _ _ _ (by omega) | with_reducible refine BL.alloc ?_ _ (by omega) | with_reducible refine BL.drew ?_ | with_reducible refine BL.drewN ?_ _ | with_reducible refine BL.ext ?_ (by assumption) (by omega) | with_reducible exact Ext.refl _ | with_reducible refine Ext.set ?_ (by omega) _ | with_reducible refine Ext.alloc ?_ _ | with_reducible refine Ext.drew ?_ | with_reducible refine Ext.drewN ?_ _ | with_reducible refine Ext.trans ?_ (by assumption) | with_reducible refine BoxN.alloc ?_ _ | with_reducible refine BoxN.drew ?_ | with_reducible refine BoxN.drewN ?_ _ | with_reducible refine BoxN.other ?_ (by omega) _ | with_reducible refine BoxN.set ?_ _ _ | with_reducible apply BoxN.set1 | with_reducible apply BoxN.set2_1 | with_reducible apply BoxN.set2_0 | with_reducible apply BoxN.set5_4 | with_reducible apply BoxN.set5_3 | with_reducible apply BoxN.set5_2 | with_reducible apply BoxN.set5_1 | with_reducible apply BoxN.set5_0 | with_reducible apply BoxN.set3_2 | with_reducible apply BoxN.set3_1 | with_reducible apply BoxN.set3_0 | with_reducible apply BoxN.set4_3 | with_reducible apply BoxN.set4_2 | with_reducible apply BoxN.set4_1 | with_reducible apply BoxN.set4_0 | with_reducible refine BoxN.ext ?_ (by assumption))); done)
            have hKW : Wr.heap[D]? = some (.deferred (some [])) := hkf.same D _ hD hK5 rfl
            have hDlt := (Array.getElem?_eq_some_iff.1 hK).1
            have hfar : ∀ b, F1 b → b < w5.heap.size ∧ b ≠ D ∧ b ≠ w.heap.size + 1 + 1 ∧ b ≠ w.heap.size + 1 + 1 + 1 := by
              intro b hb
              by_cases hbW : b < W.heap.size
              · have := hF b (HK2.out b hbW hb)
                exact ⟨HK3.out b hb, by omega, by omega, by omega⟩
              · exact ⟨HK3.out b hb, by omega, by omega, by omega⟩
            have hsame : ∀ b, F1 b → Wr.heap[b]? = w5.heap[b]? := by
              intro b hb
              obtain ⟨_, _, h1, h2⟩ := hfar b hb
              rw [← hWr]
              exact (Below.heap_setCell _ _ _ _ h2).trans (Below.heap_setCell _ _ _ _ h1)
            have hszr : Wr.heap.size = w5.heap.size := by rw [← hWr]; simp
            clear hWr
            have e2 := (s1.putObj hKW rfl (.deferred none)).cell (j := 0) rfl
            have e3 := (s2.putObj hKW rfl (.deferred none)).cell (j := 0) rfl
            refine ⟨by simp, .inl ⟨_, _, rfl, run_takeDeferred hKW, ?_⟩⟩
            refine ⟨.tuple #[.agg #[.slice A5 n5 c5], .int .i64 0], by simp [results, Try.f20, go_sem, e2, e3], sx.putObj (by omega) hKW _, _, by rw [HC0.out]; rfl, .inr ⟨HC0.out, F1, HK1.out, fun b hb hf => HK2.out b (by omega) hf, fun b hb => ?_, ?_⟩⟩
            · have := (hfar b hb).1
              rw [World.putObj_size]; omega
            · refine HK4.out.mono (fun _ h => h) (fun b hb => ?_) (fun _ _ _ h => h)
              obtain ⟨h0, h1, _, _⟩ := hfar b hb
              exact ((grownBy_putObj' Wr D (.deferred none)).block b (by omega) (by simpa using h1)).trans (hsame b hb)
          case stop =>
            rintro D c' pre W hD hpre ⟨rfl, ⟨x, hx, hb⟩, ⟨T4, c4, s4, s, q4⟩, ⟨T5, c5, s5, q5⟩, hxW⟩ hK
            have HC := hide (show prefC t cs = 18 by
              unfold prefC
              rw [if_neg (by rw [HVL.out, HLEN.out]; simp), if_neg (by rw [HALL.out]; simp), if_pos]
              exact List.any_eq_true.2 ⟨x, hpre.subset hx, hb⟩)
            clear hb hx hpre
            gi_wp2
            have e2 := (s4.putObj hK rfl (.deferred none)).cell q4
            have e3 := (s5.putObj hK rfl (.deferred none)).cell q5
            refine ⟨by simp, .inl ⟨_, _, rfl, run_takeDeferred hK, ?_⟩⟩
            refine ⟨.tuple #[.agg #[.slice s 0 0], .int .i64 18], ?_, hxW.putObj (by omega) hK _, _, by rw [HC.out]; rfl, .inl ⟨by rw [HC.out]; decide, _, rfl⟩⟩
            simp [results, Try.f20, go_sem, e2, e3]
end Go.Proofs.Ytfdekchpckdeiaa

/- The guard of the laws of chapter 12: few. No condition but on lengths. -/
namespace Go.Proofs.Ytfdekchpckdeiaa
set_option linter.unusedVariables false
set_option linter.unusedSimpArgs false
def a_few : AFunc := ⟨1, 51, [.tmp 2],
  (.seq (.region [⟨(some 1), .box (.t 0), none⟩, ⟨(some 2), .mv (.c (.v (.bool false))), none⟩])
  (.seq (.seq (.region [⟨(some 6), .faddr 0 (.t 1), none⟩, ⟨(some 7), .load none (.t 6), none⟩, ⟨(some 8), .len (.t 7), none⟩, ⟨(some 9), .bin .gtr (.t 8) (.c (.v (.int .i64 12))), none⟩])
  (.cond (.t 9) (.seq (.region [⟨(some 2), .mv (.c (.v (.bool false))), none⟩])
  .ret)
  .skip))
  (.seq (.region [⟨(some 3), .mv (.c (.v (.int .i64 0))), none⟩])
  (.seq (.seq (.region [⟨(some 10), .faddr 0 (.t 1), none⟩, ⟨(some 11), .load none (.t 10), none⟩, ⟨(some 12), .len (.t 11), none⟩, ⟨(some 13), .mv (.c (.v (.int .i64 0))), none⟩])
  (.block 0 (.loop (.seq (.region [⟨(some 14), .bin .lss (.t 13) (.t 12), none⟩])
  (.seq (.cond (.t 14) .skip
  (.exit 0))
  (.seq (.block 1 (.seq (.region [⟨(some 15), .iaddr 3 (.t 11) (.t 13), none⟩, ⟨(some 16), .load (some 3) (.t 15), none⟩, ⟨(some 5), .alloc [(.v (.str ⟨#[]⟩)), (.v .zsl), (.v .zsl)], none⟩, ⟨none, .store 3 (.t 5) (.t 16), none⟩])
  (.seq (.region [⟨(some 17), .mv (.t 3), none⟩, ⟨(some 18), .faddr 2 (.t 5), none⟩, ⟨(some 19), .load none (.t 18), none⟩, ⟨(some 20), .len (.t 19), none⟩, ⟨(some 21), .bin .add (.t 17) (.t 20), none⟩, ⟨(some 3), .mv (.t 21), none⟩])
  (.seq (.seq (.region [⟨(some 22), .faddr 2 (.t 5), none⟩, ⟨(some 23), .load none (.t 22), none⟩, ⟨(some 24), .len (.t 23), none⟩, ⟨(some 25), .bin .gtr (.t 24) (.c (.v (.int .i64 70))), none⟩, ⟨(some 26), .mv (.t 25), none⟩, ⟨(some 27), .faddr 1 (.t 5), some (26, false)⟩, ⟨(some 28), .load none (.t 27), some (26, false)⟩, ⟨(some 29), .len (.t 28), some (26, false)⟩, ⟨(some 30), .bin .gtr (.t 29) (.c (.v (.int .i64 12))), some (26, false)⟩, ⟨(some 31), .pick (.t 26) (.c (.v (.bool true))) (.t 30), none⟩, ⟨(some 32), .mv (.t 31), none⟩, ⟨(some 33), .faddr 0 (.t 5), some (32, false)⟩, ⟨(some 34), .load none (.t 33), some (32, false)⟩, ⟨(some 35), .lenS (.t 34), some (32, false)⟩, ⟨(some 36), .bin .gtr (.t 35) (.c (.v (.int .i64 30))), some (32, false)⟩, ⟨(some 37), .pick (.t 32) (.c (.v (.bool true))) (.t 36), none⟩, ⟨(some 38), .mv (.t 37), none⟩, ⟨(some 39), .mv (.t 3), some (38, false)⟩, ⟨(some 40), .bin .gtr (.t 39) (.c (.v (.int .i64 120))), some (38, false)⟩, ⟨(some 41), .pick (.t 38) (.c (.v (.bool true))) (.t 40), none⟩])
  (.cond (.t 41) (.seq (.region [⟨(some 2), .mv (.c (.v (.bool false))), none⟩])
  .ret)
  .skip))
  (.seq (.region [⟨(some 42), .faddr 1 (.t 5), none⟩, ⟨(some 43), .load none (.t 42), none⟩, ⟨(some 44), .call (.c (.fn 67 [])) [(.t 43), (.c (.fn 68 []))], none⟩, ⟨(some 45), .mv (.t 44), none⟩, ⟨(some 46), .faddr 2 (.t 5), some (45, false)⟩, ⟨(some 47), .load none (.t 46), some (45, false)⟩, ⟨(some 48), .call (.c (.fn 69 [])) [(.t 47), (.c (.fn 70 []))], some (45, false)⟩, ⟨(some 49), .pick (.t 45) (.c (.v (.bool true))) (.t 48), none⟩])
  (.cond (.t 49) (.seq (.region [⟨(some 2), .mv (.c (.v (.bool false))), none⟩])
  .ret)
  .skip))))))
  (.region [⟨(some 50), .bin .add (.t 13) (.c (.v (.int .i64 1))), none⟩, ⟨(some 13), .mv (.t 50), none⟩])))))))
  (.seq (.region [⟨(some 2), .mv (.c (.v (.bool true))), none⟩])
  .ret)))))⟩
theorem a_few_ok : cFunc Try.prog 16 = some a_few := by kernel_rfl

/-- Lengths as they are in memory. -/
structure Fits (t : Tr) : Prop where
  np : t.length ≤ 9223372036854775807
  nv : ∀ x ∈ t, x.vars.length ≤ 9223372036854775807
  ne : ∀ x ∈ t, x.evs.length ≤ 9223372036854775807
  nm : ∀ x ∈ t, x.name.size ≤ 9223372036854775807

def wSum (t : Tr) : Nat → Nat
  | 0 => 0
  | k + 1 => wSum t k + (match t[k]? with
    | some p => p.evs.length
    | none => 0)
def longP (p : Pr) : Bool := decide (70 < p.evs.length) || decide (12 < p.vars.length) || decide (30 < p.name.size)
def longV (p : Pr) (j : Nat) : Bool := match p.vars[j]? with
  | some v => decide (30 < v.name.size)
  | none => false
def longE (p : Pr) (j : Nat) : Bool := match p.evs[j]? with
  | some e => decide (12 < e.asg.length)
  | none => false
def longIn (p : Pr) : Bool := (List.range p.vars.length).any (longV p) || (List.range p.evs.length).any (longE p)
def badAt (t : Tr) (i : Nat) : Bool := match t[i]? with
  | some p => longP p || decide (120 < wSum t (i + 1)) || longIn p
  | none => false
def fewB (t : Tr) : Bool := decide (t.length ≤ 12) && (List.range t.length).all (fun i => !badAt t i)
theorem few_bad {t : Tr} {i : Nat} (h : i < t.length) (hb : badAt t i = true) : fewB t = false := by
  unfold fewB
  have : (List.range t.length).all (fun i => !badAt t i) = false := by
    rw [List.all_eq_false]; exact ⟨i, List.mem_range.2 h, by rw [hb]; simp⟩
  rw [this, Bool.and_false]
theorem few_good {t : Tr} (h : t.length ≤ 12) (h0 : ∀ i, i < t.length → badAt t i = false) : fewB t = true := by
  unfold fewB
  have : (List.range t.length).all (fun i => !badAt t i) = true := by
    rw [List.all_eq_true]; intro i hi; rw [h0 i (List.mem_range.1 hi)]; rfl
  rw [this, decide_eq_true h]; rfl
theorem wSum_succ {t : Tr} {k : Nat} (h : k < t.length) : wSum t (k + 1) = wSum t k + t[k].evs.length := by
  simp [wSum, h]

theorem longV_ok (p : Pr) (B : List Row) (i : Nat) (row : List IV) (h : (p.vars.map eVr)[i]? = some row) : ACalls Try.prog 68 ([.agg (row.map .v)] ++ []) B [] (fun r b' l' => r = .v (.bool (longV p i)) ∧ b' = B ∧ l' = []) := by
  rw [List.getElem?_map] at h
  cases hv : p.vars[i]? with
  | none => rw [hv] at h; cases h
  | some v =>
    rw [hv] at h; cases h
    refine ACalls_mono _ _ _ _ _ _ (longVar_spec v B []) ?_
    rintro r b' l' ⟨rfl, rfl, rfl⟩
    refine ⟨?_, rfl, rfl⟩
    unfold longV; rw [hv]
    have : ((v.name.size : Int) > 30) = (30 < v.name.size) := by rw [eq_iff_iff]; omega
    simp only [this]
theorem longE_ok (p : Pr) (B : List Row) (i : Nat) (row : List IV) (h : (p.evs.map eEv)[i]? = some row) : ACalls Try.prog 70 ([.agg (row.map .v)] ++ []) B [] (fun r b' l' => r = .v (.bool (longE p i)) ∧ b' = B ∧ l' = []) := by
  rw [List.getElem?_map] at h
  cases hv : p.evs[i]? with
  | none => rw [hv] at h; cases h
  | some v =>
    rw [hv] at h; cases h
    refine ACalls_mono _ _ _ _ _ _ (longEv_spec v B []) ?_
    rintro r b' l' ⟨rfl, rfl, rfl⟩
    refine ⟨?_, rfl, rfl⟩
    unfold longE; rw [hv]
    have : ((v.asg.length : Int) > 12) = (12 < v.asg.length) := by rw [eq_iff_iff]; omega
    simp only [this]

theorem few_spec (t : Tr) (hF : Fits t) (b l : List Row) : ACalls Try.prog 16 [.agg [.v (eT t)]] b l (fun r b' l' => r = .v (.bool (fewB t)) ∧ b' = b ∧ l' = l) := by
  refine calls_of a_few_ok rfl ?_
  intro B hB hR _
  have hnp := hF.np
  simp only [a_few, eT, ↓run_skip, ↓run_region, ↓run_draw, ↓run_seq, ↓run_block, ↓run_exit, ↓run_ret, ↓run_cond, ↓atN_app, ↓seqC_normal, ↓seqC_exit, ↓seqC_ret, ↓seqQ_normal, ↓seqQ_exit, ↓seqQ_ret, ↓blkQ_normal, ↓blkQ_exit, ↓blkQ_ret, ↓runOps_nil, ↓runOps_cons, ↓runD_nil, ↓runD_cons, ↓grdO_true, ↓grdO_false, ↓grdD_true, ↓grdD_false, ↓ifC_true, ↓ifC_false, ↓opS_val, ↓opS_call, ↓opS_two, ↓opK_app, ↓dS_val, ↓dS_call, ↓dS_two, ↓dK_app, rechks_nil, rechks_cons, rechk, gcase_true, gcase_false, ex_val, ex_val0, gd_none, gd_some, nth_zero, nth_succ, upd_zero, upd_succ, put_some, put_none, ev_t, ev_c, evs_nil, evs_cons, evo_some, evo_none, hget_at, hget_first, hsetB_at, hsetB_first, hsetL_at, hsetL_first, ofOpt_some, aop, aload, astore, aslice, aappend, aiaddr, aiaddrA, afaddr, alen, alenS, acopy, amm, acall, apick, binV, binVB, binVS, isSh, intOp, strOp, boolOp, shOp, eqC, eqF, and2, cellsOf, setFrom, fillA, fillS, rd, rdI, elems, mk, bounds, AV.cell, List.all_cons, List.all_nil, Bool.and_true, Bool.true_and, Bool.and_self, List.length_cons, List.length_nil, List.length_append, Nat.reduceAdd, Nat.reduceSub, Nat.reduceMul, Nat.zero_add, Nat.add_zero, List.replicate_succ, List.replicate_zero, List.cons_append, List.nil_append, List.append_assoc, List.append_nil, List.getElem?_cons_zero, List.getElem?_cons_succ, List.getElem?_nil, List.set_cons_zero, List.set_cons_succ, List.drop_zero, List.drop_succ_cons, List.take_zero, List.take_succ_cons, List.take_nil, List.drop_nil, List.map_cons, List.map_nil, Option.map_some, if_true, if_false, Bool.false_eq_true, and_self, true_and, and_true, Nat.reduceLeDiff, Nat.reduceLT, Nat.le_refl, Nat.reduceEqDiff, ite_true, ite_false, beq_self_eq_true, beq_true, beq_false, Bool.not_true, Bool.not_false, Bool.true_beq, Bool.false_beq]
  by_cases h12 : 12 < t.length
  · simp (disch := omega) only [↓run_skip, ↓run_region, ↓run_draw, ↓run_seq, ↓run_block, ↓run_exit, ↓run_ret, ↓run_cond, ↓atN_app, ↓seqC_normal, ↓seqC_exit, ↓seqC_ret, ↓seqQ_normal, ↓seqQ_exit, ↓seqQ_ret, ↓blkQ_normal, ↓blkQ_exit, ↓blkQ_ret, ↓runOps_nil, ↓runOps_cons, ↓runD_nil, ↓runD_cons, ↓grdO_true, ↓grdO_false, ↓grdD_true, ↓grdD_false, ↓ifC_true, ↓ifC_false, ↓opS_val, ↓opS_call, ↓opS_two, ↓opK_app, ↓dS_val, ↓dS_call, ↓dS_two, ↓dK_app, rechks_nil, rechks_cons, rechk, gcase_true, gcase_false, ex_val, ex_val0, gd_none, gd_some, nth_zero, nth_succ, upd_zero, upd_succ, put_some, put_none, ev_t, ev_c, evs_nil, evs_cons, evo_some, evo_none, hget_at, hget_first, hsetB_at, hsetB_first, hsetL_at, hsetL_first, ofOpt_some, aop, aload, astore, aslice, aappend, aiaddr, aiaddrA, afaddr, alen, alenS, acopy, amm, acall, apick, binV, binVB, binVS, isSh, intOp, strOp, boolOp, shOp, eqC, eqF, and2, cellsOf, setFrom, fillA, fillS, rd, rdI, elems, mk, bounds, AV.cell, List.all_cons, List.all_nil, Bool.and_true, Bool.true_and, Bool.and_self, List.length_cons, List.length_nil, List.length_append, Nat.reduceAdd, Nat.reduceSub, Nat.reduceMul, Nat.zero_add, Nat.add_zero, List.replicate_succ, List.replicate_zero, List.cons_append, List.nil_append, List.append_assoc, List.append_nil, List.getElem?_cons_zero, List.getElem?_cons_succ, List.getElem?_nil, List.set_cons_zero, List.set_cons_succ, List.drop_zero, List.drop_succ_cons, List.take_zero, List.take_succ_cons, List.take_nil, List.drop_nil, List.map_cons, List.map_nil, Option.map_some, if_true, if_false, Bool.false_eq_true, and_self, true_and, and_true, Nat.reduceLeDiff, Nat.reduceLT, Nat.le_refl, Nat.reduceEqDiff, ite_true, ite_false, beq_self_eq_true, beq_true, beq_false, Bool.not_true, Bool.not_false, Bool.true_beq, Bool.false_beq, map_vs, vs_len, vs_get, vs_take, vs_drop, vs_snoc1, vs_snoc2, vs_snoc3, vs_snoc5, vs_set1, vs_set2, vs_rep, wrap_id, le_T, lt_T, le_F, lt_F, leI_T, ltI_T, leI_F, ltI_F, geI, gtI, get_T, decide_true, decide_false, room, List.getElem?_map, List.length_map, List.length_take, Int.toNat_natCast, Nat.min_def, Nat.min_self]
    exact leave_pure (.inr rfl) rfl (.v _) hR hB ⟨by simp only [fewB, nth, one]; rw [decide_eq_false (by omega)]; rfl, rfl, rfl⟩
  simp (disch := omega) only [↓run_skip, ↓run_region, ↓run_draw, ↓run_seq, ↓run_block, ↓run_exit, ↓run_ret, ↓run_cond, ↓atN_app, ↓seqC_normal, ↓seqC_exit, ↓seqC_ret, ↓seqQ_normal, ↓seqQ_exit, ↓seqQ_ret, ↓blkQ_normal, ↓blkQ_exit, ↓blkQ_ret, ↓runOps_nil, ↓runOps_cons, ↓runD_nil, ↓runD_cons, ↓grdO_true, ↓grdO_false, ↓grdD_true, ↓grdD_false, ↓ifC_true, ↓ifC_false, ↓opS_val, ↓opS_call, ↓opS_two, ↓opK_app, ↓dS_val, ↓dS_call, ↓dS_two, ↓dK_app, rechks_nil, rechks_cons, rechk, gcase_true, gcase_false, ex_val, ex_val0, gd_none, gd_some, nth_zero, nth_succ, upd_zero, upd_succ, put_some, put_none, ev_t, ev_c, evs_nil, evs_cons, evo_some, evo_none, hget_at, hget_first, hsetB_at, hsetB_first, hsetL_at, hsetL_first, ofOpt_some, aop, aload, astore, aslice, aappend, aiaddr, aiaddrA, afaddr, alen, alenS, acopy, amm, acall, apick, binV, binVB, binVS, isSh, intOp, strOp, boolOp, shOp, eqC, eqF, and2, cellsOf, setFrom, fillA, fillS, rd, rdI, elems, mk, bounds, AV.cell, List.all_cons, List.all_nil, Bool.and_true, Bool.true_and, Bool.and_self, List.length_cons, List.length_nil, List.length_append, Nat.reduceAdd, Nat.reduceSub, Nat.reduceMul, Nat.zero_add, Nat.add_zero, List.replicate_succ, List.replicate_zero, List.cons_append, List.nil_append, List.append_assoc, List.append_nil, List.getElem?_cons_zero, List.getElem?_cons_succ, List.getElem?_nil, List.set_cons_zero, List.set_cons_succ, List.drop_zero, List.drop_succ_cons, List.take_zero, List.take_succ_cons, List.take_nil, List.drop_nil, List.map_cons, List.map_nil, Option.map_some, if_true, if_false, Bool.false_eq_true, and_self, true_and, and_true, Nat.reduceLeDiff, Nat.reduceLT, Nat.le_refl, Nat.reduceEqDiff, ite_true, ite_false, beq_self_eq_true, beq_true, beq_false, Bool.not_true, Bool.not_false, Bool.true_beq, Bool.false_beq, map_vs, vs_len, vs_get, vs_take, vs_drop, vs_snoc1, vs_snoc2, vs_snoc3, vs_snoc5, vs_set1, vs_set2, vs_rep, wrap_id, le_T, lt_T, le_F, lt_F, leI_T, ltI_T, leI_F, ltI_F, geI, gtI, get_T, decide_true, decide_false, room, List.getElem?_map, List.length_map, List.length_take, Int.toNat_natCast, Nat.min_def, Nat.min_self]
  refine loop_rule (ι := Nat)
    (fun i => [.any, .ptr B.length 0 0 0, .v (.bool false), .v (.int .i64 (wSum t i)), .any, .any, .any, .any, .any, .any, .any, .v (.isl 3 (t.map ePr)), .v (.int .i64 t.length), .v (.int .i64 i)] ++ List.replicate 37 .any)
    (fun _ => B) (fun _ => [.live 0 1 [[.v (.isl 3 (t.map ePr))]]])
    (fun i => (i ≤ t.length ∧ wSum t i ≤ 120) ∧ ∀ j, j < i → badAt t j = false) (fun i => t.length - i) 0 ⟨⟨Nat.zero_le _, by simp [wSum]⟩, fun j hj => by omega⟩ ?_ ?_
  · exact Weak.forget (by simp [Fgt, wSum])
  · rintro i ⟨⟨hi, hs⟩, h0⟩
    simp only [List.replicate_succ, List.replicate_zero, List.cons_append, List.nil_append]
    by_cases hlt : i < t.length
    · have hne := hF.ne t[i] (List.getElem_mem hlt)
      have hnv := hF.nv t[i] (List.getElem_mem hlt)
      have hnm := hF.nm t[i] (List.getElem_mem hlt)
      have hsum := wSum_succ hlt
      have bad : badAt t i = (longP t[i] || decide (120 < wSum t (i + 1)) || longIn t[i]) := by simp [badAt, hlt]
      by_cases q1 : 70 < t[i].evs.length
      · simp (disch := omega) only [ePr, ↓run_skip, ↓run_region, ↓run_draw, ↓run_seq, ↓run_block, ↓run_exit, ↓run_ret, ↓run_cond, ↓atN_app, ↓seqC_normal, ↓seqC_exit, ↓seqC_ret, ↓seqQ_normal, ↓seqQ_exit, ↓seqQ_ret, ↓blkQ_normal, ↓blkQ_exit, ↓blkQ_ret, ↓runOps_nil, ↓runOps_cons, ↓runD_nil, ↓runD_cons, ↓grdO_true, ↓grdO_false, ↓grdD_true, ↓grdD_false, ↓ifC_true, ↓ifC_false, ↓opS_val, ↓opS_call, ↓opS_two, ↓opK_app, ↓dS_val, ↓dS_call, ↓dS_two, ↓dK_app, rechks_nil, rechks_cons, rechk, gcase_true, gcase_false, ex_val, ex_val0, gd_none, gd_some, nth_zero, nth_succ, upd_zero, upd_succ, put_some, put_none, ev_t, ev_c, evs_nil, evs_cons, evo_some, evo_none, hget_at, hget_first, hsetB_at, hsetB_first, hsetL_at, hsetL_first, ofOpt_some, aop, aload, astore, aslice, aappend, aiaddr, aiaddrA, afaddr, alen, alenS, acopy, amm, acall, apick, binV, binVB, binVS, isSh, intOp, strOp, boolOp, shOp, eqC, eqF, and2, cellsOf, setFrom, fillA, fillS, rd, rdI, elems, mk, bounds, AV.cell, List.all_cons, List.all_nil, Bool.and_true, Bool.true_and, Bool.and_self, List.length_cons, List.length_nil, List.length_append, Nat.reduceAdd, Nat.reduceSub, Nat.reduceMul, Nat.zero_add, Nat.add_zero, List.replicate_succ, List.replicate_zero, List.cons_append, List.nil_append, List.append_assoc, List.append_nil, List.getElem?_cons_zero, List.getElem?_cons_succ, List.getElem?_nil, List.set_cons_zero, List.set_cons_succ, List.drop_zero, List.drop_succ_cons, List.take_zero, List.take_succ_cons, List.take_nil, List.drop_nil, List.map_cons, List.map_nil, Option.map_some, if_true, if_false, Bool.false_eq_true, and_self, true_and, and_true, Nat.reduceLeDiff, Nat.reduceLT, Nat.le_refl, Nat.reduceEqDiff, ite_true, ite_false, beq_self_eq_true, beq_true, beq_false, Bool.not_true, Bool.not_false, Bool.true_beq, Bool.false_beq, map_vs, vs_len, vs_get, vs_take, vs_drop, vs_snoc1, vs_snoc2, vs_snoc3, vs_snoc5, vs_set1, vs_set2, vs_rep, wrap_id, le_T, lt_T, le_F, lt_F, leI_T, ltI_T, leI_F, ltI_F, geI, gtI, get_T, decide_true, decide_false, room, List.getElem?_map, List.length_map, List.length_take, Int.toNat_natCast, Nat.min_def, Nat.min_self]
        exact leave_pure (.inr rfl) rfl (.v _) hR hB ⟨by rw [few_bad hlt (by rw [bad]; simp [longP, q1])]; rfl, rfl, rfl⟩
      by_cases q2 : 12 < t[i].vars.length
      · simp (disch := omega) only [ePr, ↓run_skip, ↓run_region, ↓run_draw, ↓run_seq, ↓run_block, ↓run_exit, ↓run_ret, ↓run_cond, ↓atN_app, ↓seqC_normal, ↓seqC_exit, ↓seqC_ret, ↓seqQ_normal, ↓seqQ_exit, ↓seqQ_ret, ↓blkQ_normal, ↓blkQ_exit, ↓blkQ_ret, ↓runOps_nil, ↓runOps_cons, ↓runD_nil, ↓runD_cons, ↓grdO_true, ↓grdO_false, ↓grdD_true, ↓grdD_false, ↓ifC_true, ↓ifC_false, ↓opS_val, ↓opS_call, ↓opS_two, ↓opK_app, ↓dS_val, ↓dS_call, ↓dS_two, ↓dK_app, rechks_nil, rechks_cons, rechk, gcase_true, gcase_false, ex_val, ex_val0, gd_none, gd_some, nth_zero, nth_succ, upd_zero, upd_succ, put_some, put_none, ev_t, ev_c, evs_nil, evs_cons, evo_some, evo_none, hget_at, hget_first, hsetB_at, hsetB_first, hsetL_at, hsetL_first, ofOpt_some, aop, aload, astore, aslice, aappend, aiaddr, aiaddrA, afaddr, alen, alenS, acopy, amm, acall, apick, binV, binVB, binVS, isSh, intOp, strOp, boolOp, shOp, eqC, eqF, and2, cellsOf, setFrom, fillA, fillS, rd, rdI, elems, mk, bounds, AV.cell, List.all_cons, List.all_nil, Bool.and_true, Bool.true_and, Bool.and_self, List.length_cons, List.length_nil, List.length_append, Nat.reduceAdd, Nat.reduceSub, Nat.reduceMul, Nat.zero_add, Nat.add_zero, List.replicate_succ, List.replicate_zero, List.cons_append, List.nil_append, List.append_assoc, List.append_nil, List.getElem?_cons_zero, List.getElem?_cons_succ, List.getElem?_nil, List.set_cons_zero, List.set_cons_succ, List.drop_zero, List.drop_succ_cons, List.take_zero, List.take_succ_cons, List.take_nil, List.drop_nil, List.map_cons, List.map_nil, Option.map_some, if_true, if_false, Bool.false_eq_true, and_self, true_and, and_true, Nat.reduceLeDiff, Nat.reduceLT, Nat.le_refl, Nat.reduceEqDiff, ite_true, ite_false, beq_self_eq_true, beq_true, beq_false, Bool.not_true, Bool.not_false, Bool.true_beq, Bool.false_beq, map_vs, vs_len, vs_get, vs_take, vs_drop, vs_snoc1, vs_snoc2, vs_snoc3, vs_snoc5, vs_set1, vs_set2, vs_rep, wrap_id, le_T, lt_T, le_F, lt_F, leI_T, ltI_T, leI_F, ltI_F, geI, gtI, get_T, decide_true, decide_false, room, List.getElem?_map, List.length_map, List.length_take, Int.toNat_natCast, Nat.min_def, Nat.min_self]
        exact leave_pure (.inr rfl) rfl (.v _) hR hB ⟨by rw [few_bad hlt (by rw [bad]; simp [longP, q2])]; rfl, rfl, rfl⟩
      by_cases q3 : 30 < t[i].name.size
      · simp (disch := omega) only [ePr, ↓run_skip, ↓run_region, ↓run_draw, ↓run_seq, ↓run_block, ↓run_exit, ↓run_ret, ↓run_cond, ↓atN_app, ↓seqC_normal, ↓seqC_exit, ↓seqC_ret, ↓seqQ_normal, ↓seqQ_exit, ↓seqQ_ret, ↓blkQ_normal, ↓blkQ_exit, ↓blkQ_ret, ↓runOps_nil, ↓runOps_cons, ↓runD_nil, ↓runD_cons, ↓grdO_true, ↓grdO_false, ↓grdD_true, ↓grdD_false, ↓ifC_true, ↓ifC_false, ↓opS_val, ↓opS_call, ↓opS_two, ↓opK_app, ↓dS_val, ↓dS_call, ↓dS_two, ↓dK_app, rechks_nil, rechks_cons, rechk, gcase_true, gcase_false, ex_val, ex_val0, gd_none, gd_some, nth_zero, nth_succ, upd_zero, upd_succ, put_some, put_none, ev_t, ev_c, evs_nil, evs_cons, evo_some, evo_none, hget_at, hget_first, hsetB_at, hsetB_first, hsetL_at, hsetL_first, ofOpt_some, aop, aload, astore, aslice, aappend, aiaddr, aiaddrA, afaddr, alen, alenS, acopy, amm, acall, apick, binV, binVB, binVS, isSh, intOp, strOp, boolOp, shOp, eqC, eqF, and2, cellsOf, setFrom, fillA, fillS, rd, rdI, elems, mk, bounds, AV.cell, List.all_cons, List.all_nil, Bool.and_true, Bool.true_and, Bool.and_self, List.length_cons, List.length_nil, List.length_append, Nat.reduceAdd, Nat.reduceSub, Nat.reduceMul, Nat.zero_add, Nat.add_zero, List.replicate_succ, List.replicate_zero, List.cons_append, List.nil_append, List.append_assoc, List.append_nil, List.getElem?_cons_zero, List.getElem?_cons_succ, List.getElem?_nil, List.set_cons_zero, List.set_cons_succ, List.drop_zero, List.drop_succ_cons, List.take_zero, List.take_succ_cons, List.take_nil, List.drop_nil, List.map_cons, List.map_nil, Option.map_some, if_true, if_false, Bool.false_eq_true, and_self, true_and, and_true, Nat.reduceLeDiff, Nat.reduceLT, Nat.le_refl, Nat.reduceEqDiff, ite_true, ite_false, beq_self_eq_true, beq_true, beq_false, Bool.not_true, Bool.not_false, Bool.true_beq, Bool.false_beq, map_vs, vs_len, vs_get, vs_take, vs_drop, vs_snoc1, vs_snoc2, vs_snoc3, vs_snoc5, vs_set1, vs_set2, vs_rep, wrap_id, le_T, lt_T, le_F, lt_F, leI_T, ltI_T, leI_F, ltI_F, geI, gtI, get_T, decide_true, decide_false, room, List.getElem?_map, List.length_map, List.length_take, Int.toNat_natCast, Nat.min_def, Nat.min_self]
        exact leave_pure (.inr rfl) rfl (.v _) hR hB ⟨by rw [few_bad hlt (by rw [bad]; simp [longP, q3])]; rfl, rfl, rfl⟩
      by_cases q4 : 120 < wSum t i + t[i].evs.length
      · simp (disch := omega) only [ePr, ↓run_skip, ↓run_region, ↓run_draw, ↓run_seq, ↓run_block, ↓run_exit, ↓run_ret, ↓run_cond, ↓atN_app, ↓seqC_normal, ↓seqC_exit, ↓seqC_ret, ↓seqQ_normal, ↓seqQ_exit, ↓seqQ_ret, ↓blkQ_normal, ↓blkQ_exit, ↓blkQ_ret, ↓runOps_nil, ↓runOps_cons, ↓runD_nil, ↓runD_cons, ↓grdO_true, ↓grdO_false, ↓grdD_true, ↓grdD_false, ↓ifC_true, ↓ifC_false, ↓opS_val, ↓opS_call, ↓opS_two, ↓opK_app, ↓dS_val, ↓dS_call, ↓dS_two, ↓dK_app, rechks_nil, rechks_cons, rechk, gcase_true, gcase_false, ex_val, ex_val0, gd_none, gd_some, nth_zero, nth_succ, upd_zero, upd_succ, put_some, put_none, ev_t, ev_c, evs_nil, evs_cons, evo_some, evo_none, hget_at, hget_first, hsetB_at, hsetB_first, hsetL_at, hsetL_first, ofOpt_some, aop, aload, astore, aslice, aappend, aiaddr, aiaddrA, afaddr, alen, alenS, acopy, amm, acall, apick, binV, binVB, binVS, isSh, intOp, strOp, boolOp, shOp, eqC, eqF, and2, cellsOf, setFrom, fillA, fillS, rd, rdI, elems, mk, bounds, AV.cell, List.all_cons, List.all_nil, Bool.and_true, Bool.true_and, Bool.and_self, List.length_cons, List.length_nil, List.length_append, Nat.reduceAdd, Nat.reduceSub, Nat.reduceMul, Nat.zero_add, Nat.add_zero, List.replicate_succ, List.replicate_zero, List.cons_append, List.nil_append, List.append_assoc, List.append_nil, List.getElem?_cons_zero, List.getElem?_cons_succ, List.getElem?_nil, List.set_cons_zero, List.set_cons_succ, List.drop_zero, List.drop_succ_cons, List.take_zero, List.take_succ_cons, List.take_nil, List.drop_nil, List.map_cons, List.map_nil, Option.map_some, if_true, if_false, Bool.false_eq_true, and_self, true_and, and_true, Nat.reduceLeDiff, Nat.reduceLT, Nat.le_refl, Nat.reduceEqDiff, ite_true, ite_false, beq_self_eq_true, beq_true, beq_false, Bool.not_true, Bool.not_false, Bool.true_beq, Bool.false_beq, map_vs, vs_len, vs_get, vs_take, vs_drop, vs_snoc1, vs_snoc2, vs_snoc3, vs_snoc5, vs_set1, vs_set2, vs_rep, wrap_id, le_T, lt_T, le_F, lt_F, leI_T, ltI_T, leI_F, ltI_F, geI, gtI, get_T, decide_true, decide_false, room, List.getElem?_map, List.length_map, List.length_take, Int.toNat_natCast, Nat.min_def, Nat.min_self]
        exact leave_pure (.inr rfl) rfl (.v _) hR hB ⟨by rw [few_bad hlt (by rw [bad]; simp [hsum, q4])]; rfl, rfl, rfl⟩
      simp (disch := omega) only [ePr, ↓run_skip, ↓run_region, ↓run_draw, ↓run_seq, ↓run_block, ↓run_exit, ↓run_ret, ↓run_cond, ↓atN_app, ↓seqC_normal, ↓seqC_exit, ↓seqC_ret, ↓seqQ_normal, ↓seqQ_exit, ↓seqQ_ret, ↓blkQ_normal, ↓blkQ_exit, ↓blkQ_ret, ↓runOps_nil, ↓runOps_cons, ↓runD_nil, ↓runD_cons, ↓grdO_true, ↓grdO_false, ↓grdD_true, ↓grdD_false, ↓ifC_true, ↓ifC_false, ↓opS_val, ↓opS_call, ↓opS_two, ↓opK_app, ↓dS_val, ↓dS_call, ↓dS_two, ↓dK_app, rechks_nil, rechks_cons, rechk, gcase_true, gcase_false, ex_val, ex_val0, gd_none, gd_some, nth_zero, nth_succ, upd_zero, upd_succ, put_some, put_none, ev_t, ev_c, evs_nil, evs_cons, evo_some, evo_none, hget_at, hget_first, hsetB_at, hsetB_first, hsetL_at, hsetL_first, ofOpt_some, aop, aload, astore, aslice, aappend, aiaddr, aiaddrA, afaddr, alen, alenS, acopy, amm, acall, apick, binV, binVB, binVS, isSh, intOp, strOp, boolOp, shOp, eqC, eqF, and2, cellsOf, setFrom, fillA, fillS, rd, rdI, elems, mk, bounds, AV.cell, List.all_cons, List.all_nil, Bool.and_true, Bool.true_and, Bool.and_self, List.length_cons, List.length_nil, List.length_append, Nat.reduceAdd, Nat.reduceSub, Nat.reduceMul, Nat.zero_add, Nat.add_zero, List.replicate_succ, List.replicate_zero, List.cons_append, List.nil_append, List.append_assoc, List.append_nil, List.getElem?_cons_zero, List.getElem?_cons_succ, List.getElem?_nil, List.set_cons_zero, List.set_cons_succ, List.drop_zero, List.drop_succ_cons, List.take_zero, List.take_succ_cons, List.take_nil, List.drop_nil, List.map_cons, List.map_nil, Option.map_some, if_true, if_false, Bool.false_eq_true, and_self, true_and, and_true, Nat.reduceLeDiff, Nat.reduceLT, Nat.le_refl, Nat.reduceEqDiff, ite_true, ite_false, beq_self_eq_true, beq_true, beq_false, Bool.not_true, Bool.not_false, Bool.true_beq, Bool.false_beq, map_vs, vs_len, vs_get, vs_take, vs_drop, vs_snoc1, vs_snoc2, vs_snoc3, vs_snoc5, vs_set1, vs_set2, vs_rep, wrap_id, le_T, lt_T, le_F, lt_F, leI_T, ltI_T, leI_F, ltI_F, geI, gtI, get_T, decide_true, decide_false, room, List.getElem?_map, List.length_map, List.length_take, Int.toNat_natCast, Nat.min_def, Nat.min_self]
      refine ACalls_mono _ _ _ _ _ _ (contains_spec a_contains2_ok a_index2_ok (t[i].vars.map eVr) _ [] (longV t[i]) (by simp [eVr]) (by simp; omega) _ _ (longV_ok _ _)) ?_
      rintro r b' l' ⟨rfl, rfl, rfl⟩
      simp only [List.length_map]
      have hin : longIn t[i] = ((List.range t[i].vars.length).any (longV t[i]) || (List.range t[i].evs.length).any (longE t[i])) := rfl
      cases q5 : (List.range t[i].vars.length).any (longV t[i])
      case true =>
        simp (disch := omega) only [↓run_skip, ↓run_region, ↓run_draw, ↓run_seq, ↓run_block, ↓run_exit, ↓run_ret, ↓run_cond, ↓atN_app, ↓seqC_normal, ↓seqC_exit, ↓seqC_ret, ↓seqQ_normal, ↓seqQ_exit, ↓seqQ_ret, ↓blkQ_normal, ↓blkQ_exit, ↓blkQ_ret, ↓runOps_nil, ↓runOps_cons, ↓runD_nil, ↓runD_cons, ↓grdO_true, ↓grdO_false, ↓grdD_true, ↓grdD_false, ↓ifC_true, ↓ifC_false, ↓opS_val, ↓opS_call, ↓opS_two, ↓opK_app, ↓dS_val, ↓dS_call, ↓dS_two, ↓dK_app, rechks_nil, rechks_cons, rechk, gcase_true, gcase_false, ex_val, ex_val0, gd_none, gd_some, nth_zero, nth_succ, upd_zero, upd_succ, put_some, put_none, ev_t, ev_c, evs_nil, evs_cons, evo_some, evo_none, hget_at, hget_first, hsetB_at, hsetB_first, hsetL_at, hsetL_first, ofOpt_some, aop, aload, astore, aslice, aappend, aiaddr, aiaddrA, afaddr, alen, alenS, acopy, amm, acall, apick, binV, binVB, binVS, isSh, intOp, strOp, boolOp, shOp, eqC, eqF, and2, cellsOf, setFrom, fillA, fillS, rd, rdI, elems, mk, bounds, AV.cell, List.all_cons, List.all_nil, Bool.and_true, Bool.true_and, Bool.and_self, List.length_cons, List.length_nil, List.length_append, Nat.reduceAdd, Nat.reduceSub, Nat.reduceMul, Nat.zero_add, Nat.add_zero, List.replicate_succ, List.replicate_zero, List.cons_append, List.nil_append, List.append_assoc, List.append_nil, List.getElem?_cons_zero, List.getElem?_cons_succ, List.getElem?_nil, List.set_cons_zero, List.set_cons_succ, List.drop_zero, List.drop_succ_cons, List.take_zero, List.take_succ_cons, List.take_nil, List.drop_nil, List.map_cons, List.map_nil, Option.map_some, if_true, if_false, Bool.false_eq_true, and_self, true_and, and_true, Nat.reduceLeDiff, Nat.reduceLT, Nat.le_refl, Nat.reduceEqDiff, ite_true, ite_false, beq_self_eq_true, beq_true, beq_false, Bool.not_true, Bool.not_false, Bool.true_beq, Bool.false_beq, map_vs, vs_len, vs_get, vs_take, vs_drop, vs_snoc1, vs_snoc2, vs_snoc3, vs_snoc5, vs_set1, vs_set2, vs_rep, wrap_id, le_T, lt_T, le_F, lt_F, leI_T, ltI_T, leI_F, ltI_F, geI, gtI, get_T, decide_true, decide_false, room, List.getElem?_map, List.length_map, List.length_take, Int.toNat_natCast, Nat.min_def, Nat.min_self]
        exact leave_pure (.inr rfl) rfl (.v _) hR hB ⟨by rw [few_bad hlt (by rw [bad, hin, q5]; simp)]; rfl, rfl, rfl⟩
      simp (disch := omega) only [↓run_skip, ↓run_region, ↓run_draw, ↓run_seq, ↓run_block, ↓run_exit, ↓run_ret, ↓run_cond, ↓atN_app, ↓seqC_normal, ↓seqC_exit, ↓seqC_ret, ↓seqQ_normal, ↓seqQ_exit, ↓seqQ_ret, ↓blkQ_normal, ↓blkQ_exit, ↓blkQ_ret, ↓runOps_nil, ↓runOps_cons, ↓runD_nil, ↓runD_cons, ↓grdO_true, ↓grdO_false, ↓grdD_true, ↓grdD_false, ↓ifC_true, ↓ifC_false, ↓opS_val, ↓opS_call, ↓opS_two, ↓opK_app, ↓dS_val, ↓dS_call, ↓dS_two, ↓dK_app, rechks_nil, rechks_cons, rechk, gcase_true, gcase_false, ex_val, ex_val0, gd_none, gd_some, nth_zero, nth_succ, upd_zero, upd_succ, put_some, put_none, ev_t, ev_c, evs_nil, evs_cons, evo_some, evo_none, hget_at, hget_first, hsetB_at, hsetB_first, hsetL_at, hsetL_first, ofOpt_some, aop, aload, astore, aslice, aappend, aiaddr, aiaddrA, afaddr, alen, alenS, acopy, amm, acall, apick, binV, binVB, binVS, isSh, intOp, strOp, boolOp, shOp, eqC, eqF, and2, cellsOf, setFrom, fillA, fillS, rd, rdI, elems, mk, bounds, AV.cell, List.all_cons, List.all_nil, Bool.and_true, Bool.true_and, Bool.and_self, List.length_cons, List.length_nil, List.length_append, Nat.reduceAdd, Nat.reduceSub, Nat.reduceMul, Nat.zero_add, Nat.add_zero, List.replicate_succ, List.replicate_zero, List.cons_append, List.nil_append, List.append_assoc, List.append_nil, List.getElem?_cons_zero, List.getElem?_cons_succ, List.getElem?_nil, List.set_cons_zero, List.set_cons_succ, List.drop_zero, List.drop_succ_cons, List.take_zero, List.take_succ_cons, List.take_nil, List.drop_nil, List.map_cons, List.map_nil, Option.map_some, if_true, if_false, Bool.false_eq_true, and_self, true_and, and_true, Nat.reduceLeDiff, Nat.reduceLT, Nat.le_refl, Nat.reduceEqDiff, ite_true, ite_false, beq_self_eq_true, beq_true, beq_false, Bool.not_true, Bool.not_false, Bool.true_beq, Bool.false_beq, map_vs, vs_len, vs_get, vs_take, vs_drop, vs_snoc1, vs_snoc2, vs_snoc3, vs_snoc5, vs_set1, vs_set2, vs_rep, wrap_id, le_T, lt_T, le_F, lt_F, leI_T, ltI_T, leI_F, ltI_F, geI, gtI, get_T, decide_true, decide_false, room, List.getElem?_map, List.length_map, List.length_take, Int.toNat_natCast, Nat.min_def, Nat.min_self]
      refine ACalls_mono _ _ _ _ _ _ (contains_spec a_contains5_ok a_index5_ok (t[i].evs.map eEv) _ [] (longE t[i]) (by simp [eEv]) (by simp; omega) _ _ (longE_ok _ _)) ?_
      rintro r b' l' ⟨rfl, rfl, rfl⟩
      simp only [List.length_map]
      cases q6 : (List.range t[i].evs.length).any (longE t[i])
      case true =>
        simp (disch := omega) only [↓run_skip, ↓run_region, ↓run_draw, ↓run_seq, ↓run_block, ↓run_exit, ↓run_ret, ↓run_cond, ↓atN_app, ↓seqC_normal, ↓seqC_exit, ↓seqC_ret, ↓seqQ_normal, ↓seqQ_exit, ↓seqQ_ret, ↓blkQ_normal, ↓blkQ_exit, ↓blkQ_ret, ↓runOps_nil, ↓runOps_cons, ↓runD_nil, ↓runD_cons, ↓grdO_true, ↓grdO_false, ↓grdD_true, ↓grdD_false, ↓ifC_true, ↓ifC_false, ↓opS_val, ↓opS_call, ↓opS_two, ↓opK_app, ↓dS_val, ↓dS_call, ↓dS_two, ↓dK_app, rechks_nil, rechks_cons, rechk, gcase_true, gcase_false, ex_val, ex_val0, gd_none, gd_some, nth_zero, nth_succ, upd_zero, upd_succ, put_some, put_none, ev_t, ev_c, evs_nil, evs_cons, evo_some, evo_none, hget_at, hget_first, hsetB_at, hsetB_first, hsetL_at, hsetL_first, ofOpt_some, aop, aload, astore, aslice, aappend, aiaddr, aiaddrA, afaddr, alen, alenS, acopy, amm, acall, apick, binV, binVB, binVS, isSh, intOp, strOp, boolOp, shOp, eqC, eqF, and2, cellsOf, setFrom, fillA, fillS, rd, rdI, elems, mk, bounds, AV.cell, List.all_cons, List.all_nil, Bool.and_true, Bool.true_and, Bool.and_self, List.length_cons, List.length_nil, List.length_append, Nat.reduceAdd, Nat.reduceSub, Nat.reduceMul, Nat.zero_add, Nat.add_zero, List.replicate_succ, List.replicate_zero, List.cons_append, List.nil_append, List.append_assoc, List.append_nil, List.getElem?_cons_zero, List.getElem?_cons_succ, List.getElem?_nil, List.set_cons_zero, List.set_cons_succ, List.drop_zero, List.drop_succ_cons, List.take_zero, List.take_succ_cons, List.take_nil, List.drop_nil, List.map_cons, List.map_nil, Option.map_some, if_true, if_false, Bool.false_eq_true, and_self, true_and, and_true, Nat.reduceLeDiff, Nat.reduceLT, Nat.le_refl, Nat.reduceEqDiff, ite_true, ite_false, beq_self_eq_true, beq_true, beq_false, Bool.not_true, Bool.not_false, Bool.true_beq, Bool.false_beq, map_vs, vs_len, vs_get, vs_take, vs_drop, vs_snoc1, vs_snoc2, vs_snoc3, vs_snoc5, vs_set1, vs_set2, vs_rep, wrap_id, le_T, lt_T, le_F, lt_F, leI_T, ltI_T, leI_F, ltI_F, geI, gtI, get_T, decide_true, decide_false, room, List.getElem?_map, List.length_map, List.length_take, Int.toNat_natCast, Nat.min_def, Nat.min_self]
        exact leave_pure (.inr rfl) rfl (.v _) hR hB ⟨by rw [few_bad hlt (by rw [bad, hin, q5, q6]; simp)]; rfl, rfl, rfl⟩
      simp (disch := omega) only [↓run_skip, ↓run_region, ↓run_draw, ↓run_seq, ↓run_block, ↓run_exit, ↓run_ret, ↓run_cond, ↓atN_app, ↓seqC_normal, ↓seqC_exit, ↓seqC_ret, ↓seqQ_normal, ↓seqQ_exit, ↓seqQ_ret, ↓blkQ_normal, ↓blkQ_exit, ↓blkQ_ret, ↓runOps_nil, ↓runOps_cons, ↓runD_nil, ↓runD_cons, ↓grdO_true, ↓grdO_false, ↓grdD_true, ↓grdD_false, ↓ifC_true, ↓ifC_false, ↓opS_val, ↓opS_call, ↓opS_two, ↓opK_app, ↓dS_val, ↓dS_call, ↓dS_two, ↓dK_app, rechks_nil, rechks_cons, rechk, gcase_true, gcase_false, ex_val, ex_val0, gd_none, gd_some, nth_zero, nth_succ, upd_zero, upd_succ, put_some, put_none, ev_t, ev_c, evs_nil, evs_cons, evo_some, evo_none, hget_at, hget_first, hsetB_at, hsetB_first, hsetL_at, hsetL_first, ofOpt_some, aop, aload, astore, aslice, aappend, aiaddr, aiaddrA, afaddr, alen, alenS, acopy, amm, acall, apick, binV, binVB, binVS, isSh, intOp, strOp, boolOp, shOp, eqC, eqF, and2, cellsOf, setFrom, fillA, fillS, rd, rdI, elems, mk, bounds, AV.cell, List.all_cons, List.all_nil, Bool.and_true, Bool.true_and, Bool.and_self, List.length_cons, List.length_nil, List.length_append, Nat.reduceAdd, Nat.reduceSub, Nat.reduceMul, Nat.zero_add, Nat.add_zero, List.replicate_succ, List.replicate_zero, List.cons_append, List.nil_append, List.append_assoc, List.append_nil, List.getElem?_cons_zero, List.getElem?_cons_succ, List.getElem?_nil, List.set_cons_zero, List.set_cons_succ, List.drop_zero, List.drop_succ_cons, List.take_zero, List.take_succ_cons, List.take_nil, List.drop_nil, List.map_cons, List.map_nil, Option.map_some, if_true, if_false, Bool.false_eq_true, and_self, true_and, and_true, Nat.reduceLeDiff, Nat.reduceLT, Nat.le_refl, Nat.reduceEqDiff, ite_true, ite_false, beq_self_eq_true, beq_true, beq_false, Bool.not_true, Bool.not_false, Bool.true_beq, Bool.false_beq, map_vs, vs_len, vs_get, vs_take, vs_drop, vs_snoc1, vs_snoc2, vs_snoc3, vs_snoc5, vs_set1, vs_set2, vs_rep, wrap_id, le_T, lt_T, le_F, lt_F, leI_T, ltI_T, leI_F, ltI_F, geI, gtI, get_T, decide_true, decide_false, room, List.getElem?_map, List.length_map, List.length_take, Int.toNat_natCast, Nat.min_def, Nat.min_self]
      refine ⟨i + 1, ⟨⟨hlt, by omega⟩, fun j hj => ?_⟩, by simp only; omega, ?_⟩
      · rcases Nat.lt_or_ge j i with hji | hji
        · exact h0 j hji
        · have : j = i := by omega
          subst this
          rw [bad, hin, q5, q6, hsum]
          simp [longP]; omega
      · have e1 : ((wSum t (i + 1) : Nat) : Int) = (wSum t i : Int) + t[i].evs.length := by omega
        dsimp only; rw [e1]
        exact Weak.round (l1 := [.live 0 1 [[.v (.isl 3 (t.map ePr))]]]) (by simp [Fgt]) rfl (by simp (disch := omega) only [AVlt_v, AVlt_any, AVlt_sl, AVlt_ptr, AVlt_agg, AVlt_tup, AVlt_fn, RowsLt_nil, RowsLt_live, RowsLt_dead, List.mem_cons, List.not_mem_nil, List.forall_mem_cons, List.forall_mem_nil, or_false, false_or, forall_eq_or_imp, forall_eq, vs_lt, Nat.add_lt_add_iff_left, Nat.reduceLT, true_and, and_true, and_self, List.length_cons, List.length_nil, Nat.reduceAdd, Nat.zero_add, implies_true, false_imp_iff, lt_T, List.mem_map]) hR (by simp (disch := omega) only [AVlt_v, AVlt_any, AVlt_sl, AVlt_ptr, AVlt_agg, AVlt_tup, AVlt_fn, RowsLt_nil, RowsLt_live, RowsLt_dead, List.mem_cons, List.not_mem_nil, List.forall_mem_cons, List.forall_mem_nil, or_false, false_or, forall_eq_or_imp, forall_eq, vs_lt, Nat.add_lt_add_iff_left, Nat.reduceLT, true_and, and_true, and_self, List.length_cons, List.length_nil, Nat.reduceAdd, Nat.zero_add, implies_true, false_imp_iff, lt_T, List.mem_map])
    · simp (disch := omega) only [↓run_skip, ↓run_region, ↓run_draw, ↓run_seq, ↓run_block, ↓run_exit, ↓run_ret, ↓run_cond, ↓atN_app, ↓seqC_normal, ↓seqC_exit, ↓seqC_ret, ↓seqQ_normal, ↓seqQ_exit, ↓seqQ_ret, ↓blkQ_normal, ↓blkQ_exit, ↓blkQ_ret, ↓runOps_nil, ↓runOps_cons, ↓runD_nil, ↓runD_cons, ↓grdO_true, ↓grdO_false, ↓grdD_true, ↓grdD_false, ↓ifC_true, ↓ifC_false, ↓opS_val, ↓opS_call, ↓opS_two, ↓opK_app, ↓dS_val, ↓dS_call, ↓dS_two, ↓dK_app, rechks_nil, rechks_cons, rechk, gcase_true, gcase_false, ex_val, ex_val0, gd_none, gd_some, nth_zero, nth_succ, upd_zero, upd_succ, put_some, put_none, ev_t, ev_c, evs_nil, evs_cons, evo_some, evo_none, hget_at, hget_first, hsetB_at, hsetB_first, hsetL_at, hsetL_first, ofOpt_some, aop, aload, astore, aslice, aappend, aiaddr, aiaddrA, afaddr, alen, alenS, acopy, amm, acall, apick, binV, binVB, binVS, isSh, intOp, strOp, boolOp, shOp, eqC, eqF, and2, cellsOf, setFrom, fillA, fillS, rd, rdI, elems, mk, bounds, AV.cell, List.all_cons, List.all_nil, Bool.and_true, Bool.true_and, Bool.and_self, List.length_cons, List.length_nil, List.length_append, Nat.reduceAdd, Nat.reduceSub, Nat.reduceMul, Nat.zero_add, Nat.add_zero, List.replicate_succ, List.replicate_zero, List.cons_append, List.nil_append, List.append_assoc, List.append_nil, List.getElem?_cons_zero, List.getElem?_cons_succ, List.getElem?_nil, List.set_cons_zero, List.set_cons_succ, List.drop_zero, List.drop_succ_cons, List.take_zero, List.take_succ_cons, List.take_nil, List.drop_nil, List.map_cons, List.map_nil, Option.map_some, if_true, if_false, Bool.false_eq_true, and_self, true_and, and_true, Nat.reduceLeDiff, Nat.reduceLT, Nat.le_refl, Nat.reduceEqDiff, ite_true, ite_false, beq_self_eq_true, beq_true, beq_false, Bool.not_true, Bool.not_false, Bool.true_beq, Bool.false_beq, map_vs, vs_len, vs_get, vs_take, vs_drop, vs_snoc1, vs_snoc2, vs_snoc3, vs_snoc5, vs_set1, vs_set2, vs_rep, wrap_id, le_T, lt_T, le_F, lt_F, leI_T, ltI_T, leI_F, ltI_F, geI, gtI, get_T, decide_true, decide_false, room, List.getElem?_map, List.length_map, List.length_take, Int.toNat_natCast, Nat.min_def, Nat.min_self]
      obtain rfl : i = t.length := by omega
      exact leave_pure (.inr rfl) rfl (.v _) hR hB ⟨by rw [few_good (by omega) h0]; rfl, rfl, rfl⟩
end Go.Proofs.Ytfdekchpckdeiaa

/- Walks of the reference: At, Directly, paired. No condition but on lengths. -/
namespace Go.Proofs.Ytfdekchpckdeiaa
open Go.RowKit
set_option linter.unusedVariables false

def AtPost (t : Tr) (x : Nat × Nat) (w : World) (e : Ending) (w' : World) : Prop := ∃ A n c, e = .returned (.agg #[.int .i64 (evAt t x).kind, .int .i64 (evAt t x).peer, .int .i64 (evAt t x).msg, .int .i64 (evAt t x).time, .slice A n c]) ∧ SlR 2 RAsg w (.slice A n c) (evAt t x).asg ∧ Ext w w'

set_option maxRecDepth 100000 in
set_option maxHeartbeats 4000000 in
theorem At_any (u : Value) (t : Tr) (p i : Nat) (w : World) (hx : (p, i) ∈ ids t) (hS : Small t) (hs : SlR 3 RPr w u t) :
    Calls Try.prog 123 #[.agg #[u], idVal (p, i)] w fun e w' => AtPost t (p, i) w e w' := by
  obtain ⟨hp, hi1, hi2⟩ := mem_ids.1 hx
  simp only at hp hi1 hi2
  obtain ⟨j, rfl⟩ : ∃ j, i = j + 1 := ⟨i - 1, by omega⟩
  have hj : j < t[p].evs.length := by omega
  have hev := hide (evAt_eq hp hj)
  obtain ⟨A, c, rfl, h1, h2, hc⟩ := hs.at_
  obtain ⟨b, off, rfl, hel⟩ := hc (by omega)
  obtain ⟨_, _, v2, c2, hs2⟩ := hel p hp
  obtain ⟨A2, k2, rfl, _, _, hc2⟩ := hs2.at_
  obtain ⟨b2, off2, rfl, hel2⟩ := hc2 (by omega)
  obtain ⟨g0, g1, g2, g3, va, g4, hs4⟩ := hel2 j hj
  obtain ⟨A4, k4, rfl, _, _, _⟩ := hs4.at_
  have HS4 := hide hs4
  have hb := lt_of_cell c2
  have hb2 := lt_of_cell g0
  have hnp := hS.np
  have hne := hS.ne _ (List.getElem_mem hp)
  have hjl : (j : Int) < (t[p].evs.length : Int) := by omega
  clear hs hc hel hs2 hc2 hel2 hs4
  unfold idVal
  have bt : BoxN (((w.alloc (.cells #[.slice (some ⟨b, off, none⟩) t.length c] 24)).alloc (.cells #[.int .i64 p, .int .i64 ((j : Int) + 1)] 28)).alloc (.cells #[.int .i64 0, .int .i64 0, .int .i64 0, .int .i64 0, .slice none 0 0] 49)) w.heap.size 24 _ := ((BoxN.new w _ _).alloc _).alloc _
  have bx : BoxN (((w.alloc (.cells #[.slice (some ⟨b, off, none⟩) t.length c] 24)).alloc (.cells #[.int .i64 p, .int .i64 ((j : Int) + 1)] 28)).alloc (.cells #[.int .i64 0, .int .i64 0, .int .i64 0, .int .i64 0, .slice none 0 0] 49)) (w.heap.size + 1) 28 _ := (BoxN.newAt _ _ (by simp)).alloc _
  have br : BoxN (((w.alloc (.cells #[.slice (some ⟨b, off, none⟩) t.length c] 24)).alloc (.cells #[.int .i64 p, .int .i64 ((j : Int) + 1)] 28)).alloc (.cells #[.int .i64 0, .int .i64 0, .int .i64 0, .int .i64 0, .slice none 0 0] 49)) (w.heap.size + 1 + 1) 49 _ := BoxN.newAt _ _ (by simp)
  have hx1 : Ext w (((w.alloc (.cells #[.slice (some ⟨b, off, none⟩) t.length c] 24)).alloc (.cells #[.int .i64 p, .int .i64 ((j : Int) + 1)] 28)).alloc (.cells #[.int .i64 0, .int .i64 0, .int .i64 0, .int .i64 0, .slice none 0 0] 49)) := (((Ext.refl _).alloc _).alloc _).alloc _
  go_enter Try.func123, Try.ntmps123
  go_wp2_with fail
  generalize (((w.alloc (.cells #[.slice (some ⟨b, off, none⟩) t.length c] 24)).alloc (.cells #[.int .i64 p, .int .i64 ((j : Int) + 1)] 28)).alloc (.cells #[.int .i64 0, .int .i64 0, .int .i64 0, .int .i64 0, .slice none 0 0] 49)) = W1 at *
  have t0 := bt.cell (j := 0) rfl
  have x0 := bx.cell (j := 0) rfl
  have x1 := bx.cell (j := 1) rfl
  have e0 := hx1.cellAt g0
  have e1 := hx1.cellAt g1
  have e2 := hx1.cellAt g2
  have e3 := hx1.cellAt g3
  have e4 := hx1.cellAt g4
  have d2 := hx1.cellAt c2
  have r0 := br.cell (j := 0) rfl
  have r1 := br.cell (j := 1) rfl
  have r2 := br.cell (j := 2) rfl
  have r3 := br.cell (j := 3) rfl
  have r4 := br.cell (j := 4) rfl
  have f0 := br.frozen 0
  have f1 := br.frozen 1
  have f2 := br.frozen 2
  have f3 := br.frozen 3
  have f4 := br.frozen 4
  have hw1 : IntKind.i64.wrap ((j : Int) + 1 - 1) = (j : Int) := by rw [IntKind.wrap_i64]; omega
  have hw2 : IntKind.i64.wrap (j : Int) = (j : Int) := by rw [IntKind.wrap_i64]; omega
  have hj0 : (0 : Int) ≤ (j : Int) := by omega
  have hp0 : (0 : Int) ≤ (p : Int) := by omega
  have n1 : b ≠ w.heap.size + 1 + 1 := by omega
  have n2 : b2 ≠ w.heap.size + 1 + 1 := by omega
  have n3 : w.heap.size ≠ w.heap.size + 1 + 1 := by omega
  have n4 : w.heap.size + 1 ≠ w.heap.size + 1 + 1 := by omega
  have hpl : (p : Int) < (t.length : Int) := by omega
  go_region
  all_goals go_wp2
  obtain ⟨Wr, hWr⟩ : ∃ Wr, (((((W1.setCell ⟨w.heap.size + 1 + 1, 0, none⟩ (.int .i64 t[p].evs[j].kind)).setCell ⟨w.heap.size + 1 + 1, 1, none⟩ (.int .i64 t[p].evs[j].peer)).setCell ⟨w.heap.size + 1 + 1, 2, none⟩ (.int .i64 t[p].evs[j].msg)).setCell ⟨w.heap.size + 1 + 1, 3, none⟩ (.int .i64 t[p].evs[j].time)).setCell ⟨w.heap.size + 1 + 1, 4, none⟩ (.slice A4 t[p].evs[j].asg.length k4)).drew = Wr := ⟨_, rfl⟩
  rw [hWr]
  have s1 : BoxN Wr (w.heap.size + 1 + 1) 49 #[.int .i64 t[p].evs[j].kind, .int .i64 t[p].evs[j].peer, .int .i64 t[p].evs[j].msg, .int .i64 t[p].evs[j].time, .slice A4 t[p].evs[j].asg.length k4] := by rw [← hWr]; ((repeat (first | with_reducible assumption | with_reducible exact KeepsFrom.refl _ _ | with_reducible refine KF.set ?_ _ _ | with_reducible refine KF.alloc ?_ _ | with_reducible refine KF.drew ?_ | with_reducible refine KF.drewN ?_ _ | with_reducible refine KF.ext ?_ (by assumption) | with_reducible exact Below.refl _ _ | with_reducible refine BL.set ?_ _ _ _ (by omega) | with_reducible refine BL.alloc ?_ _ (by omega) | with_reducible refine BL.drew ?_ | with_reducible refine BL.drewN ?_ _ | with_reducible refine BL.ext ?_ (by assumption) (by omega) | with_reducible exact Ext.refl _ | with_reducible refine Ext.set ?_ (by omega) _ | with_reducible refine Ext.alloc ?_ _ | with_reducible refine Ext.drew ?_ | with_reducible refine Ext.drewN ?_ _ | with_reducible refine Ext.trans ?_ (by assumption) | with_reducible refine BoxN.alloc ?_ _ | with_reducible refine BoxN.drew ?_ | with_reducible refine BoxN.drewN ?_ _ | with_reducible refine BoxN.other ?_ (by omega) _ | with_reducible refine BoxN.set ?_ _ _ | with_reducible apply BoxN.set1 | with_reducible apply BoxN.set2_1 | with_reducible apply BoxN.set2_0 | with_reducible apply BoxN.set5_4 | with_reducible apply BoxN.set5_3 | with_reducible apply BoxN.set5_2 | with_reducible apply BoxN.set5_1 | with_reducible apply BoxN.set5_0 | with_reducible apply BoxN.set3_2 | with_reducible apply BoxN.set3_1 | with_reducible apply BoxN.set3_0 | with_reducible apply BoxN.set4_3 | with_reducible apply BoxN.set4_2 | with_reducible apply BoxN.set4_1 | with_reducible apply BoxN.set4_0 | with_reducible refine BoxN.ext ?_ (by assumption))); done)
  have sx : Ext w Wr := by rw [← hWr]; ((repeat (first | with_reducible assumption | with_reducible exact KeepsFrom.refl _ _ | with_reducible refine KF.set ?_ _ _ | with_reducible refine KF.alloc ?_ _ | with_reducible refine KF.drew ?_ | with_reducible refine KF.drewN ?_ _ | with_reducible refine KF.ext ?_ (by assumption) | with_reducible exact Below.refl _ _ | with_reducible refine BL.set ?_ _ _ _ (by omega) | with_reducible refine BL.alloc ?_ _ (by omega) | with_reducible refine BL.drew ?_ | with_reducible refine BL.drewN ?_ _ | with_reducible refine BL.ext ?_ (by assumption) (by omega) | with_reducible exact Ext.refl _ | with_reducible refine Ext.set ?_ (by omega) _ | with_reducible refine Ext.alloc ?_ _ | with_reducible refine Ext.drew ?_ | with_reducible refine Ext.drewN ?_ _ | with_reducible refine Ext.trans ?_ (by assumption) | with_reducible refine BoxN.alloc ?_ _ | with_reducible refine BoxN.drew ?_ | with_reducible refine BoxN.drewN ?_ _ | with_reducible refine BoxN.other ?_ (by omega) _ | with_reducible refine BoxN.set ?_ _ _ | with_reducible apply BoxN.set1 | with_reducible apply BoxN.set2_1 | with_reducible apply BoxN.set2_0 | with_reducible apply BoxN.set5_4 | with_reducible apply BoxN.set5_3 | with_reducible apply BoxN.set5_2 | with_reducible apply BoxN.set5_1 | with_reducible apply BoxN.set5_0 | with_reducible apply BoxN.set3_2 | with_reducible apply BoxN.set3_1 | with_reducible apply BoxN.set3_0 | with_reducible apply BoxN.set4_3 | with_reducible apply BoxN.set4_2 | with_reducible apply BoxN.set4_1 | with_reducible apply BoxN.set4_0 | with_reducible refine BoxN.ext ?_ (by assumption))); done)
  clear hWr
  refine bodyPost_ret (v := .agg #[.int .i64 t[p].evs[j].kind, .int .i64 t[p].evs[j].peer, .int .i64 t[p].evs[j].msg, .int .i64 t[p].evs[j].time, .slice A4 t[p].evs[j].asg.length k4]) ?_ rfl ⟨A4, _, k4, by rw [hev.out], by rw [hev.out]; exact HS4.out, sx⟩
  simp [results, Try.f123, go_sem, s1.cell (j := 0) rfl, s1.cell (j := 1) rfl, s1.cell (j := 2) rfl, s1.cell (j := 3) rfl, s1.cell (j := 4) rfl]
end Go.Proofs.Ytfdekchpckdeiaa

/- Walks of the reference: Directly. No condition but on lengths. -/
namespace Go.Proofs.Ytfdekchpckdeiaa
open Go.RowKit
set_option linter.unusedVariables false

def backL (t : Tr) (x : Nat × Nat) : List (Nat × Nat) := (if 1 < x.2 then [(x.1, x.2 - 1)] else []) ++ if (evAt t x).kind == 3 then [findV t 2 (evAt t x).msg] else []

set_option maxRecDepth 100000 in
set_option maxHeartbeats 4000000 in
theorem Directly_any (u : Value) (t : Tr) (p i : Nat) (w : World) (hx : (p, i) ∈ ids t) (hS : Small t) (hs : SlR 3 RPr w u t) :
    Calls Try.prog 85 #[.agg #[u], idVal (p, i)] w fun e w' => RetIds w (backL t (p, i)) e w' := by
  have HAT := hide (fun w' (he : Ext w w') => At_any u t p i w' hx hS (hs.ext RPr.keeps he))
  have HFD := hide (fun m w' (he : Ext w w') => Find_any u t 2 m w' hS (hs.ext RPr.keeps he))
  have HBL := hide (show backL t (p, i) = (if 1 < i then [(p, i - 1)] else []) ++ if (evAt t (p, i)).kind == 3 then [findV t 2 (evAt t (p, i)).msg] else [] from rfl)
  have hpos := mem_pos hx
  have hi64 : i ≤ 1000000 := by
    obtain ⟨hp, _, h2⟩ := mem_ids.1 hx
    exact Nat.le_trans h2 (hS.ne _ (List.getElem_mem hp))
  obtain ⟨A, c, rfl, _, _, _⟩ := hs.at_
  clear hs
  simp only at hpos
  unfold idVal at *
  go_enter Try.func85, Try.ntmps85
  by_cases h1 : 1 < i
  · have hd : decide ((1 : Int) < (i : Int)) = true := decide_eq_true (by omega)
    go_wp2_with (at_builtin; go_must (refine wpl_appC (v := .slice none 0 0) (.tmp 10) (.tmp 17) elId rfl rfl rfl rfl (OwnC.nil _ _ _ w.heap.size) (SlC.lit (x := (p, i - 1)) _ (by simp) rfl (by omega)) (idsC_one _) (by omega) (by simp; omega) ?_; intro v1 w1 hown1 hgr1 hbl1; have he1 := hgr1.ext rfl; have hew1 : Ext w w1 := Ext.trans (((Ext.refl w).alloc _).alloc _ |>.alloc _) he1; have bt := (((BoxN.new w 24 _).alloc _ |>.alloc _).ext he1); have t0 := bt.cell (j := 0) rfl; have bx := (((BoxN.newAt (B := w.heap.size + 1) (W := w.alloc _) 28 _ (by simp)).alloc _).ext he1); have x0 := bx.cell (j := 0) rfl; have x1 := bx.cell (j := 1) rfl; have hown : OwnIds w1 w.heap.size v1 [(p, i - 1)] := (OwnIds.snoc (l := []) hown1 rfl); clear hgr1 hbl1 hown1))
    clear t0 bx x0 x1 he1
    refine (HAT.out _ hew1).mono ?_
    rintro e w2 ⟨A4, n4, k4, rfl, _, he2⟩
    have hew2 : Ext w w2 := hew1.trans he2
    have hown2 := OwnC.ext hown he2
    have bt2 := bt.ext he2
    have hsz2 := hew2.size
    clear hown bt
    generalize hev : evAt t (p, i) = ev at *
    have HEQ := hide hev
    clear hev
    cases z3 : ev.kind == 3
    · have HR := hide (show backL t (p, i) = [(p, i - 1)] by rw [HBL.out, z3]; simp [h1])
      go_wp2_with fail
      go_ret
      exact ⟨_, rfl, by rw [HR.out]; exact OwnC.alloc hown2 _, hew2.alloc _⟩
    · have HR := hide (show backL t (p, i) = [(p, i - 1)] ++ [findV t 2 ev.msg] by rw [HBL.out, z3]; simp [h1])
      have t0 : (w2.alloc (.cells #[.int .i64 ev.kind, .int .i64 ev.peer, .int .i64 ev.msg, .int .i64 ev.time, .slice A4 n4 k4] 49)).cell? ⟨w.heap.size, 0, none⟩ = some (.slice A t.length c) := (bt2.alloc _).cell rfl
      have hlt := bt2.lt
      go_wp2_with fail
      refine (HFD.out _ _ (hew2.alloc _)).mono ?_
      rintro e w3 ⟨rfl, he3⟩
      have hown3 := OwnC.ext (OwnC.alloc hown2 _) he3
      have hew3 : Ext w w3 := (hew2.alloc _).trans he3
      have hsz3 := hew3.size
      go_wp2_with (at_builtin; go_must (refine wpl_appC (v := v1) (.tmp 25) (.tmp 30) elId rfl rfl rfl rfl (OwnC.alloc hown3 _) (SlC.lit (x := findV t 2 ev.msg) _ rfl rfl rfl) (idsC_one _) (by simp <;> omega) (by simp <;> omega) ?_; intro v4 w4 hown4 hgr4 hbl4))
      go_ret
      exact ⟨_, rfl, by rw [HR.out]; exact OwnIds.snoc hown4 rfl, Ext.more (hew3.alloc _) hbl4⟩
  · have hd : decide ((1 : Int) < (i : Int)) = false := decide_eq_false (by omega)
    have hew1 : Ext w ((w.alloc (.cells #[.slice A t.length c] 24)).alloc (.cells #[.int .i64 p, .int .i64 i] 28)) := ((Ext.refl w).alloc _).alloc _
    have bt : BoxN ((w.alloc (.cells #[.slice A t.length c] 24)).alloc (.cells #[.int .i64 p, .int .i64 i] 28)) w.heap.size 24 #[.slice A t.length c] := (BoxN.new w _ _).alloc _
    have hown : OwnIds ((w.alloc (.cells #[.slice A t.length c] 24)).alloc (.cells #[.int .i64 p, .int .i64 i] 28)) w.heap.size (.slice none 0 0) [] := OwnC.nil _ _ _ _
    go_wp2_with fail
    refine (HAT.out _ hew1).mono ?_
    rintro e w2 ⟨A4, n4, k4, rfl, _, he2⟩
    have hew2 : Ext w w2 := hew1.trans he2
    have hown2 := OwnC.ext hown he2
    have bt2 := bt.ext he2
    have hsz2 := hew2.size
    clear hown bt
    generalize hev : evAt t (p, i) = ev at *
    have HEQ := hide hev
    clear hev
    cases z3 : ev.kind == 3
    · have HR := hide (show backL t (p, i) = [] by rw [HBL.out, z3]; simp [h1])
      go_wp2_with fail
      go_ret
      exact ⟨_, rfl, by rw [HR.out]; exact OwnC.alloc hown2 _, hew2.alloc _⟩
    · have HR := hide (show backL t (p, i) = [] ++ [findV t 2 ev.msg] by rw [HBL.out, z3]; simp [h1])
      have t0 : (w2.alloc (.cells #[.int .i64 ev.kind, .int .i64 ev.peer, .int .i64 ev.msg, .int .i64 ev.time, .slice A4 n4 k4] 49)).cell? ⟨w.heap.size, 0, none⟩ = some (.slice A t.length c) := (bt2.alloc _).cell rfl
      have hlt := bt2.lt
      go_wp2_with fail
      refine (HFD.out _ _ (hew2.alloc _)).mono ?_
      rintro e w3 ⟨rfl, he3⟩
      have hown3 := OwnC.ext (OwnC.alloc hown2 _) he3
      have hew3 : Ext w w3 := (hew2.alloc _).trans he3
      have hsz3 := hew3.size
      go_wp2_with (at_builtin; go_must (refine wpl_appC (v := .slice none 0 0) (.tmp 25) (.tmp 30) elId rfl rfl rfl rfl (OwnC.alloc hown3 _) (SlC.lit (x := findV t 2 ev.msg) _ rfl rfl rfl) (idsC_one _) (by simp <;> omega) (by simp <;> omega) ?_; intro v4 w4 hown4 hgr4 hbl4))
      go_ret
      exact ⟨_, rfl, by rw [HR.out]; exact OwnIds.snoc hown4 rfl, Ext.more (hew3.alloc _) hbl4⟩
end Go.Proofs.Ytfdekchpckdeiaa

/- Rows of numbers that a call makes; sums over them. No program, no condition. -/
namespace Go.Proofs.Ytfdekchpckdeiaa
open Go.RowKit
set_option linter.unusedVariables false

theorem made_one (v : Value) (n : Nat) : madeCells #[v] (n * 1) = Array.replicate n v := by
  unfold madeCells
  apply Array.ext
  · simp
  · intro i h1 h2
    simp [Nat.mod_one]
theorem run_makeN {P : Program} {t e : TypeId} {i : TypeInfo} {z v : Value} (ht : P.underlying t = some (.slice e)) (hi : P.info? e = some i) (hz : i.zero = some z) (hs : i.size = 1) (hzc : z.cells = #[v]) (n : Nat) (hb : i.bytes * n ≤ 281474976710656) (h63 : n ≤ 9223372036854775807) (w : World) :
    (Instr.makeSlice t (.int .i64 n) (.int .i64 n)).run P w = .ok (.slice (some ⟨w.heap.size, 0, none⟩) n n) (w.alloc (.cells (Array.replicate n v) e)) := by
  have := run_make (P := P) w t e i z ht hi hz .i64 .i64 (n : Int) (n : Int) (by omega) (Int.le_refl _) (by rw [← Int.natCast_mul]; omega) (by omega)
  rw [hs, hzc, Int.toNat_natCast, made_one] at this
  exact this
/-- A block of natural numbers. -/
def rowC (D : List Nat) : Array Value := (D.map fun d : Nat => Value.int .i64 d).toArray
theorem rowC_get {D : List Nat} {k : Nat} (h : k < D.length) : (rowC D)[k]? = some (.int .i64 (D[k] : Nat)) := by simp [rowC, List.getElem?_eq_getElem h]
theorem rowC_set (D : List Nat) (k d : Nat) : (rowC D).setIfInBounds k (.int .i64 d) = rowC (D.set k d) := by
  unfold rowC
  rw [List.setIfInBounds_toArray, List.map_set]
theorem rowC_zero (n : Nat) : Array.replicate n (Value.int .i64 0) = rowC (List.replicate n 0) := by simp [rowC]
theorem BoxN.setRow {W : World} {B : Nat} {t : TypeId} {D : List Nat} {k : Nat} (h : BoxN W B t (rowC D)) (d : Nat) : BoxN (W.setCell ⟨B, k, none⟩ (.int .i64 d)) B t (rowC (D.set k d)) := by
  rw [← rowC_set]; exact h.set _ _
theorem BoxN.setRow1 {W : World} {B : Nat} {t : TypeId} {D : List Nat} {k : Nat} (h : BoxN W B t (rowC D)) (d : Nat) : BoxN (W.setCell ⟨B, k, none⟩ (.int .i64 ((d : Int) + 1))) B t (rowC (D.set k (d + 1))) := by
  have := h.setRow (k := k) (d + 1)
  rwa [show ((d + 1 : Nat) : Int) = (d : Int) + 1 from by push_cast; rfl] at this
/-- The sum of a block's numbers. -/
def sumB (w : World) (g : Nat) : Nat := match w.heap[g]? with | some (.cells cs _ _) => (cs.toList.map fun v => (intOf v).toNat).sum | _ => 0
theorem sumB_eq {w : World} {g : Nat} {t : TypeId} {D : List Nat} (h : BoxN w g t (rowC D)) : sumB w g = D.sum := by
  unfold sumB
  rw [show w.heap[g]? = _ from h]
  simp only [rowC, List.map_map]
  congr 1
  conv => rhs; rw [← List.map_id D]
  apply List.map_congr_left
  intro x _
  simp [intOf]
/-- One of its numbers. -/
def numB (w : World) (g k : Nat) : Nat := match w.cell? ⟨g, k, none⟩ with | some v => (intOf v).toNat | none => 0
theorem numB_eq {w : World} {g k : Nat} {t : TypeId} {D : List Nat} (h : BoxN w g t (rowC D)) (hk : k < D.length) : numB w g k = D[k] := by
  unfold numB
  rw [h.cell (rowC_get hk)]
  simp [intOf]
theorem sum_set {D : List Nat} : ∀ {k d : Nat} (hk : k < D.length), (D.set k d).sum + D[k] = D.sum + d := by
  induction D with
  | nil => intro k d hk; simp at hk
  | cons a D ih =>
    intro k d hk
    cases k with
    | zero => simp; omega
    | succ k =>
      have := ih (k := k) (d := d) (by simpa using hk)
      simp at this ⊢; omega
end Go.Proofs.Ytfdekchpckdeiaa

/- Taking events away whose predecessors are gone: plain. No program, no condition. -/
namespace Go.Proofs.Ytfdekchpckdeiaa
set_option linter.unusedVariables false

theorem Hb.back {t : Tr} {x z : Nat × Nat} (h : Hb t x z) : ∃ y, Dir t y z ∧ (y = x ∨ Hb t x y) := by
  cases h with
  | one h => exact ⟨_, h, .inl rfl⟩
  | more h1 h2 => exact ⟨_, h2, .inr h1⟩
/-- An event that is taken away. -/
def Gone (D : List Nat) (x : Nat × Nat) : Prop := x.2 ≤ D.getD x.1 0
structure KI (t : Tr) (D : List Nat) : Prop where
  len : D.length = t.length
  le : ∀ p (hp : p < t.length), D.getD p 0 ≤ t[p].evs.length
  closed : ∀ x ∈ ids t, Gone D x → ∀ y ∈ ids t, Dir t y x → Gone D y
  acyc : ∀ x ∈ ids t, Gone D x → ¬ Hb t x x
theorem KI.start (t : Tr) : KI t (List.replicate t.length 0) := by
  have h0 : ∀ p, (List.replicate t.length 0).getD p 0 = 0 := fun p => by
    rw [List.getD_eq_getElem?_getD, List.getElem?_replicate]; split <;> rfl
  have hn : ∀ x ∈ ids t, ¬ Gone (List.replicate t.length 0) x := fun x hx hg => by
    have := mem_pos hx
    unfold Gone at hg; rw [h0] at hg; omega
  exact ⟨by simp, fun p hp => by rw [h0]; exact Nat.zero_le _, fun x hx hg => absurd hg (hn x hx), fun x hx hg => absurd hg (hn x hx)⟩
theorem KI.gone_back {t : Tr} {D : List Nat} (h : KI t D) {x z : Nat × Nat} (hx : x ∈ ids t) (hz : z ∈ ids t) (hg : Gone D z) (hb : Hb t x z) : Gone D x := by
  induction hb with
  | one hd => exact h.closed _ hz hg _ hx hd
  | more h1 hd ih =>
    have hy := h1.mem hx
    exact ih hy (h.closed _ hz hg _ hy hd)
theorem getD_set {D : List Nat} {p q d : Nat} (hp : p < D.length) : (D.set p d).getD q 0 = if q = p then d else D.getD q 0 := by
  rw [List.getD_eq_getElem?_getD, List.getElem?_set]
  by_cases h : p = q
  · subst h; rw [if_pos rfl, if_pos rfl, if_pos hp]; rfl
  · rw [if_neg h, if_neg (fun e => h e.symm), List.getD_eq_getElem?_getD]
theorem KI.step {t : Tr} {D : List Nat} (h : KI t D) {p : Nat} (hp : p < t.length) (hi : D.getD p 0 < t[p].evs.length) (hpre : ∀ y ∈ ids t, Dir t y (p, D.getD p 0 + 1) → Gone D y) : KI t (D.set p (D.getD p 0 + 1)) := by
  have hlen : p < D.length := by rw [h.len]; exact hp
  have hgs : ∀ x, x ∈ ids t → (Gone (D.set p (D.getD p 0 + 1)) x ↔ Gone D x ∨ x = (p, D.getD p 0 + 1)) := fun x hx => by
    unfold Gone
    rw [getD_set hlen]
    obtain ⟨a, b⟩ := x
    simp only [Prod.mk.injEq]
    by_cases ha : a = p
    · subst ha; rw [if_pos rfl]; omega
    · rw [if_neg ha]; simp [ha]
  have hxin : (p, D.getD p 0 + 1) ∈ ids t := mem_ids.2 ⟨hp, by simp, hi⟩
  have hnx : ¬ Gone D (p, D.getD p 0 + 1) := by unfold Gone; simp
  refine ⟨by simpa using h.len, fun q hq => ?_, fun x hx hg y hy hd => ?_, fun x hx hg hb => ?_⟩
  · rw [getD_set hlen]
    split
    · rename_i e; subst e; exact hi
    · exact h.le q hq
  · rcases (hgs x hx).1 hg with h1 | rfl
    · exact (hgs y hy).2 (.inl (h.closed x hx h1 y hy hd))
    · exact (hgs y hy).2 (.inl (hpre y hy hd))
  · rcases (hgs x hx).1 hg with h1 | rfl
    · exact h.acyc x hx h1 hb
    · obtain ⟨y, hd, he⟩ := hb.back
      rcases he with rfl | h2
      · exact hnx (hpre _ hxin hd)
      · have hy := h2.mem hxin
        exact hnx (h.gone_back hxin hy (hpre y hy hd) h2)
/-- What comes directly before an event, in a trace whose messages are paired. -/
theorem dir_pre {t : Tr} {D : List Nat} {p i : Nat} (hpair : ∀ x ∈ ids t, pairF t x = 0) (hp : p < t.length) (hi : i = D.getD p 0) (hle : i < t[p].evs.length) (hs : (evAt t (p, i + 1)).kind = 3 → (findV t 2 (evAt t (p, i + 1)).msg).2 ≤ D.getD (findV t 2 (evAt t (p, i + 1)).msg).1 0) :
    ∀ y ∈ ids t, Dir t y (p, i + 1) → Gone D y := by
  rintro ⟨a, b⟩ hy (⟨he, hl⟩ | ⟨hk, hf⟩)
  · injection he with h1 h2
    simp only at h1 h2
    subst h1
    unfold Gone
    simp only
    omega
  · obtain ⟨hfo, _, _⟩ := firstOf_find hf
    have e : findL t 3 (evAt t (a, b)).msg = (ids t).find? (keyB t 3 (evAt t (a, b)).msg) := rfl
    rw [e] at hf
    have hkey := List.find?_some hf
    unfold keyB at hkey
    simp only [Bool.and_eq_true, beq_iff_eq] at hkey
    have hq := hs hkey.1
    rw [hkey.2] at hq
    have hpy := hpair (a, b) hy
    unfold pairF at hpy
    rw [hk] at hpy
    simp only [show ((2 : Int) == 2) = true from rfl, if_true] at hpy
    have hfy : findL t 2 (evAt t (a, b)).msg = some (a, b) := by
      by_cases hh : (findL t 2 (evAt t (a, b)).msg == some (a, b)) = true
      · simpa using hh
      · rw [if_neg hh] at hpy; cases hpy
    have hv : findV t 2 (evAt t (a, b)).msg = (a, b) := (firstOf_find hfy).1
    rw [hv] at hq
    exact hq
theorem KI.all {t : Tr} {D : List Nat} (h : KI t D) (hd : ∀ p (hp : p < t.length), t[p].evs.length ≤ D.getD p 0) : ∀ x ∈ ids t, ¬ Hb t x x := by
  intro x hx
  obtain ⟨hp, h1, h2⟩ := mem_ids.1 hx
  exact h.acyc x hx (Nat.le_trans h2 (hd x.1 hp))
end Go.Proofs.Ytfdekchpckdeiaa

/- The past of an event, by breadth: plain; and rows of marks. No condition. -/
namespace Go.Proofs.Ytfdekchpckdeiaa
open Go.RowKit
set_option linter.unusedVariables false

theorem sends_find {t : Tr} {q m p : Nat} (hq : q < t.length) (h : sendsB t q m p = true) : ∃ y, findL t 2 m = some y := by
  have e : findL t 2 m = (ids t).find? (keyB t 2 m) := rfl
  rw [e]
  unfold sendsB evsOf at h
  rw [getD_lt dfPr t hq, List.any_eq_true] at h
  obtain ⟨ev, he, hk⟩ := h
  obtain ⟨j, hj, hev⟩ := List.mem_iff_getElem.1 he
  simp only [Bool.and_eq_true, beq_iff_eq] at hk
  have hmem : (q, j + 1) ∈ ids t := mem_ids.2 ⟨hq, by simp, hj⟩
  cases hf : (ids t).find? (keyB t 2 m) with
  | some y => exact ⟨y, rfl⟩
  | none =>
    rw [List.find?_eq_none] at hf
    refine absurd ?_ (hf _ hmem)
    unfold keyB
    rw [evAt_eq hq hj, hev, hk.1.1, hk.1.2]
    simp
/-- In a trace whose events are formed and paired. -/
structure Paired (t : Tr) : Prop where
  form : ∀ x ∈ ids t, formedB t.length x.1 (evAt t x) = true
  pair : ∀ x ∈ ids t, pairF t x = 0
theorem Paired.recv {t : Tr} (h : Paired t) {x : Nat × Nat} (hx : x ∈ ids t) (hk : (evAt t x).kind = 3) : findL t 3 (evAt t x).msg = some x ∧ ∃ y, findL t 2 (evAt t x).msg = some y := by
  have hp := h.pair x hx
  obtain ⟨m, q, hm, _, hq, hq2, _⟩ := formed_open (h.form x hx) (by rw [hk]; rfl)
  unfold pairF at hp
  rw [hk] at hp
  simp only [show ((3 : Int) == 2) = false from rfl, show ((3 : Int) == 3) = true from rfl, if_true, Bool.false_eq_true, if_false] at hp
  by_cases h1 : (findL t 3 (evAt t x).msg == some x) = true
  · rw [if_pos h1] at hp
    refine ⟨by simpa using h1, ?_⟩
    by_cases h2 : sendsB t (evAt t x).peer.toNat (evAt t x).msg x.1 = true
    · rw [hq, hm, Int.toNat_natCast] at h2
      rw [hm]
      exact sends_find hq2 h2
    · rw [if_neg h2] at hp; cases hp
  · rw [if_neg h1] at hp; cases hp
theorem Paired.send {t : Tr} (h : Paired t) {x : Nat × Nat} (hx : x ∈ ids t) (hk : (evAt t x).kind = 2) : findL t 2 (evAt t x).msg = some x := by
  have hp := h.pair x hx
  unfold pairF at hp
  rw [hk] at hp
  simp only [show ((2 : Int) == 2) = true from rfl, if_true] at hp
  by_cases h1 : (findL t 2 (evAt t x).msg == some x) = true
  · simpa using h1
  · rw [if_neg h1] at hp; cases hp
theorem find_key {t : Tr} {k m : Int} {y : Nat × Nat} (h : findL t k m = some y) : (evAt t y).kind = k ∧ (evAt t y).msg = m := by
  have e : findL t k m = (ids t).find? (keyB t k m) := rfl
  rw [e] at h
  have := List.find?_some h
  simpa [keyB] using this
theorem mem_backL {t : Tr} (h : Paired t) {x y : Nat × Nat} (hx : x ∈ ids t) : y ∈ backL t x ↔ (y ∈ ids t ∧ Dir t y x) := by
  obtain ⟨hp, h1, h2⟩ := mem_ids.1 hx
  unfold backL
  rw [List.mem_append]
  constructor
  · rintro (hy | hy)
    · split at hy
      · rename_i hlt
        have : y = (x.1, x.2 - 1) := by simpa using hy
        subst this
        refine ⟨mem_ids.2 ⟨hp, by simp; omega, by simp; omega⟩, .inl ⟨?_, ?_⟩⟩
        · ext <;> simp; omega
        · unfold evsOf; simp only; rw [getD_lt dfPr t hp]; omega
      · cases hy
    · split at hy
      · rename_i hk
        have hk3 : (evAt t x).kind = 3 := by simpa using hk
        obtain ⟨h3, z, hz⟩ := h.recv hx hk3
        have hv : findV t 2 (evAt t x).msg = z := (firstOf_find hz).1
        have : y = z := by rw [← hv]; simpa using hy
        subst this
        obtain ⟨k2, m2⟩ := find_key hz
        refine ⟨(firstOf_find hz).2.2, .inr ⟨k2, ?_⟩⟩
        rw [m2]; exact h3
      · cases hy
  · rintro ⟨hy, (⟨he, hl⟩ | ⟨hk, hf⟩)⟩
    · obtain ⟨_, hy1, _⟩ := mem_ids.1 hy
      left
      rw [he]
      simp only
      rw [if_pos (by omega)]
      simp
    · right
      obtain ⟨k3, m3⟩ := find_key hf
      rw [k3]
      simp only [show ((3 : Int) == 3) = true from rfl, if_true]
      have := h.send hy hk
      rw [m3, show findV t 2 (evAt t y).msg = y from (firstOf_find this).1]
      simp
theorem Hb.cons {t : Tr} {x y z : Nat × Nat} (h : Dir t x y) (k : Hb t y z) : Hb t x z := by
  induction k with
  | one h2 => exact .more (.one h) h2
  | more _ h2 ih => exact .more ih h2
structure PaI (t : Tr) (x : Nat × Nat) (S R : List (Nat × Nat)) : Prop where
  nod : S.Nodup
  s : ∀ y ∈ S, y ∈ ids t ∧ Hb t y x
  r : ∀ y ∈ R, y ∈ ids t ∧ Hb t y x
  closed : ∀ z, z = x ∨ z ∈ S → ∀ y ∈ ids t, Dir t y z → y ∈ S ∨ y ∈ R
structure PaJ (t : Tr) (x z0 : Nat × Nat) (S R : List (Nat × Nat)) (k : Nat) : Prop where
  nod : S.Nodup
  s : ∀ y ∈ S, y ∈ ids t ∧ Hb t y x
  r : ∀ y ∈ R, y ∈ ids t ∧ Hb t y x
  cur : z0 ∈ S
  done : ∀ y ∈ (backL t z0).take k, y ∈ R
  closed : ∀ z, z = x ∨ z ∈ S → z ≠ z0 → ∀ y ∈ ids t, Dir t y z → y ∈ S ∨ y ∈ R
theorem PaI.start {t : Tr} (h : Paired t) {x : Nat × Nat} (hx : x ∈ ids t) : PaI t x [] (backL t x) :=
  ⟨List.nodup_nil, by simp, fun y hy => let ⟨a, b⟩ := (mem_backL h hx).1 hy; ⟨a, .one b⟩, fun z hz y hy hd => by
    rcases hz with rfl | h1
    · exact .inr ((mem_backL h hx).2 ⟨hy, hd⟩)
    · cases h1⟩
theorem PaI.skip {t : Tr} {x y : Nat × Nat} {S R : List (Nat × Nat)} (h : PaI t x S (y :: R)) (hy : y ∈ S) : PaI t x S R :=
  ⟨h.nod, h.s, fun z hz => h.r z (by simp [hz]), fun z hz w hw hd => by
    rcases h.closed z hz w hw hd with h1 | h1
    · exact .inl h1
    · rcases List.mem_cons.1 h1 with rfl | h2
      · exact .inl hy
      · exact .inr h2⟩
theorem PaI.mark {t : Tr} {x y : Nat × Nat} {S R : List (Nat × Nat)} (h : PaI t x S (y :: R)) (hy : y ∉ S) : PaJ t x y (S ++ [y]) R 0 := by
  obtain ⟨h1, h2⟩ := h.r y (by simp)
  refine ⟨?_, ?_, fun z hz => h.r z (by simp [hz]), by simp, by simp, ?_⟩
  · refine List.nodup_append.2 ⟨h.nod, by simp, fun a ha b hb => ?_⟩
    have : b = y := by simpa using hb
    subst this; exact fun e => hy (e ▸ ha)
  · intro z hz
    rcases List.mem_append.1 hz with h3 | h3
    · exact h.s z h3
    · have : z = y := by simpa using h3
      subst this; exact ⟨h1, h2⟩
  · intro z hz hne w hw hd
    have hz' : z = x ∨ z ∈ S := by
      rcases hz with h3 | h3
      · exact .inl h3
      · rcases List.mem_append.1 h3 with h4 | h4
        · exact .inr h4
        · exact absurd (by simpa using h4) hne
    rcases h.closed z hz' w hw hd with h3 | h3
    · exact .inl (by simp [h3])
    · rcases List.mem_cons.1 h3 with rfl | h4
      · exact .inl (by simp)
      · exact .inr h4
theorem PaJ.push {t : Tr} (hp : Paired t) {x z0 y : Nat × Nat} {S R : List (Nat × Nat)} {k : Nat} (h : PaJ t x z0 S R k) (hk : (backL t z0)[k]? = some y) : PaJ t x z0 S (R ++ [y]) (k + 1) := by
  obtain ⟨hz, hzx⟩ := h.s z0 h.cur
  obtain ⟨hy, hd⟩ := (mem_backL hp hz).1 (List.mem_of_getElem? hk)
  refine ⟨h.nod, h.s, fun w hw => ?_, h.cur, fun w hw => ?_, fun z hz' hne w hw hd' => ?_⟩
  · rcases List.mem_append.1 hw with h1 | h1
    · exact h.r w h1
    · have : w = y := by simpa using h1
      subst this; exact ⟨hy, .cons hd hzx⟩
  · rw [take_snoc' hk] at hw
    rcases List.mem_append.1 hw with h1 | h1
    · simp [h.done w h1]
    · exact List.mem_append.2 (.inr h1)
  · rcases h.closed z hz' hne w hw hd' with h1 | h1
    · exact .inl h1
    · exact .inr (by simp [h1])
theorem PaJ.fin {t : Tr} (hp : Paired t) {x z0 : Nat × Nat} {S R : List (Nat × Nat)} {k : Nat} (h : PaJ t x z0 S R k) (hk : (backL t z0).length ≤ k) : PaI t x S R :=
  ⟨h.nod, h.s, h.r, fun z hz w hw hd => by
    by_cases he : z = z0
    · subst he
      refine .inr (h.done w ?_)
      rw [List.take_of_length_le hk]
      exact (mem_backL hp (h.s z h.cur).1).2 ⟨hw, hd⟩
    · exact h.closed z hz he w hw hd⟩
theorem PaI.all {t : Tr} {x : Nat × Nat} {S : List (Nat × Nat)} (h : PaI t x S []) : ∀ y ∈ ids t, y ∈ S ↔ Hb t y x := by
  intro y hy
  refine ⟨fun hs => (h.s y hs).2, fun hb => ?_⟩
  have key : ∀ z, Hb t y z → (z = x ∨ z ∈ S) → y ∈ S := by
    intro z hz
    induction hz with
    | one hd => exact fun hc => (h.closed _ hc _ hy hd).resolve_right (by simp)
    | more h1 hd ih => exact fun hc => ih (.inr ((h.closed _ hc _ (h1.mem hy) hd).resolve_right (by simp)))
  exact key x hb (.inl rfl)
theorem PaI.few {t : Tr} {x : Nat × Nat} {S R : List (Nat × Nat)} (h : PaI t x S R) : S.length ≤ (ids t).length := nodup_le h.nod fun y hy => (h.s y hy).1
theorem PaJ.few {t : Tr} {x z0 : Nat × Nat} {S R : List (Nat × Nat)} {k : Nat} (h : PaJ t x z0 S R k) : S.length ≤ (ids t).length := nodup_le h.nod fun y hy => (h.s y hy).1
theorem backL_len (t : Tr) (x : Nat × Nat) : (backL t x).length ≤ 2 := by
  unfold backL
  rw [List.length_append]
  split <;> split <;> simp

/-! Rows of marks. -/
def rowM (S : List (Nat × Nat)) (p n : Nat) : Array Value := ((List.range n).map fun i => Value.bool (decide ((p, i) ∈ S))).toArray
theorem rowM_get {S : List (Nat × Nat)} {p n i : Nat} (h : i < n) : (rowM S p n)[i]? = some (.bool (decide ((p, i) ∈ S))) := by simp [rowM, h]
theorem rowM_set {S : List (Nat × Nat)} {p n i : Nat} : (rowM S p n).setIfInBounds i (.bool true) = rowM (S ++ [(p, i)]) p n := by
  apply Array.ext
  · simp [rowM]
  · intro j h1 h2
    simp [rowM] at h2
    rw [Array.getElem_setIfInBounds (by simpa using h1)]
    simp only [rowM, List.getElem_toArray, List.getElem_map, List.getElem_range]
    by_cases hij : i = j
    · subst hij; simp
    · rw [if_neg hij]
      congr 1
      rw [Bool.eq_iff_iff]
      simp
      omega
theorem rowM_other {S : List (Nat × Nat)} {p q n i : Nat} (h : q ≠ p) : rowM (S ++ [(p, i)]) q n = rowM S q n := by
  unfold rowM
  congr 1
  apply List.map_congr_left
  intro j _
  congr 1
  rw [Bool.eq_iff_iff]
  simp [h]
theorem rowM_zero (p n : Nat) : Array.replicate n (Value.bool false) = rowM [] p n := by
  apply Array.ext
  · simp [rowM]
  · intro j h1 h2
    simp [rowM]
def rowV (q : Nat × Nat) : Value := .slice (some ⟨q.1, 0, none⟩) q.2 q.2
/-- A table of marks: its rows' blocks and lengths, and what is marked. -/
structure GridM (tr tb : TypeId) (W : World) (B : Nat) (v : Value) (gs S : List (Nat × Nat)) : Prop where
  out : OwnC 1 tr W B v gs.length (gs.map rowV)
  row : ∀ p (hp : p < gs.length), BoxN W gs[p].1 tb (rowM S p gs[p].2) ∧ B ≤ gs[p].1
  nod : ∀ p q (hp : p < gs.length) (hq : q < gs.length), gs[p].1 = gs[q].1 → p = q
section
variable {tr tb : TypeId} {W W' : World} {B : Nat} {v : Value} {gs S : List (Nat × Nat)}
theorem GridM.ext (h : GridM tr tb W B v gs S) (he : Ext W W') : GridM tr tb W' B v gs S := ⟨h.out.ext he, fun p hp => ⟨(h.row p hp).1.ext he, (h.row p hp).2⟩, h.nod⟩
theorem GridM.drewN (h : GridM tr tb W B v gs S) (n : Nat) : GridM tr tb (W.drewN n) B v gs S := h.ext ((Ext.refl W).drewN n)
theorem GridM.alloc (h : GridM tr tb W B v gs S) (o : Obj) : GridM tr tb (W.alloc o) B v gs S := h.ext ((Ext.refl W).alloc o)
/-- Kept behind a write to one block that is none of its own. -/
theorem GridM.kept (h : GridM tr tb W B v gs S) {r : Option Nat} (hg : W.grownBy W' r) (h1 : v.ownBlock ≠ r ∨ v.ownBlock = none) (h2 : ∀ p (hp : p < gs.length), some gs[p].1 ≠ r) : GridM tr tb W' B v gs S :=
  ⟨h.out.kept hg (h1.symm), fun p hp => ⟨(h.row p hp).1.kept hg (h2 p hp), (h.row p hp).2⟩, h.nod⟩
theorem GridM.mark (h : GridM tr tb W B v gs S) (hne : tr ≠ tb) {p i : Nat} (hp : p < gs.length) : GridM tr tb (W.setCell ⟨gs[p].1, i, none⟩ (.bool true)) B v gs (S ++ [(p, i)]) := by
  refine ⟨h.out.other (h.out.not_box (h.row p hp).1 hne.symm) _, fun q hq => ⟨?_, (h.row q hq).2⟩, h.nod⟩
  by_cases hpq : q = p
  · subst hpq
    rw [← rowM_set]
    exact (h.row q hq).1.set _ _
  · rw [rowM_other hpq]
    exact (h.row q hq).1.other (fun e => hpq (h.nod q p hq hp e)) _
end
/-- How many events are marked. -/
def marks (t : Tr) (gs : List (Nat × Nat)) (w : World) : Nat := (ids t).countP fun x => match w.cell? ⟨(gs.getD x.1 (0, 0)).1, x.2, none⟩ with | some (.bool true) => true | _ => false
theorem marks_eq {t : Tr} {tr tb : TypeId} {W : World} {B : Nat} {v : Value} {gs S : List (Nat × Nat)} (h : GridM tr tb W B v gs S) (hl : ∀ x ∈ ids t, ∃ (hp : x.1 < gs.length), x.2 < gs[x.1].2) (hn : S.Nodup) (hs : ∀ y ∈ S, y ∈ ids t) : marks t gs W = S.length := by
  have e : marks t gs W = (ids t).countP fun x => decide (x ∈ S) := by
    unfold marks
    refine List.countP_congr fun x hx => ?_
    obtain ⟨hp, hi⟩ := hl x hx
    rw [getD_lt (0, 0) gs hp, (h.row x.1 hp).1.cell (rowM_get hi)]
    cases decide ((x.1, x.2) ∈ S) <;> simp
  rw [e, List.countP_eq_length_filter]
  apply Nat.le_antisymm
  · exact nodup_le ((nodup_ids t).filter _) fun x hx => by simpa using (List.mem_filter.1 hx).2
  · exact nodup_le hn fun x hx => List.mem_filter.2 ⟨hs x hx, by simpa using hx⟩
end Go.Proofs.Ytfdekchpckdeiaa

/- Walks of the reference: acyclic. No condition but on lengths. -/
namespace Go.Proofs.Ytfdekchpckdeiaa
open Go.RowKit
set_option linter.unusedVariables false

def AcPost (t : Tr) (w : World) (e : Ending) (w' : World) : Prop := ∃ b : Bool, e = .returned (.bool b) ∧ (b = true → ∀ x ∈ ids t, ¬ Hb t x x) ∧ Ext w w'
def sumE (t : Tr) : Nat := (t.map fun x => x.evs.length).sum
/-- What is known between two steps. -/
def AcS (t : Tr) (w : World) (u : Value) (wr : World) (D : List Nat) : Prop := KI t D ∧ BoxN wr w.heap.size 24 #[u] ∧ BoxN wr (w.heap.size + 1) 3 (rowC D) ∧ Ext w wr
theorem infoInt : ∃ i : TypeInfo, Try.prog.info? 3 = some i ∧ i.zero = some (.int .i64 0) ∧ i.size = 1 ∧ i.bytes = 8 := by
  have h : (Try.prog.info? 3).map (fun i => (i.zero, i.size, i.bytes)) = some (some (.int .i64 0), 1, 8) := by kernel_rfl
  obtain ⟨i, hi, he⟩ := Option.map_eq_some_iff.1 h
  injection he with h1 h2
  injection h2 with h2 h3
  exact ⟨i, hi, h1, h2, h3⟩
theorem run_makeInts (n : Nat) (hn : n ≤ 1000000) (w : World) : (Instr.makeSlice 34 (.int .i64 n) (.int .i64 n)).run Try.prog w = .ok (.slice (some ⟨w.heap.size, 0, none⟩) n n) (w.alloc (.cells (rowC (List.replicate n 0)) 3)) := by
  obtain ⟨i, hi, hz, hs, hb⟩ := infoInt
  rw [← rowC_zero]
  exact run_makeN Try.underlying34 hi hz hs rfl n (by rw [hb]; omega) (by omega) w

theorem KI.sum_le {t : Tr} {D : List Nat} (h : KI t D) : D.sum ≤ sumE t := by
  have hl := h.len
  have hle := h.le
  clear h
  unfold sumE
  induction t generalizing D with
  | nil => cases D <;> simp at hl ⊢
  | cons x t ih =>
    cases D with
    | nil => simp at hl
    | cons d D =>
      have h0 := hle 0 (by simp)
      have h1 := ih (D := D) (by simpa using hl) (fun p hp => hle (p + 1) (by simpa using hp))
      simp at h0 h1 ⊢; omega

set_option maxRecDepth 100000 in
set_option maxHeartbeats 8000000 in
theorem acyclic_any (u : Value) (t : Tr) (w : World) (hpair : ∀ x ∈ ids t, pairF t x = 0) (hform : ∀ x ∈ ids t, formedB t.length x.1 (evAt t x) = true) (hS : Small t) (hs : SlR 3 RPr w u t) :
    Calls Try.prog 80 #[.agg #[u]] w fun e w' => AcPost t w e w' := by
  have HFD := hide (fun m w' (he : Ext w w') => Find_any u t 2 m w' hS (hs.ext RPr.keeps he))
  have HMK := run_makeInts t.length hS.np
  obtain ⟨A, c, rfl, _, hcm, hc⟩ := hs.at_
  have HC := hide hc
  have hnp := hS.np
  clear hs hc
  go_enter Try.func80, Try.ntmps80
  go_wp2_with fail
  clear HMK
  have HST := hide (show AcS t w (.slice A t.length c) ((w.alloc (.cells #[.slice A t.length c] 24)).alloc (.cells (rowC (List.replicate t.length 0)) 3)) (List.replicate t.length 0) from ⟨KI.start t, (BoxN.new w _ _).alloc _, BoxN.newAt _ _ (by simp), ((Ext.refl w).alloc _).alloc _⟩)
  generalize (w.alloc (.cells #[.slice A t.length c] 24)).alloc (.cells (rowC (List.replicate t.length 0)) 3) = W1 at *
  go_loopw [4] (fun mv wr => ∃ D, AcS t w (.slice A t.length c) wr D) (fun _ wr => sumE t - sumB wr (w.heap.size + 1))
  case atStart => exact ⟨_, HST.out⟩
  case round =>
    obtain ⟨D0, hD0⟩ := hrel
    have HD0 := hide hD0
    have hms := hide (show ∀ D wr, AcS t w (.slice A t.length c) wr D → D0.sum < D.sum → sumE t - sumB wr (w.heap.size + 1) < sumE t - D0.sum from fun D wr h hl => by
      have h1 := KI.sum_le h.1
      rw [sumB_eq h.2.2.1]; omega)
    have hm0 := hide (sumB_eq hD0.2.2.1)
    clear hD0
    go_wp2_with fail
    go_loopw [5, 4] (fun i mv wr => ∃ (k : Nat) (D : List Nat) (b : Bool), k ≤ t.length ∧ i = .int .i64 k ∧ mv = .bool b ∧ AcS t w (.slice A t.length c) wr D ∧ D0.sum ≤ D.sum ∧ (b = true → D0.sum < D.sum)) (fun i _ _ => t.length - (intOf i).toNat)
    case atStart => exact ⟨0, D0, false, Nat.zero_le _, rfl, rfl, HD0.out, Nat.le_refl _, fun h => by cases h⟩
    case round =>
      obtain ⟨k, D1, b, hk, rfl, rfl, hD1, hs1, hb1⟩ := hrel
      have HD1 := hide hD1
      have HB1 := hide hb1
      obtain ⟨_, bt1, bd1, hx1⟩ := hD1
      have t0 : wr.cell? ⟨w.heap.size, 0, none⟩ = some (.slice A t.length c) := bt1.cell rfl
      clear hb1
      by_cases hlt : k < t.length
      · obtain ⟨b0, off, rfl, hel⟩ := HC.out (by omega)
        obtain ⟨_, _, v2, c2, hs2⟩ := hel k hlt
        obtain ⟨A2, k2, rfl, _, _, hc2⟩ := hs2.at_
        have HC2 := hide hc2
        have hne := hS.ne _ (List.getElem_mem hlt)
        have hb0 := lt_of_cell c2
        clear hel hs2 hc2
        go_wp2_with fail
        clear t0 bt1 bd1 hx1
        go_loopw [4] (fun mv wr => ∃ (D : List Nat) (b : Bool), mv = .bool b ∧ AcS t w (.slice (some ⟨b0, off, none⟩) t.length c) wr D ∧ D0.sum ≤ D.sum ∧ (b = true → D0.sum < D.sum)) (fun _ wr => t[k].evs.length - numB wr (w.heap.size + 1) k)
        case atStart => exact ⟨D1, b, rfl, HD1.out, hs1, HB1.out⟩
        case round =>
          obtain ⟨D, b', rfl, hD, hs2, hb2⟩ := hrel
          have HD := hide hD
          have HB2 := hide hb2
          obtain ⟨hki, bt, bd, hx⟩ := hD
          have hDl := hki.len
          have HDL := hide hDl
          have hkl : k < D.length := by omega
          have hle := hki.le k hlt
          have hdk : D.getD k 0 = D[k] := getD_lt 0 D hkl
          have HDK := hide hdk
          rw [hdk] at hle
          have t0 : wr.cell? ⟨w.heap.size, 0, none⟩ = some (.slice (some ⟨b0, off, none⟩) t.length c) := bt.cell rfl
          have d0 := bd.cell (rowC_get hkl)
          have hnum := hide (numB_eq bd hkl)
          have c2' := hx.cellAt c2
          have hkl2 : (k : Int) < (t.length : Int) := by omega
          have hk0 : (0 : Int) ≤ (k : Int) := by omega
          clear hki hb2 hdk hDl
          have HSUM := hide (sum_set (d := D[k] + 1) hkl)
          generalize hd : D[k] = d at *
          have HDD := hide hd
          clear hd
          by_cases hdl : d < t[k].evs.length
          · have hdl2 : (d : Int) < (t[k].evs.length : Int) := by omega
            have hd0 : (0 : Int) ≤ (d : Int) := by omega
            obtain ⟨b2, off2, rfl, hel2⟩ := HC2.out (by omega)
            obtain ⟨g0, g1, g2, g3, va, g4, hs4⟩ := hel2 d hdl
            obtain ⟨A5, k5, rfl, _, _, _⟩ := hs4.at_
            have hb2 := lt_of_cell g0
            have f0 := hx.cellAt g0
            have f1 := hx.cellAt g1
            have f2 := hx.cellAt g2
            have f3 := hx.cellAt g3
            have f4 := hx.cellAt g4
            have HEV := hide (evAt_eq hlt hdl)
            have hbw := hx.size
            have lt1 := bt.lt
            have lt2 := bd.lt
            clear hel2 hs4 g0 g1 g2 g3 g4
            generalize t[k].evs[d] = ev at *
            go_wp2_with fail
            go_quiet (fail)
            revert nq; intro n1
            go_wp2_with fail
            have hxn := hx.drewN n1
            have btn := bt.drewN n1
            have bdn := bd.drewN n1
            have t0n : (wr.drewN n1).cell? ⟨w.heap.size, 0, none⟩ = some (.slice (some ⟨b0, off, none⟩) t.length c) := t0
            have d0n : (wr.drewN n1).cell? ⟨w.heap.size + 1, k, none⟩ = some (.int .i64 d) := d0
            have c2n : (wr.drewN n1).cell? ⟨b0, off + k * 3 + 2, none⟩ = some (.slice (some ⟨b2, off2, none⟩) t[k].evs.length k2) := c2'
            have f0n : (wr.drewN n1).cell? ⟨b2, off2 + d * 5, none⟩ = some (.int .i64 ev.kind) := f0
            have f1n : (wr.drewN n1).cell? ⟨b2, off2 + d * 5 + 1, none⟩ = some (.int .i64 ev.peer) := f1
            have f2n : (wr.drewN n1).cell? ⟨b2, off2 + d * 5 + 2, none⟩ = some (.int .i64 ev.msg) := f2
            have f3n : (wr.drewN n1).cell? ⟨b2, off2 + d * 5 + 3, none⟩ = some (.int .i64 ev.time) := f3
            have f4n : (wr.drewN n1).cell? ⟨b2, off2 + d * 5 + 4, none⟩ = some (.slice A5 ev.asg.length k5) := f4
            have l1 : w.heap.size < (wr.drewN n1).heap.size := btn.lt
            have l2 : w.heap.size + 1 < (wr.drewN n1).heap.size := bdn.lt
            have hswr : wr.heap.size = (wr.drewN n1).heap.size := rfl
            clear t0 d0 c2' f0 f1 f2 f3 f4 lt1 lt2 hx bt bd
            generalize wr.drewN n1 = W3 at *
            clear hswr
            have l3 : b0 < W3.heap.size := by have := hxn.size; omega
            have l4 : b2 < W3.heap.size := by have := hxn.size; omega
            go_region_held3 (fun w' => w'.cell? ⟨w.heap.size, 0, none⟩ = some (.slice (some ⟨b0, off, none⟩) t.length c) ∧ w'.cell? ⟨w.heap.size + 1, k, none⟩ = some (.int .i64 d) ∧ w'.cell? ⟨b0, off + k * 3 + 2, none⟩ = some (.slice (some ⟨b2, off2, none⟩) t[k].evs.length k2) ∧ w'.cell? ⟨b2, off2 + d * 5, none⟩ = some (.int .i64 ev.kind) ∧ w'.cell? ⟨b2, off2 + d * 5 + 1, none⟩ = some (.int .i64 ev.peer) ∧ w'.cell? ⟨b2, off2 + d * 5 + 2, none⟩ = some (.int .i64 ev.msg) ∧ w'.cell? ⟨b2, off2 + d * 5 + 3, none⟩ = some (.int .i64 ev.time) ∧ w'.cell? ⟨b2, off2 + d * 5 + 4, none⟩ = some (.slice A5 ev.asg.length k5)) (go_keep) (fail)
            have bt4 := (btn.alloc (.cells #[.int .i64 ev.kind, .int .i64 ev.peer, .int .i64 ev.msg, .int .i64 ev.time, .slice A5 ev.asg.length k5] 49)).drew
            have bd4 := (bdn.alloc (.cells #[.int .i64 ev.kind, .int .i64 ev.peer, .int .i64 ev.msg, .int .i64 ev.time, .slice A5 ev.asg.length k5] 49)).drew
            have be4 := (BoxN.new W3 49 #[.int .i64 ev.kind, .int .i64 ev.peer, .int .i64 ev.msg, .int .i64 ev.time, .slice A5 ev.asg.length k5]).drew
            have hx4 := (hxn.alloc (.cells #[.int .i64 ev.kind, .int .i64 ev.peer, .int .i64 ev.msg, .int .i64 ev.time, .slice A5 ev.asg.length k5] 49)).drew
            clear t0n d0n c2n f0n f1n f2n f3n f4n btn bdn hxn
            generalize W3.heap.size = be0 at *
            generalize (W3.alloc (.cells #[.int .i64 ev.kind, .int .i64 ev.peer, .int .i64 ev.msg, .int .i64 ev.time, .slice A5 ev.asg.length k5] 49)).drew = W4 at *
            have e0 : W4.cell? ⟨be0, 0, none⟩ = some (.int .i64 ev.kind) := be4.cell rfl
            cases z3 : ev.kind == 3
            · have HKS := hide (show KI t (D.set k (d + 1)) by
                have := KI.step HD.out.1 hlt (by rw [HDK.out]; exact hdl) (dir_pre hpair hlt rfl (by rw [HDK.out]; exact hdl) (fun h3 => by rw [HDK.out, HEV.out] at h3; rw [h3] at z3; simp at z3))
                rwa [HDK.out] at this)
              have f0 := bd4.frozen k
              have d0 : (W4).cell? ⟨w.heap.size + 1, k, none⟩ = some (.int .i64 d) := bd4.cell (by rw [← HDD.out]; exact rowC_get hkl)
              go_wp2_with fail
              go_roundw
              case rel =>
                refine ⟨D.set k (d + 1), true, rfl, ⟨HKS.out, ?_, ?_, ?_⟩, by have := HSUM.out; omega, fun _ => by have := HSUM.out; omega⟩
                · exact (bt4).other (by omega) _
                · exact BoxN.setRow1 bd4 d
                · exact Ext.set hx4 (by omega) _
              case measure =>
                rw [hnum.out, numB_eq (BoxN.setRow1 bd4 d) (by simpa using hkl)]
                simp
                omega
            · have t0 : W4.cell? ⟨w.heap.size, 0, none⟩ = some (.slice (some ⟨b0, off, none⟩) t.length c) := bt4.cell rfl
              have e2 : W4.cell? ⟨be0, 2, none⟩ = some (.int .i64 ev.msg) := be4.cell rfl
              go_wp2_with fail
              refine (HFD.out _ _ hx4).mono ?_
              rintro e w5 ⟨rfl, he5⟩
              have hsin : (findV t 2 ev.msg).1 < t.length := by
                unfold findV
                by_cases h0 : 0 < (firstOf t (ids t) 2 ev.msg).2
                · exact (mem_ids.1 (firstOf_mem h0).1).1
                · have hl : ∀ y ∈ ids t, 1 ≤ y.2 := fun y hy => mem_pos hy
                  have := firstOf_none hl h0
                  unfold firstOf; rw [this]; simp; omega
              have HPR := hide (fun (h : (findV t 2 ev.msg).2 ≤ D.getD (findV t 2 ev.msg).1 0) => show KI t (D.set k (d + 1)) by
                have := KI.step HD.out.1 hlt (by rw [HDK.out]; exact hdl) (dir_pre hpair hlt rfl (by rw [HDK.out]; exact hdl) (fun _ => by rw [HDK.out, HEV.out]; exact h))
                rwa [HDK.out] at this)
              unfold idVal
              generalize findV t 2 ev.msg = sv at *
              obtain ⟨sp, si⟩ := sv
              simp only at hsin
              have hspl : sp < D.length := by rw [HDL.out]; exact hsin
              have HGS := hide (getD_lt 0 D hspl)
              have bt5 := bt4.ext he5
              have bd5 := bd4.ext he5
              have hx5 := hx4.trans he5
              have hsp2 : (sp : Int) < (t.length : Int) := by omega
              have l5 := bt5.lt
              have l6 := bd5.lt
              have bt6 := bt5.alloc (.cells #[.int .i64 sp, .int .i64 si] 28)
              have bd6 := bd5.alloc (.cells #[.int .i64 sp, .int .i64 si] 28)
              have bs6 := BoxN.new w5 28 #[.int .i64 sp, .int .i64 si]
              have hx6 := hx5.alloc (.cells #[.int .i64 sp, .int .i64 si] 28)
              go_wp2_with fail
              clear t0 e0 e2 bt4 bd4 be4 hx4 he5 bt5 bd5 hx5
              generalize w5.heap.size = bs0 at *
              generalize w5.alloc (.cells #[.int .i64 sp, .int .i64 si] 28) = W6 at *
              have s0 : W6.cell? ⟨bs0, 0, none⟩ = some (.int .i64 sp) := bs6.cell rfl
              have s1 : W6.cell? ⟨bs0, 1, none⟩ = some (.int .i64 si) := bs6.cell rfl
              have ds := bd6.cell (rowC_get hspl)
              cases hcmp : decide (D[sp] < si)
              · have HKS := hide (HPR.out (by simp at hcmp; rw [HGS.out]; exact hcmp))
                have hcmp2 : decide ((D[sp] : Int) < (si : Int)) = false := by simp at hcmp ⊢; omega
                go_quiet (fail)
                revert nq; intro n2
                have bt7 := bt6.drewN n2
                have bd7 := bd6.drewN n2
                have hx7 := hx6.drewN n2
                have f0 := bd7.frozen k
                have d0 : (W6.drewN n2).cell? ⟨w.heap.size + 1, k, none⟩ = some (.int .i64 d) := bd7.cell (by rw [← HDD.out]; exact rowC_get hkl)
                go_wp2_with fail
                go_roundw
                case rel =>
                  refine ⟨D.set k (d + 1), true, rfl, ⟨HKS.out, ?_, ?_, ?_⟩, by have := HSUM.out; omega, fun _ => by have := HSUM.out; omega⟩
                  · exact (bt7).other (by omega) _
                  · exact BoxN.setRow1 bd7 d
                  · exact Ext.set hx7 (by omega) _
                case measure =>
                  rw [hnum.out, numB_eq (BoxN.setRow1 bd7 d) (by simpa using hkl)]
                  simp
                  omega
              · have hcmp2 : decide ((D[sp] : Int) < (si : Int)) = true := by simp at hcmp ⊢; omega
                go_quiet (fail)
                revert nq; intro n2
                go_wp2_with fail
                go_roundw
                case rel => exact ⟨k + 1, D, b', hlt, by go_num, rfl, ⟨HD.out.1, bt6.drewN _, bd6.drewN _, hx6.drewN _⟩, hs2, HB2.out⟩
                case measure => simp [intOf]; omega
          · go_wp2_with fail
            go_quiet (fail)
            revert nq; intro n1
            go_wp2_with fail
            go_roundw
            case rel => exact ⟨k + 1, D, b', hlt, by go_num, rfl, ⟨HD.out.1, bt.drewN _, bd.drewN _, hx.drewN _⟩, hs2, HB2.out⟩
            case measure => simp [intOf]; omega
      · obtain rfl : k = t.length := by omega
        cases b
        · have hki := HD1.out.1
          have HKI := hide hki
          have hdl0 := hki.len
          clear hki
          go_wp2_with fail
          clear t0
          go_loopw [8] (fun i wr2 => ∃ k : Nat, k ≤ t.length ∧ i = .int .i64 k ∧ (∀ p (hp : p < t.length), p < k → t[p].evs.length ≤ D1.getD p 0) ∧ Ext wr wr2) (fun i _ => t.length - (intOf i).toNat)
          case atStart => exact ⟨0, Nat.zero_le _, rfl, fun p hp h => absurd h (Nat.not_lt_zero _), Ext.refl _⟩
          case round =>
            obtain ⟨k, hk, rfl, hall, hxx⟩ := hrel
            have HALL := hide hall
            clear hall
            have bt2 := bt1.ext hxx
            have bd2 := bd1.ext hxx
            have hx2 := hx1.trans hxx
            have t0 : wr.cell? ⟨w.heap.size, 0, none⟩ = some (.slice A t.length c) := bt2.cell rfl
            by_cases hlt : k < t.length
            · obtain ⟨b0, off, rfl, hel⟩ := HC.out (by omega)
              obtain ⟨_, _, v2, c2, hs2⟩ := hel k hlt
              obtain ⟨A2, k2, rfl, _, _, hc2⟩ := hs2.at_
              have c2' := hx2.cellAt c2
              have hkl : k < D1.length := by omega
              have d0 := bd2.cell (rowC_get hkl)
              have HG := hide (getD_lt 0 D1 hkl)
              have hkl2 : (k : Int) < (t.length : Int) := by omega
              have hk0 : (0 : Int) ≤ (k : Int) := by omega
              clear hel hs2 hc2 c2
              by_cases hdl : D1[k] < t[k].evs.length
              · have hdc : decide ((D1[k] : Int) < (t[k].evs.length : Int)) = true := by simp; omega
                go_wp2_with fail
                go_quiet (fail)
                revert nq; intro n1
                go_wp2_with fail
                go_ret
                exact ⟨false, rfl, (fun h => by cases h), hx2.drewN _⟩
              · have hdc : decide ((D1[k] : Int) < (t[k].evs.length : Int)) = false := by simp; omega
                have HN := hide (show t[k].evs.length ≤ D1.getD k 0 by rw [HG.out]; omega)
                go_wp2_with fail
                go_quiet (fail)
                revert nq; intro n1
                go_wp2_with fail
                go_roundw
                case rel => exact ⟨k + 1, hlt, by go_num, fun p hp h => (Nat.lt_succ_iff_lt_or_eq.1 h).elim (HALL.out p hp) (fun e => by subst e; exact HN.out), hxx.drewN _⟩
                case measure => simp [intOf]; omega
            · obtain rfl : k = t.length := by omega
              go_wp2_with fail
              go_ret
              exact ⟨true, rfl, (fun _ => KI.all HKI.out fun p hp => HALL.out p hp hp), hx2⟩
        · go_wp2_with fail
          go_roundw
          case rel => exact ⟨D1, HD1.out⟩
          case measure => rw [hm0.out]; exact hms.out D1 _ HD1.out (HB1.out rfl)
end Go.Proofs.Ytfdekchpckdeiaa

/- More of slices that a call owns. No program, no condition. -/
namespace Go.Proofs.Ytfdekchpckdeiaa
open Go.RowKit
set_option linter.unusedVariables false

section
variable {size : Nat} {e : TypeId} {w w' : World} {B : Nat} {v v' : Value} {n : Nat} {cs : List Value}
/-- Two slices of the call's own whose elements are of different types share no block. -/
theorem OwnC.apart {size' n' : Nat} {e' : TypeId} {B' : Nat} {v' : Value} {cs' : List Value} (h : OwnC size e w B v n cs) (h' : OwnC size' e' w B' v' n' cs') (hne : e ≠ e') : v.ownBlock = none ∨ v.ownBlock ≠ v'.ownBlock := by
  rcases h'.2 with ⟨rfl, _⟩ | ⟨g, off, cap, cur, rfl, _, hbox, _⟩
  · cases hv : v.ownBlock
    · exact .inl rfl
    · right; simp [Value.ownBlock]
  · exact .inr (h.not_box hbox hne.symm)
/-- 's[k:]', k ≤ len(s), as the walk asks for it. -/
theorem OwnC.cutL {P : Program} {t : TypeId} {z : Value} {bytes : Nat} (ht : P.underlying t = some (.slice e)) (hs : ∃ i : TypeInfo, P.info? e = some i ∧ i.zero = some z ∧ i.size = size ∧ i.bytes = bytes) {A : Option Addr} {c : Nat} (h : OwnC size e w B (.slice A n c) n cs) (k : Nat) {kI : Int} (hkI : kI = k) (hk : k ≤ n) :
    ∃ A', (∀ W, (Instr.sliceAt t (.slice A n c) (some (.int .i64 kI)) none none).run P W = .ok (.slice A' (n - k) (c - k)) W) ∧ OwnC size e w B (.slice A' (n - k) (c - k)) (n - k) (cs.drop (k * size)) := by
  obtain ⟨i, hi, _, hsz, _⟩ := hs
  obtain ⟨_, _, hv, hnc, _⟩ := h.form
  injection hv with _ _ hc
  subst hc; subst hkI
  refine ⟨if c = k then A else A.map (·.add (k * size)), fun W => ?_, h.drop k hk (fun b off hA => ?_) (fun hA => ?_)⟩
  · have b2 : ∀ (code : BoundsCode) (W : World), (Instr.sliceBound (.int .i64 (k : Int)) n code).run P W = .ok k W := fun code W => by
      rw [run_sliceBound W .i64 (k : Int) n code (by omega) (by omega)]; simp
    simp [Instr.sliceAt, Instr.slice, Instr.sliceBounds, run_underlying ht, sizeOf, typeInfo, hi, hsz, b2]
  · by_cases hck : c = k
    · rw [if_pos hck]; exact .inr ⟨hck, rfl⟩
    · rw [if_neg hck, hA]; exact .inl (by simp [addr_lit])
  · rw [hA]; split <;> rfl
end
end Go.Proofs.Ytfdekchpckdeiaa

/- Walks of the reference: Past. No condition but on lengths. -/
namespace Go.Proofs.Ytfdekchpckdeiaa
open Go.RowKit
set_option linter.unusedVariables false

theorem elRB : ElS Try.prog 52 51 (.slice none 0 0) 1 24 where
  ht := Try.underlying52
  inf := by
    have h : (Try.prog.info? 51).map (fun i => (i.zero, i.size, i.bytes)) = some (some (.slice none 0 0), 1, 24) := by kernel_rfl
    obtain ⟨i, hi, he⟩ := Option.map_eq_some_iff.1 h
    injection he with h1 h2
    injection h2 with h2 h3
    exact ⟨i, hi, h1, h2, h3⟩
  zs := by rfl
  pos := by decide
  few := by decide
theorem infoBool : ∃ i : TypeInfo, Try.prog.info? 4 = some i ∧ i.zero = some (.bool false) ∧ i.size = 1 ∧ i.bytes = 1 := by
  have h : (Try.prog.info? 4).map (fun i => (i.zero, i.size, i.bytes)) = some (some (.bool false), 1, 1) := by kernel_rfl
  obtain ⟨i, hi, he⟩ := Option.map_eq_some_iff.1 h
  injection he with h1 h2
  injection h2 with h2 h3
  exact ⟨i, hi, h1, h2, h3⟩
theorem run_makeBools (p n : Nat) (hn : n ≤ 1000000) (w : World) : (Instr.makeSlice 51 (.int .i64 ((n : Int) + 1)) (.int .i64 ((n : Int) + 1))).run Try.prog w = .ok (.slice (some ⟨w.heap.size, 0, none⟩) (n + 1) (n + 1)) (w.alloc (.cells (rowM [] p (n + 1)) 4)) := by
  obtain ⟨i, hi, hz, hs, hb⟩ := infoBool
  rw [← rowM_zero]
  have := run_makeN (P := Try.prog) Try.underlying51 hi hz hs rfl (n + 1) (by rw [hb]; omega) (by omega) w
  rw [show ((n + 1 : Nat) : Int) = (n : Int) + 1 from by push_cast; rfl] at this
  exact this
theorem slc_one {w : World} {g : Nat} (e : TypeId) (v : Value) (hg : g = w.heap.size) : SlC 1 (w.alloc (.cells #[v] e)) (.slice (some ⟨g, 0, none⟩) 1 1) 1 [v] := by
  have := (OwnC.madeAt (B := 0) (e := e) (n := 1) (size := 1) hg #[v] (Nat.zero_le _) (by simp [maxLen]) rfl).slc
  simpa using this
abbrev Grid (W : World) (B : Nat) (v : Value) (gs S : List (Nat × Nat)) : Prop := GridM 51 4 W B v gs S
/-- The rows have the lengths of the first processes. -/
def GLen (t : Tr) (gs : List (Nat × Nat)) (k : Nat) : Prop := gs.length = k ∧ ∀ p (hp : p < gs.length) (ht : p < t.length), gs[p].2 = t[p].evs.length + 1
def PastPost (t : Tr) (x : Nat × Nat) (w : World) (e : Ending) (w' : World) : Prop := ∃ v gs S, e = .returned v ∧ Grid w' w.heap.size v gs S ∧ GLen t gs t.length ∧ (∀ y ∈ ids t, y ∈ S ↔ Hb t y x) ∧ Ext w w'
theorem Grid.grow {W W' : World} {B n g0 : Nat} {v v' : Value} {gs : List (Nat × Nat)} (h : Grid W B v gs []) (hr : BoxN W g0 4 (rowM [] gs.length n)) (hB : B ≤ g0) (hnew : ∀ p (hp : p < gs.length), gs[p].1 ≠ g0)
    (hv : OwnC 1 51 W' B v' (gs.length + 1) (gs.map rowV ++ [rowV (g0, n)])) (hg : Grw W v W' v') : Grid W' B v' (gs ++ [(g0, n)]) [] := by
  have hne : ∀ (b : Nat) (cs : Array Value), BoxN W b 4 cs → some b ≠ v.ownBlock := fun b cs hb e => h.out.not_box hb (by decide) e.symm
  refine ⟨?_, ?_, ?_⟩
  · rw [List.length_append, List.map_append]; exact hv
  · intro p hp
    rw [List.length_append, List.length_singleton] at hp
    by_cases hlt : p < gs.length
    · rw [List.getElem_append_left hlt]
      exact ⟨(h.row p hlt).1.kept hg.1 (hne _ _ (h.row p hlt).1), (h.row p hlt).2⟩
    · obtain rfl : p = gs.length := by omega
      rw [List.getElem_append_right (Nat.le_refl _)]
      simp only [Nat.sub_self, List.getElem_singleton]
      exact ⟨hr.kept hg.1 (hne _ _ hr), hB⟩
  · intro p q hp hq he
    rw [List.length_append, List.length_singleton] at hp hq
    by_cases h1 : p < gs.length
    · by_cases h2 : q < gs.length
      · rw [List.getElem_append_left h1, List.getElem_append_left h2] at he
        exact h.nod p q h1 h2 he
      · obtain rfl : q = gs.length := by omega
        rw [List.getElem_append_left h1, List.getElem_append_right (Nat.le_refl _)] at he
        simp only [Nat.sub_self, List.getElem_singleton] at he
        exact absurd he (hnew p h1)
    · obtain rfl : p = gs.length := by omega
      by_cases h2 : q < gs.length
      · rw [List.getElem_append_left h2, List.getElem_append_right (Nat.le_refl _)] at he
        simp only [Nat.sub_self, List.getElem_singleton] at he
        exact absurd he.symm (hnew q h2)
      · omega
theorem Grid.marks {t : Tr} {W : World} {B : Nat} {v : Value} {gs S : List (Nat × Nat)} (h : Grid W B v gs S) (hl : GLen t gs t.length) (hn : S.Nodup) (hs : ∀ y ∈ S, y ∈ ids t) : marks t gs W = S.length :=
  marks_eq h (fun y hy => by
    obtain ⟨hp, _, h2⟩ := mem_ids.1 hy
    have h3 : y.1 < gs.length := by rw [hl.1]; exact hp
    exact ⟨h3, by rw [hl.2 y.1 h3 hp]; omega⟩) hn hs
theorem rowsV_one (gs : List (Nat × Nat)) : ∀ u ∈ gs.map rowV, u.oneCell' = true := by
  intro u hu
  obtain ⟨q, _, rfl⟩ := List.mem_map.1 hu
  rfl

set_option maxRecDepth 100000 in
set_option maxHeartbeats 8000000 in
theorem Past_any (u : Value) (t : Tr) (p i : Nat) (w : World) (hx : (p, i) ∈ ids t) (hP : Paired t) (hN : (ids t).length ≤ 1000000) (hS : Small t) (hs : SlR 3 RPr w u t) :
    Calls Try.prog 26 #[.agg #[u], idVal (p, i)] w fun e w' => PastPost t (p, i) w e w' := by
  have HDI := hide (fun (y : Nat × Nat) (hy : y ∈ ids t) w' (he : Ext w w') => Directly_any u t y.1 y.2 w' hy hS (hs.ext RPr.keeps he))
  have HMK := hide (fun q n (hn : n ≤ 1000000) => run_makeBools q n hn)
  obtain ⟨A, c, rfl, _, hcm, hc⟩ := hs.at_
  have HC := hide hc
  have hnp := hS.np
  clear hs hc
  unfold idVal at *
  go_enter Try.func26, Try.ntmps26
  go_wp2_with fail
  have bt0 : BoxN ((w.alloc (.cells #[.slice A t.length c] 24)).alloc (.cells #[.int .i64 p, .int .i64 i] 28)) w.heap.size 24 #[.slice A t.length c] := (BoxN.new w _ _).alloc _
  have bx0 : BoxN ((w.alloc (.cells #[.slice A t.length c] 24)).alloc (.cells #[.int .i64 p, .int .i64 i] 28)) (w.heap.size + 1) 28 #[.int .i64 p, .int .i64 i] := BoxN.newAt _ _ (by simp)
  have hx0 : Ext w ((w.alloc (.cells #[.slice A t.length c] 24)).alloc (.cells #[.int .i64 p, .int .i64 i] 28)) := ((Ext.refl w).alloc _).alloc _
  generalize (w.alloc (.cells #[.slice A t.length c] 24)).alloc (.cells #[.int .i64 p, .int .i64 i] 28) = W1 at *
  go_loopw [6, 5] (fun j v wr => ∃ (k : Nat) (gs : List (Nat × Nat)), k ≤ t.length ∧ j = .int .i64 k ∧ GLen t gs k ∧ Grid wr W1.heap.size v gs [] ∧ Ext W1 wr) (fun j _ _ => t.length - (intOf j).toNat)
  case atStart => exact ⟨0, [], Nat.zero_le _, rfl, ⟨rfl, fun p hp => absurd hp (by simp)⟩, ⟨OwnC.nil _ _ _ _, fun p hp => absurd hp (by simp), fun p q hp => absurd hp (by simp)⟩, Ext.refl _⟩
  case round =>
    obtain ⟨k, gs, hk, rfl, hgl, hgr, hxr⟩ := hrel
    have HGL := hide hgl
    have HGR := hide hgr
    have bt := bt0.ext hxr
    have bx := bx0.ext hxr
    have hx1 := hx0.trans hxr
    have t0 : wr.cell? ⟨w.heap.size, 0, none⟩ = some (.slice A t.length c) := bt.cell rfl
    have lt1 := bt.lt
    have lt2 := bx.lt
    by_cases hlt : k < t.length
    · obtain ⟨b0, off, rfl, hel⟩ := HC.out (by omega)
      obtain ⟨_, _, v2, c2, hs2⟩ := hel k hlt
      obtain ⟨A2, k2, rfl, _, _, hc2⟩ := hs2.at_
      have hne := hS.ne _ (List.getElem_mem hlt)
      have c2' := hx1.cellAt c2
      have hmk := HMK.out k t[k].evs.length hne
      have hgl1 := hgl.1
      have HV := hide hgr.out.form
      clear hel hs2 hc2 c2 hgl hgr
      go_wp2_with (at_builtin; go_must (refine wpl_appC (v := u5) (n := gs.length) (.tmp 18) (.tmp 28) elRB rfl rfl rfl rfl (OwnC.alloc (OwnC.alloc HGR.out.out _) _) (slc_one _ _ (by simp)) (by simp [Value.oneCell']) (by omega) (by have := hxr.size; simp; omega) ?_; intro v1 w2 hown1 hgr1 hbl1))
      go_roundw
      case rel =>
        have hW1 := hxr.size
        refine ⟨k + 1, gs ++ [(wr.heap.size, t[k].evs.length + 1)], hlt, by go_num, ⟨by simp [hgl1], ?_⟩, Grid.grow (W := (wr.alloc (.cells (rowM [] k (t[k].evs.length + 1)) 4)).alloc (.cells #[.slice (some ⟨wr.heap.size, 0, none⟩) (t[k].evs.length + 1) (t[k].evs.length + 1)] 51)) ((HGR.out.alloc _).alloc _) (by rw [hgl1]; exact (BoxN.new _ _ _).alloc _) hW1 (fun q hq e => ?_) hown1 hgr1, Ext.more ((hxr.alloc _).alloc _) hbl1⟩
        · intro q hq ht
          rw [List.length_append, List.length_singleton] at hq
          by_cases hlq : q < gs.length
          · rw [List.getElem_append_left hlq]; exact HGL.out.2 q hlq ht
          · obtain rfl : q = gs.length := by omega
            rw [List.getElem_append_right (Nat.le_refl _)]
            simp only [Nat.sub_self, List.getElem_singleton, hgl1]
        · have := (HGR.out.row q hq).1.lt
          omega
      case measure => simp [intOf]; omega
    · obtain rfl : k = t.length := by omega
      have x0 : wr.cell? ⟨w.heap.size + 1, 0, none⟩ = some (.int .i64 p) := bx.cell rfl
      have x1 : wr.cell? ⟨w.heap.size + 1, 1, none⟩ = some (.int .i64 i) := bx.cell rfl
      have hW1 := hxr.size
      clear hgl hgr
      go_wp2_with fail
      refine (HDI.out (p, i) hx _ hx1).mono ?_
      rintro e w2 ⟨v7, rfl, ho7, he2⟩
      have HST := hide (show ∃ S R, PaI t (p, i) S R ∧ Grid w2 W1.heap.size u5 gs S ∧ OwnIds w2 W1.heap.size v7 R ∧ BoxN w2 w.heap.size 24 #[.slice A t.length c] ∧ Ext W1 w2 ∧ R.length + 3 * ((ids t).length - S.length) ≤ 3 * (ids t).length + 2 from
        ⟨[], _, PaI.start hP hx, HGR.out.ext he2, OwnC.mono ho7 hW1, bt.ext he2, hxr.trans he2, by have := backL_len t (p, i); simp; omega⟩)
      clear t0 x0 x1 bt bx hx1 he2 ho7
      go_wp2_with fail
      go_loopw [7] (fun v wr => ∃ S R, PaI t (p, i) S R ∧ Grid wr W1.heap.size u5 gs S ∧ OwnIds wr W1.heap.size v R ∧ BoxN wr w.heap.size 24 #[.slice A t.length c] ∧ Ext W1 wr ∧ R.length + 3 * ((ids t).length - S.length) ≤ 3 * (ids t).length + 2) (fun v wr => 3 * ((ids t).length - marks t gs wr) + lenV v)
      case atStart => exact HST.out
      case round =>
        obtain ⟨S, R, hPa, hgr, ho, btr, hxr2, hbd⟩ := hrel
        have HPA := hide hPa
        have HGR2 := hide hgr
        have HO := hide ho
        have hx2 := hx0.trans hxr2
        have hmk := hide (Grid.marks hgr HGL.out hPa.nod (fun y hy => (hPa.s y hy).1))
        cases R with
        | nil =>
          obtain ⟨A7, c7, rfl, _, _⟩ := ho.form
          clear hPa hgr ho
          go_wp2_with fail
          go_ret
          exact ⟨_, gs, S, rfl, ⟨OwnC.mono HGR2.out.out hx0.size, fun q hq => ⟨(HGR2.out.row q hq).1, Nat.le_trans hx0.size (HGR2.out.row q hq).2⟩, HGR2.out.nod⟩, HGL.out, HPA.out.all, hx2⟩
        | cons y R' =>
          obtain ⟨yp, yi⟩ := y
          obtain ⟨g7, off7, c7, rfl, h71, h72, h73, h74, h75⟩ := ho.at_ (by simp)
          obtain ⟨y0, y1⟩ := h75 0 (yp, yi) rfl
          simp only [List.length_cons, Nat.zero_mul, Nat.add_zero] at h71 y0 y1
          obtain ⟨hyin, hyhb⟩ := hPa.r (yp, yi) (by simp)
          have HYHB := hide hyhb
          have HYIN := hide hyin
          have HBD := hide hbd
          obtain ⟨A8, hcut, ho8⟩ := OwnC.cutL elId.ht elId.inf (A := some ⟨g7, off7, none⟩) (c := c7) ho 1 (kI := 1) rfl (by simp)
          have hdrop : (idsC ((yp, yi) :: R')).drop (1 * 2) = idsC R' := rfl
          rw [hdrop] at ho8
          simp only [List.length_cons, Nat.add_sub_cancel] at hcut ho8
          have HO8 := hide (show OwnIds wr W1.heap.size (.slice A8 R'.length (c7 - 1)) R' from ho8)
          obtain ⟨hyp', hy1, hy2⟩ := mem_ids.1 hyin
          have hyp : yp < t.length := hyp'
          have hyg : yp < gs.length := by rw [HGL.out.1]; exact hyp
          have hgl2 : gs[yp].2 = t[yp].evs.length + 1 := HGL.out.2 yp hyg hyp
          have hyg2 : yi < gs[yp].2 := by rw [hgl2]; simp at hy2; omega
          have hgn : gs[yp].2 ≤ 1000001 := by rw [hgl2]; have := hS.ne _ (List.getElem_mem hyp); omega
          obtain ⟨gO, offO, capO, curO, rfl, hBO, hbO, hO1, hO2, hO3, hcO⟩ := HGR2.out.out.open_ (by omega)
          have o0 : wr.cell? ⟨gO, offO + yp, none⟩ = some (.slice (some ⟨gs[yp].1, 0, none⟩) gs[yp].2 gs[yp].2) := hbO.cell (hcO yp _ (by rw [List.getElem?_map, List.getElem?_eq_getElem hyg]; rfl))
          have r0 : wr.cell? ⟨gs[yp].1, yi, none⟩ = some (.bool (decide ((yp, yi) ∈ S))) := (HGR2.out.row yp hyg).1.cell (rowM_get hyg2)
          have HROW := hide (HGR2.out.row yp hyg)
          have hlO := hbO.lt
          have hlR := (HGR2.out.row yp hyg).1.lt
          have HGLN : Hx (gs.length = t.length) := hide HGL.out.1
          have hi1 : (yp : Int) < (gs.length : Int) := by omega
          have hi2 : (0 : Int) ≤ (yp : Int) := by omega
          have hi3 : (yi : Int) < (gs[yp].2 : Int) := by omega
          have hi4 : (0 : Int) ≤ (yi : Int) := by omega
          have hw1 := hxr2.size
          clear hPa hgr ho h75 ho8 hdrop hgl2 hyin hyhb hbd hbO hcO hO3
          unfold maxLen at h72 hO2
          generalize hgb : gs[yp].1 = gb at *
          generalize hgn2 : gs[yp].2 = gn at *
          have HGB := hide hgb
          have HGN := hide hgn2
          clear hgb hgn2
          go_wp2_with fail
          have by3 := hide (BoxN.new wr 28 #[.int .i64 yp, .int .i64 yi])
          have bt3 := hide (btr.alloc (.cells #[.int .i64 yp, .int .i64 yi] 28))
          have HG3 := hide (HGR2.out.alloc (.cells #[.int .i64 yp, .int .i64 yi] 28))
          have HO3 := hide (OwnC.alloc HO8.out (.cells #[.int .i64 yp, .int .i64 yi] 28))
          have HROW3 := hide (HROW.out.1.alloc (.cells #[.int .i64 yp, .int .i64 yi] 28))
          have hx3 := hide (hxr2.alloc (.cells #[.int .i64 yp, .int .i64 yi] 28))
          have o3 : (wr.alloc (.cells #[.int .i64 yp, .int .i64 yi] 28)).cell? ⟨gO, offO + yp, none⟩ = some (.slice (some ⟨gb, 0, none⟩) gn gn) := ((Ext.refl wr).alloc _).cellAt o0
          have y2 : (wr.alloc (.cells #[.int .i64 yp, .int .i64 yi] 28)).cell? ⟨wr.heap.size, 0, none⟩ = some (.int .i64 yp) := by3.out.cell rfl
          have y3 : (wr.alloc (.cells #[.int .i64 yp, .int .i64 yi] 28)).cell? ⟨wr.heap.size, 1, none⟩ = some (.int .i64 yi) := by3.out.cell rfl
          have r3 : (wr.alloc (.cells #[.int .i64 yp, .int .i64 yi] 28)).cell? ⟨gb, yi, none⟩ = some (.bool (decide ((yp, yi) ∈ S))) := HROW3.out.cell (rowM_get hyg2)
          have hsz : (wr.alloc (.cells #[.int .i64 yp, .int .i64 yi] 28)).heap.size = wr.heap.size + 1 := by simp
          have hy3 : wr.heap.size < (wr.alloc (.cells #[.int .i64 yp, .int .i64 yi] 28)).heap.size := by omega
          have hO3l : gO < (wr.alloc (.cells #[.int .i64 yp, .int .i64 yi] 28)).heap.size := by omega
          have hR3l : gb < (wr.alloc (.cells #[.int .i64 yp, .int .i64 yi] 28)).heap.size := by omega
          clear y0 y1 btr hxr2 hx2 o0 r0 hsz hcut
          generalize (wr.alloc (.cells #[.int .i64 yp, .int .i64 yi] 28)) = W3 at *
          generalize wr.heap.size = gy at *
          cases hms : decide ((yp, yi) ∈ S)
          · have HMS : Hx ((yp, yi) ∉ S) := hide (of_decide_eq_false hms)
            rw [hms] at r3
            clear hms
            go_quiet (fail)
            revert nq; intro n1
            go_wp2_with fail
            replace by3 := hide (by3.out.drewN n1)
            replace bt3 := hide (bt3.out.drewN n1)
            replace HG3 := hide (HG3.out.drewN n1)
            replace HO3 := hide (OwnC.drewN HO3.out n1)
            replace HROW3 := hide (HROW3.out.drewN n1)
            replace hx3 := hide (hx3.out.drewN n1)
            have o4 : (W3.drewN n1).cell? ⟨gO, offO + yp, none⟩ = some (.slice (some ⟨gb, 0, none⟩) gn gn) := o3
            have y4 : (W3.drewN n1).cell? ⟨gy, 0, none⟩ = some (.int .i64 yp) := y2
            have y5 : (W3.drewN n1).cell? ⟨gy, 1, none⟩ = some (.int .i64 yi) := y3
            have r4 : (W3.drewN n1).cell? ⟨gb, yi, none⟩ = some (.bool false) := r3
            have hz1 : gy < (W3.drewN n1).heap.size := hy3
            have hz2 : gO < (W3.drewN n1).heap.size := hO3l
            have hz3 : gb < (W3.drewN n1).heap.size := hR3l
            clear o3 y2 y3 r3 hy3 hO3l hR3l
            generalize W3.drewN n1 = W4 at *
            have fr := HROW3.out.frozen yi
            go_region
            have HG5 := hide (show Grid (W4.setCell ⟨gb, yi, none⟩ (.bool true)).drew W1.heap.size (.slice (some ⟨gO, offO, none⟩) gs.length capO) gs (S ++ [(yp, yi)]) from by
              have := GridM.mark HG3.out (by decide) (i := yi) hyg
              rw [HGB.out] at this; exact this.ext ((Ext.refl _).drew))
            have hwb := bt0.lt
            have hgbB := HROW.out.2
            have HO5 := hide (show OwnIds (W4.setCell ⟨gb, yi, none⟩ (.bool true)).drew W1.heap.size _ R' from OwnC.drew (OwnC.other HO3.out (HO3.out.not_box HROW3.out (by decide)) _))
            have by5 := hide (BoxN.drew (by3.out.other (B' := gb) (j := yi) (by omega) (.bool true)))
            have bt5 := hide (BoxN.drew (bt3.out.other (B' := gb) (j := yi) (by omega) (.bool true)))
            have hx5 := hide (Ext.drew (Ext.set (j := yi) hx3.out hgbB (.bool true)))
            have hwx5 := hide (hx0.trans hx5.out)
            have y6 : ((W4.setCell ⟨gb, yi, none⟩ (.bool true)).drew).cell? ⟨gy, 0, none⟩ = some (.int .i64 yp) := by5.out.cell rfl
            have y7 : ((W4.setCell ⟨gb, yi, none⟩ (.bool true)).drew).cell? ⟨gy, 1, none⟩ = some (.int .i64 yi) := by5.out.cell rfl
            have t5 : ((W4.setCell ⟨gb, yi, none⟩ (.bool true)).drew).cell? ⟨w.heap.size, 0, none⟩ = some (.slice A t.length c) := bt5.out.cell rfl
            have HMJ := hide (PaI.mark HPA.out HMS.out)
            clear o4 y4 y5 r4 hz1 hz2 hz3 fr HG3 HO3 by3 bt3 hx3 HROW3
            generalize (W4.setCell ⟨gb, yi, none⟩ (.bool true)).drew = W5 at *
            go_wp2_with fail
            refine (HDI.out (yp, yi) HYIN.out _ hwx5.out).mono ?_
            rintro e w6 ⟨v8, rfl, ho8, he6⟩
            obtain ⟨A9, c9, rfl, h91, h92⟩ := OwnC.form ho8
            have hap : ∀ k, (Value.slice A8 R'.length (c7 - 1)).ownBlock = some k → (Value.slice A9 (backL t (yp, yi)).length c9).ownBlock ≠ some k := by
              intro k h1 h2
              have := (OwnC.blk HO5.out k h1).2
              have := (OwnC.blk ho8 k h2).1
              omega
            have HST2 := hide (show ∃ k R2, k ≤ (backL t (yp, yi)).length ∧ (Value.int .i64 0) = .int .i64 (k : Nat) ∧ PaJ t (p, i) (yp, yi) (S ++ [(yp, yi)]) R2 k ∧ Grid w6 W1.heap.size (.slice (some ⟨gO, offO, none⟩) gs.length capO) gs (S ++ [(yp, yi)]) ∧ OwnIds w6 W1.heap.size (.slice A8 R'.length (c7 - 1)) R2 ∧ OwnIds w6 0 (.slice A9 (backL t (yp, yi)).length c9) (backL t (yp, yi)) ∧ (∀ k, (Value.slice A8 R'.length (c7 - 1)).ownBlock = some k → (Value.slice A9 (backL t (yp, yi)).length c9).ownBlock ≠ some k) ∧ BoxN w6 w.heap.size 24 #[.slice A t.length c] ∧ Ext W1 w6 ∧ R2.length ≤ R'.length + k from
              ⟨0, R', Nat.zero_le _, rfl, HMJ.out, HG5.out.ext he6, OwnC.ext HO5.out he6, OwnC.mono ho8 (Nat.zero_le _), hap, bt5.out.ext he6, hx5.out.trans he6, Nat.le_refl _⟩)
            have hbl := hide (backL_len t (yp, yi))
            clear ho8 hap y6 y7 t5 he6
            unfold maxLen at h92
            go_wp2_with fail
            go_loopw [10, 7] (fun j v wr => ∃ k R2, k ≤ (backL t (yp, yi)).length ∧ j = .int .i64 (k : Nat) ∧ PaJ t (p, i) (yp, yi) (S ++ [(yp, yi)]) R2 k ∧ Grid wr W1.heap.size (.slice (some ⟨gO, offO, none⟩) gs.length capO) gs (S ++ [(yp, yi)]) ∧ OwnIds wr W1.heap.size v R2 ∧ OwnIds wr 0 (.slice A9 (backL t (yp, yi)).length c9) (backL t (yp, yi)) ∧ (∀ k, v.ownBlock = some k → (Value.slice A9 (backL t (yp, yi)).length c9).ownBlock ≠ some k) ∧ BoxN wr w.heap.size 24 #[.slice A t.length c] ∧ Ext W1 wr ∧ R2.length ≤ R'.length + k) (fun j _ _ => (backL t (yp, yi)).length - (intOf j).toNat)
            case atStart => exact HST2.out
            case round =>
              obtain ⟨k, R2, hk, rfl, hJ, hgr, ho, hd2, hne, hb4, hx4, hlen⟩ := hrel
              have HJ := hide hJ
              have HG6 := hide hgr
              have HO6 := hide ho
              have HD6 := hide hd2
              have HNE := hide hne
              have HB6 := hide hb4
              have HX6 := hide hx4
              have HLEN := hide hlen
              obtain ⟨A10, c10, rfl, h101, h102⟩ := OwnC.form ho
              by_cases hlt : k < (backL t (yp, yi)).length
              · obtain ⟨⟨za, zb⟩, hz⟩ : ∃ z, (backL t (yp, yi))[k]? = some z := ⟨_, List.getElem?_eq_getElem hlt⟩
                obtain ⟨g2, off2, cap2, hv, hc2, _, _, hg2l, hcells⟩ := hd2.at_ (by omega)
                injection hv with hA2 _ hc22
                subst hA2; subst hc22
                obtain ⟨e0, e1⟩ := hcells k _ hz
                have HZ := hide hz
                clear hcells hz hJ hgr ho hd2 hne hb4 hx4 hlen
                unfold maxLen at h102
                go_wp2_with (at_builtin; go_must (refine wpl_appC (v := .slice A10 R2.length c10) (n := R2.length) (.tmp 67) (.tmp 72) elId rfl rfl rfl rfl (OwnC.alloc HO6.out _) (SlC.lit (x := (za, zb)) _ (by simp) rfl rfl) (idsC_one _) (by have h1 := HLEN.out; have h2 := HBD.out; have h3 := hbl.out; rw [List.length_cons] at h2; omega) (by have := HX6.out.size; simp; omega) ?_; intro v1 w7 hown1 hgr1 hbl1))
                go_roundw
                case rel =>
                  have ho7 := hide (OwnIds.snoc hown1 rfl)
                  have hne7 : (Value.slice A10 R2.length c10).ownBlock ≠ some gO := fun e => by
                    rcases OwnC.apart HG6.out.out HO6.out (by decide) with h | h
                    · cases h
                    · exact h (by rw [e]; rfl)
                  have hrow7 : ∀ q (hq : q < gs.length), some gs[q].1 ≠ (Value.slice A10 R2.length c10).ownBlock := fun q hq e => HO6.out.not_box (HG6.out.row q hq).1 (by decide) e.symm
                  have hbw : some w.heap.size ≠ (Value.slice A10 R2.length c10).ownBlock := fun e => by
                    have h1 := (HO6.out.blk _ e.symm).1
                    omega
                  have hmw : ∀ k, (Value.slice (some ⟨g2, off2, none⟩) (backL t (yp, yi)).length c9).ownBlock = some k → k < wr.heap.size := fun k hk => (OwnC.blk HD6.out k hk).2
                  refine ⟨k + 1, R2 ++ [(za, zb)], hlt, by go_num, HJ.out.push hP HZ.out, GridM.kept (HG6.out.alloc _) hgr1.1 (.inl fun e => hne7 (by rw [← e]; rfl)) hrow7, ho7.out, OwnC.kept (OwnC.alloc HD6.out _) hgr1.1 (.inr fun e => ?_), fun k hk => ?_, (HB6.out.alloc _).kept hgr1.1 hbw, Ext.more (HX6.out.alloc _) hbl1, by have := HLEN.out; simp; omega⟩
                  · exact HNE.out _ e.symm rfl
                  · rcases hgr1.2 k hk with h | h
                    · exact HNE.out k h
                    · intro e
                      have := hmw k e
                      simp at h; omega
                case measure => simp [intOf]; omega
              · obtain rfl : k = (backL t (yp, yi)).length := by omega
                clear hJ hgr ho hd2 hne hb4 hx4 hlen
                unfold maxLen at h102
                go_wp2_with fail
                have hPI := hide (HJ.out.fin hP (Nat.le_refl _))
                go_roundw
                case rel =>
                  refine ⟨_, R2, hPI.out, HG6.out, HO6.out, HB6.out, HX6.out, ?_⟩
                  have h1 := HLEN.out
                  have h2 := HBD.out
                  have h3 := hbl.out
                  have h4 := hPI.out.few
                  rw [List.length_append] at h4 ⊢
                  rw [List.length_cons] at h2
                  rw [List.length_singleton] at h4 ⊢
                  omega
                case measure =>
                  rw [hmk.out, Grid.marks HG6.out HGL.out hPI.out.nod (fun y hy => (hPI.out.s y hy).1)]
                  have h1 := HLEN.out
                  have h3 := hbl.out
                  have h4 := hPI.out.few
                  rw [List.length_append] at h4 ⊢
                  rw [List.length_singleton] at h4 ⊢
                  simp only [lenV, List.length_cons]
                  omega
          · have HMS : Hx ((yp, yi) ∈ S) := hide (of_decide_eq_true hms)
            rw [hms] at r3
            clear hms
            go_quiet (fail)
            revert nq; intro n1
            go_wp2_with fail
            go_roundw
            case rel =>
              exact ⟨S, R', PaI.skip HPA.out HMS.out, HG3.out.drewN n1, OwnC.drewN HO3.out n1, bt3.out.drewN n1, hx3.out.drewN n1, by have := HBD.out; simp at this; omega⟩
            case measure =>
              rw [hmk.out, Grid.marks (HG3.out.drewN n1) HGL.out HPA.out.nod (fun y hy => (HPA.out.s y hy).1)]
              simp [lenV]
end Go.Proofs.Ytfdekchpckdeiaa

/- Walks of the reference: paired. No condition but on lengths. -/
namespace Go.Proofs.Ytfdekchpckdeiaa
open Go.RowKit
set_option linter.unusedVariables false

theorem findV_is {t : Tr} {k m : Int} {x : Nat × Nat} (hx : 1 ≤ x.2) : (findL t k m == some x) = decide (findV t k m = x) := by
  have e : findL t k m = (ids t).find? (keyB t k m) := rfl
  rw [e]
  unfold findV firstOf
  cases h : (ids t).find? (keyB t k m) with
  | none =>
    have : (0, 0) ≠ x := fun e => by rw [← e] at hx; simp at hx
    simp [this]
  | some y => rw [Bool.eq_iff_iff]; simp
theorem any_take_or {α : Type} {f : α → Bool} {l : List α} {k : Nat} (hk : k < l.length) : (l.take (k + 1)).any f = ((l.take k).any f || f l[k]) := by
  rw [List.take_succ_eq_append_getElem hk, List.any_append]; simp

set_option maxRecDepth 100000 in
set_option maxHeartbeats 4000000 in
theorem paired_any (u : Value) (t : Tr) (p i : Nat) (w : World) (hx : (p, i) ∈ ids t) (hform : formedB t.length p (evAt t (p, i)) = true) (hS : Small t) (hs : SlR 3 RPr w u t) :
    Calls Try.prog 79 #[.agg #[u], idVal (p, i)] w fun e w' => e = .returned (.int .i64 (pairF t (p, i))) ∧ Ext w w' := by
  have HAT := hide (fun w' (he : Ext w w') => At_any u t p i w' hx hS (hs.ext RPr.keeps he))
  have HFD := hide (fun k m w' (he : Ext w w') => Find_any u t k m w' hS (hs.ext RPr.keeps he))
  have hpos := mem_pos hx
  have HIS := hide (fun k m => findV_is (t := t) (k := k) (m := m) hpos)
  have HPF := hide (show pairF t (p, i) = _ from rfl)
  have hs' := hs
  obtain ⟨A, c, rfl, h1, h2, hc⟩ := hs.at_
  have HC := hide hc
  have hnp := hS.np
  clear hs hc
  unfold idVal at *
  go_enter Try.func79, Try.ntmps79
  go_wp2_with fail
  refine (HAT.out _ (((Ext.refl w).alloc _).alloc _)).mono ?_
  rintro e w1 ⟨A4, n4, k4, rfl, _, he1⟩
  have hx1 : Ext w w1 := Ext.trans (((Ext.refl w).alloc _).alloc _) he1
  have bt := ((BoxN.new w 24 #[.slice A t.length c]).alloc (.cells #[.int .i64 p, .int .i64 i] 28)).ext he1
  have bx := (BoxN.newAt (B := w.heap.size + 1) (W := w.alloc (.cells #[.slice A t.length c] 24)) 28 #[.int .i64 p, .int .i64 i] (by simp)).ext he1
  have HF := hide hform
  have HEV := hide (fun (hk : ((evAt t (p, i)).kind == 1) = false) => formed_open hform hk)
  clear hform he1
  generalize hev : evAt t (p, i) = ev at *
  have HEQ := hide hev
  clear hev
  cases z1 : ev.kind == 1
  · obtain ⟨m, q, hm, hm2, hq, hq2, hqp⟩ := HEV.out z1
    have HM := hide hm
    have HQ := hide hq
    clear hm hq
    have HKD := hide (show ev.kind = 2 ∨ ev.kind = 3 by
      have := HF.out
      unfold formedB at this
      rw [z1] at this
      simp only [Bool.false_eq_true, if_false] at this
      split at this
      · rename_i h; simpa using h
      · cases this)
    have be := BoxN.new w1 49 #[.int .i64 ev.kind, .int .i64 ev.peer, .int .i64 ev.msg, .int .i64 ev.time, .slice A4 n4 k4]
    have hxa : Ext w (w1.alloc (.cells #[.int .i64 ev.kind, .int .i64 ev.peer, .int .i64 ev.msg, .int .i64 ev.time, .slice A4 n4 k4] 49)) := hx1.alloc _
    have bt2 := bt.alloc (.cells #[.int .i64 ev.kind, .int .i64 ev.peer, .int .i64 ev.msg, .int .i64 ev.time, .slice A4 n4 k4] 49)
    have bx2 := bx.alloc (.cells #[.int .i64 ev.kind, .int .i64 ev.peer, .int .i64 ev.msg, .int .i64 ev.time, .slice A4 n4 k4] 49)
    go_wp2_with fail
    clear bt bx hx1
    generalize hbe : w1.heap.size = b5 at *
    clear hbe
    generalize w1.alloc (.cells #[.int .i64 ev.kind, .int .i64 ev.peer, .int .i64 ev.msg, .int .i64 ev.time, .slice A4 n4 k4] 49) = W1 at *
    have t0 : W1.cell? ⟨w.heap.size, 0, none⟩ = some (.slice A t.length c) := bt2.cell rfl
    have x0 : W1.cell? ⟨w.heap.size + 1, 0, none⟩ = some (.int .i64 p) := bx2.cell rfl
    have x1 : W1.cell? ⟨w.heap.size + 1, 1, none⟩ = some (.int .i64 i) := bx2.cell rfl
    have e0 : W1.cell? ⟨b5, 0, none⟩ = some (.int .i64 ev.kind) := be.cell rfl
    have e2 : W1.cell? ⟨b5, 2, none⟩ = some (.int .i64 ev.msg) := be.cell rfl
    by_cases hfx : findV t ev.kind ev.msg = (p, i)
    · have HFX := hide (fun w' (he : Ext w w') => (by have := HFD.out ev.kind ev.msg w' he; rw [hfx] at this; exact this : Calls Try.prog 25 #[.agg #[.slice A t.length c], .int .i64 ev.kind, .int .i64 ev.msg] w' fun e w'' => e = .returned (.agg #[.int .i64 p, .int .i64 i]) ∧ Ext w' w''))
      have HFXE := hide hfx
      clear hfx
      go_region_held3 (fun w' => w'.cell? ⟨w.heap.size, 0, none⟩ = some (.slice A t.length c) ∧ w'.cell? ⟨w.heap.size + 1, 0, none⟩ = some (.int .i64 p) ∧ w'.cell? ⟨w.heap.size + 1, 1, none⟩ = some (.int .i64 i) ∧ w'.cell? ⟨b5, 0, none⟩ = some (.int .i64 ev.kind) ∧ w'.cell? ⟨b5, 2, none⟩ = some (.int .i64 ev.msg)) (go_keep)
        ((go_at_call 25; refine (HFX.out _ (by repeat (first | exact hxa | apply Ext.drew))).mono ?_; rintro e w2 ⟨rfl, he2⟩; have t0' := he2.cellAt (a := W1.drew) t0; have x0' := he2.cellAt (a := W1.drew) x0; have x1' := he2.cellAt (a := W1.drew) x1; have e0' := he2.cellAt (a := W1.drew) e0; have e2' := he2.cellAt (a := W1.drew) e2))
      have hx2 : Ext w w2 := Ext.trans (Ext.drew hxa) he2
      have bt3 := (BoxN.drew bt2).ext he2
      have bx3 := (BoxN.drew bx2).ext he2
      have be3 := (BoxN.drew be).ext he2
      clear t0 x0 x1 e0 e2 t0' x0' x1' e0' e2' bt2 bx2 be hxa he2
      cases z3 : ev.kind == 3
      · have HR := hide (show pairF t (p, i) = 0 by
          have h2 : ev.kind = 2 := by
            rcases HKD.out with h | h
            · exact h
            · rw [h] at z3; simp at z3
          unfold pairF
          rw [HEQ.out, h2]
          simp only [show ((2 : Int) == 2) = true from rfl, if_true]
          rw [HIS.out, decide_eq_true (by have := HFXE.out; rw [h2] at this; exact this)]; rfl)
        have e0 : w2.cell? ⟨b5, 0, none⟩ = some (.int .i64 ev.kind) := be3.cell rfl
        go_wp2_with fail
        go_ret
        exact ⟨by rw [HR.out]; rfl, hx2⟩
      · have HR := hide (show pairF t (p, i) = if sendsB t q m p then 0 else 7 by
          have h3 : ev.kind = 3 := by simpa using z3
          unfold pairF
          rw [HEQ.out, h3]
          simp only [show ((3 : Int) == 2) = false from rfl, show ((3 : Int) == 3) = true from rfl, if_true, Bool.false_eq_true, if_false]
          rw [HIS.out, decide_eq_true (by have := HFXE.out; rw [h3] at this; exact this), HM.out, HQ.out]; rfl)
        have e0 : w2.cell? ⟨b5, 0, none⟩ = some (.int .i64 ev.kind) := be3.cell rfl
        obtain ⟨b, off, rfl, hel⟩ := HC.out (by omega)
        obtain ⟨_, _, v2, c2, hs2⟩ := hel q hq2
        obtain ⟨A2, k2, rfl, _, _, hc2⟩ := hs2.at_
        have HC2 := hide hc2
        have hne := hS.ne _ (List.getElem_mem hq2)
        clear hel hs2 hc2
        go_wp2_with fail
        clear e0
        have HSD := hide (show sendsB t q m p = (t[q].evs.any fun e => e.kind == 2 && e.msg == (m : Int) && e.peer == (p : Int)) by unfold sendsB evsOf; rw [getD_lt dfPr t hq2])
        go_loopw [7, 6] (fun i s wr => ∃ k : Nat, k ≤ t[q].evs.length ∧ i = .int .i64 k ∧ s = .bool ((t[q].evs.take k).any fun e => e.kind == 2 && e.msg == (m : Int) && e.peer == (p : Int)) ∧ Ext w2 wr) (fun i _ _ => t[q].evs.length - (intOf i).toNat)
        case atStart => exact ⟨0, Nat.zero_le _, rfl, rfl, Ext.refl _⟩
        case round =>
          obtain ⟨k, hk, rfl, rfl, hx3⟩ := hrel
          have t0 : wr.cell? ⟨w.heap.size, 0, none⟩ = some (.slice (some ⟨b, off, none⟩) t.length c) := (bt3.ext hx3).cell rfl
          have x0 : wr.cell? ⟨w.heap.size + 1, 0, none⟩ = some (.int .i64 p) := (bx3.ext hx3).cell rfl
          have e1 : wr.cell? ⟨b5, 1, none⟩ = some (.int .i64 q) := by rw [← HQ.out]; exact (be3.ext hx3).cell rfl
          have e2 : wr.cell? ⟨b5, 2, none⟩ = some (.int .i64 m) := by rw [← HM.out]; exact (be3.ext hx3).cell rfl
          have hxx := hx2.trans hx3
          have c2' := hxx.cellAt c2
          have hql : (q : Int) < (t.length : Int) := by omega
          have lt1 := (bt3.ext hx3).lt
          have lt2 := (bx3.ext hx3).lt
          have lt3 := (be3.ext hx3).lt
          by_cases hlt : k < t[q].evs.length
          · obtain ⟨b2, off2, rfl, hel2⟩ := HC2.out (by omega)
            obtain ⟨g0, g1, g2, g3, va, g4, hs4⟩ := hel2 k hlt
            obtain ⟨A5, k5, rfl, _, _, _⟩ := hs4.at_
            have f0 := hxx.cellAt g0
            have f1 := hxx.cellAt g1
            have f2 := hxx.cellAt g2
            have f3 := hxx.cellAt g3
            have f4 := hxx.cellAt g4
            have HT := hide (any_take_or (f := fun e : Ev => e.kind == 2 && e.msg == (m : Int) && e.peer == (p : Int)) hlt)
            clear hel2 hs4 g0 g1 g2 g3 g4
            have hways : (((t[q].evs.take k).any fun e => e.kind == 2 && e.msg == (m : Int) && e.peer == (p : Int)) = true) ∨
              (((t[q].evs.take k).any fun e => e.kind == 2 && e.msg == (m : Int) && e.peer == (p : Int)) = false ∧ (t[q].evs[k].kind == 2) = false) ∨
              (((t[q].evs.take k).any fun e => e.kind == 2 && e.msg == (m : Int) && e.peer == (p : Int)) = false ∧ (t[q].evs[k].kind == 2) = true ∧ (t[q].evs[k].msg == (m : Int)) = false) ∨
              (((t[q].evs.take k).any fun e => e.kind == 2 && e.msg == (m : Int) && e.peer == (p : Int)) = false ∧ (t[q].evs[k].kind == 2) = true ∧ (t[q].evs[k].msg == (m : Int)) = true ∧ (t[q].evs[k].peer == (p : Int)) = false) ∨
              (((t[q].evs.take k).any fun e => e.kind == 2 && e.msg == (m : Int) && e.peer == (p : Int)) = false ∧ (t[q].evs[k].kind == 2) = true ∧ (t[q].evs[k].msg == (m : Int)) = true ∧ (t[q].evs[k].peer == (p : Int)) = true) := by
              cases ((t[q].evs.take k).any fun e => e.kind == 2 && e.msg == (m : Int) && e.peer == (p : Int)) <;> cases (t[q].evs[k].kind == 2) <;> cases (t[q].evs[k].msg == (m : Int)) <;> cases (t[q].evs[k].peer == (p : Int)) <;> simp
            rcases hways with y0 | ⟨y0, y1⟩ | ⟨y0, y1, y2⟩ | ⟨y0, y1, y2, y3⟩ | ⟨y0, y1, y2, y3⟩
            · have HN := hide (show ((t[q].evs.take (k + 1)).any fun e => e.kind == 2 && e.msg == (m : Int) && e.peer == (p : Int)) = true by rw [HT.out, y0]; rfl)
              rw [y0]
              clear y0
              go_wp2_with fail
              go_roundw
              case rel => exact ⟨k + 1, hlt, by go_num, by rw [HN.out], hx3.alloc _⟩
              case measure => simp [intOf]; omega
            · have HN := hide (show ((t[q].evs.take (k + 1)).any fun e => e.kind == 2 && e.msg == (m : Int) && e.peer == (p : Int)) = false by rw [HT.out, y0, y1]; rfl)
              rw [y0]
              clear y0
              go_wp2_with fail
              go_roundw
              case rel => exact ⟨k + 1, hlt, by go_num, by rw [HN.out], hx3.alloc _⟩
              case measure => simp [intOf]; omega
            · have HN := hide (show ((t[q].evs.take (k + 1)).any fun e => e.kind == 2 && e.msg == (m : Int) && e.peer == (p : Int)) = false by rw [HT.out, y0, y1, y2]; rfl)
              rw [y0]
              clear y0
              go_wp2_with fail
              go_roundw
              case rel => exact ⟨k + 1, hlt, by go_num, by rw [HN.out], hx3.alloc _⟩
              case measure => simp [intOf]; omega
            · have HN := hide (show ((t[q].evs.take (k + 1)).any fun e => e.kind == 2 && e.msg == (m : Int) && e.peer == (p : Int)) = false by rw [HT.out, y0, y1, y2, y3]; rfl)
              rw [y0]
              clear y0
              go_wp2_with fail
              go_roundw
              case rel => exact ⟨k + 1, hlt, by go_num, by rw [HN.out], hx3.alloc _⟩
              case measure => simp [intOf]; omega
            · have HN := hide (show ((t[q].evs.take (k + 1)).any fun e => e.kind == 2 && e.msg == (m : Int) && e.peer == (p : Int)) = true by rw [HT.out, y0, y1, y2, y3]; rfl)
              rw [y0]
              clear y0
              go_wp2_with fail
              go_roundw
              case rel => exact ⟨k + 1, hlt, by go_num, by rw [HN.out], hx3.alloc _⟩
              case measure => simp [intOf]; omega
          · obtain rfl : k = t[q].evs.length := by omega
            rw [List.take_length]
            cases hsd : t[q].evs.any fun e => e.kind == 2 && e.msg == (m : Int) && e.peer == (p : Int)
            · have HR2 := hide (show pairF t (p, i) = 7 by rw [HR.out, HSD.out, hsd]; rfl)
              clear hsd
              go_wp2_with fail
              go_ret
              exact ⟨by rw [HR2.out]; rfl, hxx⟩
            · have HR2 := hide (show pairF t (p, i) = 0 by rw [HR.out, HSD.out, hsd]; rfl)
              clear hsd
              go_wp2_with fail
              go_ret
              exact ⟨by rw [HR2.out]; rfl, hxx⟩
    · have HFX := hide (fun w' (he : Ext w w') => HFD.out ev.kind ev.msg w' he)
      have HR := hide (show pairF t (p, i) = 8 by
        unfold pairF
        rw [HEQ.out]
        rcases HKD.out with h | h
        · rw [h]; simp only [show ((2 : Int) == 2) = true from rfl, if_true]
          rw [HIS.out, decide_eq_false (by rw [← h]; exact hfx)]; rfl
        · rw [h]; simp only [show ((3 : Int) == 2) = false from rfl, show ((3 : Int) == 3) = true from rfl, if_true, Bool.false_eq_true, if_false]
          rw [HIS.out, decide_eq_false (by rw [← h]; exact hfx)]; rfl)
      generalize findV t ev.kind ev.msg = fv at *
      obtain ⟨fa, fb⟩ := fv
      by_cases hfa : p = fa
      · subst hfa
        have hfb : ((fb : Int) == (i : Int)) = false := by
          rw [beq_eq_false_iff_ne]; intro e; exact hfx (by rw [Int.ofNat.inj e])
        clear hfx
        go_region_held3 (fun w' => w'.cell? ⟨w.heap.size, 0, none⟩ = some (.slice A t.length c) ∧ w'.cell? ⟨w.heap.size + 1, 0, none⟩ = some (.int .i64 p) ∧ w'.cell? ⟨w.heap.size + 1, 1, none⟩ = some (.int .i64 i) ∧ w'.cell? ⟨b5, 0, none⟩ = some (.int .i64 ev.kind) ∧ w'.cell? ⟨b5, 2, none⟩ = some (.int .i64 ev.msg)) (go_keep)
          ((go_at_call 25; refine (HFX.out _ (by repeat (first | exact hxa | apply Ext.drew))).mono ?_; rintro e w2 ⟨rfl, he2⟩; have t0' := he2.cellAt (a := W1.drew) t0; have x0' := he2.cellAt (a := W1.drew) x0; have x1' := he2.cellAt (a := W1.drew) x1; have e0' := he2.cellAt (a := W1.drew) e0; have e2' := he2.cellAt (a := W1.drew) e2))
        go_wp2_with fail
        go_ret
        exact ⟨by rw [HR.out]; rfl, Ext.trans (Ext.drew hxa) he2⟩
      · have hfb : ((fa : Int) == (p : Int)) = false := by
          rw [beq_eq_false_iff_ne]; intro e; exact hfa (Int.ofNat.inj e).symm
        clear hfx hfa
        go_region_held3 (fun w' => w'.cell? ⟨w.heap.size, 0, none⟩ = some (.slice A t.length c) ∧ w'.cell? ⟨w.heap.size + 1, 0, none⟩ = some (.int .i64 p) ∧ w'.cell? ⟨w.heap.size + 1, 1, none⟩ = some (.int .i64 i) ∧ w'.cell? ⟨b5, 0, none⟩ = some (.int .i64 ev.kind) ∧ w'.cell? ⟨b5, 2, none⟩ = some (.int .i64 ev.msg)) (go_keep)
          ((go_at_call 25; refine (HFX.out _ (by repeat (first | exact hxa | apply Ext.drew))).mono ?_; rintro e w2 ⟨rfl, he2⟩; have t0' := he2.cellAt (a := W1.drew) t0; have x0' := he2.cellAt (a := W1.drew) x0; have x1' := he2.cellAt (a := W1.drew) x1; have e0' := he2.cellAt (a := W1.drew) e0; have e2' := he2.cellAt (a := W1.drew) e2))
        go_wp2_with fail
        go_ret
        exact ⟨by rw [HR.out]; rfl, Ext.trans (Ext.drew hxa) he2⟩
  · have HR := hide (show pairF t (p, i) = 0 by
      have : ev.kind = 1 := by simpa using z1
      unfold pairF; rw [HEQ.out, this]; rfl)
    go_wp2_with fail
    go_ret
    exact ⟨by rw [HR.out]; rfl, hx1.alloc _⟩
end Go.Proofs.Ytfdekchpckdeiaa

/- The ways through the form of an event. No program, no condition. -/
namespace Go.Proofs.Ytfdekchpckdeiaa
open Go.RowKit
set_option linter.unusedVariables false

theorem form_ways (np p : Nat) (e : Ev) : (formedB np p e = false ∧ (((e.kind == 1) = true ∧ (e.peer != 0) = true) ∨ ((e.kind == 1) = true ∧ (e.peer != 0) = false ∧ (e.msg != 0) = true) ∨ ((e.kind == 1) = false ∧ (e.kind != 2) = true ∧ (e.kind != 3) = true) ∨ ((e.kind == 1) = false ∧ (e.kind != 2) = false ∧ (decide (e.peer < 0)) = true) ∨ ((e.kind == 1) = false ∧ (e.kind != 2) = true ∧ (e.kind != 3) = false ∧ (decide (e.peer < 0)) = true) ∨ ((e.kind == 1) = false ∧ (e.kind != 2) = false ∧ (decide (e.peer < 0)) = false ∧ (decide ((np : Int) ≤ e.peer)) = true) ∨ ((e.kind == 1) = false ∧ (e.kind != 2) = true ∧ (e.kind != 3) = false ∧ (decide (e.peer < 0)) = false ∧ (decide ((np : Int) ≤ e.peer)) = true) ∨ ((e.kind == 1) = false ∧ (e.kind != 2) = false ∧ (decide (e.peer < 0)) = false ∧ (decide ((np : Int) ≤ e.peer)) = false ∧ (e.peer == (p : Int)) = true) ∨ ((e.kind == 1) = false ∧ (e.kind != 2) = true ∧ (e.kind != 3) = false ∧ (decide (e.peer < 0)) = false ∧ (decide ((np : Int) ≤ e.peer)) = false ∧ (e.peer == (p : Int)) = true) ∨ ((e.kind == 1) = false ∧ (e.kind != 2) = false ∧ (decide (e.peer < 0)) = false ∧ (decide ((np : Int) ≤ e.peer)) = false ∧ (e.peer == (p : Int)) = false ∧ (decide (e.msg < 0)) = true) ∨ ((e.kind == 1) = false ∧ (e.kind != 2) = true ∧ (e.kind != 3) = false ∧ (decide (e.peer < 0)) = false ∧ (decide ((np : Int) ≤ e.peer)) = false ∧ (e.peer == (p : Int)) = false ∧ (decide (e.msg < 0)) = true) ∨ ((e.kind == 1) = false ∧ (e.kind != 2) = false ∧ (decide (e.peer < 0)) = false ∧ (decide ((np : Int) ≤ e.peer)) = false ∧ (e.peer == (p : Int)) = false ∧ (decide (e.msg < 0)) = false ∧ (decide (199 < e.msg)) = true) ∨ ((e.kind == 1) = false ∧ (e.kind != 2) = true ∧ (e.kind != 3) = false ∧ (decide (e.peer < 0)) = false ∧ (decide ((np : Int) ≤ e.peer)) = false ∧ (e.peer == (p : Int)) = false ∧ (decide (e.msg < 0)) = false ∧ (decide (199 < e.msg)) = true))) ∨ (formedB np p e = true ∧ (((e.kind == 1) = true ∧ (e.peer != 0) = false ∧ (e.msg != 0) = false) ∨ ((e.kind == 1) = false ∧ (e.kind != 2) = false ∧ (decide (e.peer < 0)) = false ∧ (decide ((np : Int) ≤ e.peer)) = false ∧ (e.peer == (p : Int)) = false ∧ (decide (e.msg < 0)) = false ∧ (decide (199 < e.msg)) = false) ∨ ((e.kind == 1) = false ∧ (e.kind != 2) = true ∧ (e.kind != 3) = false ∧ (decide (e.peer < 0)) = false ∧ (decide ((np : Int) ≤ e.peer)) = false ∧ (e.peer == (p : Int)) = false ∧ (decide (e.msg < 0)) = false ∧ (decide (199 < e.msg)) = false))) := by
  have h : formedB np p e = if e.kind == 1 then !((e.peer != 0) || (e.msg != 0)) else !(((e.kind != 2) && (e.kind != 3)) || decide (e.peer < 0) || decide ((np : Int) ≤ e.peer) || (e.peer == (p : Int)) || decide (e.msg < 0) || decide (199 < e.msg)) := by
    unfold formedB inB
    have d1 : decide (0 ≤ e.peer) = !decide (e.peer < 0) := by rw [Bool.eq_iff_iff]; simp
    have d2 : decide (e.peer ≤ (np : Int) - 1) = !decide ((np : Int) ≤ e.peer) := by rw [Bool.eq_iff_iff]; simp; omega
    have d3 : decide (0 ≤ e.msg) = !decide (e.msg < 0) := by rw [Bool.eq_iff_iff]; simp
    have d4 : decide (e.msg ≤ 199) = !decide (199 < e.msg) := by rw [Bool.eq_iff_iff]; simp
    have d5 : (e.kind == 2) = !(e.kind != 2) := by simp [bne]
    have d6 : (e.kind == 3) = !(e.kind != 3) := by simp [bne]
    have d7 : (e.peer != (p : Int)) = !(e.peer == (p : Int)) := by simp [bne]
    have d8 : (e.peer == 0) = !(e.peer != 0) := by simp [bne]
    have d9 : (e.msg == 0) = !(e.msg != 0) := by simp [bne]
    rw [d1, d2, d3, d4, d5, d6, d7, d8, d9]
    cases e.kind == 1 <;> cases e.kind != 2 <;> cases e.kind != 3 <;> cases decide (e.peer < 0) <;> cases decide ((np : Int) ≤ e.peer) <;> cases (e.peer == (p : Int)) <;> cases decide (e.msg < 0) <;> cases decide (199 < e.msg) <;> simp
  rw [h]
  clear h
  cases (e.kind == 1) <;> cases (e.peer != 0) <;> cases (e.msg != 0) <;> cases (e.kind != 2) <;> cases (e.kind != 3) <;> cases (decide (e.peer < 0)) <;> cases (decide ((np : Int) ≤ e.peer)) <;> cases (e.peer == (p : Int)) <;> cases (decide (e.msg < 0)) <;> cases (decide (199 < e.msg)) <;> simp
end Go.Proofs.Ytfdekchpckdeiaa

/- Walks of the reference: the form of an event. No condition but on lengths. -/
namespace Go.Proofs.Ytfdekchpckdeiaa
open Go.RowKit
set_option linter.unusedVariables false

theorem formF_evs (t : Tr) (p i : Nat) (hp : p < t.length) (hi : i < t[p].evs.length) (L : Int) (hL : lastT t (p, i + 1) = L) : formF t (p, i + 1) = if !formedB t.length p t[p].evs[i] then 3
  else if !(inB t[p].evs[i].time 0 1099511627776) || decide (t[p].evs[i].time < L) then 11
  else if 8 < t[p].evs[i].asg.length then 5
  else firstNZ (asgF t[p].vars.length t[p].evs[i].asg) t[p].evs[i].asg.length := by
  unfold formF; rw [evAt_eq hp hi, hL]; simp only [getD_lt dfPr t hp]
theorem inB_time (x : Int) : inB x 0 1099511627776 = (!decide (x < 0) && !decide (1099511627776 < x)) := by
  unfold inB
  rw [Bool.eq_iff_iff]; simp
theorem inB_var (x : Int) (n : Nat) : inB x 0 ((n : Int) - 1) = (!decide (x < 0) && !decide ((n : Int) ≤ x)) := by
  unfold inB
  rw [Bool.eq_iff_iff]; simp; omega
theorem lastT_pos (t : Tr) (p i : Nat) (hp : p < t.length) (hi : i < t[p].evs.length) : lastT t (p, i + 1 + 1) = t[p].evs[i].time := lastT_two t p i hp hi
theorem lastT_zero (t : Tr) (p : Nat) : lastT t (p, 0 + 1) = 0 := by unfold lastT; simp
set_option maxRecDepth 100000 in
set_option maxHeartbeats 40000000 in
theorem rform_any (u : Value) (t : Tr) (p i : Nat) (w : World) (hp : p < t.length) (hi : i < t[p].evs.length) (hS : Small t) (hs : SlR 3 RPr w u t) :
    Calls Try.prog 78 #[.agg #[u], .int .i64 p, .int .i64 i] w fun e w' => e = .returned (.int .i64 (formF t (p, i + 1))) ∧ Ext w w' := by
  obtain ⟨A, c, rfl, h1, h2, hc⟩ := hs.at_
  obtain ⟨b, off, rfl, hel⟩ := hc (by omega)
  obtain ⟨⟨c0, hm⟩, ⟨v1, c1, hs1⟩, v2, c2, hs2⟩ := hel p hp
  have hb := lt_of_cell c0
  obtain ⟨A1, k1, rfl, _, _, _⟩ := hs1.at_
  obtain ⟨A2, k2, rfl, _, _, hc2⟩ := hs2.at_
  obtain ⟨b2, off2, rfl, hel2⟩ := hc2 (by omega)
  obtain ⟨g0, g1, g2, g3, va, g4, hs4⟩ := hel2 i hi
  obtain ⟨A4, k4, rfl, _, _, hc4⟩ := hs4.at_
  have hb2 := lt_of_cell g0
  have HEL2 := hide hel2
  have HC4 := hide hc4
  have hnp := hS.np
  have hnv := hS.nv _ (List.getElem_mem hp)
  have hne := hS.ne _ (List.getElem_mem hp)
  have hna := hS.na _ (List.getElem_mem hp) _ (List.getElem_mem hi)
  have HW := hide (form_ways t.length p t[p].evs[i])
  have HFE := hide (formF_evs t p i hp hi)
  have hL : (i = 0 ∧ lastT t (p, i + 1) = 0) ∨ ∃ (j : Nat) (hj : j < t[p].evs.length), i = j + 1 ∧ lastT t (p, i + 1) = t[p].evs[j].time := by
    rcases i with _ | j
    · exact .inl ⟨rfl, lastT_zero t p⟩
    · exact .inr ⟨j, by omega, rfl, lastT_pos t p j hp (by omega)⟩
  have HL := hide hL
  clear hs hs1 hs2 hel hc hel2 hc2 hs4 hc4 hL
  generalize t[p].evs[i] = e at *
  go_enter Try.func78, Try.ntmps78
  rcases HW.out with ⟨hf, hw⟩ | ⟨hf, hw⟩
  · have HF := hide (show formF t (p, i + 1) = 3 by rw [HFE.out _ rfl, hf]; rfl)
    clear hf
    rcases hw with ⟨b0, b1⟩ | ⟨b0, b1, b2⟩ | ⟨b0, b1, b2⟩ | ⟨b0, b1, b2⟩ | ⟨b0, b1, b2, b3⟩ | ⟨b0, b1, b2, b3⟩ | ⟨b0, b1, b2, b3, b4⟩ | ⟨b0, b1, b2, b3, b4⟩ | ⟨b0, b1, b2, b3, b4, b5⟩ | ⟨b0, b1, b2, b3, b4, b5⟩ | ⟨b0, b1, b2, b3, b4, b5, b6⟩ | ⟨b0, b1, b2, b3, b4, b5, b6⟩ | ⟨b0, b1, b2, b3, b4, b5, b6, b7⟩
    all_goals
      go_wp2_with fail
      go_ret
      exact ⟨by rw [HF.out]; rfl, ((Ext.refl _).alloc _).alloc _⟩
  · have HF1 := hide hf
    clear hf
    have bt : BoxN ((w.alloc (.cells #[.slice (some ⟨b, off, none⟩) t.length c] 24)).alloc (.cells #[.int .i64 e.kind, .int .i64 e.peer, .int .i64 e.msg, .int .i64 e.time, .slice A4 e.asg.length k4] 49)) w.heap.size 24 _ := (BoxN.new w _ _).alloc _
    have be : BoxN ((w.alloc (.cells #[.slice (some ⟨b, off, none⟩) t.length c] 24)).alloc (.cells #[.int .i64 e.kind, .int .i64 e.peer, .int .i64 e.msg, .int .i64 e.time, .slice A4 e.asg.length k4] 49)) (w.heap.size + 1) 49 _ := BoxN.newAt _ _ (by simp)
    have hx1 : Ext w ((w.alloc (.cells #[.slice (some ⟨b, off, none⟩) t.length c] 24)).alloc (.cells #[.int .i64 e.kind, .int .i64 e.peer, .int .i64 e.msg, .int .i64 e.time, .slice A4 e.asg.length k4] 49)) := ((Ext.refl _).alloc _).alloc _
    rcases hw with ⟨b0, b1, b2⟩ | ⟨b0, b1, b2, b3, b4, b5, b6⟩ | ⟨b0, b1, b2, b3, b4, b5, b6, b7⟩
    all_goals
      go_wp2_with fail
      generalize (w.alloc (.cells #[.slice (some ⟨b, off, none⟩) t.length c] 24)).alloc (.cells #[.int .i64 e.kind, .int .i64 e.peer, .int .i64 e.msg, .int .i64 e.time, .slice A4 e.asg.length k4] 49) = W1 at *
      have hasg : SlR 2 RAsg W1 (.slice A4 e.asg.length k4) e.asg → True := fun _ => trivial
      clear hasg
      have ht := (bt.cell (j := 0) rfl)
      have e3 := be.cell (j := 3) rfl
      have e4 := be.cell (j := 4) rfl
      have HE := hide (fun L (hL : lastT t (p, i + 1) = L) => show formF t (p, i + 1) = if !(!decide (e.time < 0) && !decide (1099511627776 < e.time)) || decide (e.time < L) then 11 else if 8 < e.asg.length then 5 else firstNZ (asgF t[p].vars.length e.asg) e.asg.length by rw [HFE.out _ hL, HF1.out, inB_time]; simp)
      cases dtl : decide (e.time < 0)
      · cases dtg : decide (1099511627776 < e.time)
        · rcases HL.out with ⟨rfl, hl0⟩ | ⟨j, hj, rfl, hl0⟩
          · have HE1 := hide (show formF t (p, 0 + 1) = if 8 < e.asg.length then 5 else firstNZ (asgF t[p].vars.length e.asg) e.asg.length by rw [HE.out _ hl0, dtg, dtl]; simp)
            clear hl0
            by_cases h8 : 8 < e.asg.length
            · go_quiet (fail)
              revert nq; intro n1
              go_wp2_with fail
              go_ret
              exact ⟨by rw [HE1.out]; simp [h8], hx1.drewN _⟩
            · go_quiet (fail)
              revert nq; intro n1
              go_wp2_with fail
              clear ht e3 e4 dtl dtg
              have bt2 := bt.drewN n1
              have be2 := be.drewN n1
              have hx2 := hx1.drewN n1
              clear bt be hx1
              generalize W1.drewN n1 = W2 at *
              go_loopw [8] (fun v wr => ∃ k : Nat, k ≤ e.asg.length ∧ v = .int .i64 k ∧ firstNZ (asgF t[p].vars.length e.asg) k = 0 ∧ Ext W2 wr) (fun v _ => e.asg.length - (intOf v).toNat)
              case atStart => exact ⟨0, Nat.zero_le _, rfl, rfl, Ext.refl _⟩
              case round =>
                obtain ⟨k, hk, rfl, hz, hx⟩ := hrel
                have HZ := hide hz
                clear hz
                have ht := (bt2.ext hx).cell (j := 0) rfl
                have e4 := (be2.ext hx).cell (j := 4) rfl
                have hxx := hx2.trans hx
                have lt1 := (bt2.ext hx).lt
                have lt2 := (be2.ext hx).lt
                by_cases hlt : k < e.asg.length
                · obtain ⟨b4, off4, rfl, hel4⟩ := HC4.out (by omega)
                  have HEL4 := hide hel4
                  obtain ⟨s0, s1⟩ := hel4 k hlt
                  have a0 := hxx.cellAt s0
                  have a1 := hxx.cellAt s1
                  have HV := hide (asgF_eq t[p].vars.length e.asg k hlt)
                  have HI := hide (fun w => value_any e.asg[k].val w)
                  have cv := hxx.cellAt c1
                  have hlb := lt_of_cell cv
                  have hb4 := lt_of_cell a0
                  clear hel4 s0 s1
                  go_wp2_with fail
                  cases dvl : decide (e.asg[k].v < 0)
                  · cases dvg : decide ((t[p].vars.length : Int) ≤ e.asg[k].v)
                    · cases dvv : valB e.asg[k].val
                      · rw [dvv] at HI
                        have HF2 := hide (show asgF t[p].vars.length e.asg k = 2 by rw [HV.out, inB_var, dvl, dvg, dvv]; simp)
                        have HR := hide (firstNZ_hit (n := e.asg.length) HZ.out (by rw [HF2.out]; decide) hlt)
                        go_quiet ((go_at_call 122; go_must (exact quiet_r (HI.out _))))
                        revert nq; intro n2
                        go_wp2_with fail
                        go_ret
                        exact ⟨by rw [HE1.out, HR.out, HF2.out]; simp [h8], (hxx.alloc _).drewN _⟩
                      · rw [dvv] at HI
                        go_quiet ((go_at_call 122; go_must (exact quiet_r (HI.out _))))
                        revert nq; intro n2
                        go_wp2_with fail
                        have ba : BoxN (wr.alloc (.cells #[.int .i64 e.asg[k].v, .int .i64 e.asg[k].val] 119)) wr.heap.size 119 _ := BoxN.new _ _ _
                        have be3 := ((be2.ext hx).alloc (.cells #[.int .i64 e.asg[k].v, .int .i64 e.asg[k].val] 119)).drewN n2
                        have ba3 := ba.drewN n2
                        have hx3 := (hx.alloc (.cells #[.int .i64 e.asg[k].v, .int .i64 e.asg[k].val] 119)).drewN n2
                        clear e4 a0 a1 cv ht
                        generalize hba : wr.heap.size = ba0 at *
                        clear hba
                        generalize (wr.alloc (.cells #[.int .i64 e.asg[k].v, .int .i64 e.asg[k].val] 119)).drewN n2 = W3 at *
                        go_loopw [10] (fun v wr => ∃ q : Nat, q ≤ k ∧ v = .int .i64 q ∧ ((e.asg.take q).any fun b => b.v == e.asg[k].v) = false ∧ Ext W3 wr) (fun v _ => k - (intOf v).toNat)
                        case atStart => exact ⟨0, Nat.zero_le _, rfl, rfl, Ext.refl _⟩
                        case round =>
                          obtain ⟨q, hq, rfl, hany, hxq⟩ := hrel
                          have HANY := hide hany
                          clear hany
                          have e4 := (be3.ext hxq).cell (j := 4) rfl
                          have a0 := (ba3.ext hxq).cell (j := 0) rfl
                          have hxw := hx2.trans (hx3.trans hxq)
                          by_cases hlq : q < k
                          · have r0 := hxw.cellAt (HEL4.out q (by omega)).1
                            have hlq2 : (q : Int) < (e.asg.length : Int) := by omega
                            cases heq : e.asg[q].v == e.asg[k].v
                            · go_wp2_with fail
                              go_quiet (fail)
                              revert nq; intro n3
                              go_wp2_with fail
                              go_roundw
                              case rel => exact ⟨q + 1, hlq, by go_num, any_take_step (by omega) HANY.out heq, hxq.drewN _⟩
                              case measure => simp [intOf]; omega
                            · have HF8 := hide (show asgF t[p].vars.length e.asg k = 8 by rw [HV.out, inB_var, dvl, dvg, dvv, any_take_hit (f := fun b : Asg => b.v == e.asg[k].v) (n := k) (by omega) hlq heq]; rfl)
                              have HR := hide (firstNZ_hit (n := e.asg.length) HZ.out (by rw [HF8.out]; decide) hlt)
                              go_wp2_with fail
                              go_quiet (fail)
                              revert nq; intro n3
                              go_wp2_with fail
                              go_ret
                              exact ⟨by rw [HE1.out, HR.out, HF8.out]; simp [h8], hxw.drewN _⟩
                          · obtain rfl : q = k := by omega
                            have HF0 := hide (show asgF t[p].vars.length e.asg q = 0 by rw [HV.out, inB_var, dvl, dvg, dvv, HANY.out]; rfl)
                            go_wp2_with fail
                            go_roundw
                            case rel => exact ⟨q + 1, hlt, by go_num, firstNZ_step HZ.out HF0.out, hx3.trans hxq⟩
                            case measure => simp [intOf]; omega
                    · have HF2 := hide (show asgF t[p].vars.length e.asg k = 2 by rw [HV.out, inB_var, dvl, dvg]; simp)
                      have HR := hide (firstNZ_hit (n := e.asg.length) HZ.out (by rw [HF2.out]; decide) hlt)
                      go_quiet (fail)
                      revert nq; intro n2
                      go_wp2_with fail
                      go_ret
                      exact ⟨by rw [HE1.out, HR.out, HF2.out]; simp [h8], (hxx.alloc _).drewN _⟩
                  · have HF2 := hide (show asgF t[p].vars.length e.asg k = 2 by rw [HV.out, inB_var, dvl]; simp)
                    have HR := hide (firstNZ_hit (n := e.asg.length) HZ.out (by rw [HF2.out]; decide) hlt)
                    go_quiet (fail)
                    revert nq; intro n2
                    go_wp2_with fail
                    go_ret
                    exact ⟨by rw [HE1.out, HR.out, HF2.out]; simp [h8], (hxx.alloc _).drewN _⟩
                · obtain rfl : k = e.asg.length := by omega
                  go_wp2_with fail
                  go_ret
                  exact ⟨by rw [HE1.out]; simp [h8, HZ.out], hxx⟩
          · have hdj : decide ((0 : Int) < ((j + 1 : Nat) : Int)) = true := decide_eq_true (by omega)
            have hdj2 : decide ((0 : Int) < (j : Int) + 1) = true := decide_eq_true (by omega)
            obtain ⟨_, _, _, q3, _⟩ := HEL2.out j hj
            have q3' := hx1.cellAt q3
            have hjl : (j : Int) < (t[p].evs.length : Int) := by omega
            have c2' := hx1.cellAt c2
            cases dtp : decide (e.time < t[p].evs[j].time)
            · have HE1 := hide (show formF t (p, j + 1 + 1) = if 8 < e.asg.length then 5 else firstNZ (asgF t[p].vars.length e.asg) e.asg.length by rw [HE.out _ hl0, dtg, dtl, dtp]; simp)
              clear hl0 q3
              by_cases h8 : 8 < e.asg.length
              · go_quiet (fail)
                revert nq; intro n1
                go_wp2_with fail
                go_ret
                exact ⟨by rw [HE1.out]; simp [h8], hx1.drewN _⟩
              · go_quiet (fail)
                revert nq; intro n1
                go_wp2_with fail
                clear ht e3 e4 dtl dtg
                have bt2 := bt.drewN n1
                have be2 := be.drewN n1
                have hx2 := hx1.drewN n1
                clear bt be hx1
                generalize W1.drewN n1 = W2 at *
                go_loopw [8] (fun v wr => ∃ k : Nat, k ≤ e.asg.length ∧ v = .int .i64 k ∧ firstNZ (asgF t[p].vars.length e.asg) k = 0 ∧ Ext W2 wr) (fun v _ => e.asg.length - (intOf v).toNat)
                case atStart => exact ⟨0, Nat.zero_le _, rfl, rfl, Ext.refl _⟩
                case round =>
                  obtain ⟨k, hk, rfl, hz, hx⟩ := hrel
                  have HZ := hide hz
                  clear hz
                  have ht := (bt2.ext hx).cell (j := 0) rfl
                  have e4 := (be2.ext hx).cell (j := 4) rfl
                  have hxx := hx2.trans hx
                  have lt1 := (bt2.ext hx).lt
                  have lt2 := (be2.ext hx).lt
                  by_cases hlt : k < e.asg.length
                  · obtain ⟨b4, off4, rfl, hel4⟩ := HC4.out (by omega)
                    have HEL4 := hide hel4
                    obtain ⟨s0, s1⟩ := hel4 k hlt
                    have a0 := hxx.cellAt s0
                    have a1 := hxx.cellAt s1
                    have HV := hide (asgF_eq t[p].vars.length e.asg k hlt)
                    have HI := hide (fun w => value_any e.asg[k].val w)
                    have cv := hxx.cellAt c1
                    have hlb := lt_of_cell cv
                    have hb4 := lt_of_cell a0
                    clear hel4 s0 s1
                    go_wp2_with fail
                    cases dvl : decide (e.asg[k].v < 0)
                    · cases dvg : decide ((t[p].vars.length : Int) ≤ e.asg[k].v)
                      · cases dvv : valB e.asg[k].val
                        · rw [dvv] at HI
                          have HF2 := hide (show asgF t[p].vars.length e.asg k = 2 by rw [HV.out, inB_var, dvl, dvg, dvv]; simp)
                          have HR := hide (firstNZ_hit (n := e.asg.length) HZ.out (by rw [HF2.out]; decide) hlt)
                          go_quiet ((go_at_call 122; go_must (exact quiet_r (HI.out _))))
                          revert nq; intro n2
                          go_wp2_with fail
                          go_ret
                          exact ⟨by rw [HE1.out, HR.out, HF2.out]; simp [h8], (hxx.alloc _).drewN _⟩
                        · rw [dvv] at HI
                          go_quiet ((go_at_call 122; go_must (exact quiet_r (HI.out _))))
                          revert nq; intro n2
                          go_wp2_with fail
                          have ba : BoxN (wr.alloc (.cells #[.int .i64 e.asg[k].v, .int .i64 e.asg[k].val] 119)) wr.heap.size 119 _ := BoxN.new _ _ _
                          have be3 := ((be2.ext hx).alloc (.cells #[.int .i64 e.asg[k].v, .int .i64 e.asg[k].val] 119)).drewN n2
                          have ba3 := ba.drewN n2
                          have hx3 := (hx.alloc (.cells #[.int .i64 e.asg[k].v, .int .i64 e.asg[k].val] 119)).drewN n2
                          clear e4 a0 a1 cv ht
                          generalize hba : wr.heap.size = ba0 at *
                          clear hba
                          generalize (wr.alloc (.cells #[.int .i64 e.asg[k].v, .int .i64 e.asg[k].val] 119)).drewN n2 = W3 at *
                          go_loopw [10] (fun v wr => ∃ q : Nat, q ≤ k ∧ v = .int .i64 q ∧ ((e.asg.take q).any fun b => b.v == e.asg[k].v) = false ∧ Ext W3 wr) (fun v _ => k - (intOf v).toNat)
                          case atStart => exact ⟨0, Nat.zero_le _, rfl, rfl, Ext.refl _⟩
                          case round =>
                            obtain ⟨q, hq, rfl, hany, hxq⟩ := hrel
                            have HANY := hide hany
                            clear hany
                            have e4 := (be3.ext hxq).cell (j := 4) rfl
                            have a0 := (ba3.ext hxq).cell (j := 0) rfl
                            have hxw := hx2.trans (hx3.trans hxq)
                            by_cases hlq : q < k
                            · have r0 := hxw.cellAt (HEL4.out q (by omega)).1
                              have hlq2 : (q : Int) < (e.asg.length : Int) := by omega
                              cases heq : e.asg[q].v == e.asg[k].v
                              · go_wp2_with fail
                                go_quiet (fail)
                                revert nq; intro n3
                                go_wp2_with fail
                                go_roundw
                                case rel => exact ⟨q + 1, hlq, by go_num, any_take_step (by omega) HANY.out heq, hxq.drewN _⟩
                                case measure => simp [intOf]; omega
                              · have HF8 := hide (show asgF t[p].vars.length e.asg k = 8 by rw [HV.out, inB_var, dvl, dvg, dvv, any_take_hit (f := fun b : Asg => b.v == e.asg[k].v) (n := k) (by omega) hlq heq]; rfl)
                                have HR := hide (firstNZ_hit (n := e.asg.length) HZ.out (by rw [HF8.out]; decide) hlt)
                                go_wp2_with fail
                                go_quiet (fail)
                                revert nq; intro n3
                                go_wp2_with fail
                                go_ret
                                exact ⟨by rw [HE1.out, HR.out, HF8.out]; simp [h8], hxw.drewN _⟩
                            · obtain rfl : q = k := by omega
                              have HF0 := hide (show asgF t[p].vars.length e.asg q = 0 by rw [HV.out, inB_var, dvl, dvg, dvv, HANY.out]; rfl)
                              go_wp2_with fail
                              go_roundw
                              case rel => exact ⟨q + 1, hlt, by go_num, firstNZ_step HZ.out HF0.out, hx3.trans hxq⟩
                              case measure => simp [intOf]; omega
                      · have HF2 := hide (show asgF t[p].vars.length e.asg k = 2 by rw [HV.out, inB_var, dvl, dvg]; simp)
                        have HR := hide (firstNZ_hit (n := e.asg.length) HZ.out (by rw [HF2.out]; decide) hlt)
                        go_quiet (fail)
                        revert nq; intro n2
                        go_wp2_with fail
                        go_ret
                        exact ⟨by rw [HE1.out, HR.out, HF2.out]; simp [h8], (hxx.alloc _).drewN _⟩
                    · have HF2 := hide (show asgF t[p].vars.length e.asg k = 2 by rw [HV.out, inB_var, dvl]; simp)
                      have HR := hide (firstNZ_hit (n := e.asg.length) HZ.out (by rw [HF2.out]; decide) hlt)
                      go_quiet (fail)
                      revert nq; intro n2
                      go_wp2_with fail
                      go_ret
                      exact ⟨by rw [HE1.out, HR.out, HF2.out]; simp [h8], (hxx.alloc _).drewN _⟩
                  · obtain rfl : k = e.asg.length := by omega
                    go_wp2_with fail
                    go_ret
                    exact ⟨by rw [HE1.out]; simp [h8, HZ.out], hxx⟩
            · have HF := hide (show formF t (p, j + 1 + 1) = 11 by rw [HE.out _ hl0, dtp]; simp)
              clear hl0 q3
              go_quiet (fail)
              revert nq; intro n1
              go_wp2_with fail
              go_ret
              exact ⟨by rw [HF.out]; rfl, hx1.drewN _⟩
        · have HF := hide (show formF t (p, i + 1) = 11 by rw [HE.out _ rfl, dtg]; simp)
          go_quiet (fail)
          revert nq; intro n1
          go_wp2_with fail
          go_ret
          exact ⟨by rw [HF.out]; rfl, hx1.drewN _⟩
      · have HF := hide (show formF t (p, i + 1) = 11 by rw [HE.out _ rfl, dtl]; simp)
        go_quiet (fail)
        revert nq; intro n1
        go_wp2_with fail
        go_ret
        exact ⟨by rw [HF.out]; rfl, hx1.drewN _⟩
end Go.Proofs.Ytfdekchpckdeiaa
