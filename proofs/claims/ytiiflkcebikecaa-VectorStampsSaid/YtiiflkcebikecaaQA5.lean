/- Texts of one proof, laid together: RJ, RD, OM, KP, PP, RK, OA, RQ, RP, RG, RF, RV, WV, WU, VC, VX. No condition. -/
import Derived.Test.YtiiflkcebikecaaQA4
import Derived.StillTailTactics
import Derived.Laws.MakeOwn
import Derived.Deep.RegionWith
import Derived.KernelRfl
import Derived.Test.YtiiflkcebikecaaProg
/- Walks of the reference: At, Directly, paired. No condition but on lengths. -/
namespace Go.Proofs.Ytiiflkcebikecaa
open Go.RowKit
set_option linter.unusedVariables false

def AtPost (t : Tr) (x : Nat × Nat) (w : World) (e : Ending) (w' : World) : Prop := ∃ A n c, e = .returned (.agg #[.int .i64 (evAt t x).kind, .int .i64 (evAt t x).peer, .int .i64 (evAt t x).msg, .int .i64 (evAt t x).time, .slice A n c]) ∧ SlR 2 RAsg w (.slice A n c) (evAt t x).asg ∧ Ext w w'

set_option maxRecDepth 100000 in
set_option maxHeartbeats 4000000 in
theorem At_any (u : Value) (t : Tr) (p i : Nat) (w : World) (hx : (p, i) ∈ ids t) (hS : Small t) (hs : SlR 3 RPr w u t) :
    Calls Try.prog 128 #[.agg #[u], idVal (p, i)] w fun e w' => AtPost t (p, i) w e w' := by
  obtain ⟨hp, hi1, hi2⟩ := mem_ids.1 hx
  simp only at hp hi1 hi2
  obtain ⟨j, rfl⟩ : ∃ j, i = j + 1 := ⟨i - 1, by omega⟩
  have hj : j < t[p].evs.length := by omega
  have hev := hide (evAt_eq hp hj)
  obtain ⟨A, c, rfl, h1, h2, hc⟩ := hs.at_
  obtain ⟨b, off, rfl, hel⟩ := hc (by omega)
  obtain ⟨_, _, v2, c2, hs2⟩ := hel p hp
  obtain ⟨A2, k2, rfl, _, _, hc2⟩ := hs2.at_
  obtain ⟨b2, off2, rfl, hel2⟩ := hc2 (by omega)
  obtain ⟨g0, g1, g2, g3, va, g4, hs4⟩ := hel2 j hj
  obtain ⟨A4, k4, rfl, _, _, _⟩ := hs4.at_
  have HS4 := hide hs4
  have hb := lt_of_cell c2
  have hb2 := lt_of_cell g0
  have hnp := hS.np
  have hne := hS.ne _ (List.getElem_mem hp)
  have hjl : (j : Int) < (t[p].evs.length : Int) := by omega
  clear hs hc hel hs2 hc2 hel2 hs4
  unfold idVal
  have bt : BoxN (((w.alloc (.cells #[.slice (some ⟨b, off, none⟩) t.length c] 24)).alloc (.cells #[.int .i64 p, .int .i64 ((j : Int) + 1)] 61)).alloc (.cells #[.int .i64 0, .int .i64 0, .int .i64 0, .int .i64 0, .slice none 0 0] 95)) w.heap.size 24 _ := ((BoxN.new w _ _).alloc _).alloc _
  have bx : BoxN (((w.alloc (.cells #[.slice (some ⟨b, off, none⟩) t.length c] 24)).alloc (.cells #[.int .i64 p, .int .i64 ((j : Int) + 1)] 61)).alloc (.cells #[.int .i64 0, .int .i64 0, .int .i64 0, .int .i64 0, .slice none 0 0] 95)) (w.heap.size + 1) 61 _ := (BoxN.newAt _ _ (by simp)).alloc _
  have br : BoxN (((w.alloc (.cells #[.slice (some ⟨b, off, none⟩) t.length c] 24)).alloc (.cells #[.int .i64 p, .int .i64 ((j : Int) + 1)] 61)).alloc (.cells #[.int .i64 0, .int .i64 0, .int .i64 0, .int .i64 0, .slice none 0 0] 95)) (w.heap.size + 1 + 1) 95 _ := BoxN.newAt _ _ (by simp)
  have hx1 : Ext w (((w.alloc (.cells #[.slice (some ⟨b, off, none⟩) t.length c] 24)).alloc (.cells #[.int .i64 p, .int .i64 ((j : Int) + 1)] 61)).alloc (.cells #[.int .i64 0, .int .i64 0, .int .i64 0, .int .i64 0, .slice none 0 0] 95)) := (((Ext.refl _).alloc _).alloc _).alloc _
  go_enter Try.func128, Try.ntmps128
  go_wp2_with fail
  generalize (((w.alloc (.cells #[.slice (some ⟨b, off, none⟩) t.length c] 24)).alloc (.cells #[.int .i64 p, .int .i64 ((j : Int) + 1)] 61)).alloc (.cells #[.int .i64 0, .int .i64 0, .int .i64 0, .int .i64 0, .slice none 0 0] 95)) = W1 at *
  have t0 := bt.cell (j := 0) rfl
  have x0 := bx.cell (j := 0) rfl
  have x1 := bx.cell (j := 1) rfl
  have e0 := hx1.cellAt g0
  have e1 := hx1.cellAt g1
  have e2 := hx1.cellAt g2
  have e3 := hx1.cellAt g3
  have e4 := hx1.cellAt g4
  have d2 := hx1.cellAt c2
  have r0 := br.cell (j := 0) rfl
  have r1 := br.cell (j := 1) rfl
  have r2 := br.cell (j := 2) rfl
  have r3 := br.cell (j := 3) rfl
  have r4 := br.cell (j := 4) rfl
  have f0 := br.frozen 0
  have f1 := br.frozen 1
  have f2 := br.frozen 2
  have f3 := br.frozen 3
  have f4 := br.frozen 4
  have hw1 : IntKind.i64.wrap ((j : Int) + 1 - 1) = (j : Int) := by rw [IntKind.wrap_i64]; omega
  have hw2 : IntKind.i64.wrap (j : Int) = (j : Int) := by rw [IntKind.wrap_i64]; omega
  have hj0 : (0 : Int) ≤ (j : Int) := by omega
  have hp0 : (0 : Int) ≤ (p : Int) := by omega
  have n1 : b ≠ w.heap.size + 1 + 1 := by omega
  have n2 : b2 ≠ w.heap.size + 1 + 1 := by omega
  have n3 : w.heap.size ≠ w.heap.size + 1 + 1 := by omega
  have n4 : w.heap.size + 1 ≠ w.heap.size + 1 + 1 := by omega
  have hpl : (p : Int) < (t.length : Int) := by omega
  go_region
  all_goals go_wp2
  obtain ⟨Wr, hWr⟩ : ∃ Wr, (((((W1.setCell ⟨w.heap.size + 1 + 1, 0, none⟩ (.int .i64 t[p].evs[j].kind)).setCell ⟨w.heap.size + 1 + 1, 1, none⟩ (.int .i64 t[p].evs[j].peer)).setCell ⟨w.heap.size + 1 + 1, 2, none⟩ (.int .i64 t[p].evs[j].msg)).setCell ⟨w.heap.size + 1 + 1, 3, none⟩ (.int .i64 t[p].evs[j].time)).setCell ⟨w.heap.size + 1 + 1, 4, none⟩ (.slice A4 t[p].evs[j].asg.length k4)).drew = Wr := ⟨_, rfl⟩
  rw [hWr]
  have s1 : BoxN Wr (w.heap.size + 1 + 1) 95 #[.int .i64 t[p].evs[j].kind, .int .i64 t[p].evs[j].peer, .int .i64 t[p].evs[j].msg, .int .i64 t[p].evs[j].time, .slice A4 t[p].evs[j].asg.length k4] := by rw [← hWr]; ((repeat (first | with_reducible assumption | with_reducible exact KeepsFrom.refl _ _ | with_reducible refine KF.set ?_ _ _ | with_reducible refine KF.alloc ?_ _ | with_reducible refine KF.drew ?_ | with_reducible refine KF.drewN ?_ _ | with_reducible refine KF.ext ?_ (by assumption) | with_reducible exact Below.refl _ _ | with_reducible refine BL.set ?_ _ _ _ (by omega) | with_reducible refine BL.alloc ?_ _ (by omega) | with_reducible refine BL.drew ?_ | with_reducible refine BL.drewN ?_ _ | with_reducible refine BL.ext ?_ (by assumption) (by omega) | with_reducible exact Ext.refl _ | with_reducible refine Ext.set ?_ (by omega) _ | with_reducible refine Ext.alloc ?_ _ | with_reducible refine Ext.drew ?_ | with_reducible refine Ext.drewN ?_ _ | with_reducible refine Ext.trans ?_ (by assumption) | with_reducible refine BoxN.alloc ?_ _ | with_reducible refine BoxN.drew ?_ | with_reducible refine BoxN.drewN ?_ _ | with_reducible refine BoxN.other ?_ (by omega) _ | with_reducible refine BoxN.set ?_ _ _ | with_reducible apply BoxN.set1 | with_reducible apply BoxN.set2_1 | with_reducible apply BoxN.set2_0 | with_reducible apply BoxN.set5_4 | with_reducible apply BoxN.set5_3 | with_reducible apply BoxN.set5_2 | with_reducible apply BoxN.set5_1 | with_reducible apply BoxN.set5_0 | with_reducible apply BoxN.set3_2 | with_reducible apply BoxN.set3_1 | with_reducible apply BoxN.set3_0 | with_reducible apply BoxN.set4_3 | with_reducible apply BoxN.set4_2 | with_reducible apply BoxN.set4_1 | with_reducible apply BoxN.set4_0 | with_reducible refine BoxN.ext ?_ (by assumption))); done)
  have sx : Ext w Wr := by rw [← hWr]; ((repeat (first | with_reducible assumption | with_reducible exact KeepsFrom.refl _ _ | with_reducible refine KF.set ?_ _ _ | with_reducible refine KF.alloc ?_ _ | with_reducible refine KF.drew ?_ | with_reducible refine KF.drewN ?_ _ | with_reducible refine KF.ext ?_ (by assumption) | with_reducible exact Below.refl _ _ | with_reducible refine BL.set ?_ _ _ _ (by omega) | with_reducible refine BL.alloc ?_ _ (by omega) | with_reducible refine BL.drew ?_ | with_reducible refine BL.drewN ?_ _ | with_reducible refine BL.ext ?_ (by assumption) (by omega) | with_reducible exact Ext.refl _ | with_reducible refine Ext.set ?_ (by omega) _ | with_reducible refine Ext.alloc ?_ _ | with_reducible refine Ext.drew ?_ | with_reducible refine Ext.drewN ?_ _ | with_reducible refine Ext.trans ?_ (by assumption) | with_reducible refine BoxN.alloc ?_ _ | with_reducible refine BoxN.drew ?_ | with_reducible refine BoxN.drewN ?_ _ | with_reducible refine BoxN.other ?_ (by omega) _ | with_reducible refine BoxN.set ?_ _ _ | with_reducible apply BoxN.set1 | with_reducible apply BoxN.set2_1 | with_reducible apply BoxN.set2_0 | with_reducible apply BoxN.set5_4 | with_reducible apply BoxN.set5_3 | with_reducible apply BoxN.set5_2 | with_reducible apply BoxN.set5_1 | with_reducible apply BoxN.set5_0 | with_reducible apply BoxN.set3_2 | with_reducible apply BoxN.set3_1 | with_reducible apply BoxN.set3_0 | with_reducible apply BoxN.set4_3 | with_reducible apply BoxN.set4_2 | with_reducible apply BoxN.set4_1 | with_reducible apply BoxN.set4_0 | with_reducible refine BoxN.ext ?_ (by assumption))); done)
  clear hWr
  refine bodyPost_ret (v := .agg #[.int .i64 t[p].evs[j].kind, .int .i64 t[p].evs[j].peer, .int .i64 t[p].evs[j].msg, .int .i64 t[p].evs[j].time, .slice A4 t[p].evs[j].asg.length k4]) ?_ rfl ⟨A4, _, k4, by rw [hev.out], by rw [hev.out]; exact HS4.out, sx⟩
  simp [results, Try.f128, go_sem, s1.cell (j := 0) rfl, s1.cell (j := 1) rfl, s1.cell (j := 2) rfl, s1.cell (j := 3) rfl, s1.cell (j := 4) rfl]
end Go.Proofs.Ytiiflkcebikecaa

/- Walks of the reference: Directly. No condition but on lengths. -/
namespace Go.Proofs.Ytiiflkcebikecaa
open Go.RowKit
set_option linter.unusedVariables false

def backL (t : Tr) (x : Nat × Nat) : List (Nat × Nat) := (if 1 < x.2 then [(x.1, x.2 - 1)] else []) ++ if (evAt t x).kind == 3 then [findV t 2 (evAt t x).msg] else []

set_option maxRecDepth 100000 in
set_option maxHeartbeats 4000000 in
theorem Directly_any (u : Value) (t : Tr) (p i : Nat) (w : World) (hx : (p, i) ∈ ids t) (hS : Small t) (hs : SlR 3 RPr w u t) :
    Calls Try.prog 129 #[.agg #[u], idVal (p, i)] w fun e w' => RetIds w (backL t (p, i)) e w' := by
  have HAT := hide (fun w' (he : Ext w w') => At_any u t p i w' hx hS (hs.ext RPr.keeps he))
  have HFD := hide (fun m w' (he : Ext w w') => Find_any u t 2 m w' hS (hs.ext RPr.keeps he))
  have HBL := hide (show backL t (p, i) = (if 1 < i then [(p, i - 1)] else []) ++ if (evAt t (p, i)).kind == 3 then [findV t 2 (evAt t (p, i)).msg] else [] from rfl)
  have hpos := mem_pos hx
  have hi64 : i ≤ 1000000 := by
    obtain ⟨hp, _, h2⟩ := mem_ids.1 hx
    exact Nat.le_trans h2 (hS.ne _ (List.getElem_mem hp))
  obtain ⟨A, c, rfl, _, _, _⟩ := hs.at_
  clear hs
  simp only at hpos
  unfold idVal at *
  go_enter Try.func129, Try.ntmps129
  by_cases h1 : 1 < i
  · have hd : decide ((1 : Int) < (i : Int)) = true := decide_eq_true (by omega)
    go_wp2_with (at_builtin; go_must (refine wpl_appC (v := .slice none 0 0) (.tmp 10) (.tmp 17) elId rfl rfl rfl rfl (OwnC.nil _ _ _ w.heap.size) (SlC.lit (x := (p, i - 1)) _ (by simp) rfl (by omega)) (idsC_one _) (by omega) (by simp; omega) ?_; intro v1 w1 hown1 hgr1 hbl1; have he1 := hgr1.ext rfl; have hew1 : Ext w w1 := Ext.trans (((Ext.refl w).alloc _).alloc _ |>.alloc _) he1; have bt := (((BoxN.new w 24 _).alloc _ |>.alloc _).ext he1); have t0 := bt.cell (j := 0) rfl; have bx := (((BoxN.newAt (B := w.heap.size + 1) (W := w.alloc _) 61 _ (by simp)).alloc _).ext he1); have x0 := bx.cell (j := 0) rfl; have x1 := bx.cell (j := 1) rfl; have hown : OwnIds w1 w.heap.size v1 [(p, i - 1)] := (OwnIds.snoc (l := []) hown1 rfl); clear hgr1 hbl1 hown1))
    clear t0 bx x0 x1 he1
    refine (HAT.out _ hew1).mono ?_
    rintro e w2 ⟨A4, n4, k4, rfl, _, he2⟩
    have hew2 : Ext w w2 := hew1.trans he2
    have hown2 := OwnC.ext hown he2
    have bt2 := bt.ext he2
    have hsz2 := hew2.size
    clear hown bt
    generalize hev : evAt t (p, i) = ev at *
    have HEQ := hide hev
    clear hev
    cases z3 : ev.kind == 3
    · have HR := hide (show backL t (p, i) = [(p, i - 1)] by rw [HBL.out, z3]; simp [h1])
      go_wp2_with fail
      go_ret
      exact ⟨_, rfl, by rw [HR.out]; exact OwnC.alloc hown2 _, hew2.alloc _⟩
    · have HR := hide (show backL t (p, i) = [(p, i - 1)] ++ [findV t 2 ev.msg] by rw [HBL.out, z3]; simp [h1])
      have t0 : (w2.alloc (.cells #[.int .i64 ev.kind, .int .i64 ev.peer, .int .i64 ev.msg, .int .i64 ev.time, .slice A4 n4 k4] 95)).cell? ⟨w.heap.size, 0, none⟩ = some (.slice A t.length c) := (bt2.alloc _).cell rfl
      have hlt := bt2.lt
      go_wp2_with fail
      refine (HFD.out _ _ (hew2.alloc _)).mono ?_
      rintro e w3 ⟨rfl, he3⟩
      have hown3 := OwnC.ext (OwnC.alloc hown2 _) he3
      have hew3 : Ext w w3 := (hew2.alloc _).trans he3
      have hsz3 := hew3.size
      go_wp2_with (at_builtin; go_must (refine wpl_appC (v := v1) (.tmp 25) (.tmp 30) elId rfl rfl rfl rfl (OwnC.alloc hown3 _) (SlC.lit (x := findV t 2 ev.msg) _ rfl rfl rfl) (idsC_one _) (by simp <;> omega) (by simp <;> omega) ?_; intro v4 w4 hown4 hgr4 hbl4))
      go_ret
      exact ⟨_, rfl, by rw [HR.out]; exact OwnIds.snoc hown4 rfl, Ext.more (hew3.alloc _) hbl4⟩
  · have hd : decide ((1 : Int) < (i : Int)) = false := decide_eq_false (by omega)
    have hew1 : Ext w ((w.alloc (.cells #[.slice A t.length c] 24)).alloc (.cells #[.int .i64 p, .int .i64 i] 61)) := ((Ext.refl w).alloc _).alloc _
    have bt : BoxN ((w.alloc (.cells #[.slice A t.length c] 24)).alloc (.cells #[.int .i64 p, .int .i64 i] 61)) w.heap.size 24 #[.slice A t.length c] := (BoxN.new w _ _).alloc _
    have hown : OwnIds ((w.alloc (.cells #[.slice A t.length c] 24)).alloc (.cells #[.int .i64 p, .int .i64 i] 61)) w.heap.size (.slice none 0 0) [] := OwnC.nil _ _ _ _
    go_wp2_with fail
    refine (HAT.out _ hew1).mono ?_
    rintro e w2 ⟨A4, n4, k4, rfl, _, he2⟩
    have hew2 : Ext w w2 := hew1.trans he2
    have hown2 := OwnC.ext hown he2
    have bt2 := bt.ext he2
    have hsz2 := hew2.size
    clear hown bt
    generalize hev : evAt t (p, i) = ev at *
    have HEQ := hide hev
    clear hev
    cases z3 : ev.kind == 3
    · have HR := hide (show backL t (p, i) = [] by rw [HBL.out, z3]; simp [h1])
      go_wp2_with fail
      go_ret
      exact ⟨_, rfl, by rw [HR.out]; exact OwnC.alloc hown2 _, hew2.alloc _⟩
    · have HR := hide (show backL t (p, i) = [] ++ [findV t 2 ev.msg] by rw [HBL.out, z3]; simp [h1])
      have t0 : (w2.alloc (.cells #[.int .i64 ev.kind, .int .i64 ev.peer, .int .i64 ev.msg, .int .i64 ev.time, .slice A4 n4 k4] 95)).cell? ⟨w.heap.size, 0, none⟩ = some (.slice A t.length c) := (bt2.alloc _).cell rfl
      have hlt := bt2.lt
      go_wp2_with fail
      refine (HFD.out _ _ (hew2.alloc _)).mono ?_
      rintro e w3 ⟨rfl, he3⟩
      have hown3 := OwnC.ext (OwnC.alloc hown2 _) he3
      have hew3 : Ext w w3 := (hew2.alloc _).trans he3
      have hsz3 := hew3.size
      go_wp2_with (at_builtin; go_must (refine wpl_appC (v := .slice none 0 0) (.tmp 25) (.tmp 30) elId rfl rfl rfl rfl (OwnC.alloc hown3 _) (SlC.lit (x := findV t 2 ev.msg) _ rfl rfl rfl) (idsC_one _) (by simp <;> omega) (by simp <;> omega) ?_; intro v4 w4 hown4 hgr4 hbl4))
      go_ret
      exact ⟨_, rfl, by rw [HR.out]; exact OwnIds.snoc hown4 rfl, Ext.more (hew3.alloc _) hbl4⟩
end Go.Proofs.Ytiiflkcebikecaa

/- Rows of numbers that a call makes; sums over them. No program, no condition. -/
namespace Go.Proofs.Ytiiflkcebikecaa
open Go.RowKit
set_option linter.unusedVariables false

theorem made_one (v : Value) (n : Nat) : madeCells #[v] (n * 1) = Array.replicate n v := by
  unfold madeCells
  apply Array.ext
  · simp
  · intro i h1 h2
    simp [Nat.mod_one]
theorem run_makeN {P : Program} {t e : TypeId} {i : TypeInfo} {z v : Value} (ht : P.underlying t = some (.slice e)) (hi : P.info? e = some i) (hz : i.zero = some z) (hs : i.size = 1) (hzc : z.cells = #[v]) (n : Nat) (hb : i.bytes * n ≤ 281474976710656) (h63 : n ≤ 9223372036854775807) (w : World) :
    (Instr.makeSlice t (.int .i64 n) (.int .i64 n)).run P w = .ok (.slice (some ⟨w.heap.size, 0, none⟩) n n) (w.alloc (.cells (Array.replicate n v) e)) := by
  have := run_make (P := P) w t e i z ht hi hz .i64 .i64 (n : Int) (n : Int) (by omega) (Int.le_refl _) (by rw [← Int.natCast_mul]; omega) (by omega)
  rw [hs, hzc, Int.toNat_natCast, made_one] at this
  exact this
/-- A block of natural numbers. -/
def rowC (D : List Nat) : Array Value := (D.map fun d : Nat => Value.int .i64 d).toArray
theorem rowC_get {D : List Nat} {k : Nat} (h : k < D.length) : (rowC D)[k]? = some (.int .i64 (D[k] : Nat)) := by simp [rowC, List.getElem?_eq_getElem h]
theorem rowC_set (D : List Nat) (k d : Nat) : (rowC D).setIfInBounds k (.int .i64 d) = rowC (D.set k d) := by
  unfold rowC
  rw [List.setIfInBounds_toArray, List.map_set]
theorem rowC_zero (n : Nat) : Array.replicate n (Value.int .i64 0) = rowC (List.replicate n 0) := by simp [rowC]
theorem BoxN.setRow {W : World} {B : Nat} {t : TypeId} {D : List Nat} {k : Nat} (h : BoxN W B t (rowC D)) (d : Nat) : BoxN (W.setCell ⟨B, k, none⟩ (.int .i64 d)) B t (rowC (D.set k d)) := by
  rw [← rowC_set]; exact h.set _ _
theorem BoxN.setRow1 {W : World} {B : Nat} {t : TypeId} {D : List Nat} {k : Nat} (h : BoxN W B t (rowC D)) (d : Nat) : BoxN (W.setCell ⟨B, k, none⟩ (.int .i64 ((d : Int) + 1))) B t (rowC (D.set k (d + 1))) := by
  have := h.setRow (k := k) (d + 1)
  rwa [show ((d + 1 : Nat) : Int) = (d : Int) + 1 from by push_cast; rfl] at this
/-- The sum of a block's numbers. -/
def sumB (w : World) (g : Nat) : Nat := match w.heap[g]? with | some (.cells cs _ _) => (cs.toList.map fun v => (intOf v).toNat).sum | _ => 0
theorem sumB_eq {w : World} {g : Nat} {t : TypeId} {D : List Nat} (h : BoxN w g t (rowC D)) : sumB w g = D.sum := by
  unfold sumB
  rw [show w.heap[g]? = _ from h]
  simp only [rowC, List.map_map]
  congr 1
  conv => rhs; rw [← List.map_id D]
  apply List.map_congr_left
  intro x _
  simp [intOf]
/-- One of its numbers. -/
def numB (w : World) (g k : Nat) : Nat := match w.cell? ⟨g, k, none⟩ with | some v => (intOf v).toNat | none => 0
theorem numB_eq {w : World} {g k : Nat} {t : TypeId} {D : List Nat} (h : BoxN w g t (rowC D)) (hk : k < D.length) : numB w g k = D[k] := by
  unfold numB
  rw [h.cell (rowC_get hk)]
  simp [intOf]
theorem sum_set {D : List Nat} : ∀ {k d : Nat} (hk : k < D.length), (D.set k d).sum + D[k] = D.sum + d := by
  induction D with
  | nil => intro k d hk; simp at hk
  | cons a D ih =>
    intro k d hk
    cases k with
    | zero => simp; omega
    | succ k =>
      have := ih (k := k) (d := d) (by simpa using hk)
      simp at this ⊢; omega
end Go.Proofs.Ytiiflkcebikecaa

/- Taking events away whose predecessors are gone: plain. No program, no condition. -/
namespace Go.Proofs.Ytiiflkcebikecaa
set_option linter.unusedVariables false

theorem Hb.back {t : Tr} {x z : Nat × Nat} (h : Hb t x z) : ∃ y, Dir t y z ∧ (y = x ∨ Hb t x y) := by
  cases h with
  | one h => exact ⟨_, h, .inl rfl⟩
  | more h1 h2 => exact ⟨_, h2, .inr h1⟩
/-- An event that is taken away. -/
def Gone (D : List Nat) (x : Nat × Nat) : Prop := x.2 ≤ D.getD x.1 0
structure KI (t : Tr) (D : List Nat) : Prop where
  len : D.length = t.length
  le : ∀ p (hp : p < t.length), D.getD p 0 ≤ t[p].evs.length
  closed : ∀ x ∈ ids t, Gone D x → ∀ y ∈ ids t, Dir t y x → Gone D y
  acyc : ∀ x ∈ ids t, Gone D x → ¬ Hb t x x
theorem KI.start (t : Tr) : KI t (List.replicate t.length 0) := by
  have h0 : ∀ p, (List.replicate t.length 0).getD p 0 = 0 := fun p => by
    rw [List.getD_eq_getElem?_getD, List.getElem?_replicate]; split <;> rfl
  have hn : ∀ x ∈ ids t, ¬ Gone (List.replicate t.length 0) x := fun x hx hg => by
    have := mem_pos hx
    unfold Gone at hg; rw [h0] at hg; omega
  exact ⟨by simp, fun p hp => by rw [h0]; exact Nat.zero_le _, fun x hx hg => absurd hg (hn x hx), fun x hx hg => absurd hg (hn x hx)⟩
theorem KI.gone_back {t : Tr} {D : List Nat} (h : KI t D) {x z : Nat × Nat} (hx : x ∈ ids t) (hz : z ∈ ids t) (hg : Gone D z) (hb : Hb t x z) : Gone D x := by
  induction hb with
  | one hd => exact h.closed _ hz hg _ hx hd
  | more h1 hd ih =>
    have hy := h1.mem hx
    exact ih hy (h.closed _ hz hg _ hy hd)
theorem getD_set {D : List Nat} {p q d : Nat} (hp : p < D.length) : (D.set p d).getD q 0 = if q = p then d else D.getD q 0 := by
  rw [List.getD_eq_getElem?_getD, List.getElem?_set]
  by_cases h : p = q
  · subst h; rw [if_pos rfl, if_pos rfl, if_pos hp]; rfl
  · rw [if_neg h, if_neg (fun e => h e.symm), List.getD_eq_getElem?_getD]
theorem KI.step {t : Tr} {D : List Nat} (h : KI t D) {p : Nat} (hp : p < t.length) (hi : D.getD p 0 < t[p].evs.length) (hpre : ∀ y ∈ ids t, Dir t y (p, D.getD p 0 + 1) → Gone D y) : KI t (D.set p (D.getD p 0 + 1)) := by
  have hlen : p < D.length := by rw [h.len]; exact hp
  have hgs : ∀ x, x ∈ ids t → (Gone (D.set p (D.getD p 0 + 1)) x ↔ Gone D x ∨ x = (p, D.getD p 0 + 1)) := fun x hx => by
    unfold Gone
    rw [getD_set hlen]
    obtain ⟨a, b⟩ := x
    simp only [Prod.mk.injEq]
    by_cases ha : a = p
    · subst ha; rw [if_pos rfl]; omega
    · rw [if_neg ha]; simp [ha]
  have hxin : (p, D.getD p 0 + 1) ∈ ids t := mem_ids.2 ⟨hp, by simp, hi⟩
  have hnx : ¬ Gone D (p, D.getD p 0 + 1) := by unfold Gone; simp
  refine ⟨by simpa using h.len, fun q hq => ?_, fun x hx hg y hy hd => ?_, fun x hx hg hb => ?_⟩
  · rw [getD_set hlen]
    split
    · rename_i e; subst e; exact hi
    · exact h.le q hq
  · rcases (hgs x hx).1 hg with h1 | rfl
    · exact (hgs y hy).2 (.inl (h.closed x hx h1 y hy hd))
    · exact (hgs y hy).2 (.inl (hpre y hy hd))
  · rcases (hgs x hx).1 hg with h1 | rfl
    · exact h.acyc x hx h1 hb
    · obtain ⟨y, hd, he⟩ := hb.back
      rcases he with rfl | h2
      · exact hnx (hpre _ hxin hd)
      · have hy := h2.mem hxin
        exact hnx (h.gone_back hxin hy (hpre y hy hd) h2)
/-- What comes directly before an event, in a trace whose messages are paired. -/
theorem dir_pre {t : Tr} {D : List Nat} {p i : Nat} (hpair : ∀ x ∈ ids t, pairF t x = 0) (hp : p < t.length) (hi : i = D.getD p 0) (hle : i < t[p].evs.length) (hs : (evAt t (p, i + 1)).kind = 3 → (findV t 2 (evAt t (p, i + 1)).msg).2 ≤ D.getD (findV t 2 (evAt t (p, i + 1)).msg).1 0) :
    ∀ y ∈ ids t, Dir t y (p, i + 1) → Gone D y := by
  rintro ⟨a, b⟩ hy (⟨he, hl⟩ | ⟨hk, hf⟩)
  · injection he with h1 h2
    simp only at h1 h2
    subst h1
    unfold Gone
    simp only
    omega
  · obtain ⟨hfo, _, _⟩ := firstOf_find hf
    have e : findL t 3 (evAt t (a, b)).msg = (ids t).find? (keyB t 3 (evAt t (a, b)).msg) := rfl
    rw [e] at hf
    have hkey := List.find?_some hf
    unfold keyB at hkey
    simp only [Bool.and_eq_true, beq_iff_eq] at hkey
    have hq := hs hkey.1
    rw [hkey.2] at hq
    have hpy := hpair (a, b) hy
    unfold pairF at hpy
    rw [hk] at hpy
    simp only [show ((2 : Int) == 2) = true from rfl, if_true] at hpy
    have hfy : findL t 2 (evAt t (a, b)).msg = some (a, b) := by
      by_cases hh : (findL t 2 (evAt t (a, b)).msg == some (a, b)) = true
      · simpa using hh
      · rw [if_neg hh] at hpy; cases hpy
    have hv : findV t 2 (evAt t (a, b)).msg = (a, b) := (firstOf_find hfy).1
    rw [hv] at hq
    exact hq
theorem KI.all {t : Tr} {D : List Nat} (h : KI t D) (hd : ∀ p (hp : p < t.length), t[p].evs.length ≤ D.getD p 0) : ∀ x ∈ ids t, ¬ Hb t x x := by
  intro x hx
  obtain ⟨hp, h1, h2⟩ := mem_ids.1 hx
  exact h.acyc x hx (Nat.le_trans h2 (hd x.1 hp))
end Go.Proofs.Ytiiflkcebikecaa

/- The past of an event, by breadth: plain; and rows of marks. No condition. -/
namespace Go.Proofs.Ytiiflkcebikecaa
open Go.RowKit
set_option linter.unusedVariables false

theorem sends_find {t : Tr} {q m p : Nat} (hq : q < t.length) (h : sendsB t q m p = true) : ∃ y, findL t 2 m = some y := by
  have e : findL t 2 m = (ids t).find? (keyB t 2 m) := rfl
  rw [e]
  unfold sendsB evsOf at h
  rw [getD_lt dfPr t hq, List.any_eq_true] at h
  obtain ⟨ev, he, hk⟩ := h
  obtain ⟨j, hj, hev⟩ := List.mem_iff_getElem.1 he
  simp only [Bool.and_eq_true, beq_iff_eq] at hk
  have hmem : (q, j + 1) ∈ ids t := mem_ids.2 ⟨hq, by simp, hj⟩
  cases hf : (ids t).find? (keyB t 2 m) with
  | some y => exact ⟨y, rfl⟩
  | none =>
    rw [List.find?_eq_none] at hf
    refine absurd ?_ (hf _ hmem)
    unfold keyB
    rw [evAt_eq hq hj, hev, hk.1.1, hk.1.2]
    simp
/-- In a trace whose events are formed and paired. -/
structure Paired (t : Tr) : Prop where
  form : ∀ x ∈ ids t, formedB t.length x.1 (evAt t x) = true
  pair : ∀ x ∈ ids t, pairF t x = 0
theorem Paired.recv {t : Tr} (h : Paired t) {x : Nat × Nat} (hx : x ∈ ids t) (hk : (evAt t x).kind = 3) : findL t 3 (evAt t x).msg = some x ∧ ∃ y, findL t 2 (evAt t x).msg = some y := by
  have hp := h.pair x hx
  obtain ⟨m, q, hm, _, hq, hq2, _⟩ := formed_open (h.form x hx) (by rw [hk]; rfl)
  unfold pairF at hp
  rw [hk] at hp
  simp only [show ((3 : Int) == 2) = false from rfl, show ((3 : Int) == 3) = true from rfl, if_true, Bool.false_eq_true, if_false] at hp
  by_cases h1 : (findL t 3 (evAt t x).msg == some x) = true
  · rw [if_pos h1] at hp
    refine ⟨by simpa using h1, ?_⟩
    by_cases h2 : sendsB t (evAt t x).peer.toNat (evAt t x).msg x.1 = true
    · rw [hq, hm, Int.toNat_natCast] at h2
      rw [hm]
      exact sends_find hq2 h2
    · rw [if_neg h2] at hp; cases hp
  · rw [if_neg h1] at hp; cases hp
theorem Paired.send {t : Tr} (h : Paired t) {x : Nat × Nat} (hx : x ∈ ids t) (hk : (evAt t x).kind = 2) : findL t 2 (evAt t x).msg = some x := by
  have hp := h.pair x hx
  unfold pairF at hp
  rw [hk] at hp
  simp only [show ((2 : Int) == 2) = true from rfl, if_true] at hp
  by_cases h1 : (findL t 2 (evAt t x).msg == some x) = true
  · simpa using h1
  · rw [if_neg h1] at hp; cases hp
theorem find_key {t : Tr} {k m : Int} {y : Nat × Nat} (h : findL t k m = some y) : (evAt t y).kind = k ∧ (evAt t y).msg = m := by
  have e : findL t k m = (ids t).find? (keyB t k m) := rfl
  rw [e] at h
  have := List.find?_some h
  simpa [keyB] using this
theorem mem_backL {t : Tr} (h : Paired t) {x y : Nat × Nat} (hx : x ∈ ids t) : y ∈ backL t x ↔ (y ∈ ids t ∧ Dir t y x) := by
  obtain ⟨hp, h1, h2⟩ := mem_ids.1 hx
  unfold backL
  rw [List.mem_append]
  constructor
  · rintro (hy | hy)
    · split at hy
      · rename_i hlt
        have : y = (x.1, x.2 - 1) := by simpa using hy
        subst this
        refine ⟨mem_ids.2 ⟨hp, by simp; omega, by simp; omega⟩, .inl ⟨?_, ?_⟩⟩
        · ext <;> simp; omega
        · unfold evsOf; simp only; rw [getD_lt dfPr t hp]; omega
      · cases hy
    · split at hy
      · rename_i hk
        have hk3 : (evAt t x).kind = 3 := by simpa using hk
        obtain ⟨h3, z, hz⟩ := h.recv hx hk3
        have hv : findV t 2 (evAt t x).msg = z := (firstOf_find hz).1
        have : y = z := by rw [← hv]; simpa using hy
        subst this
        obtain ⟨k2, m2⟩ := find_key hz
        refine ⟨(firstOf_find hz).2.2, .inr ⟨k2, ?_⟩⟩
        rw [m2]; exact h3
      · cases hy
  · rintro ⟨hy, (⟨he, hl⟩ | ⟨hk, hf⟩)⟩
    · obtain ⟨_, hy1, _⟩ := mem_ids.1 hy
      left
      rw [he]
      simp only
      rw [if_pos (by omega)]
      simp
    · right
      obtain ⟨k3, m3⟩ := find_key hf
      rw [k3]
      simp only [show ((3 : Int) == 3) = true from rfl, if_true]
      have := h.send hy hk
      rw [m3, show findV t 2 (evAt t y).msg = y from (firstOf_find this).1]
      simp
theorem Hb.cons {t : Tr} {x y z : Nat × Nat} (h : Dir t x y) (k : Hb t y z) : Hb t x z := by
  induction k with
  | one h2 => exact .more (.one h) h2
  | more _ h2 ih => exact .more ih h2
structure PaI (t : Tr) (x : Nat × Nat) (S R : List (Nat × Nat)) : Prop where
  nod : S.Nodup
  s : ∀ y ∈ S, y ∈ ids t ∧ Hb t y x
  r : ∀ y ∈ R, y ∈ ids t ∧ Hb t y x
  closed : ∀ z, z = x ∨ z ∈ S → ∀ y ∈ ids t, Dir t y z → y ∈ S ∨ y ∈ R
structure PaJ (t : Tr) (x z0 : Nat × Nat) (S R : List (Nat × Nat)) (k : Nat) : Prop where
  nod : S.Nodup
  s : ∀ y ∈ S, y ∈ ids t ∧ Hb t y x
  r : ∀ y ∈ R, y ∈ ids t ∧ Hb t y x
  cur : z0 ∈ S
  done : ∀ y ∈ (backL t z0).take k, y ∈ R
  closed : ∀ z, z = x ∨ z ∈ S → z ≠ z0 → ∀ y ∈ ids t, Dir t y z → y ∈ S ∨ y ∈ R
theorem PaI.start {t : Tr} (h : Paired t) {x : Nat × Nat} (hx : x ∈ ids t) : PaI t x [] (backL t x) :=
  ⟨List.nodup_nil, by simp, fun y hy => let ⟨a, b⟩ := (mem_backL h hx).1 hy; ⟨a, .one b⟩, fun z hz y hy hd => by
    rcases hz with rfl | h1
    · exact .inr ((mem_backL h hx).2 ⟨hy, hd⟩)
    · cases h1⟩
theorem PaI.skip {t : Tr} {x y : Nat × Nat} {S R : List (Nat × Nat)} (h : PaI t x S (y :: R)) (hy : y ∈ S) : PaI t x S R :=
  ⟨h.nod, h.s, fun z hz => h.r z (by simp [hz]), fun z hz w hw hd => by
    rcases h.closed z hz w hw hd with h1 | h1
    · exact .inl h1
    · rcases List.mem_cons.1 h1 with rfl | h2
      · exact .inl hy
      · exact .inr h2⟩
theorem PaI.mark {t : Tr} {x y : Nat × Nat} {S R : List (Nat × Nat)} (h : PaI t x S (y :: R)) (hy : y ∉ S) : PaJ t x y (S ++ [y]) R 0 := by
  obtain ⟨h1, h2⟩ := h.r y (by simp)
  refine ⟨?_, ?_, fun z hz => h.r z (by simp [hz]), by simp, by simp, ?_⟩
  · refine List.nodup_append.2 ⟨h.nod, by simp, fun a ha b hb => ?_⟩
    have : b = y := by simpa using hb
    subst this; exact fun e => hy (e ▸ ha)
  · intro z hz
    rcases List.mem_append.1 hz with h3 | h3
    · exact h.s z h3
    · have : z = y := by simpa using h3
      subst this; exact ⟨h1, h2⟩
  · intro z hz hne w hw hd
    have hz' : z = x ∨ z ∈ S := by
      rcases hz with h3 | h3
      · exact .inl h3
      · rcases List.mem_append.1 h3 with h4 | h4
        · exact .inr h4
        · exact absurd (by simpa using h4) hne
    rcases h.closed z hz' w hw hd with h3 | h3
    · exact .inl (by simp [h3])
    · rcases List.mem_cons.1 h3 with rfl | h4
      · exact .inl (by simp)
      · exact .inr h4
theorem PaJ.push {t : Tr} (hp : Paired t) {x z0 y : Nat × Nat} {S R : List (Nat × Nat)} {k : Nat} (h : PaJ t x z0 S R k) (hk : (backL t z0)[k]? = some y) : PaJ t x z0 S (R ++ [y]) (k + 1) := by
  obtain ⟨hz, hzx⟩ := h.s z0 h.cur
  obtain ⟨hy, hd⟩ := (mem_backL hp hz).1 (List.mem_of_getElem? hk)
  refine ⟨h.nod, h.s, fun w hw => ?_, h.cur, fun w hw => ?_, fun z hz' hne w hw hd' => ?_⟩
  · rcases List.mem_append.1 hw with h1 | h1
    · exact h.r w h1
    · have : w = y := by simpa using h1
      subst this; exact ⟨hy, .cons hd hzx⟩
  · rw [take_snoc' hk] at hw
    rcases List.mem_append.1 hw with h1 | h1
    · simp [h.done w h1]
    · exact List.mem_append.2 (.inr h1)
  · rcases h.closed z hz' hne w hw hd' with h1 | h1
    · exact .inl h1
    · exact .inr (by simp [h1])
theorem PaJ.fin {t : Tr} (hp : Paired t) {x z0 : Nat × Nat} {S R : List (Nat × Nat)} {k : Nat} (h : PaJ t x z0 S R k) (hk : (backL t z0).length ≤ k) : PaI t x S R :=
  ⟨h.nod, h.s, h.r, fun z hz w hw hd => by
    by_cases he : z = z0
    · subst he
      refine .inr (h.done w ?_)
      rw [List.take_of_length_le hk]
      exact (mem_backL hp (h.s z h.cur).1).2 ⟨hw, hd⟩
    · exact h.closed z hz he w hw hd⟩
theorem PaI.all {t : Tr} {x : Nat × Nat} {S : List (Nat × Nat)} (h : PaI t x S []) : ∀ y ∈ ids t, y ∈ S ↔ Hb t y x := by
  intro y hy
  refine ⟨fun hs => (h.s y hs).2, fun hb => ?_⟩
  have key : ∀ z, Hb t y z → (z = x ∨ z ∈ S) → y ∈ S := by
    intro z hz
    induction hz with
    | one hd => exact fun hc => (h.closed _ hc _ hy hd).resolve_right (by simp)
    | more h1 hd ih => exact fun hc => ih (.inr ((h.closed _ hc _ (h1.mem hy) hd).resolve_right (by simp)))
  exact key x hb (.inl rfl)
theorem PaI.few {t : Tr} {x : Nat × Nat} {S R : List (Nat × Nat)} (h : PaI t x S R) : S.length ≤ (ids t).length := nodup_le h.nod fun y hy => (h.s y hy).1
theorem PaJ.few {t : Tr} {x z0 : Nat × Nat} {S R : List (Nat × Nat)} {k : Nat} (h : PaJ t x z0 S R k) : S.length ≤ (ids t).length := nodup_le h.nod fun y hy => (h.s y hy).1
theorem backL_len (t : Tr) (x : Nat × Nat) : (backL t x).length ≤ 2 := by
  unfold backL
  rw [List.length_append]
  split <;> split <;> simp

/-! Rows of marks. -/
def rowM (S : List (Nat × Nat)) (p n : Nat) : Array Value := ((List.range n).map fun i => Value.bool (decide ((p, i) ∈ S))).toArray
theorem rowM_get {S : List (Nat × Nat)} {p n i : Nat} (h : i < n) : (rowM S p n)[i]? = some (.bool (decide ((p, i) ∈ S))) := by simp [rowM, h]
theorem rowM_set {S : List (Nat × Nat)} {p n i : Nat} : (rowM S p n).setIfInBounds i (.bool true) = rowM (S ++ [(p, i)]) p n := by
  apply Array.ext
  · simp [rowM]
  · intro j h1 h2
    simp [rowM] at h2
    rw [Array.getElem_setIfInBounds (by simpa using h1)]
    simp only [rowM, List.getElem_toArray, List.getElem_map, List.getElem_range]
    by_cases hij : i = j
    · subst hij; simp
    · rw [if_neg hij]
      congr 1
      rw [Bool.eq_iff_iff]
      simp
      omega
theorem rowM_other {S : List (Nat × Nat)} {p q n i : Nat} (h : q ≠ p) : rowM (S ++ [(p, i)]) q n = rowM S q n := by
  unfold rowM
  congr 1
  apply List.map_congr_left
  intro j _
  congr 1
  rw [Bool.eq_iff_iff]
  simp [h]
theorem rowM_zero (p n : Nat) : Array.replicate n (Value.bool false) = rowM [] p n := by
  apply Array.ext
  · simp [rowM]
  · intro j h1 h2
    simp [rowM]
def rowV (q : Nat × Nat) : Value := .slice (some ⟨q.1, 0, none⟩) q.2 q.2
/-- A table of marks: its rows' blocks and lengths, and what is marked. -/
structure GridM (tr tb : TypeId) (W : World) (B : Nat) (v : Value) (gs S : List (Nat × Nat)) : Prop where
  out : OwnC 1 tr W B v gs.length (gs.map rowV)
  row : ∀ p (hp : p < gs.length), BoxN W gs[p].1 tb (rowM S p gs[p].2) ∧ B ≤ gs[p].1
  nod : ∀ p q (hp : p < gs.length) (hq : q < gs.length), gs[p].1 = gs[q].1 → p = q
section
variable {tr tb : TypeId} {W W' : World} {B : Nat} {v : Value} {gs S : List (Nat × Nat)}
theorem GridM.ext (h : GridM tr tb W B v gs S) (he : Ext W W') : GridM tr tb W' B v gs S := ⟨h.out.ext he, fun p hp => ⟨(h.row p hp).1.ext he, (h.row p hp).2⟩, h.nod⟩
theorem GridM.drewN (h : GridM tr tb W B v gs S) (n : Nat) : GridM tr tb (W.drewN n) B v gs S := h.ext ((Ext.refl W).drewN n)
theorem GridM.alloc (h : GridM tr tb W B v gs S) (o : Obj) : GridM tr tb (W.alloc o) B v gs S := h.ext ((Ext.refl W).alloc o)
/-- Kept behind a write to one block that is none of its own. -/
theorem GridM.kept (h : GridM tr tb W B v gs S) {r : Option Nat} (hg : W.grownBy W' r) (h1 : v.ownBlock ≠ r ∨ v.ownBlock = none) (h2 : ∀ p (hp : p < gs.length), some gs[p].1 ≠ r) : GridM tr tb W' B v gs S :=
  ⟨h.out.kept hg (h1.symm), fun p hp => ⟨(h.row p hp).1.kept hg (h2 p hp), (h.row p hp).2⟩, h.nod⟩
theorem GridM.mark (h : GridM tr tb W B v gs S) (hne : tr ≠ tb) {p i : Nat} (hp : p < gs.length) : GridM tr tb (W.setCell ⟨gs[p].1, i, none⟩ (.bool true)) B v gs (S ++ [(p, i)]) := by
  refine ⟨h.out.other (h.out.not_box (h.row p hp).1 hne.symm) _, fun q hq => ⟨?_, (h.row q hq).2⟩, h.nod⟩
  by_cases hpq : q = p
  · subst hpq
    rw [← rowM_set]
    exact (h.row q hq).1.set _ _
  · rw [rowM_other hpq]
    exact (h.row q hq).1.other (fun e => hpq (h.nod q p hq hp e)) _
end
/-- How many events are marked. -/
def marks (t : Tr) (gs : List (Nat × Nat)) (w : World) : Nat := (ids t).countP fun x => match w.cell? ⟨(gs.getD x.1 (0, 0)).1, x.2, none⟩ with | some (.bool true) => true | _ => false
theorem marks_eq {t : Tr} {tr tb : TypeId} {W : World} {B : Nat} {v : Value} {gs S : List (Nat × Nat)} (h : GridM tr tb W B v gs S) (hl : ∀ x ∈ ids t, ∃ (hp : x.1 < gs.length), x.2 < gs[x.1].2) (hn : S.Nodup) (hs : ∀ y ∈ S, y ∈ ids t) : marks t gs W = S.length := by
  have e : marks t gs W = (ids t).countP fun x => decide (x ∈ S) := by
    unfold marks
    refine List.countP_congr fun x hx => ?_
    obtain ⟨hp, hi⟩ := hl x hx
    rw [getD_lt (0, 0) gs hp, (h.row x.1 hp).1.cell (rowM_get hi)]
    cases decide ((x.1, x.2) ∈ S) <;> simp
  rw [e, List.countP_eq_length_filter]
  apply Nat.le_antisymm
  · exact nodup_le ((nodup_ids t).filter _) fun x hx => by simpa using (List.mem_filter.1 hx).2
  · exact nodup_le hn fun x hx => List.mem_filter.2 ⟨hs x hx, by simpa using hx⟩
end Go.Proofs.Ytiiflkcebikecaa

/- Walks of the reference: acyclic. No condition but on lengths. -/
namespace Go.Proofs.Ytiiflkcebikecaa
open Go.RowKit
set_option linter.unusedVariables false

def AcPost (t : Tr) (w : World) (e : Ending) (w' : World) : Prop := ∃ b : Bool, e = .returned (.bool b) ∧ (b = true → ∀ x ∈ ids t, ¬ Hb t x x) ∧ Ext w w'
def sumE (t : Tr) : Nat := (t.map fun x => x.evs.length).sum
/-- What is known between two steps. -/
def AcS (t : Tr) (w : World) (u : Value) (wr : World) (D : List Nat) : Prop := KI t D ∧ BoxN wr w.heap.size 24 #[u] ∧ BoxN wr (w.heap.size + 1) 3 (rowC D) ∧ Ext w wr
theorem infoInt : ∃ i : TypeInfo, Try.prog.info? 3 = some i ∧ i.zero = some (.int .i64 0) ∧ i.size = 1 ∧ i.bytes = 8 := by
  have h : (Try.prog.info? 3).map (fun i => (i.zero, i.size, i.bytes)) = some (some (.int .i64 0), 1, 8) := by kernel_rfl
  obtain ⟨i, hi, he⟩ := Option.map_eq_some_iff.1 h
  injection he with h1 h2
  injection h2 with h2 h3
  exact ⟨i, hi, h1, h2, h3⟩
theorem run_makeInts (n : Nat) (hn : n ≤ 1000000) (w : World) : (Instr.makeSlice 37 (.int .i64 n) (.int .i64 n)).run Try.prog w = .ok (.slice (some ⟨w.heap.size, 0, none⟩) n n) (w.alloc (.cells (rowC (List.replicate n 0)) 3)) := by
  obtain ⟨i, hi, hz, hs, hb⟩ := infoInt
  rw [← rowC_zero]
  exact run_makeN Try.underlying37 hi hz hs rfl n (by rw [hb]; omega) (by omega) w

theorem KI.sum_le {t : Tr} {D : List Nat} (h : KI t D) : D.sum ≤ sumE t := by
  have hl := h.len
  have hle := h.le
  clear h
  unfold sumE
  induction t generalizing D with
  | nil => cases D <;> simp at hl ⊢
  | cons x t ih =>
    cases D with
    | nil => simp at hl
    | cons d D =>
      have h0 := hle 0 (by simp)
      have h1 := ih (D := D) (by simpa using hl) (fun p hp => hle (p + 1) (by simpa using hp))
      simp at h0 h1 ⊢; omega

set_option maxRecDepth 100000 in
set_option maxHeartbeats 8000000 in
theorem acyclic_any (u : Value) (t : Tr) (w : World) (hpair : ∀ x ∈ ids t, pairF t x = 0) (hform : ∀ x ∈ ids t, formedB t.length x.1 (evAt t x) = true) (hS : Small t) (hs : SlR 3 RPr w u t) :
    Calls Try.prog 112 #[.agg #[u]] w fun e w' => AcPost t w e w' := by
  have HFD := hide (fun m w' (he : Ext w w') => Find_any u t 2 m w' hS (hs.ext RPr.keeps he))
  have HMK := run_makeInts t.length hS.np
  obtain ⟨A, c, rfl, _, hcm, hc⟩ := hs.at_
  have HC := hide hc
  have hnp := hS.np
  clear hs hc
  go_enter Try.func112, Try.ntmps112
  go_wp2_with fail
  clear HMK
  have HST := hide (show AcS t w (.slice A t.length c) ((w.alloc (.cells #[.slice A t.length c] 24)).alloc (.cells (rowC (List.replicate t.length 0)) 3)) (List.replicate t.length 0) from ⟨KI.start t, (BoxN.new w _ _).alloc _, BoxN.newAt _ _ (by simp), ((Ext.refl w).alloc _).alloc _⟩)
  generalize (w.alloc (.cells #[.slice A t.length c] 24)).alloc (.cells (rowC (List.replicate t.length 0)) 3) = W1 at *
  go_loopw [4] (fun mv wr => ∃ D, AcS t w (.slice A t.length c) wr D) (fun _ wr => sumE t - sumB wr (w.heap.size + 1))
  case atStart => exact ⟨_, HST.out⟩
  case round =>
    obtain ⟨D0, hD0⟩ := hrel
    have HD0 := hide hD0
    have hms := hide (show ∀ D wr, AcS t w (.slice A t.length c) wr D → D0.sum < D.sum → sumE t - sumB wr (w.heap.size + 1) < sumE t - D0.sum from fun D wr h hl => by
      have h1 := KI.sum_le h.1
      rw [sumB_eq h.2.2.1]; omega)
    have hm0 := hide (sumB_eq hD0.2.2.1)
    clear hD0
    go_wp2_with fail
    go_loopw [5, 4] (fun i mv wr => ∃ (k : Nat) (D : List Nat) (b : Bool), k ≤ t.length ∧ i = .int .i64 k ∧ mv = .bool b ∧ AcS t w (.slice A t.length c) wr D ∧ D0.sum ≤ D.sum ∧ (b = true → D0.sum < D.sum)) (fun i _ _ => t.length - (intOf i).toNat)
    case atStart => exact ⟨0, D0, false, Nat.zero_le _, rfl, rfl, HD0.out, Nat.le_refl _, fun h => by cases h⟩
    case round =>
      obtain ⟨k, D1, b, hk, rfl, rfl, hD1, hs1, hb1⟩ := hrel
      have HD1 := hide hD1
      have HB1 := hide hb1
      obtain ⟨_, bt1, bd1, hx1⟩ := hD1
      have t0 : wr.cell? ⟨w.heap.size, 0, none⟩ = some (.slice A t.length c) := bt1.cell rfl
      clear hb1
      by_cases hlt : k < t.length
      · obtain ⟨b0, off, rfl, hel⟩ := HC.out (by omega)
        obtain ⟨_, _, v2, c2, hs2⟩ := hel k hlt
        obtain ⟨A2, k2, rfl, _, _, hc2⟩ := hs2.at_
        have HC2 := hide hc2
        have hne := hS.ne _ (List.getElem_mem hlt)
        have hb0 := lt_of_cell c2
        clear hel hs2 hc2
        go_wp2_with fail
        clear t0 bt1 bd1 hx1
        go_loopw [4] (fun mv wr => ∃ (D : List Nat) (b : Bool), mv = .bool b ∧ AcS t w (.slice (some ⟨b0, off, none⟩) t.length c) wr D ∧ D0.sum ≤ D.sum ∧ (b = true → D0.sum < D.sum)) (fun _ wr => t[k].evs.length - numB wr (w.heap.size + 1) k)
        case atStart => exact ⟨D1, b, rfl, HD1.out, hs1, HB1.out⟩
        case round =>
          obtain ⟨D, b', rfl, hD, hs2, hb2⟩ := hrel
          have HD := hide hD
          have HB2 := hide hb2
          obtain ⟨hki, bt, bd, hx⟩ := hD
          have hDl := hki.len
          have HDL := hide hDl
          have hkl : k < D.length := by omega
          have hle := hki.le k hlt
          have hdk : D.getD k 0 = D[k] := getD_lt 0 D hkl
          have HDK := hide hdk
          rw [hdk] at hle
          have t0 : wr.cell? ⟨w.heap.size, 0, none⟩ = some (.slice (some ⟨b0, off, none⟩) t.length c) := bt.cell rfl
          have d0 := bd.cell (rowC_get hkl)
          have hnum := hide (numB_eq bd hkl)
          have c2' := hx.cellAt c2
          have hkl2 : (k : Int) < (t.length : Int) := by omega
          have hk0 : (0 : Int) ≤ (k : Int) := by omega
          clear hki hb2 hdk hDl
          have HSUM := hide (sum_set (d := D[k] + 1) hkl)
          generalize hd : D[k] = d at *
          have HDD := hide hd
          clear hd
          by_cases hdl : d < t[k].evs.length
          · have hdl2 : (d : Int) < (t[k].evs.length : Int) := by omega
            have hd0 : (0 : Int) ≤ (d : Int) := by omega
            obtain ⟨b2, off2, rfl, hel2⟩ := HC2.out (by omega)
            obtain ⟨g0, g1, g2, g3, va, g4, hs4⟩ := hel2 d hdl
            obtain ⟨A5, k5, rfl, _, _, _⟩ := hs4.at_
            have hb2 := lt_of_cell g0
            have f0 := hx.cellAt g0
            have f1 := hx.cellAt g1
            have f2 := hx.cellAt g2
            have f3 := hx.cellAt g3
            have f4 := hx.cellAt g4
            have HEV := hide (evAt_eq hlt hdl)
            have hbw := hx.size
            have lt1 := bt.lt
            have lt2 := bd.lt
            clear hel2 hs4 g0 g1 g2 g3 g4
            generalize t[k].evs[d] = ev at *
            go_wp2_with fail
            go_quiet (fail)
            revert nq; intro n1
            go_wp2_with fail
            have hxn := hx.drewN n1
            have btn := bt.drewN n1
            have bdn := bd.drewN n1
            have t0n : (wr.drewN n1).cell? ⟨w.heap.size, 0, none⟩ = some (.slice (some ⟨b0, off, none⟩) t.length c) := t0
            have d0n : (wr.drewN n1).cell? ⟨w.heap.size + 1, k, none⟩ = some (.int .i64 d) := d0
            have c2n : (wr.drewN n1).cell? ⟨b0, off + k * 3 + 2, none⟩ = some (.slice (some ⟨b2, off2, none⟩) t[k].evs.length k2) := c2'
            have f0n : (wr.drewN n1).cell? ⟨b2, off2 + d * 5, none⟩ = some (.int .i64 ev.kind) := f0
            have f1n : (wr.drewN n1).cell? ⟨b2, off2 + d * 5 + 1, none⟩ = some (.int .i64 ev.peer) := f1
            have f2n : (wr.drewN n1).cell? ⟨b2, off2 + d * 5 + 2, none⟩ = some (.int .i64 ev.msg) := f2
            have f3n : (wr.drewN n1).cell? ⟨b2, off2 + d * 5 + 3, none⟩ = some (.int .i64 ev.time) := f3
            have f4n : (wr.drewN n1).cell? ⟨b2, off2 + d * 5 + 4, none⟩ = some (.slice A5 ev.asg.length k5) := f4
            have l1 : w.heap.size < (wr.drewN n1).heap.size := btn.lt
            have l2 : w.heap.size + 1 < (wr.drewN n1).heap.size := bdn.lt
            have hswr : wr.heap.size = (wr.drewN n1).heap.size := rfl
            clear t0 d0 c2' f0 f1 f2 f3 f4 lt1 lt2 hx bt bd
            generalize wr.drewN n1 = W3 at *
            clear hswr
            have l3 : b0 < W3.heap.size := by have := hxn.size; omega
            have l4 : b2 < W3.heap.size := by have := hxn.size; omega
            go_region_held3 (fun w' => w'.cell? ⟨w.heap.size, 0, none⟩ = some (.slice (some ⟨b0, off, none⟩) t.length c) ∧ w'.cell? ⟨w.heap.size + 1, k, none⟩ = some (.int .i64 d) ∧ w'.cell? ⟨b0, off + k * 3 + 2, none⟩ = some (.slice (some ⟨b2, off2, none⟩) t[k].evs.length k2) ∧ w'.cell? ⟨b2, off2 + d * 5, none⟩ = some (.int .i64 ev.kind) ∧ w'.cell? ⟨b2, off2 + d * 5 + 1, none⟩ = some (.int .i64 ev.peer) ∧ w'.cell? ⟨b2, off2 + d * 5 + 2, none⟩ = some (.int .i64 ev.msg) ∧ w'.cell? ⟨b2, off2 + d * 5 + 3, none⟩ = some (.int .i64 ev.time) ∧ w'.cell? ⟨b2, off2 + d * 5 + 4, none⟩ = some (.slice A5 ev.asg.length k5)) (go_keep) (fail)
            have bt4 := (btn.alloc (.cells #[.int .i64 ev.kind, .int .i64 ev.peer, .int .i64 ev.msg, .int .i64 ev.time, .slice A5 ev.asg.length k5] 95)).drew
            have bd4 := (bdn.alloc (.cells #[.int .i64 ev.kind, .int .i64 ev.peer, .int .i64 ev.msg, .int .i64 ev.time, .slice A5 ev.asg.length k5] 95)).drew
            have be4 := (BoxN.new W3 95 #[.int .i64 ev.kind, .int .i64 ev.peer, .int .i64 ev.msg, .int .i64 ev.time, .slice A5 ev.asg.length k5]).drew
            have hx4 := (hxn.alloc (.cells #[.int .i64 ev.kind, .int .i64 ev.peer, .int .i64 ev.msg, .int .i64 ev.time, .slice A5 ev.asg.length k5] 95)).drew
            clear t0n d0n c2n f0n f1n f2n f3n f4n btn bdn hxn
            generalize W3.heap.size = be0 at *
            generalize (W3.alloc (.cells #[.int .i64 ev.kind, .int .i64 ev.peer, .int .i64 ev.msg, .int .i64 ev.time, .slice A5 ev.asg.length k5] 95)).drew = W4 at *
            have e0 : W4.cell? ⟨be0, 0, none⟩ = some (.int .i64 ev.kind) := be4.cell rfl
            cases z3 : ev.kind == 3
            · have HKS := hide (show KI t (D.set k (d + 1)) by
                have := KI.step HD.out.1 hlt (by rw [HDK.out]; exact hdl) (dir_pre hpair hlt rfl (by rw [HDK.out]; exact hdl) (fun h3 => by rw [HDK.out, HEV.out] at h3; rw [h3] at z3; simp at z3))
                rwa [HDK.out] at this)
              have f0 := bd4.frozen k
              have d0 : (W4).cell? ⟨w.heap.size + 1, k, none⟩ = some (.int .i64 d) := bd4.cell (by rw [← HDD.out]; exact rowC_get hkl)
              go_wp2_with fail
              go_roundw
              case rel =>
                refine ⟨D.set k (d + 1), true, rfl, ⟨HKS.out, ?_, ?_, ?_⟩, by have := HSUM.out; omega, fun _ => by have := HSUM.out; omega⟩
                · exact (bt4).other (by omega) _
                · exact BoxN.setRow1 bd4 d
                · exact Ext.set hx4 (by omega) _
              case measure =>
                rw [hnum.out, numB_eq (BoxN.setRow1 bd4 d) (by simpa using hkl)]
                simp
                omega
            · have t0 : W4.cell? ⟨w.heap.size, 0, none⟩ = some (.slice (some ⟨b0, off, none⟩) t.length c) := bt4.cell rfl
              have e2 : W4.cell? ⟨be0, 2, none⟩ = some (.int .i64 ev.msg) := be4.cell rfl
              go_wp2_with fail
              refine (HFD.out _ _ hx4).mono ?_
              rintro e w5 ⟨rfl, he5⟩
              have hsin : (findV t 2 ev.msg).1 < t.length := by
                unfold findV
                by_cases h0 : 0 < (firstOf t (ids t) 2 ev.msg).2
                · exact (mem_ids.1 (firstOf_mem h0).1).1
                · have hl : ∀ y ∈ ids t, 1 ≤ y.2 := fun y hy => mem_pos hy
                  have := firstOf_none hl h0
                  unfold firstOf; rw [this]; simp; omega
              have HPR := hide (fun (h : (findV t 2 ev.msg).2 ≤ D.getD (findV t 2 ev.msg).1 0) => show KI t (D.set k (d + 1)) by
                have := KI.step HD.out.1 hlt (by rw [HDK.out]; exact hdl) (dir_pre hpair hlt rfl (by rw [HDK.out]; exact hdl) (fun _ => by rw [HDK.out, HEV.out]; exact h))
                rwa [HDK.out] at this)
              unfold idVal
              generalize findV t 2 ev.msg = sv at *
              obtain ⟨sp, si⟩ := sv
              simp only at hsin
              have hspl : sp < D.length := by rw [HDL.out]; exact hsin
              have HGS := hide (getD_lt 0 D hspl)
              have bt5 := bt4.ext he5
              have bd5 := bd4.ext he5
              have hx5 := hx4.trans he5
              have hsp2 : (sp : Int) < (t.length : Int) := by omega
              have l5 := bt5.lt
              have l6 := bd5.lt
              have bt6 := bt5.alloc (.cells #[.int .i64 sp, .int .i64 si] 61)
              have bd6 := bd5.alloc (.cells #[.int .i64 sp, .int .i64 si] 61)
              have bs6 := BoxN.new w5 61 #[.int .i64 sp, .int .i64 si]
              have hx6 := hx5.alloc (.cells #[.int .i64 sp, .int .i64 si] 61)
              go_wp2_with fail
              clear t0 e0 e2 bt4 bd4 be4 hx4 he5 bt5 bd5 hx5
              generalize w5.heap.size = bs0 at *
              generalize w5.alloc (.cells #[.int .i64 sp, .int .i64 si] 61) = W6 at *
              have s0 : W6.cell? ⟨bs0, 0, none⟩ = some (.int .i64 sp) := bs6.cell rfl
              have s1 : W6.cell? ⟨bs0, 1, none⟩ = some (.int .i64 si) := bs6.cell rfl
              have ds := bd6.cell (rowC_get hspl)
              cases hcmp : decide (D[sp] < si)
              · have HKS := hide (HPR.out (by simp at hcmp; rw [HGS.out]; exact hcmp))
                have hcmp2 : decide ((D[sp] : Int) < (si : Int)) = false := by simp at hcmp ⊢; omega
                go_quiet (fail)
                revert nq; intro n2
                have bt7 := bt6.drewN n2
                have bd7 := bd6.drewN n2
                have hx7 := hx6.drewN n2
                have f0 := bd7.frozen k
                have d0 : (W6.drewN n2).cell? ⟨w.heap.size + 1, k, none⟩ = some (.int .i64 d) := bd7.cell (by rw [← HDD.out]; exact rowC_get hkl)
                go_wp2_with fail
                go_roundw
                case rel =>
                  refine ⟨D.set k (d + 1), true, rfl, ⟨HKS.out, ?_, ?_, ?_⟩, by have := HSUM.out; omega, fun _ => by have := HSUM.out; omega⟩
                  · exact (bt7).other (by omega) _
                  · exact BoxN.setRow1 bd7 d
                  · exact Ext.set hx7 (by omega) _
                case measure =>
                  rw [hnum.out, numB_eq (BoxN.setRow1 bd7 d) (by simpa using hkl)]
                  simp
                  omega
              · have hcmp2 : decide ((D[sp] : Int) < (si : Int)) = true := by simp at hcmp ⊢; omega
                go_quiet (fail)
                revert nq; intro n2
                go_wp2_with fail
                go_roundw
                case rel => exact ⟨k + 1, D, b', hlt, by go_num, rfl, ⟨HD.out.1, bt6.drewN _, bd6.drewN _, hx6.drewN _⟩, hs2, HB2.out⟩
                case measure => simp [intOf]; omega
          · go_wp2_with fail
            go_quiet (fail)
            revert nq; intro n1
            go_wp2_with fail
            go_roundw
            case rel => exact ⟨k + 1, D, b', hlt, by go_num, rfl, ⟨HD.out.1, bt.drewN _, bd.drewN _, hx.drewN _⟩, hs2, HB2.out⟩
            case measure => simp [intOf]; omega
      · obtain rfl : k = t.length := by omega
        cases b
        · have hki := HD1.out.1
          have HKI := hide hki
          have hdl0 := hki.len
          clear hki
          go_wp2_with fail
          clear t0
          go_loopw [8] (fun i wr2 => ∃ k : Nat, k ≤ t.length ∧ i = .int .i64 k ∧ (∀ p (hp : p < t.length), p < k → t[p].evs.length ≤ D1.getD p 0) ∧ Ext wr wr2) (fun i _ => t.length - (intOf i).toNat)
          case atStart => exact ⟨0, Nat.zero_le _, rfl, fun p hp h => absurd h (Nat.not_lt_zero _), Ext.refl _⟩
          case round =>
            obtain ⟨k, hk, rfl, hall, hxx⟩ := hrel
            have HALL := hide hall
            clear hall
            have bt2 := bt1.ext hxx
            have bd2 := bd1.ext hxx
            have hx2 := hx1.trans hxx
            have t0 : wr.cell? ⟨w.heap.size, 0, none⟩ = some (.slice A t.length c) := bt2.cell rfl
            by_cases hlt : k < t.length
            · obtain ⟨b0, off, rfl, hel⟩ := HC.out (by omega)
              obtain ⟨_, _, v2, c2, hs2⟩ := hel k hlt
              obtain ⟨A2, k2, rfl, _, _, hc2⟩ := hs2.at_
              have c2' := hx2.cellAt c2
              have hkl : k < D1.length := by omega
              have d0 := bd2.cell (rowC_get hkl)
              have HG := hide (getD_lt 0 D1 hkl)
              have hkl2 : (k : Int) < (t.length : Int) := by omega
              have hk0 : (0 : Int) ≤ (k : Int) := by omega
              clear hel hs2 hc2 c2
              by_cases hdl : D1[k] < t[k].evs.length
              · have hdc : decide ((D1[k] : Int) < (t[k].evs.length : Int)) = true := by simp; omega
                go_wp2_with fail
                go_quiet (fail)
                revert nq; intro n1
                go_wp2_with fail
                go_ret
                exact ⟨false, rfl, (fun h => by cases h), hx2.drewN _⟩
              · have hdc : decide ((D1[k] : Int) < (t[k].evs.length : Int)) = false := by simp; omega
                have HN := hide (show t[k].evs.length ≤ D1.getD k 0 by rw [HG.out]; omega)
                go_wp2_with fail
                go_quiet (fail)
                revert nq; intro n1
                go_wp2_with fail
                go_roundw
                case rel => exact ⟨k + 1, hlt, by go_num, fun p hp h => (Nat.lt_succ_iff_lt_or_eq.1 h).elim (HALL.out p hp) (fun e => by subst e; exact HN.out), hxx.drewN _⟩
                case measure => simp [intOf]; omega
            · obtain rfl : k = t.length := by omega
              go_wp2_with fail
              go_ret
              exact ⟨true, rfl, (fun _ => KI.all HKI.out fun p hp => HALL.out p hp hp), hx2⟩
        · go_wp2_with fail
          go_roundw
          case rel => exact ⟨D1, HD1.out⟩
          case measure => rw [hm0.out]; exact hms.out D1 _ HD1.out (HB1.out rfl)
end Go.Proofs.Ytiiflkcebikecaa

/- More of slices that a call owns. No program, no condition. -/
namespace Go.Proofs.Ytiiflkcebikecaa
open Go.RowKit
set_option linter.unusedVariables false

section
variable {size : Nat} {e : TypeId} {w w' : World} {B : Nat} {v v' : Value} {n : Nat} {cs : List Value}
/-- Two slices of the call's own whose elements are of different types share no block. -/
theorem OwnC.apart {size' n' : Nat} {e' : TypeId} {B' : Nat} {v' : Value} {cs' : List Value} (h : OwnC size e w B v n cs) (h' : OwnC size' e' w B' v' n' cs') (hne : e ≠ e') : v.ownBlock = none ∨ v.ownBlock ≠ v'.ownBlock := by
  rcases h'.2 with ⟨rfl, _⟩ | ⟨g, off, cap, cur, rfl, _, hbox, _⟩
  · cases hv : v.ownBlock
    · exact .inl rfl
    · right; simp [Value.ownBlock]
  · exact .inr (h.not_box hbox hne.symm)
/-- 's[k:]', k ≤ len(s), as the walk asks for it. -/
theorem OwnC.cutL {P : Program} {t : TypeId} {z : Value} {bytes : Nat} (ht : P.underlying t = some (.slice e)) (hs : ∃ i : TypeInfo, P.info? e = some i ∧ i.zero = some z ∧ i.size = size ∧ i.bytes = bytes) {A : Option Addr} {c : Nat} (h : OwnC size e w B (.slice A n c) n cs) (k : Nat) {kI : Int} (hkI : kI = k) (hk : k ≤ n) :
    ∃ A', (∀ W, (Instr.sliceAt t (.slice A n c) (some (.int .i64 kI)) none none).run P W = .ok (.slice A' (n - k) (c - k)) W) ∧ OwnC size e w B (.slice A' (n - k) (c - k)) (n - k) (cs.drop (k * size)) := by
  obtain ⟨i, hi, _, hsz, _⟩ := hs
  obtain ⟨_, _, hv, hnc, _⟩ := h.form
  injection hv with _ _ hc
  subst hc; subst hkI
  refine ⟨if c = k then A else A.map (·.add (k * size)), fun W => ?_, h.drop k hk (fun b off hA => ?_) (fun hA => ?_)⟩
  · have b2 : ∀ (code : BoundsCode) (W : World), (Instr.sliceBound (.int .i64 (k : Int)) n code).run P W = .ok k W := fun code W => by
      rw [run_sliceBound W .i64 (k : Int) n code (by omega) (by omega)]; simp
    simp [Instr.sliceAt, Instr.slice, Instr.sliceBounds, run_underlying ht, sizeOf, typeInfo, hi, hsz, b2]
  · by_cases hck : c = k
    · rw [if_pos hck]; exact .inr ⟨hck, rfl⟩
    · rw [if_neg hck, hA]; exact .inl (by simp [addr_lit])
  · rw [hA]; split <;> rfl
end
end Go.Proofs.Ytiiflkcebikecaa

/- Walks of the reference: Past. No condition but on lengths. -/
namespace Go.Proofs.Ytiiflkcebikecaa
open Go.RowKit
set_option linter.unusedVariables false

theorem elRB : ElS Try.prog 129 128 (.slice none 0 0) 1 24 where
  ht := Try.underlying129
  inf := by
    have h : (Try.prog.info? 128).map (fun i => (i.zero, i.size, i.bytes)) = some (some (.slice none 0 0), 1, 24) := by kernel_rfl
    obtain ⟨i, hi, he⟩ := Option.map_eq_some_iff.1 h
    injection he with h1 h2
    injection h2 with h2 h3
    exact ⟨i, hi, h1, h2, h3⟩
  zs := by rfl
  pos := by decide
  few := by decide
theorem infoBool : ∃ i : TypeInfo, Try.prog.info? 4 = some i ∧ i.zero = some (.bool false) ∧ i.size = 1 ∧ i.bytes = 1 := by
  have h : (Try.prog.info? 4).map (fun i => (i.zero, i.size, i.bytes)) = some (some (.bool false), 1, 1) := by kernel_rfl
  obtain ⟨i, hi, he⟩ := Option.map_eq_some_iff.1 h
  injection he with h1 h2
  injection h2 with h2 h3
  exact ⟨i, hi, h1, h2, h3⟩
theorem run_makeBools (p n : Nat) (hn : n ≤ 1000000) (w : World) : (Instr.makeSlice 128 (.int .i64 ((n : Int) + 1)) (.int .i64 ((n : Int) + 1))).run Try.prog w = .ok (.slice (some ⟨w.heap.size, 0, none⟩) (n + 1) (n + 1)) (w.alloc (.cells (rowM [] p (n + 1)) 4)) := by
  obtain ⟨i, hi, hz, hs, hb⟩ := infoBool
  rw [← rowM_zero]
  have := run_makeN (P := Try.prog) Try.underlying128 hi hz hs rfl (n + 1) (by rw [hb]; omega) (by omega) w
  rw [show ((n + 1 : Nat) : Int) = (n : Int) + 1 from by push_cast; rfl] at this
  exact this
theorem slc_one {w : World} {g : Nat} (e : TypeId) (v : Value) (hg : g = w.heap.size) : SlC 1 (w.alloc (.cells #[v] e)) (.slice (some ⟨g, 0, none⟩) 1 1) 1 [v] := by
  have := (OwnC.madeAt (B := 0) (e := e) (n := 1) (size := 1) hg #[v] (Nat.zero_le _) (by simp [maxLen]) rfl).slc
  simpa using this
abbrev Grid (W : World) (B : Nat) (v : Value) (gs S : List (Nat × Nat)) : Prop := GridM 128 4 W B v gs S
/-- The rows have the lengths of the first processes. -/
def GLen (t : Tr) (gs : List (Nat × Nat)) (k : Nat) : Prop := gs.length = k ∧ ∀ p (hp : p < gs.length) (ht : p < t.length), gs[p].2 = t[p].evs.length + 1
def PastPost (t : Tr) (x : Nat × Nat) (w : World) (e : Ending) (w' : World) : Prop := ∃ v gs S, e = .returned v ∧ Grid w' w.heap.size v gs S ∧ GLen t gs t.length ∧ (∀ y ∈ ids t, y ∈ S ↔ Hb t y x) ∧ Ext w w'
theorem Grid.grow {W W' : World} {B n g0 : Nat} {v v' : Value} {gs : List (Nat × Nat)} (h : Grid W B v gs []) (hr : BoxN W g0 4 (rowM [] gs.length n)) (hB : B ≤ g0) (hnew : ∀ p (hp : p < gs.length), gs[p].1 ≠ g0)
    (hv : OwnC 1 128 W' B v' (gs.length + 1) (gs.map rowV ++ [rowV (g0, n)])) (hg : Grw W v W' v') : Grid W' B v' (gs ++ [(g0, n)]) [] := by
  have hne : ∀ (b : Nat) (cs : Array Value), BoxN W b 4 cs → some b ≠ v.ownBlock := fun b cs hb e => h.out.not_box hb (by decide) e.symm
  refine ⟨?_, ?_, ?_⟩
  · rw [List.length_append, List.map_append]; exact hv
  · intro p hp
    rw [List.length_append, List.length_singleton] at hp
    by_cases hlt : p < gs.length
    · rw [List.getElem_append_left hlt]
      exact ⟨(h.row p hlt).1.kept hg.1 (hne _ _ (h.row p hlt).1), (h.row p hlt).2⟩
    · obtain rfl : p = gs.length := by omega
      rw [List.getElem_append_right (Nat.le_refl _)]
      simp only [Nat.sub_self, List.getElem_singleton]
      exact ⟨hr.kept hg.1 (hne _ _ hr), hB⟩
  · intro p q hp hq he
    rw [List.length_append, List.length_singleton] at hp hq
    by_cases h1 : p < gs.length
    · by_cases h2 : q < gs.length
      · rw [List.getElem_append_left h1, List.getElem_append_left h2] at he
        exact h.nod p q h1 h2 he
      · obtain rfl : q = gs.length := by omega
        rw [List.getElem_append_left h1, List.getElem_append_right (Nat.le_refl _)] at he
        simp only [Nat.sub_self, List.getElem_singleton] at he
        exact absurd he (hnew p h1)
    · obtain rfl : p = gs.length := by omega
      by_cases h2 : q < gs.length
      · rw [List.getElem_append_left h2, List.getElem_append_right (Nat.le_refl _)] at he
        simp only [Nat.sub_self, List.getElem_singleton] at he
        exact absurd he.symm (hnew q h2)
      · omega
theorem Grid.marks {t : Tr} {W : World} {B : Nat} {v : Value} {gs S : List (Nat × Nat)} (h : Grid W B v gs S) (hl : GLen t gs t.length) (hn : S.Nodup) (hs : ∀ y ∈ S, y ∈ ids t) : marks t gs W = S.length :=
  marks_eq h (fun y hy => by
    obtain ⟨hp, _, h2⟩ := mem_ids.1 hy
    have h3 : y.1 < gs.length := by rw [hl.1]; exact hp
    exact ⟨h3, by rw [hl.2 y.1 h3 hp]; omega⟩) hn hs
theorem rowsV_one (gs : List (Nat × Nat)) : ∀ u ∈ gs.map rowV, u.oneCell' = true := by
  intro u hu
  obtain ⟨q, _, rfl⟩ := List.mem_map.1 hu
  rfl

set_option maxRecDepth 100000 in
set_option maxHeartbeats 8000000 in
theorem Past_any (u : Value) (t : Tr) (p i : Nat) (w : World) (hx : (p, i) ∈ ids t) (hP : Paired t) (hN : (ids t).length ≤ 1000000) (hS : Small t) (hs : SlR 3 RPr w u t) :
    Calls Try.prog 113 #[.agg #[u], idVal (p, i)] w fun e w' => PastPost t (p, i) w e w' := by
  have HDI := hide (fun (y : Nat × Nat) (hy : y ∈ ids t) w' (he : Ext w w') => Directly_any u t y.1 y.2 w' hy hS (hs.ext RPr.keeps he))
  have HMK := hide (fun q n (hn : n ≤ 1000000) => run_makeBools q n hn)
  obtain ⟨A, c, rfl, _, hcm, hc⟩ := hs.at_
  have HC := hide hc
  have hnp := hS.np
  clear hs hc
  unfold idVal at *
  go_enter Try.func113, Try.ntmps113
  go_wp2_with fail
  have bt0 : BoxN ((w.alloc (.cells #[.slice A t.length c] 24)).alloc (.cells #[.int .i64 p, .int .i64 i] 61)) w.heap.size 24 #[.slice A t.length c] := (BoxN.new w _ _).alloc _
  have bx0 : BoxN ((w.alloc (.cells #[.slice A t.length c] 24)).alloc (.cells #[.int .i64 p, .int .i64 i] 61)) (w.heap.size + 1) 61 #[.int .i64 p, .int .i64 i] := BoxN.newAt _ _ (by simp)
  have hx0 : Ext w ((w.alloc (.cells #[.slice A t.length c] 24)).alloc (.cells #[.int .i64 p, .int .i64 i] 61)) := ((Ext.refl w).alloc _).alloc _
  generalize (w.alloc (.cells #[.slice A t.length c] 24)).alloc (.cells #[.int .i64 p, .int .i64 i] 61) = W1 at *
  go_loopw [6, 5] (fun j v wr => ∃ (k : Nat) (gs : List (Nat × Nat)), k ≤ t.length ∧ j = .int .i64 k ∧ GLen t gs k ∧ Grid wr W1.heap.size v gs [] ∧ Ext W1 wr) (fun j _ _ => t.length - (intOf j).toNat)
  case atStart => exact ⟨0, [], Nat.zero_le _, rfl, ⟨rfl, fun p hp => absurd hp (by simp)⟩, ⟨OwnC.nil _ _ _ _, fun p hp => absurd hp (by simp), fun p q hp => absurd hp (by simp)⟩, Ext.refl _⟩
  case round =>
    obtain ⟨k, gs, hk, rfl, hgl, hgr, hxr⟩ := hrel
    have HGL := hide hgl
    have HGR := hide hgr
    have bt := bt0.ext hxr
    have bx := bx0.ext hxr
    have hx1 := hx0.trans hxr
    have t0 : wr.cell? ⟨w.heap.size, 0, none⟩ = some (.slice A t.length c) := bt.cell rfl
    have lt1 := bt.lt
    have lt2 := bx.lt
    by_cases hlt : k < t.length
    · obtain ⟨b0, off, rfl, hel⟩ := HC.out (by omega)
      obtain ⟨_, _, v2, c2, hs2⟩ := hel k hlt
      obtain ⟨A2, k2, rfl, _, _, hc2⟩ := hs2.at_
      have hne := hS.ne _ (List.getElem_mem hlt)
      have c2' := hx1.cellAt c2
      have hmk := HMK.out k t[k].evs.length hne
      have hgl1 := hgl.1
      have HV := hide hgr.out.form
      clear hel hs2 hc2 c2 hgl hgr
      go_wp2_with (at_builtin; go_must (refine wpl_appC (v := u5) (n := gs.length) (.tmp 18) (.tmp 28) elRB rfl rfl rfl rfl (OwnC.alloc (OwnC.alloc HGR.out.out _) _) (slc_one _ _ (by simp)) (by simp [Value.oneCell']) (by omega) (by have := hxr.size; simp; omega) ?_; intro v1 w2 hown1 hgr1 hbl1))
      go_roundw
      case rel =>
        have hW1 := hxr.size
        refine ⟨k + 1, gs ++ [(wr.heap.size, t[k].evs.length + 1)], hlt, by go_num, ⟨by simp [hgl1], ?_⟩, Grid.grow (W := (wr.alloc (.cells (rowM [] k (t[k].evs.length + 1)) 4)).alloc (.cells #[.slice (some ⟨wr.heap.size, 0, none⟩) (t[k].evs.length + 1) (t[k].evs.length + 1)] 128)) ((HGR.out.alloc _).alloc _) (by rw [hgl1]; exact (BoxN.new _ _ _).alloc _) hW1 (fun q hq e => ?_) hown1 hgr1, Ext.more ((hxr.alloc _).alloc _) hbl1⟩
        · intro q hq ht
          rw [List.length_append, List.length_singleton] at hq
          by_cases hlq : q < gs.length
          · rw [List.getElem_append_left hlq]; exact HGL.out.2 q hlq ht
          · obtain rfl : q = gs.length := by omega
            rw [List.getElem_append_right (Nat.le_refl _)]
            simp only [Nat.sub_self, List.getElem_singleton, hgl1]
        · have := (HGR.out.row q hq).1.lt
          omega
      case measure => simp [intOf]; omega
    · obtain rfl : k = t.length := by omega
      have x0 : wr.cell? ⟨w.heap.size + 1, 0, none⟩ = some (.int .i64 p) := bx.cell rfl
      have x1 : wr.cell? ⟨w.heap.size + 1, 1, none⟩ = some (.int .i64 i) := bx.cell rfl
      have hW1 := hxr.size
      clear hgl hgr
      go_wp2_with fail
      refine (HDI.out (p, i) hx _ hx1).mono ?_
      rintro e w2 ⟨v7, rfl, ho7, he2⟩
      have HST := hide (show ∃ S R, PaI t (p, i) S R ∧ Grid w2 W1.heap.size u5 gs S ∧ OwnIds w2 W1.heap.size v7 R ∧ BoxN w2 w.heap.size 24 #[.slice A t.length c] ∧ Ext W1 w2 ∧ R.length + 3 * ((ids t).length - S.length) ≤ 3 * (ids t).length + 2 from
        ⟨[], _, PaI.start hP hx, HGR.out.ext he2, OwnC.mono ho7 hW1, bt.ext he2, hxr.trans he2, by have := backL_len t (p, i); simp; omega⟩)
      clear t0 x0 x1 bt bx hx1 he2 ho7
      go_wp2_with fail
      go_loopw [7] (fun v wr => ∃ S R, PaI t (p, i) S R ∧ Grid wr W1.heap.size u5 gs S ∧ OwnIds wr W1.heap.size v R ∧ BoxN wr w.heap.size 24 #[.slice A t.length c] ∧ Ext W1 wr ∧ R.length + 3 * ((ids t).length - S.length) ≤ 3 * (ids t).length + 2) (fun v wr => 3 * ((ids t).length - marks t gs wr) + lenV v)
      case atStart => exact HST.out
      case round =>
        obtain ⟨S, R, hPa, hgr, ho, btr, hxr2, hbd⟩ := hrel
        have HPA := hide hPa
        have HGR2 := hide hgr
        have HO := hide ho
        have hx2 := hx0.trans hxr2
        have hmk := hide (Grid.marks hgr HGL.out hPa.nod (fun y hy => (hPa.s y hy).1))
        cases R with
        | nil =>
          obtain ⟨A7, c7, rfl, _, _⟩ := ho.form
          clear hPa hgr ho
          go_wp2_with fail
          go_ret
          exact ⟨_, gs, S, rfl, ⟨OwnC.mono HGR2.out.out hx0.size, fun q hq => ⟨(HGR2.out.row q hq).1, Nat.le_trans hx0.size (HGR2.out.row q hq).2⟩, HGR2.out.nod⟩, HGL.out, HPA.out.all, hx2⟩
        | cons y R' =>
          obtain ⟨yp, yi⟩ := y
          obtain ⟨g7, off7, c7, rfl, h71, h72, h73, h74, h75⟩ := ho.at_ (by simp)
          obtain ⟨y0, y1⟩ := h75 0 (yp, yi) rfl
          simp only [List.length_cons, Nat.zero_mul, Nat.add_zero] at h71 y0 y1
          obtain ⟨hyin, hyhb⟩ := hPa.r (yp, yi) (by simp)
          have HYHB := hide hyhb
          have HYIN := hide hyin
          have HBD := hide hbd
          obtain ⟨A8, hcut, ho8⟩ := OwnC.cutL elId.ht elId.inf (A := some ⟨g7, off7, none⟩) (c := c7) ho 1 (kI := 1) rfl (by simp)
          have hdrop : (idsC ((yp, yi) :: R')).drop (1 * 2) = idsC R' := rfl
          rw [hdrop] at ho8
          simp only [List.length_cons, Nat.add_sub_cancel] at hcut ho8
          have HO8 := hide (show OwnIds wr W1.heap.size (.slice A8 R'.length (c7 - 1)) R' from ho8)
          obtain ⟨hyp', hy1, hy2⟩ := mem_ids.1 hyin
          have hyp : yp < t.length := hyp'
          have hyg : yp < gs.length := by rw [HGL.out.1]; exact hyp
          have hgl2 : gs[yp].2 = t[yp].evs.length + 1 := HGL.out.2 yp hyg hyp
          have hyg2 : yi < gs[yp].2 := by rw [hgl2]; simp at hy2; omega
          have hgn : gs[yp].2 ≤ 1000001 := by rw [hgl2]; have := hS.ne _ (List.getElem_mem hyp); omega
          obtain ⟨gO, offO, capO, curO, rfl, hBO, hbO, hO1, hO2, hO3, hcO⟩ := HGR2.out.out.open_ (by omega)
          have o0 : wr.cell? ⟨gO, offO + yp, none⟩ = some (.slice (some ⟨gs[yp].1, 0, none⟩) gs[yp].2 gs[yp].2) := hbO.cell (hcO yp _ (by rw [List.getElem?_map, List.getElem?_eq_getElem hyg]; rfl))
          have r0 : wr.cell? ⟨gs[yp].1, yi, none⟩ = some (.bool (decide ((yp, yi) ∈ S))) := (HGR2.out.row yp hyg).1.cell (rowM_get hyg2)
          have HROW := hide (HGR2.out.row yp hyg)
          have hlO := hbO.lt
          have hlR := (HGR2.out.row yp hyg).1.lt
          have HGLN : Hx (gs.length = t.length) := hide HGL.out.1
          have hi1 : (yp : Int) < (gs.length : Int) := by omega
          have hi2 : (0 : Int) ≤ (yp : Int) := by omega
          have hi3 : (yi : Int) < (gs[yp].2 : Int) := by omega
          have hi4 : (0 : Int) ≤ (yi : Int) := by omega
          have hw1 := hxr2.size
          clear hPa hgr ho h75 ho8 hdrop hgl2 hyin hyhb hbd hbO hcO hO3
          unfold maxLen at h72 hO2
          generalize hgb : gs[yp].1 = gb at *
          generalize hgn2 : gs[yp].2 = gn at *
          have HGB := hide hgb
          have HGN := hide hgn2
          clear hgb hgn2
          go_wp2_with fail
          have by3 := hide (BoxN.new wr 61 #[.int .i64 yp, .int .i64 yi])
          have bt3 := hide (btr.alloc (.cells #[.int .i64 yp, .int .i64 yi] 61))
          have HG3 := hide (HGR2.out.alloc (.cells #[.int .i64 yp, .int .i64 yi] 61))
          have HO3 := hide (OwnC.alloc HO8.out (.cells #[.int .i64 yp, .int .i64 yi] 61))
          have HROW3 := hide (HROW.out.1.alloc (.cells #[.int .i64 yp, .int .i64 yi] 61))
          have hx3 := hide (hxr2.alloc (.cells #[.int .i64 yp, .int .i64 yi] 61))
          have o3 : (wr.alloc (.cells #[.int .i64 yp, .int .i64 yi] 61)).cell? ⟨gO, offO + yp, none⟩ = some (.slice (some ⟨gb, 0, none⟩) gn gn) := ((Ext.refl wr).alloc _).cellAt o0
          have y2 : (wr.alloc (.cells #[.int .i64 yp, .int .i64 yi] 61)).cell? ⟨wr.heap.size, 0, none⟩ = some (.int .i64 yp) := by3.out.cell rfl
          have y3 : (wr.alloc (.cells #[.int .i64 yp, .int .i64 yi] 61)).cell? ⟨wr.heap.size, 1, none⟩ = some (.int .i64 yi) := by3.out.cell rfl
          have r3 : (wr.alloc (.cells #[.int .i64 yp, .int .i64 yi] 61)).cell? ⟨gb, yi, none⟩ = some (.bool (decide ((yp, yi) ∈ S))) := HROW3.out.cell (rowM_get hyg2)
          have hsz : (wr.alloc (.cells #[.int .i64 yp, .int .i64 yi] 61)).heap.size = wr.heap.size + 1 := by simp
          have hy3 : wr.heap.size < (wr.alloc (.cells #[.int .i64 yp, .int .i64 yi] 61)).heap.size := by omega
          have hO3l : gO < (wr.alloc (.cells #[.int .i64 yp, .int .i64 yi] 61)).heap.size := by omega
          have hR3l : gb < (wr.alloc (.cells #[.int .i64 yp, .int .i64 yi] 61)).heap.size := by omega
          clear y0 y1 btr hxr2 hx2 o0 r0 hsz hcut
          generalize (wr.alloc (.cells #[.int .i64 yp, .int .i64 yi] 61)) = W3 at *
          generalize wr.heap.size = gy at *
          cases hms : decide ((yp, yi) ∈ S)
          · have HMS : Hx ((yp, yi) ∉ S) := hide (of_decide_eq_false hms)
            rw [hms] at r3
            clear hms
            go_quiet (fail)
            revert nq; intro n1
            go_wp2_with fail
            replace by3 := hide (by3.out.drewN n1)
            replace bt3 := hide (bt3.out.drewN n1)
            replace HG3 := hide (HG3.out.drewN n1)
            replace HO3 := hide (OwnC.drewN HO3.out n1)
            replace HROW3 := hide (HROW3.out.drewN n1)
            replace hx3 := hide (hx3.out.drewN n1)
            have o4 : (W3.drewN n1).cell? ⟨gO, offO + yp, none⟩ = some (.slice (some ⟨gb, 0, none⟩) gn gn) := o3
            have y4 : (W3.drewN n1).cell? ⟨gy, 0, none⟩ = some (.int .i64 yp) := y2
            have y5 : (W3.drewN n1).cell? ⟨gy, 1, none⟩ = some (.int .i64 yi) := y3
            have r4 : (W3.drewN n1).cell? ⟨gb, yi, none⟩ = some (.bool false) := r3
            have hz1 : gy < (W3.drewN n1).heap.size := hy3
            have hz2 : gO < (W3.drewN n1).heap.size := hO3l
            have hz3 : gb < (W3.drewN n1).heap.size := hR3l
            clear o3 y2 y3 r3 hy3 hO3l hR3l
            generalize W3.drewN n1 = W4 at *
            have fr := HROW3.out.frozen yi
            go_region
            have HG5 := hide (show Grid (W4.setCell ⟨gb, yi, none⟩ (.bool true)).drew W1.heap.size (.slice (some ⟨gO, offO, none⟩) gs.length capO) gs (S ++ [(yp, yi)]) from by
              have := GridM.mark HG3.out (by decide) (i := yi) hyg
              rw [HGB.out] at this; exact this.ext ((Ext.refl _).drew))
            have hwb := bt0.lt
            have hgbB := HROW.out.2
            have HO5 := hide (show OwnIds (W4.setCell ⟨gb, yi, none⟩ (.bool true)).drew W1.heap.size _ R' from OwnC.drew (OwnC.other HO3.out (HO3.out.not_box HROW3.out (by decide)) _))
            have by5 := hide (BoxN.drew (by3.out.other (B' := gb) (j := yi) (by omega) (.bool true)))
            have bt5 := hide (BoxN.drew (bt3.out.other (B' := gb) (j := yi) (by omega) (.bool true)))
            have hx5 := hide (Ext.drew (Ext.set (j := yi) hx3.out hgbB (.bool true)))
            have hwx5 := hide (hx0.trans hx5.out)
            have y6 : ((W4.setCell ⟨gb, yi, none⟩ (.bool true)).drew).cell? ⟨gy, 0, none⟩ = some (.int .i64 yp) := by5.out.cell rfl
            have y7 : ((W4.setCell ⟨gb, yi, none⟩ (.bool true)).drew).cell? ⟨gy, 1, none⟩ = some (.int .i64 yi) := by5.out.cell rfl
            have t5 : ((W4.setCell ⟨gb, yi, none⟩ (.bool true)).drew).cell? ⟨w.heap.size, 0, none⟩ = some (.slice A t.length c) := bt5.out.cell rfl
            have HMJ := hide (PaI.mark HPA.out HMS.out)
            clear o4 y4 y5 r4 hz1 hz2 hz3 fr HG3 HO3 by3 bt3 hx3 HROW3
            generalize (W4.setCell ⟨gb, yi, none⟩ (.bool true)).drew = W5 at *
            go_wp2_with fail
            refine (HDI.out (yp, yi) HYIN.out _ hwx5.out).mono ?_
            rintro e w6 ⟨v8, rfl, ho8, he6⟩
            obtain ⟨A9, c9, rfl, h91, h92⟩ := OwnC.form ho8
            have hap : ∀ k, (Value.slice A8 R'.length (c7 - 1)).ownBlock = some k → (Value.slice A9 (backL t (yp, yi)).length c9).ownBlock ≠ some k := by
              intro k h1 h2
              have := (OwnC.blk HO5.out k h1).2
              have := (OwnC.blk ho8 k h2).1
              omega
            have HST2 := hide (show ∃ k R2, k ≤ (backL t (yp, yi)).length ∧ (Value.int .i64 0) = .int .i64 (k : Nat) ∧ PaJ t (p, i) (yp, yi) (S ++ [(yp, yi)]) R2 k ∧ Grid w6 W1.heap.size (.slice (some ⟨gO, offO, none⟩) gs.length capO) gs (S ++ [(yp, yi)]) ∧ OwnIds w6 W1.heap.size (.slice A8 R'.length (c7 - 1)) R2 ∧ OwnIds w6 0 (.slice A9 (backL t (yp, yi)).length c9) (backL t (yp, yi)) ∧ (∀ k, (Value.slice A8 R'.length (c7 - 1)).ownBlock = some k → (Value.slice A9 (backL t (yp, yi)).length c9).ownBlock ≠ some k) ∧ BoxN w6 w.heap.size 24 #[.slice A t.length c] ∧ Ext W1 w6 ∧ R2.length ≤ R'.length + k from
              ⟨0, R', Nat.zero_le _, rfl, HMJ.out, HG5.out.ext he6, OwnC.ext HO5.out he6, OwnC.mono ho8 (Nat.zero_le _), hap, bt5.out.ext he6, hx5.out.trans he6, Nat.le_refl _⟩)
            have hbl := hide (backL_len t (yp, yi))
            clear ho8 hap y6 y7 t5 he6
            unfold maxLen at h92
            go_wp2_with fail
            go_loopw [10, 7] (fun j v wr => ∃ k R2, k ≤ (backL t (yp, yi)).length ∧ j = .int .i64 (k : Nat) ∧ PaJ t (p, i) (yp, yi) (S ++ [(yp, yi)]) R2 k ∧ Grid wr W1.heap.size (.slice (some ⟨gO, offO, none⟩) gs.length capO) gs (S ++ [(yp, yi)]) ∧ OwnIds wr W1.heap.size v R2 ∧ OwnIds wr 0 (.slice A9 (backL t (yp, yi)).length c9) (backL t (yp, yi)) ∧ (∀ k, v.ownBlock = some k → (Value.slice A9 (backL t (yp, yi)).length c9).ownBlock ≠ some k) ∧ BoxN wr w.heap.size 24 #[.slice A t.length c] ∧ Ext W1 wr ∧ R2.length ≤ R'.length + k) (fun j _ _ => (backL t (yp, yi)).length - (intOf j).toNat)
            case atStart => exact HST2.out
            case round =>
              obtain ⟨k, R2, hk, rfl, hJ, hgr, ho, hd2, hne, hb4, hx4, hlen⟩ := hrel
              have HJ := hide hJ
              have HG6 := hide hgr
              have HO6 := hide ho
              have HD6 := hide hd2
              have HNE := hide hne
              have HB6 := hide hb4
              have HX6 := hide hx4
              have HLEN := hide hlen
              obtain ⟨A10, c10, rfl, h101, h102⟩ := OwnC.form ho
              by_cases hlt : k < (backL t (yp, yi)).length
              · obtain ⟨⟨za, zb⟩, hz⟩ : ∃ z, (backL t (yp, yi))[k]? = some z := ⟨_, List.getElem?_eq_getElem hlt⟩
                obtain ⟨g2, off2, cap2, hv, hc2, _, _, hg2l, hcells⟩ := hd2.at_ (by omega)
                injection hv with hA2 _ hc22
                subst hA2; subst hc22
                obtain ⟨e0, e1⟩ := hcells k _ hz
                have HZ := hide hz
                clear hcells hz hJ hgr ho hd2 hne hb4 hx4 hlen
                unfold maxLen at h102
                go_wp2_with (at_builtin; go_must (refine wpl_appC (v := .slice A10 R2.length c10) (n := R2.length) (.tmp 67) (.tmp 72) elId rfl rfl rfl rfl (OwnC.alloc HO6.out _) (SlC.lit (x := (za, zb)) _ (by simp) rfl rfl) (idsC_one _) (by have h1 := HLEN.out; have h2 := HBD.out; have h3 := hbl.out; rw [List.length_cons] at h2; omega) (by have := HX6.out.size; simp; omega) ?_; intro v1 w7 hown1 hgr1 hbl1))
                go_roundw
                case rel =>
                  have ho7 := hide (OwnIds.snoc hown1 rfl)
                  have hne7 : (Value.slice A10 R2.length c10).ownBlock ≠ some gO := fun e => by
                    rcases OwnC.apart HG6.out.out HO6.out (by decide) with h | h
                    · cases h
                    · exact h (by rw [e]; rfl)
                  have hrow7 : ∀ q (hq : q < gs.length), some gs[q].1 ≠ (Value.slice A10 R2.length c10).ownBlock := fun q hq e => HO6.out.not_box (HG6.out.row q hq).1 (by decide) e.symm
                  have hbw : some w.heap.size ≠ (Value.slice A10 R2.length c10).ownBlock := fun e => by
                    have h1 := (HO6.out.blk _ e.symm).1
                    omega
                  have hmw : ∀ k, (Value.slice (some ⟨g2, off2, none⟩) (backL t (yp, yi)).length c9).ownBlock = some k → k < wr.heap.size := fun k hk => (OwnC.blk HD6.out k hk).2
                  refine ⟨k + 1, R2 ++ [(za, zb)], hlt, by go_num, HJ.out.push hP HZ.out, GridM.kept (HG6.out.alloc _) hgr1.1 (.inl fun e => hne7 (by rw [← e]; rfl)) hrow7, ho7.out, OwnC.kept (OwnC.alloc HD6.out _) hgr1.1 (.inr fun e => ?_), fun k hk => ?_, (HB6.out.alloc _).kept hgr1.1 hbw, Ext.more (HX6.out.alloc _) hbl1, by have := HLEN.out; simp; omega⟩
                  · exact HNE.out _ e.symm rfl
                  · rcases hgr1.2 k hk with h | h
                    · exact HNE.out k h
                    · intro e
                      have := hmw k e
                      simp at h; omega
                case measure => simp [intOf]; omega
              · obtain rfl : k = (backL t (yp, yi)).length := by omega
                clear hJ hgr ho hd2 hne hb4 hx4 hlen
                unfold maxLen at h102
                go_wp2_with fail
                have hPI := hide (HJ.out.fin hP (Nat.le_refl _))
                go_roundw
                case rel =>
                  refine ⟨_, R2, hPI.out, HG6.out, HO6.out, HB6.out, HX6.out, ?_⟩
                  have h1 := HLEN.out
                  have h2 := HBD.out
                  have h3 := hbl.out
                  have h4 := hPI.out.few
                  rw [List.length_append] at h4 ⊢
                  rw [List.length_cons] at h2
                  rw [List.length_singleton] at h4 ⊢
                  omega
                case measure =>
                  rw [hmk.out, Grid.marks HG6.out HGL.out hPI.out.nod (fun y hy => (hPI.out.s y hy).1)]
                  have h1 := HLEN.out
                  have h3 := hbl.out
                  have h4 := hPI.out.few
                  rw [List.length_append] at h4 ⊢
                  rw [List.length_singleton] at h4 ⊢
                  simp only [lenV, List.length_cons]
                  omega
          · have HMS : Hx ((yp, yi) ∈ S) := hide (of_decide_eq_true hms)
            rw [hms] at r3
            clear hms
            go_quiet (fail)
            revert nq; intro n1
            go_wp2_with fail
            go_roundw
            case rel =>
              exact ⟨S, R', PaI.skip HPA.out HMS.out, HG3.out.drewN n1, OwnC.drewN HO3.out n1, bt3.out.drewN n1, hx3.out.drewN n1, by have := HBD.out; simp at this; omega⟩
            case measure =>
              rw [hmk.out, Grid.marks (HG3.out.drewN n1) HGL.out HPA.out.nod (fun y hy => (HPA.out.s y hy).1)]
              simp [lenV]
end Go.Proofs.Ytiiflkcebikecaa

/- Walks of the reference: paired. No condition but on lengths. -/
namespace Go.Proofs.Ytiiflkcebikecaa
open Go.RowKit
set_option linter.unusedVariables false

theorem findV_is {t : Tr} {k m : Int} {x : Nat × Nat} (hx : 1 ≤ x.2) : (findL t k m == some x) = decide (findV t k m = x) := by
  have e : findL t k m = (ids t).find? (keyB t k m) := rfl
  rw [e]
  unfold findV firstOf
  cases h : (ids t).find? (keyB t k m) with
  | none =>
    have : (0, 0) ≠ x := fun e => by rw [← e] at hx; simp at hx
    simp [this]
  | some y => rw [Bool.eq_iff_iff]; simp
theorem any_take_or {α : Type} {f : α → Bool} {l : List α} {k : Nat} (hk : k < l.length) : (l.take (k + 1)).any f = ((l.take k).any f || f l[k]) := by
  rw [List.take_succ_eq_append_getElem hk, List.any_append]; simp

set_option maxRecDepth 100000 in
set_option maxHeartbeats 4000000 in
theorem paired_any (u : Value) (t : Tr) (p i : Nat) (w : World) (hx : (p, i) ∈ ids t) (hform : formedB t.length p (evAt t (p, i)) = true) (hS : Small t) (hs : SlR 3 RPr w u t) :
    Calls Try.prog 111 #[.agg #[u], idVal (p, i)] w fun e w' => e = .returned (.int .i64 (pairF t (p, i))) ∧ Ext w w' := by
  have HAT := hide (fun w' (he : Ext w w') => At_any u t p i w' hx hS (hs.ext RPr.keeps he))
  have HFD := hide (fun k m w' (he : Ext w w') => Find_any u t k m w' hS (hs.ext RPr.keeps he))
  have hpos := mem_pos hx
  have HIS := hide (fun k m => findV_is (t := t) (k := k) (m := m) hpos)
  have HPF := hide (show pairF t (p, i) = _ from rfl)
  have hs' := hs
  obtain ⟨A, c, rfl, h1, h2, hc⟩ := hs.at_
  have HC := hide hc
  have hnp := hS.np
  clear hs hc
  unfold idVal at *
  go_enter Try.func111, Try.ntmps111
  go_wp2_with fail
  refine (HAT.out _ (((Ext.refl w).alloc _).alloc _)).mono ?_
  rintro e w1 ⟨A4, n4, k4, rfl, _, he1⟩
  have hx1 : Ext w w1 := Ext.trans (((Ext.refl w).alloc _).alloc _) he1
  have bt := ((BoxN.new w 24 #[.slice A t.length c]).alloc (.cells #[.int .i64 p, .int .i64 i] 61)).ext he1
  have bx := (BoxN.newAt (B := w.heap.size + 1) (W := w.alloc (.cells #[.slice A t.length c] 24)) 61 #[.int .i64 p, .int .i64 i] (by simp)).ext he1
  have HF := hide hform
  have HEV := hide (fun (hk : ((evAt t (p, i)).kind == 1) = false) => formed_open hform hk)
  clear hform he1
  generalize hev : evAt t (p, i) = ev at *
  have HEQ := hide hev
  clear hev
  cases z1 : ev.kind == 1
  · obtain ⟨m, q, hm, hm2, hq, hq2, hqp⟩ := HEV.out z1
    have HM := hide hm
    have HQ := hide hq
    clear hm hq
    have HKD := hide (show ev.kind = 2 ∨ ev.kind = 3 by
      have := HF.out
      unfold formedB at this
      rw [z1] at this
      simp only [Bool.false_eq_true, if_false] at this
      split at this
      · rename_i h; simpa using h
      · cases this)
    have be := BoxN.new w1 95 #[.int .i64 ev.kind, .int .i64 ev.peer, .int .i64 ev.msg, .int .i64 ev.time, .slice A4 n4 k4]
    have hxa : Ext w (w1.alloc (.cells #[.int .i64 ev.kind, .int .i64 ev.peer, .int .i64 ev.msg, .int .i64 ev.time, .slice A4 n4 k4] 95)) := hx1.alloc _
    have bt2 := bt.alloc (.cells #[.int .i64 ev.kind, .int .i64 ev.peer, .int .i64 ev.msg, .int .i64 ev.time, .slice A4 n4 k4] 95)
    have bx2 := bx.alloc (.cells #[.int .i64 ev.kind, .int .i64 ev.peer, .int .i64 ev.msg, .int .i64 ev.time, .slice A4 n4 k4] 95)
    go_wp2_with fail
    clear bt bx hx1
    generalize hbe : w1.heap.size = b5 at *
    clear hbe
    generalize w1.alloc (.cells #[.int .i64 ev.kind, .int .i64 ev.peer, .int .i64 ev.msg, .int .i64 ev.time, .slice A4 n4 k4] 95) = W1 at *
    have t0 : W1.cell? ⟨w.heap.size, 0, none⟩ = some (.slice A t.length c) := bt2.cell rfl
    have x0 : W1.cell? ⟨w.heap.size + 1, 0, none⟩ = some (.int .i64 p) := bx2.cell rfl
    have x1 : W1.cell? ⟨w.heap.size + 1, 1, none⟩ = some (.int .i64 i) := bx2.cell rfl
    have e0 : W1.cell? ⟨b5, 0, none⟩ = some (.int .i64 ev.kind) := be.cell rfl
    have e2 : W1.cell? ⟨b5, 2, none⟩ = some (.int .i64 ev.msg) := be.cell rfl
    by_cases hfx : findV t ev.kind ev.msg = (p, i)
    · have HFX := hide (fun w' (he : Ext w w') => (by have := HFD.out ev.kind ev.msg w' he; rw [hfx] at this; exact this : Calls Try.prog 103 #[.agg #[.slice A t.length c], .int .i64 ev.kind, .int .i64 ev.msg] w' fun e w'' => e = .returned (.agg #[.int .i64 p, .int .i64 i]) ∧ Ext w' w''))
      have HFXE := hide hfx
      clear hfx
      go_region_held3 (fun w' => w'.cell? ⟨w.heap.size, 0, none⟩ = some (.slice A t.length c) ∧ w'.cell? ⟨w.heap.size + 1, 0, none⟩ = some (.int .i64 p) ∧ w'.cell? ⟨w.heap.size + 1, 1, none⟩ = some (.int .i64 i) ∧ w'.cell? ⟨b5, 0, none⟩ = some (.int .i64 ev.kind) ∧ w'.cell? ⟨b5, 2, none⟩ = some (.int .i64 ev.msg)) (go_keep)
        ((go_at_call 103; refine (HFX.out _ (by repeat (first | exact hxa | apply Ext.drew))).mono ?_; rintro e w2 ⟨rfl, he2⟩; have t0' := he2.cellAt (a := W1.drew) t0; have x0' := he2.cellAt (a := W1.drew) x0; have x1' := he2.cellAt (a := W1.drew) x1; have e0' := he2.cellAt (a := W1.drew) e0; have e2' := he2.cellAt (a := W1.drew) e2))
      have hx2 : Ext w w2 := Ext.trans (Ext.drew hxa) he2
      have bt3 := (BoxN.drew bt2).ext he2
      have bx3 := (BoxN.drew bx2).ext he2
      have be3 := (BoxN.drew be).ext he2
      clear t0 x0 x1 e0 e2 t0' x0' x1' e0' e2' bt2 bx2 be hxa he2
      cases z3 : ev.kind == 3
      · have HR := hide (show pairF t (p, i) = 0 by
          have h2 : ev.kind = 2 := by
            rcases HKD.out with h | h
            · exact h
            · rw [h] at z3; simp at z3
          unfold pairF
          rw [HEQ.out, h2]
          simp only [show ((2 : Int) == 2) = true from rfl, if_true]
          rw [HIS.out, decide_eq_true (by have := HFXE.out; rw [h2] at this; exact this)]; rfl)
        have e0 : w2.cell? ⟨b5, 0, none⟩ = some (.int .i64 ev.kind) := be3.cell rfl
        go_wp2_with fail
        go_ret
        exact ⟨by rw [HR.out]; rfl, hx2⟩
      · have HR := hide (show pairF t (p, i) = if sendsB t q m p then 0 else 7 by
          have h3 : ev.kind = 3 := by simpa using z3
          unfold pairF
          rw [HEQ.out, h3]
          simp only [show ((3 : Int) == 2) = false from rfl, show ((3 : Int) == 3) = true from rfl, if_true, Bool.false_eq_true, if_false]
          rw [HIS.out, decide_eq_true (by have := HFXE.out; rw [h3] at this; exact this), HM.out, HQ.out]; rfl)
        have e0 : w2.cell? ⟨b5, 0, none⟩ = some (.int .i64 ev.kind) := be3.cell rfl
        obtain ⟨b, off, rfl, hel⟩ := HC.out (by omega)
        obtain ⟨_, _, v2, c2, hs2⟩ := hel q hq2
        obtain ⟨A2, k2, rfl, _, _, hc2⟩ := hs2.at_
        have HC2 := hide hc2
        have hne := hS.ne _ (List.getElem_mem hq2)
        clear hel hs2 hc2
        go_wp2_with fail
        clear e0
        have HSD := hide (show sendsB t q m p = (t[q].evs.any fun e => e.kind == 2 && e.msg == (m : Int) && e.peer == (p : Int)) by unfold sendsB evsOf; rw [getD_lt dfPr t hq2])
        go_loopw [7, 6] (fun i s wr => ∃ k : Nat, k ≤ t[q].evs.length ∧ i = .int .i64 k ∧ s = .bool ((t[q].evs.take k).any fun e => e.kind == 2 && e.msg == (m : Int) && e.peer == (p : Int)) ∧ Ext w2 wr) (fun i _ _ => t[q].evs.length - (intOf i).toNat)
        case atStart => exact ⟨0, Nat.zero_le _, rfl, rfl, Ext.refl _⟩
        case round =>
          obtain ⟨k, hk, rfl, rfl, hx3⟩ := hrel
          have t0 : wr.cell? ⟨w.heap.size, 0, none⟩ = some (.slice (some ⟨b, off, none⟩) t.length c) := (bt3.ext hx3).cell rfl
          have x0 : wr.cell? ⟨w.heap.size + 1, 0, none⟩ = some (.int .i64 p) := (bx3.ext hx3).cell rfl
          have e1 : wr.cell? ⟨b5, 1, none⟩ = some (.int .i64 q) := by rw [← HQ.out]; exact (be3.ext hx3).cell rfl
          have e2 : wr.cell? ⟨b5, 2, none⟩ = some (.int .i64 m) := by rw [← HM.out]; exact (be3.ext hx3).cell rfl
          have hxx := hx2.trans hx3
          have c2' := hxx.cellAt c2
          have hql : (q : Int) < (t.length : Int) := by omega
          have lt1 := (bt3.ext hx3).lt
          have lt2 := (bx3.ext hx3).lt
          have lt3 := (be3.ext hx3).lt
          by_cases hlt : k < t[q].evs.length
          · obtain ⟨b2, off2, rfl, hel2⟩ := HC2.out (by omega)
            obtain ⟨g0, g1, g2, g3, va, g4, hs4⟩ := hel2 k hlt
            obtain ⟨A5, k5, rfl, _, _, _⟩ := hs4.at_
            have f0 := hxx.cellAt g0
            have f1 := hxx.cellAt g1
            have f2 := hxx.cellAt g2
            have f3 := hxx.cellAt g3
            have f4 := hxx.cellAt g4
            have HT := hide (any_take_or (f := fun e : Ev => e.kind == 2 && e.msg == (m : Int) && e.peer == (p : Int)) hlt)
            clear hel2 hs4 g0 g1 g2 g3 g4
            have hways : (((t[q].evs.take k).any fun e => e.kind == 2 && e.msg == (m : Int) && e.peer == (p : Int)) = true) ∨
              (((t[q].evs.take k).any fun e => e.kind == 2 && e.msg == (m : Int) && e.peer == (p : Int)) = false ∧ (t[q].evs[k].kind == 2) = false) ∨
              (((t[q].evs.take k).any fun e => e.kind == 2 && e.msg == (m : Int) && e.peer == (p : Int)) = false ∧ (t[q].evs[k].kind == 2) = true ∧ (t[q].evs[k].msg == (m : Int)) = false) ∨
              (((t[q].evs.take k).any fun e => e.kind == 2 && e.msg == (m : Int) && e.peer == (p : Int)) = false ∧ (t[q].evs[k].kind == 2) = true ∧ (t[q].evs[k].msg == (m : Int)) = true ∧ (t[q].evs[k].peer == (p : Int)) = false) ∨
              (((t[q].evs.take k).any fun e => e.kind == 2 && e.msg == (m : Int) && e.peer == (p : Int)) = false ∧ (t[q].evs[k].kind == 2) = true ∧ (t[q].evs[k].msg == (m : Int)) = true ∧ (t[q].evs[k].peer == (p : Int)) = true) := by
              cases ((t[q].evs.take k).any fun e => e.kind == 2 && e.msg == (m : Int) && e.peer == (p : Int)) <;> cases (t[q].evs[k].kind == 2) <;> cases (t[q].evs[k].msg == (m : Int)) <;> cases (t[q].evs[k].peer == (p : Int)) <;> simp
            rcases hways with y0 | ⟨y0, y1⟩ | ⟨y0, y1, y2⟩ | ⟨y0, y1, y2, y3⟩ | ⟨y0, y1, y2, y3⟩
            · have HN := hide (show ((t[q].evs.take (k + 1)).any fun e => e.kind == 2 && e.msg == (m : Int) && e.peer == (p : Int)) = true by rw [HT.out, y0]; rfl)
              rw [y0]
              clear y0
              go_wp2_with fail
              go_roundw
              case rel => exact ⟨k + 1, hlt, by go_num, by rw [HN.out], hx3.alloc _⟩
              case measure => simp [intOf]; omega
            · have HN := hide (show ((t[q].evs.take (k + 1)).any fun e => e.kind == 2 && e.msg == (m : Int) && e.peer == (p : Int)) = false by rw [HT.out, y0, y1]; rfl)
              rw [y0]
              clear y0
              go_wp2_with fail
              go_roundw
              case rel => exact ⟨k + 1, hlt, by go_num, by rw [HN.out], hx3.alloc _⟩
              case measure => simp [intOf]; omega
            · have HN := hide (show ((t[q].evs.take (k + 1)).any fun e => e.kind == 2 && e.msg == (m : Int) && e.peer == (p : Int)) = false by rw [HT.out, y0, y1, y2]; rfl)
              rw [y0]
              clear y0
              go_wp2_with fail
              go_roundw
              case rel => exact ⟨k + 1, hlt, by go_num, by rw [HN.out], hx3.alloc _⟩
              case measure => simp [intOf]; omega
            · have HN := hide (show ((t[q].evs.take (k + 1)).any fun e => e.kind == 2 && e.msg == (m : Int) && e.peer == (p : Int)) = false by rw [HT.out, y0, y1, y2, y3]; rfl)
              rw [y0]
              clear y0
              go_wp2_with fail
              go_roundw
              case rel => exact ⟨k + 1, hlt, by go_num, by rw [HN.out], hx3.alloc _⟩
              case measure => simp [intOf]; omega
            · have HN := hide (show ((t[q].evs.take (k + 1)).any fun e => e.kind == 2 && e.msg == (m : Int) && e.peer == (p : Int)) = true by rw [HT.out, y0, y1, y2, y3]; rfl)
              rw [y0]
              clear y0
              go_wp2_with fail
              go_roundw
              case rel => exact ⟨k + 1, hlt, by go_num, by rw [HN.out], hx3.alloc _⟩
              case measure => simp [intOf]; omega
          · obtain rfl : k = t[q].evs.length := by omega
            rw [List.take_length]
            cases hsd : t[q].evs.any fun e => e.kind == 2 && e.msg == (m : Int) && e.peer == (p : Int)
            · have HR2 := hide (show pairF t (p, i) = 7 by rw [HR.out, HSD.out, hsd]; rfl)
              clear hsd
              go_wp2_with fail
              go_ret
              exact ⟨by rw [HR2.out]; rfl, hxx⟩
            · have HR2 := hide (show pairF t (p, i) = 0 by rw [HR.out, HSD.out, hsd]; rfl)
              clear hsd
              go_wp2_with fail
              go_ret
              exact ⟨by rw [HR2.out]; rfl, hxx⟩
    · have HFX := hide (fun w' (he : Ext w w') => HFD.out ev.kind ev.msg w' he)
      have HR := hide (show pairF t (p, i) = 8 by
        unfold pairF
        rw [HEQ.out]
        rcases HKD.out with h | h
        · rw [h]; simp only [show ((2 : Int) == 2) = true from rfl, if_true]
          rw [HIS.out, decide_eq_false (by rw [← h]; exact hfx)]; rfl
        · rw [h]; simp only [show ((3 : Int) == 2) = false from rfl, show ((3 : Int) == 3) = true from rfl, if_true, Bool.false_eq_true, if_false]
          rw [HIS.out, decide_eq_false (by rw [← h]; exact hfx)]; rfl)
      generalize findV t ev.kind ev.msg = fv at *
      obtain ⟨fa, fb⟩ := fv
      by_cases hfa : p = fa
      · subst hfa
        have hfb : ((fb : Int) == (i : Int)) = false := by
          rw [beq_eq_false_iff_ne]; intro e; exact hfx (by rw [Int.ofNat.inj e])
        clear hfx
        go_region_held3 (fun w' => w'.cell? ⟨w.heap.size, 0, none⟩ = some (.slice A t.length c) ∧ w'.cell? ⟨w.heap.size + 1, 0, none⟩ = some (.int .i64 p) ∧ w'.cell? ⟨w.heap.size + 1, 1, none⟩ = some (.int .i64 i) ∧ w'.cell? ⟨b5, 0, none⟩ = some (.int .i64 ev.kind) ∧ w'.cell? ⟨b5, 2, none⟩ = some (.int .i64 ev.msg)) (go_keep)
          ((go_at_call 103; refine (HFX.out _ (by repeat (first | exact hxa | apply Ext.drew))).mono ?_; rintro e w2 ⟨rfl, he2⟩; have t0' := he2.cellAt (a := W1.drew) t0; have x0' := he2.cellAt (a := W1.drew) x0; have x1' := he2.cellAt (a := W1.drew) x1; have e0' := he2.cellAt (a := W1.drew) e0; have e2' := he2.cellAt (a := W1.drew) e2))
        go_wp2_with fail
        go_ret
        exact ⟨by rw [HR.out]; rfl, Ext.trans (Ext.drew hxa) he2⟩
      · have hfb : ((fa : Int) == (p : Int)) = false := by
          rw [beq_eq_false_iff_ne]; intro e; exact hfa (Int.ofNat.inj e).symm
        clear hfx hfa
        go_region_held3 (fun w' => w'.cell? ⟨w.heap.size, 0, none⟩ = some (.slice A t.length c) ∧ w'.cell? ⟨w.heap.size + 1, 0, none⟩ = some (.int .i64 p) ∧ w'.cell? ⟨w.heap.size + 1, 1, none⟩ = some (.int .i64 i) ∧ w'.cell? ⟨b5, 0, none⟩ = some (.int .i64 ev.kind) ∧ w'.cell? ⟨b5, 2, none⟩ = some (.int .i64 ev.msg)) (go_keep)
          ((go_at_call 103; refine (HFX.out _ (by repeat (first | exact hxa | apply Ext.drew))).mono ?_; rintro e w2 ⟨rfl, he2⟩; have t0' := he2.cellAt (a := W1.drew) t0; have x0' := he2.cellAt (a := W1.drew) x0; have x1' := he2.cellAt (a := W1.drew) x1; have e0' := he2.cellAt (a := W1.drew) e0; have e2' := he2.cellAt (a := W1.drew) e2))
        go_wp2_with fail
        go_ret
        exact ⟨by rw [HR.out]; rfl, Ext.trans (Ext.drew hxa) he2⟩
  · have HR := hide (show pairF t (p, i) = 0 by
      have : ev.kind = 1 := by simpa using z1
      unfold pairF; rw [HEQ.out, this]; rfl)
    go_wp2_with fail
    go_ret
    exact ⟨by rw [HR.out]; rfl, hx1.alloc _⟩
end Go.Proofs.Ytiiflkcebikecaa

/- The ways through the form of an event. No program, no condition. -/
namespace Go.Proofs.Ytiiflkcebikecaa
open Go.RowKit
set_option linter.unusedVariables false

theorem form_ways (np p : Nat) (e : Ev) : (formedB np p e = false ∧ (((e.kind == 1) = true ∧ (e.peer != 0) = true) ∨ ((e.kind == 1) = true ∧ (e.peer != 0) = false ∧ (e.msg != 0) = true) ∨ ((e.kind == 1) = false ∧ (e.kind != 2) = true ∧ (e.kind != 3) = true) ∨ ((e.kind == 1) = false ∧ (e.kind != 2) = false ∧ (decide (e.peer < 0)) = true) ∨ ((e.kind == 1) = false ∧ (e.kind != 2) = true ∧ (e.kind != 3) = false ∧ (decide (e.peer < 0)) = true) ∨ ((e.kind == 1) = false ∧ (e.kind != 2) = false ∧ (decide (e.peer < 0)) = false ∧ (decide ((np : Int) ≤ e.peer)) = true) ∨ ((e.kind == 1) = false ∧ (e.kind != 2) = true ∧ (e.kind != 3) = false ∧ (decide (e.peer < 0)) = false ∧ (decide ((np : Int) ≤ e.peer)) = true) ∨ ((e.kind == 1) = false ∧ (e.kind != 2) = false ∧ (decide (e.peer < 0)) = false ∧ (decide ((np : Int) ≤ e.peer)) = false ∧ (e.peer == (p : Int)) = true) ∨ ((e.kind == 1) = false ∧ (e.kind != 2) = true ∧ (e.kind != 3) = false ∧ (decide (e.peer < 0)) = false ∧ (decide ((np : Int) ≤ e.peer)) = false ∧ (e.peer == (p : Int)) = true) ∨ ((e.kind == 1) = false ∧ (e.kind != 2) = false ∧ (decide (e.peer < 0)) = false ∧ (decide ((np : Int) ≤ e.peer)) = false ∧ (e.peer == (p : Int)) = false ∧ (decide (e.msg < 0)) = true) ∨ ((e.kind == 1) = false ∧ (e.kind != 2) = true ∧ (e.kind != 3) = false ∧ (decide (e.peer < 0)) = false ∧ (decide ((np : Int) ≤ e.peer)) = false ∧ (e.peer == (p : Int)) = false ∧ (decide (e.msg < 0)) = true) ∨ ((e.kind == 1) = false ∧ (e.kind != 2) = false ∧ (decide (e.peer < 0)) = false ∧ (decide ((np : Int) ≤ e.peer)) = false ∧ (e.peer == (p : Int)) = false ∧ (decide (e.msg < 0)) = false ∧ (decide (199 < e.msg)) = true) ∨ ((e.kind == 1) = false ∧ (e.kind != 2) = true ∧ (e.kind != 3) = false ∧ (decide (e.peer < 0)) = false ∧ (decide ((np : Int) ≤ e.peer)) = false ∧ (e.peer == (p : Int)) = false ∧ (decide (e.msg < 0)) = false ∧ (decide (199 < e.msg)) = true))) ∨ (formedB np p e = true ∧ (((e.kind == 1) = true ∧ (e.peer != 0) = false ∧ (e.msg != 0) = false) ∨ ((e.kind == 1) = false ∧ (e.kind != 2) = false ∧ (decide (e.peer < 0)) = false ∧ (decide ((np : Int) ≤ e.peer)) = false ∧ (e.peer == (p : Int)) = false ∧ (decide (e.msg < 0)) = false ∧ (decide (199 < e.msg)) = false) ∨ ((e.kind == 1) = false ∧ (e.kind != 2) = true ∧ (e.kind != 3) = false ∧ (decide (e.peer < 0)) = false ∧ (decide ((np : Int) ≤ e.peer)) = false ∧ (e.peer == (p : Int)) = false ∧ (decide (e.msg < 0)) = false ∧ (decide (199 < e.msg)) = false))) := by
  have h : formedB np p e = if e.kind == 1 then !((e.peer != 0) || (e.msg != 0)) else !(((e.kind != 2) && (e.kind != 3)) || decide (e.peer < 0) || decide ((np : Int) ≤ e.peer) || (e.peer == (p : Int)) || decide (e.msg < 0) || decide (199 < e.msg)) := by
    unfold formedB inB
    have d1 : decide (0 ≤ e.peer) = !decide (e.peer < 0) := by rw [Bool.eq_iff_iff]; simp
    have d2 : decide (e.peer ≤ (np : Int) - 1) = !decide ((np : Int) ≤ e.peer) := by rw [Bool.eq_iff_iff]; simp; omega
    have d3 : decide (0 ≤ e.msg) = !decide (e.msg < 0) := by rw [Bool.eq_iff_iff]; simp
    have d4 : decide (e.msg ≤ 199) = !decide (199 < e.msg) := by rw [Bool.eq_iff_iff]; simp
    have d5 : (e.kind == 2) = !(e.kind != 2) := by simp [bne]
    have d6 : (e.kind == 3) = !(e.kind != 3) := by simp [bne]
    have d7 : (e.peer != (p : Int)) = !(e.peer == (p : Int)) := by simp [bne]
    have d8 : (e.peer == 0) = !(e.peer != 0) := by simp [bne]
    have d9 : (e.msg == 0) = !(e.msg != 0) := by simp [bne]
    rw [d1, d2, d3, d4, d5, d6, d7, d8, d9]
    cases e.kind == 1 <;> cases e.kind != 2 <;> cases e.kind != 3 <;> cases decide (e.peer < 0) <;> cases decide ((np : Int) ≤ e.peer) <;> cases (e.peer == (p : Int)) <;> cases decide (e.msg < 0) <;> cases decide (199 < e.msg) <;> simp
  rw [h]
  clear h
  cases (e.kind == 1) <;> cases (e.peer != 0) <;> cases (e.msg != 0) <;> cases (e.kind != 2) <;> cases (e.kind != 3) <;> cases (decide (e.peer < 0)) <;> cases (decide ((np : Int) ≤ e.peer)) <;> cases (e.peer == (p : Int)) <;> cases (decide (e.msg < 0)) <;> cases (decide (199 < e.msg)) <;> simp
end Go.Proofs.Ytiiflkcebikecaa

/- Walks of the reference: the form of an event. No condition but on lengths. -/
namespace Go.Proofs.Ytiiflkcebikecaa
open Go.RowKit
set_option linter.unusedVariables false

theorem formF_evs (t : Tr) (p i : Nat) (hp : p < t.length) (hi : i < t[p].evs.length) (L : Int) (hL : lastT t (p, i + 1) = L) : formF t (p, i + 1) = if !formedB t.length p t[p].evs[i] then 3
  else if !(inB t[p].evs[i].time 0 1099511627776) || decide (t[p].evs[i].time < L) then 11
  else if 8 < t[p].evs[i].asg.length then 5
  else firstNZ (asgF t[p].vars.length t[p].evs[i].asg) t[p].evs[i].asg.length := by
  unfold formF; rw [evAt_eq hp hi, hL]; simp only [getD_lt dfPr t hp]
theorem inB_time (x : Int) : inB x 0 1099511627776 = (!decide (x < 0) && !decide (1099511627776 < x)) := by
  unfold inB
  rw [Bool.eq_iff_iff]; simp
theorem inB_var (x : Int) (n : Nat) : inB x 0 ((n : Int) - 1) = (!decide (x < 0) && !decide ((n : Int) ≤ x)) := by
  unfold inB
  rw [Bool.eq_iff_iff]; simp; omega
theorem lastT_pos (t : Tr) (p i : Nat) (hp : p < t.length) (hi : i < t[p].evs.length) : lastT t (p, i + 1 + 1) = t[p].evs[i].time := lastT_two t p i hp hi
theorem lastT_zero (t : Tr) (p : Nat) : lastT t (p, 0 + 1) = 0 := by unfold lastT; simp
set_option maxRecDepth 100000 in
set_option maxHeartbeats 40000000 in
theorem rform_any (u : Value) (t : Tr) (p i : Nat) (w : World) (hp : p < t.length) (hi : i < t[p].evs.length) (hS : Small t) (hs : SlR 3 RPr w u t) :
    Calls Try.prog 110 #[.agg #[u], .int .i64 p, .int .i64 i] w fun e w' => e = .returned (.int .i64 (formF t (p, i + 1))) ∧ Ext w w' := by
  obtain ⟨A, c, rfl, h1, h2, hc⟩ := hs.at_
  obtain ⟨b, off, rfl, hel⟩ := hc (by omega)
  obtain ⟨⟨c0, hm⟩, ⟨v1, c1, hs1⟩, v2, c2, hs2⟩ := hel p hp
  have hb := lt_of_cell c0
  obtain ⟨A1, k1, rfl, _, _, _⟩ := hs1.at_
  obtain ⟨A2, k2, rfl, _, _, hc2⟩ := hs2.at_
  obtain ⟨b2, off2, rfl, hel2⟩ := hc2 (by omega)
  obtain ⟨g0, g1, g2, g3, va, g4, hs4⟩ := hel2 i hi
  obtain ⟨A4, k4, rfl, _, _, hc4⟩ := hs4.at_
  have hb2 := lt_of_cell g0
  have HEL2 := hide hel2
  have HC4 := hide hc4
  have hnp := hS.np
  have hnv := hS.nv _ (List.getElem_mem hp)
  have hne := hS.ne _ (List.getElem_mem hp)
  have hna := hS.na _ (List.getElem_mem hp) _ (List.getElem_mem hi)
  have HW := hide (form_ways t.length p t[p].evs[i])
  have HFE := hide (formF_evs t p i hp hi)
  have hL : (i = 0 ∧ lastT t (p, i + 1) = 0) ∨ ∃ (j : Nat) (hj : j < t[p].evs.length), i = j + 1 ∧ lastT t (p, i + 1) = t[p].evs[j].time := by
    rcases i with _ | j
    · exact .inl ⟨rfl, lastT_zero t p⟩
    · exact .inr ⟨j, by omega, rfl, lastT_pos t p j hp (by omega)⟩
  have HL := hide hL
  clear hs hs1 hs2 hel hc hel2 hc2 hs4 hc4 hL
  generalize t[p].evs[i] = e at *
  go_enter Try.func110, Try.ntmps110
  rcases HW.out with ⟨hf, hw⟩ | ⟨hf, hw⟩
  · have HF := hide (show formF t (p, i + 1) = 3 by rw [HFE.out _ rfl, hf]; rfl)
    clear hf
    rcases hw with ⟨b0, b1⟩ | ⟨b0, b1, b2⟩ | ⟨b0, b1, b2⟩ | ⟨b0, b1, b2⟩ | ⟨b0, b1, b2, b3⟩ | ⟨b0, b1, b2, b3⟩ | ⟨b0, b1, b2, b3, b4⟩ | ⟨b0, b1, b2, b3, b4⟩ | ⟨b0, b1, b2, b3, b4, b5⟩ | ⟨b0, b1, b2, b3, b4, b5⟩ | ⟨b0, b1, b2, b3, b4, b5, b6⟩ | ⟨b0, b1, b2, b3, b4, b5, b6⟩ | ⟨b0, b1, b2, b3, b4, b5, b6, b7⟩
    all_goals
      go_wp2_with fail
      go_ret
      exact ⟨by rw [HF.out]; rfl, ((Ext.refl _).alloc _).alloc _⟩
  · have HF1 := hide hf
    clear hf
    have bt : BoxN ((w.alloc (.cells #[.slice (some ⟨b, off, none⟩) t.length c] 24)).alloc (.cells #[.int .i64 e.kind, .int .i64 e.peer, .int .i64 e.msg, .int .i64 e.time, .slice A4 e.asg.length k4] 95)) w.heap.size 24 _ := (BoxN.new w _ _).alloc _
    have be : BoxN ((w.alloc (.cells #[.slice (some ⟨b, off, none⟩) t.length c] 24)).alloc (.cells #[.int .i64 e.kind, .int .i64 e.peer, .int .i64 e.msg, .int .i64 e.time, .slice A4 e.asg.length k4] 95)) (w.heap.size + 1) 95 _ := BoxN.newAt _ _ (by simp)
    have hx1 : Ext w ((w.alloc (.cells #[.slice (some ⟨b, off, none⟩) t.length c] 24)).alloc (.cells #[.int .i64 e.kind, .int .i64 e.peer, .int .i64 e.msg, .int .i64 e.time, .slice A4 e.asg.length k4] 95)) := ((Ext.refl _).alloc _).alloc _
    rcases hw with ⟨b0, b1, b2⟩ | ⟨b0, b1, b2, b3, b4, b5, b6⟩ | ⟨b0, b1, b2, b3, b4, b5, b6, b7⟩
    all_goals
      go_wp2_with fail
      generalize (w.alloc (.cells #[.slice (some ⟨b, off, none⟩) t.length c] 24)).alloc (.cells #[.int .i64 e.kind, .int .i64 e.peer, .int .i64 e.msg, .int .i64 e.time, .slice A4 e.asg.length k4] 95) = W1 at *
      have hasg : SlR 2 RAsg W1 (.slice A4 e.asg.length k4) e.asg → True := fun _ => trivial
      clear hasg
      have ht := (bt.cell (j := 0) rfl)
      have e3 := be.cell (j := 3) rfl
      have e4 := be.cell (j := 4) rfl
      have HE := hide (fun L (hL : lastT t (p, i + 1) = L) => show formF t (p, i + 1) = if !(!decide (e.time < 0) && !decide (1099511627776 < e.time)) || decide (e.time < L) then 11 else if 8 < e.asg.length then 5 else firstNZ (asgF t[p].vars.length e.asg) e.asg.length by rw [HFE.out _ hL, HF1.out, inB_time]; simp)
      cases dtl : decide (e.time < 0)
      · cases dtg : decide (1099511627776 < e.time)
        · rcases HL.out with ⟨rfl, hl0⟩ | ⟨j, hj, rfl, hl0⟩
          · have HE1 := hide (show formF t (p, 0 + 1) = if 8 < e.asg.length then 5 else firstNZ (asgF t[p].vars.length e.asg) e.asg.length by rw [HE.out _ hl0, dtg, dtl]; simp)
            clear hl0
            by_cases h8 : 8 < e.asg.length
            · go_quiet (fail)
              revert nq; intro n1
              go_wp2_with fail
              go_ret
              exact ⟨by rw [HE1.out]; simp [h8], hx1.drewN _⟩
            · go_quiet (fail)
              revert nq; intro n1
              go_wp2_with fail
              clear ht e3 e4 dtl dtg
              have bt2 := bt.drewN n1
              have be2 := be.drewN n1
              have hx2 := hx1.drewN n1
              clear bt be hx1
              generalize W1.drewN n1 = W2 at *
              go_loopw [8] (fun v wr => ∃ k : Nat, k ≤ e.asg.length ∧ v = .int .i64 k ∧ firstNZ (asgF t[p].vars.length e.asg) k = 0 ∧ Ext W2 wr) (fun v _ => e.asg.length - (intOf v).toNat)
              case atStart => exact ⟨0, Nat.zero_le _, rfl, rfl, Ext.refl _⟩
              case round =>
                obtain ⟨k, hk, rfl, hz, hx⟩ := hrel
                have HZ := hide hz
                clear hz
                have ht := (bt2.ext hx).cell (j := 0) rfl
                have e4 := (be2.ext hx).cell (j := 4) rfl
                have hxx := hx2.trans hx
                have lt1 := (bt2.ext hx).lt
                have lt2 := (be2.ext hx).lt
                by_cases hlt : k < e.asg.length
                · obtain ⟨b4, off4, rfl, hel4⟩ := HC4.out (by omega)
                  have HEL4 := hide hel4
                  obtain ⟨s0, s1⟩ := hel4 k hlt
                  have a0 := hxx.cellAt s0
                  have a1 := hxx.cellAt s1
                  have HV := hide (asgF_eq t[p].vars.length e.asg k hlt)
                  have HI := hide (fun w => value_any e.asg[k].val w)
                  have cv := hxx.cellAt c1
                  have hlb := lt_of_cell cv
                  have hb4 := lt_of_cell a0
                  clear hel4 s0 s1
                  go_wp2_with fail
                  cases dvl : decide (e.asg[k].v < 0)
                  · cases dvg : decide ((t[p].vars.length : Int) ≤ e.asg[k].v)
                    · cases dvv : valB e.asg[k].val
                      · rw [dvv] at HI
                        have HF2 := hide (show asgF t[p].vars.length e.asg k = 2 by rw [HV.out, inB_var, dvl, dvg, dvv]; simp)
                        have HR := hide (firstNZ_hit (n := e.asg.length) HZ.out (by rw [HF2.out]; decide) hlt)
                        go_quiet ((go_at_call 127; go_must (exact quiet_r (HI.out _))))
                        revert nq; intro n2
                        go_wp2_with fail
                        go_ret
                        exact ⟨by rw [HE1.out, HR.out, HF2.out]; simp [h8], (hxx.alloc _).drewN _⟩
                      · rw [dvv] at HI
                        go_quiet ((go_at_call 127; go_must (exact quiet_r (HI.out _))))
                        revert nq; intro n2
                        go_wp2_with fail
                        have ba : BoxN (wr.alloc (.cells #[.int .i64 e.asg[k].v, .int .i64 e.asg[k].val] 152)) wr.heap.size 152 _ := BoxN.new _ _ _
                        have be3 := ((be2.ext hx).alloc (.cells #[.int .i64 e.asg[k].v, .int .i64 e.asg[k].val] 152)).drewN n2
                        have ba3 := ba.drewN n2
                        have hx3 := (hx.alloc (.cells #[.int .i64 e.asg[k].v, .int .i64 e.asg[k].val] 152)).drewN n2
                        clear e4 a0 a1 cv ht
                        generalize hba : wr.heap.size = ba0 at *
                        clear hba
                        generalize (wr.alloc (.cells #[.int .i64 e.asg[k].v, .int .i64 e.asg[k].val] 152)).drewN n2 = W3 at *
                        go_loopw [10] (fun v wr => ∃ q : Nat, q ≤ k ∧ v = .int .i64 q ∧ ((e.asg.take q).any fun b => b.v == e.asg[k].v) = false ∧ Ext W3 wr) (fun v _ => k - (intOf v).toNat)
                        case atStart => exact ⟨0, Nat.zero_le _, rfl, rfl, Ext.refl _⟩
                        case round =>
                          obtain ⟨q, hq, rfl, hany, hxq⟩ := hrel
                          have HANY := hide hany
                          clear hany
                          have e4 := (be3.ext hxq).cell (j := 4) rfl
                          have a0 := (ba3.ext hxq).cell (j := 0) rfl
                          have hxw := hx2.trans (hx3.trans hxq)
                          by_cases hlq : q < k
                          · have r0 := hxw.cellAt (HEL4.out q (by omega)).1
                            have hlq2 : (q : Int) < (e.asg.length : Int) := by omega
                            cases heq : e.asg[q].v == e.asg[k].v
                            · go_wp2_with fail
                              go_quiet (fail)
                              revert nq; intro n3
                              go_wp2_with fail
                              go_roundw
                              case rel => exact ⟨q + 1, hlq, by go_num, any_take_step (by omega) HANY.out heq, hxq.drewN _⟩
                              case measure => simp [intOf]; omega
                            · have HF8 := hide (show asgF t[p].vars.length e.asg k = 8 by rw [HV.out, inB_var, dvl, dvg, dvv, any_take_hit (f := fun b : Asg => b.v == e.asg[k].v) (n := k) (by omega) hlq heq]; rfl)
                              have HR := hide (firstNZ_hit (n := e.asg.length) HZ.out (by rw [HF8.out]; decide) hlt)
                              go_wp2_with fail
                              go_quiet (fail)
                              revert nq; intro n3
                              go_wp2_with fail
                              go_ret
                              exact ⟨by rw [HE1.out, HR.out, HF8.out]; simp [h8], hxw.drewN _⟩
                          · obtain rfl : q = k := by omega
                            have HF0 := hide (show asgF t[p].vars.length e.asg q = 0 by rw [HV.out, inB_var, dvl, dvg, dvv, HANY.out]; rfl)
                            go_wp2_with fail
                            go_roundw
                            case rel => exact ⟨q + 1, hlt, by go_num, firstNZ_step HZ.out HF0.out, hx3.trans hxq⟩
                            case measure => simp [intOf]; omega
                    · have HF2 := hide (show asgF t[p].vars.length e.asg k = 2 by rw [HV.out, inB_var, dvl, dvg]; simp)
                      have HR := hide (firstNZ_hit (n := e.asg.length) HZ.out (by rw [HF2.out]; decide) hlt)
                      go_quiet (fail)
                      revert nq; intro n2
                      go_wp2_with fail
                      go_ret
                      exact ⟨by rw [HE1.out, HR.out, HF2.out]; simp [h8], (hxx.alloc _).drewN _⟩
                  · have HF2 := hide (show asgF t[p].vars.length e.asg k = 2 by rw [HV.out, inB_var, dvl]; simp)
                    have HR := hide (firstNZ_hit (n := e.asg.length) HZ.out (by rw [HF2.out]; decide) hlt)
                    go_quiet (fail)
                    revert nq; intro n2
                    go_wp2_with fail
                    go_ret
                    exact ⟨by rw [HE1.out, HR.out, HF2.out]; simp [h8], (hxx.alloc _).drewN _⟩
                · obtain rfl : k = e.asg.length := by omega
                  go_wp2_with fail
                  go_ret
                  exact ⟨by rw [HE1.out]; simp [h8, HZ.out], hxx⟩
          · have hdj : decide ((0 : Int) < ((j + 1 : Nat) : Int)) = true := decide_eq_true (by omega)
            have hdj2 : decide ((0 : Int) < (j : Int) + 1) = true := decide_eq_true (by omega)
            obtain ⟨_, _, _, q3, _⟩ := HEL2.out j hj
            have q3' := hx1.cellAt q3
            have hjl : (j : Int) < (t[p].evs.length : Int) := by omega
            have c2' := hx1.cellAt c2
            cases dtp : decide (e.time < t[p].evs[j].time)
            · have HE1 := hide (show formF t (p, j + 1 + 1) = if 8 < e.asg.length then 5 else firstNZ (asgF t[p].vars.length e.asg) e.asg.length by rw [HE.out _ hl0, dtg, dtl, dtp]; simp)
              clear hl0 q3
              by_cases h8 : 8 < e.asg.length
              · go_quiet (fail)
                revert nq; intro n1
                go_wp2_with fail
                go_ret
                exact ⟨by rw [HE1.out]; simp [h8], hx1.drewN _⟩
              · go_quiet (fail)
                revert nq; intro n1
                go_wp2_with fail
                clear ht e3 e4 dtl dtg
                have bt2 := bt.drewN n1
                have be2 := be.drewN n1
                have hx2 := hx1.drewN n1
                clear bt be hx1
                generalize W1.drewN n1 = W2 at *
                go_loopw [8] (fun v wr => ∃ k : Nat, k ≤ e.asg.length ∧ v = .int .i64 k ∧ firstNZ (asgF t[p].vars.length e.asg) k = 0 ∧ Ext W2 wr) (fun v _ => e.asg.length - (intOf v).toNat)
                case atStart => exact ⟨0, Nat.zero_le _, rfl, rfl, Ext.refl _⟩
                case round =>
                  obtain ⟨k, hk, rfl, hz, hx⟩ := hrel
                  have HZ := hide hz
                  clear hz
                  have ht := (bt2.ext hx).cell (j := 0) rfl
                  have e4 := (be2.ext hx).cell (j := 4) rfl
                  have hxx := hx2.trans hx
                  have lt1 := (bt2.ext hx).lt
                  have lt2 := (be2.ext hx).lt
                  by_cases hlt : k < e.asg.length
                  · obtain ⟨b4, off4, rfl, hel4⟩ := HC4.out (by omega)
                    have HEL4 := hide hel4
                    obtain ⟨s0, s1⟩ := hel4 k hlt
                    have a0 := hxx.cellAt s0
                    have a1 := hxx.cellAt s1
                    have HV := hide (asgF_eq t[p].vars.length e.asg k hlt)
                    have HI := hide (fun w => value_any e.asg[k].val w)
                    have cv := hxx.cellAt c1
                    have hlb := lt_of_cell cv
                    have hb4 := lt_of_cell a0
                    clear hel4 s0 s1
                    go_wp2_with fail
                    cases dvl : decide (e.asg[k].v < 0)
                    · cases dvg : decide ((t[p].vars.length : Int) ≤ e.asg[k].v)
                      · cases dvv : valB e.asg[k].val
                        · rw [dvv] at HI
                          have HF2 := hide (show asgF t[p].vars.length e.asg k = 2 by rw [HV.out, inB_var, dvl, dvg, dvv]; simp)
                          have HR := hide (firstNZ_hit (n := e.asg.length) HZ.out (by rw [HF2.out]; decide) hlt)
                          go_quiet ((go_at_call 127; go_must (exact quiet_r (HI.out _))))
                          revert nq; intro n2
                          go_wp2_with fail
                          go_ret
                          exact ⟨by rw [HE1.out, HR.out, HF2.out]; simp [h8], (hxx.alloc _).drewN _⟩
                        · rw [dvv] at HI
                          go_quiet ((go_at_call 127; go_must (exact quiet_r (HI.out _))))
                          revert nq; intro n2
                          go_wp2_with fail
                          have ba : BoxN (wr.alloc (.cells #[.int .i64 e.asg[k].v, .int .i64 e.asg[k].val] 152)) wr.heap.size 152 _ := BoxN.new _ _ _
                          have be3 := ((be2.ext hx).alloc (.cells #[.int .i64 e.asg[k].v, .int .i64 e.asg[k].val] 152)).drewN n2
                          have ba3 := ba.drewN n2
                          have hx3 := (hx.alloc (.cells #[.int .i64 e.asg[k].v, .int .i64 e.asg[k].val] 152)).drewN n2
                          clear e4 a0 a1 cv ht
                          generalize hba : wr.heap.size = ba0 at *
                          clear hba
                          generalize (wr.alloc (.cells #[.int .i64 e.asg[k].v, .int .i64 e.asg[k].val] 152)).drewN n2 = W3 at *
                          go_loopw [10] (fun v wr => ∃ q : Nat, q ≤ k ∧ v = .int .i64 q ∧ ((e.asg.take q).any fun b => b.v == e.asg[k].v) = false ∧ Ext W3 wr) (fun v _ => k - (intOf v).toNat)
                          case atStart => exact ⟨0, Nat.zero_le _, rfl, rfl, Ext.refl _⟩
                          case round =>
                            obtain ⟨q, hq, rfl, hany, hxq⟩ := hrel
                            have HANY := hide hany
                            clear hany
                            have e4 := (be3.ext hxq).cell (j := 4) rfl
                            have a0 := (ba3.ext hxq).cell (j := 0) rfl
                            have hxw := hx2.trans (hx3.trans hxq)
                            by_cases hlq : q < k
                            · have r0 := hxw.cellAt (HEL4.out q (by omega)).1
                              have hlq2 : (q : Int) < (e.asg.length : Int) := by omega
                              cases heq : e.asg[q].v == e.asg[k].v
                              · go_wp2_with fail
                                go_quiet (fail)
                                revert nq; intro n3
                                go_wp2_with fail
                                go_roundw
                                case rel => exact ⟨q + 1, hlq, by go_num, any_take_step (by omega) HANY.out heq, hxq.drewN _⟩
                                case measure => simp [intOf]; omega
                              · have HF8 := hide (show asgF t[p].vars.length e.asg k = 8 by rw [HV.out, inB_var, dvl, dvg, dvv, any_take_hit (f := fun b : Asg => b.v == e.asg[k].v) (n := k) (by omega) hlq heq]; rfl)
                                have HR := hide (firstNZ_hit (n := e.asg.length) HZ.out (by rw [HF8.out]; decide) hlt)
                                go_wp2_with fail
                                go_quiet (fail)
                                revert nq; intro n3
                                go_wp2_with fail
                                go_ret
                                exact ⟨by rw [HE1.out, HR.out, HF8.out]; simp [h8], hxw.drewN _⟩
                            · obtain rfl : q = k := by omega
                              have HF0 := hide (show asgF t[p].vars.length e.asg q = 0 by rw [HV.out, inB_var, dvl, dvg, dvv, HANY.out]; rfl)
                              go_wp2_with fail
                              go_roundw
                              case rel => exact ⟨q + 1, hlt, by go_num, firstNZ_step HZ.out HF0.out, hx3.trans hxq⟩
                              case measure => simp [intOf]; omega
                      · have HF2 := hide (show asgF t[p].vars.length e.asg k = 2 by rw [HV.out, inB_var, dvl, dvg]; simp)
                        have HR := hide (firstNZ_hit (n := e.asg.length) HZ.out (by rw [HF2.out]; decide) hlt)
                        go_quiet (fail)
                        revert nq; intro n2
                        go_wp2_with fail
                        go_ret
                        exact ⟨by rw [HE1.out, HR.out, HF2.out]; simp [h8], (hxx.alloc _).drewN _⟩
                    · have HF2 := hide (show asgF t[p].vars.length e.asg k = 2 by rw [HV.out, inB_var, dvl]; simp)
                      have HR := hide (firstNZ_hit (n := e.asg.length) HZ.out (by rw [HF2.out]; decide) hlt)
                      go_quiet (fail)
                      revert nq; intro n2
                      go_wp2_with fail
                      go_ret
                      exact ⟨by rw [HE1.out, HR.out, HF2.out]; simp [h8], (hxx.alloc _).drewN _⟩
                  · obtain rfl : k = e.asg.length := by omega
                    go_wp2_with fail
                    go_ret
                    exact ⟨by rw [HE1.out]; simp [h8, HZ.out], hxx⟩
            · have HF := hide (show formF t (p, j + 1 + 1) = 11 by rw [HE.out _ hl0, dtp]; simp)
              clear hl0 q3
              go_quiet (fail)
              revert nq; intro n1
              go_wp2_with fail
              go_ret
              exact ⟨by rw [HF.out]; rfl, hx1.drewN _⟩
        · have HF := hide (show formF t (p, i + 1) = 11 by rw [HE.out _ rfl, dtg]; simp)
          go_quiet (fail)
          revert nq; intro n1
          go_wp2_with fail
          go_ret
          exact ⟨by rw [HF.out]; rfl, hx1.drewN _⟩
      · have HF := hide (show formF t (p, i + 1) = 11 by rw [HE.out _ rfl, dtl]; simp)
        go_quiet (fail)
        revert nq; intro n1
        go_wp2_with fail
        go_ret
        exact ⟨by rw [HF.out]; rfl, hx1.drewN _⟩
end Go.Proofs.Ytiiflkcebikecaa

/- Walks of the reference: Fault and Valid. No condition but on lengths. -/
namespace Go.Proofs.Ytiiflkcebikecaa
open Go.RowKit
set_option linter.unusedVariables false

theorem findG_next {t : Tr} {P : Nat × Nat → Bool} {k j : Nat} (h : (idsTo t k j).find? P = none) (hx : P (k, j + 1) = false) : (idsTo t k (j + 1)).find? P = none := by
  rw [idsTo_succ, List.find?_append, h]
  simp [hx]
theorem findG_stop {t : Tr} {P : Nat × Nat → Bool} {k j : Nat} (hk : k < t.length) (hj : j < t[k].evs.length) (h : (idsTo t k j).find? P = none) (hx : P (k, j + 1) = true) : (ids t).find? P = some (k, j + 1) := by
  obtain ⟨r, hr⟩ := idsTo_prefix t k (j + 1) hk hj
  rw [← hr, idsTo_succ, List.append_assoc, List.find?_append, h]
  simp [hx]
theorem findG_all {t : Tr} {P : Nat × Nat → Bool} (h : (idsTo t t.length 0).find? P = none) : (ids t).find? P = none := by
  rw [idsTo_all] at h; exact h
theorem findG_zero {t : Tr} {f : Nat × Nat → Nat} (h : (ids t).find? (fun x => f x != 0) = none) : ∀ x ∈ ids t, f x = 0 := fun x hx => by
  rw [List.find?_eq_none] at h
  simpa using h x hx

open Classical in
noncomputable def hbB (t : Tr) (x : Nat × Nat) : Bool := decide (Hb t x x)
open Classical in
theorem hbB_true {t : Tr} {x : Nat × Nat} (h : Hb t x x) : hbB t x = true := by unfold hbB; exact decide_eq_true h
open Classical in
theorem hbB_false {t : Tr} {x : Nat × Nat} (h : ¬ Hb t x x) : hbB t x = false := by unfold hbB; exact decide_eq_false h

set_option maxRecDepth 100000 in
set_option maxHeartbeats 8000000 in
theorem rFault_any (u : Value) (t : Tr) (w : World) (hS : Small t) (hs : SlR 3 RPr w u t) :
    Calls Try.prog 74 #[.agg #[u]] w fun e w' => FPost t w e w' := by
  have HHD := hide (fun p (hp : p < t.length) w' (he : Ext w w') => rhead_any u t p w' hp hS (hs.ext RPr.keeps he))
  have HFO := hide (fun p i (hp : p < t.length) (hi : i < t[p].evs.length) w' (he : Ext w w') => rform_any u t p i w' hp hi hS (hs.ext RPr.keeps he))
  have HPA0 := hide (fun p i (hx : (p, i) ∈ ids t) (hf : formedB t.length p (evAt t (p, i)) = true) w' (he : Ext w w') => paired_any u t p i w' hx hf hS (hs.ext RPr.keeps he))
  have HAC0 := hide (fun (h1 : ∀ x ∈ ids t, pairF t x = 0) (h2 : ∀ x ∈ ids t, formedB t.length x.1 (evAt t x) = true) w' (he : Ext w w') => acyclic_any u t w' h1 h2 hS (hs.ext RPr.keeps he))
  have HPS0 := hide (fun p i (hx : (p, i) ∈ ids t) (hP : Paired t) (hN : (ids t).length ≤ 1000000) w' (he : Ext w w') => Past_any u t p i w' hx hP hN hS (hs.ext RPr.keeps he))
  obtain ⟨A, c, rfl, _, hcm, hc⟩ := hs.at_
  have HC := hide hc
  have hnp := hS.np
  clear hs hc
  unfold idVal at *
  go_enter Try.func74, Try.ntmps74
  cases hin : inB t.length 1 8
  · have HF := hide (fault_len hin)
    have hd : t.length < 1 ∨ 8 < t.length := by simp [inB] at hin; omega
    clear hin
    rcases hd with hd | hd
    · have hd1 : decide ((t.length : Int) < 1) = true := decide_eq_true (by omega)
      clear hd
      go_wp2_with fail
      refine bodyPost_ret (v := .tuple #[idVal (0, 0), .int .i64 1]) ?_ rfl ⟨by rw [HF.out]; rfl, ((Ext.refl w).alloc _).alloc _⟩
      simp [results, Try.f74, go_sem, idVal]
    · have hd1 : decide ((t.length : Int) < 1) = false := decide_eq_false (by omega)
      have hd2 : decide ((8 : Int) < (t.length : Int)) = true := decide_eq_true (by omega)
      clear hd
      go_wp2_with fail
      refine bodyPost_ret (v := .tuple #[idVal (0, 0), .int .i64 1]) ?_ rfl ⟨by rw [HF.out]; rfl, ((Ext.refl w).alloc _).alloc _⟩
      simp [results, Try.f74, go_sem, idVal]
  · have HIN := hide hin
    have hd1 : decide ((t.length : Int) < 1) = false := decide_eq_false (by simp [inB] at hin; omega)
    have hd2 : decide ((8 : Int) < (t.length : Int)) = false := decide_eq_false (by simp [inB] at hin; omega)
    clear hin
    go_wp2_with fail
    clear hd1 hd2
    have btW := (BoxN.new w 24 #[.slice A t.length c]).alloc (.cells #[.int .i64 0, .int .i64 0] 61)
    have brW : BoxN ((w.alloc (.cells #[.slice A t.length c] 24)).alloc (.cells #[.int .i64 0, .int .i64 0] 61)) (w.heap.size + 1) 61 #[.int .i64 0, .int .i64 0] := BoxN.newAt _ _ (by simp)
    have hx1 := ((Ext.refl w).alloc (.cells #[.slice A t.length c] 24)).alloc (.cells #[.int .i64 0, .int .i64 0] 61)
    generalize (w.alloc (.cells #[.slice A t.length c] 24)).alloc (.cells #[.int .i64 0, .int .i64 0] 61) = W1 at *
    go_loopw [4] (fun i wr => ∃ k : Nat, k ≤ t.length ∧ i = .int .i64 k ∧ (∀ q, q < k → headF t q = 0) ∧ Ext W1 wr) (fun i _ => t.length - (intOf i).toNat)
    case atStart => exact ⟨0, Nat.zero_le _, rfl, fun q hq => absurd hq (Nat.not_lt_zero _), Ext.refl _⟩
    case round =>
      obtain ⟨k, hk, rfl, h0, hxx⟩ := hrel
      have H0 := hide h0
      clear h0
      have bt2 := btW.ext hxx
      have br2 := brW.ext hxx
      have t0 : wr.cell? ⟨w.heap.size, 0, none⟩ = some (.slice A t.length c) := bt2.cell (j := 0) rfl
      have lt1 := bt2.lt
      have lt2 := br2.lt
      have hxw := hx1.trans hxx
      by_cases hlt : k < t.length
      · go_wp2_with fail
        refine (HHD.out k hlt _ hxw).mono ?_
        rintro e w2 ⟨rfl, he2⟩
        by_cases hz : headF t k = 0
        · have HZ := hide hz
          rw [hz]
          clear hz
          go_wp2_with fail
          go_roundw
          case rel => exact ⟨k + 1, hlt, by go_num, fun q hq => (Nat.lt_succ_iff_lt_or_eq.1 hq).elim (H0.out q) (fun e => e ▸ HZ.out), hxx.trans he2⟩
          case measure => simp [intOf]; omega
        · have HF := hide (fault_head HIN.out hlt H0.out hz)
          have hne2 : ((headF t k : Int) != 0) = true := by simp; omega
          have hne3 : ¬ ((headF t k : Int) = 0) := by omega
          have br3 := br2.ext he2
          have f0 := br3.frozen 0
          have f1 := br3.frozen 1
          have r0 := br3.cell (j := 0) rfl
          have r1 := br3.cell (j := 1) rfl
          have hxw2 := hxw.trans he2
          go_wp2_with fail
          obtain ⟨Wr, hWr⟩ : ∃ Wr, ((w2).setCell ⟨w.heap.size + 1, 0, none⟩ (Value.int .i64 k)).setCell ⟨w.heap.size + 1, 1, none⟩ (Value.int .i64 0) = Wr := ⟨_, rfl⟩
          rw [hWr]
          have s1 : BoxN Wr (w.heap.size + 1) 61 #[.int .i64 k, .int .i64 0] := by rw [← hWr]; ((repeat (first | with_reducible assumption | with_reducible exact KeepsFrom.refl _ _ | with_reducible refine KF.set ?_ _ _ | with_reducible refine KF.alloc ?_ _ | with_reducible refine KF.drew ?_ | with_reducible refine KF.drewN ?_ _ | with_reducible refine KF.ext ?_ (by assumption) | with_reducible exact Below.refl _ _ | with_reducible refine BL.set ?_ _ _ _ (by omega) | with_reducible refine BL.alloc ?_ _ (by omega) | with_reducible refine BL.drew ?_ | with_reducible refine BL.drewN ?_ _ | with_reducible refine BL.ext ?_ (by assumption) (by omega) | with_reducible exact Ext.refl _ | with_reducible refine Ext.set ?_ (by omega) _ | with_reducible refine Ext.alloc ?_ _ | with_reducible refine Ext.drew ?_ | with_reducible refine Ext.drewN ?_ _ | with_reducible refine Ext.trans ?_ (by assumption) | with_reducible refine BoxN.alloc ?_ _ | with_reducible refine BoxN.drew ?_ | with_reducible refine BoxN.drewN ?_ _ | with_reducible refine BoxN.other ?_ (by omega) _ | with_reducible refine BoxN.set ?_ _ _ | with_reducible apply BoxN.set1 | with_reducible apply BoxN.set2_1 | with_reducible apply BoxN.set2_0 | with_reducible apply BoxN.set5_4 | with_reducible apply BoxN.set5_3 | with_reducible apply BoxN.set5_2 | with_reducible apply BoxN.set5_1 | with_reducible apply BoxN.set5_0 | with_reducible apply BoxN.set3_2 | with_reducible apply BoxN.set3_1 | with_reducible apply BoxN.set3_0 | with_reducible apply BoxN.set4_3 | with_reducible apply BoxN.set4_2 | with_reducible apply BoxN.set4_1 | with_reducible apply BoxN.set4_0 | with_reducible refine BoxN.ext ?_ (by assumption))); done)
          have sx : Ext w Wr := by rw [← hWr]; ((repeat (first | with_reducible assumption | with_reducible exact KeepsFrom.refl _ _ | with_reducible refine KF.set ?_ _ _ | with_reducible refine KF.alloc ?_ _ | with_reducible refine KF.drew ?_ | with_reducible refine KF.drewN ?_ _ | with_reducible refine KF.ext ?_ (by assumption) | with_reducible exact Below.refl _ _ | with_reducible refine BL.set ?_ _ _ _ (by omega) | with_reducible refine BL.alloc ?_ _ (by omega) | with_reducible refine BL.drew ?_ | with_reducible refine BL.drewN ?_ _ | with_reducible refine BL.ext ?_ (by assumption) (by omega) | with_reducible exact Ext.refl _ | with_reducible refine Ext.set ?_ (by omega) _ | with_reducible refine Ext.alloc ?_ _ | with_reducible refine Ext.drew ?_ | with_reducible refine Ext.drewN ?_ _ | with_reducible refine Ext.trans ?_ (by assumption) | with_reducible refine BoxN.alloc ?_ _ | with_reducible refine BoxN.drew ?_ | with_reducible refine BoxN.drewN ?_ _ | with_reducible refine BoxN.other ?_ (by omega) _ | with_reducible refine BoxN.set ?_ _ _ | with_reducible apply BoxN.set1 | with_reducible apply BoxN.set2_1 | with_reducible apply BoxN.set2_0 | with_reducible apply BoxN.set5_4 | with_reducible apply BoxN.set5_3 | with_reducible apply BoxN.set5_2 | with_reducible apply BoxN.set5_1 | with_reducible apply BoxN.set5_0 | with_reducible apply BoxN.set3_2 | with_reducible apply BoxN.set3_1 | with_reducible apply BoxN.set3_0 | with_reducible apply BoxN.set4_3 | with_reducible apply BoxN.set4_2 | with_reducible apply BoxN.set4_1 | with_reducible apply BoxN.set4_0 | with_reducible refine BoxN.ext ?_ (by assumption))); done)
          clear hWr
          refine bodyPost_ret (v := .tuple #[idVal (k, 0), .int .i64 (headF t k)]) ?_ rfl ⟨by first | (rw [HF.out]; done) | (rw [HF.out]; rfl), sx⟩
          simp [results, Try.f74, go_sem, idVal, s1.cell (j := 0) rfl, s1.cell (j := 1) rfl]
      · obtain rfl : k = t.length := by omega
        go_wp2_with fail
        clear t0 lt1 lt2 bt2 br2 hxw
        go_loopw [6] (fun i wr => ∃ k : Nat, k ≤ t.length ∧ i = .int .i64 k ∧ (idsTo t k 0).find? (fun x => formF t x != 0) = none ∧ Ext W1 wr) (fun i _ => t.length - (intOf i).toNat)
        case atStart => exact ⟨0, Nat.zero_le _, rfl, rfl, hxx⟩
        case round =>
          obtain ⟨k, hk, rfl, hno, hx⟩ := hrel
          have HNO := hide hno
          clear hno
          have bt2 := btW.ext hx
          have br2 := brW.ext hx
          have hxw := hx1.trans hx
          have t0 : wr.cell? ⟨w.heap.size, 0, none⟩ = some (.slice A t.length c) := bt2.cell (j := 0) rfl
          have lt1 := bt2.lt
          have lt2 := br2.lt
          by_cases hlt : k < t.length
          · obtain ⟨b, off, rfl, hel⟩ := HC.out (by omega)
            obtain ⟨_, _, v2, c2, hs2⟩ := hel k hlt
            obtain ⟨A2, k2, rfl, _, _, hc2⟩ := hs2.at_
            have hne := hS.ne _ (List.getElem_mem hlt)
            clear hel hs2 hc2
            go_wp2_with fail
            clear t0 bt2 br2 hxw lt1 lt2
            go_loopw [7] (fun i wr => ∃ j : Nat, j ≤ t[k].evs.length ∧ i = .int .i64 j ∧ (idsTo t k j).find? (fun x => formF t x != 0) = none ∧ Ext W1 wr) (fun i _ => t[k].evs.length - (intOf i).toNat)
            case atStart => exact ⟨0, Nat.zero_le _, rfl, HNO.out, hx⟩
            case round =>
              clear hx
              obtain ⟨j, hj, rfl, hno2, hx⟩ := hrel
              have HNO2 := hide hno2
              clear hno2
              have bt2 := btW.ext hx
              have br2 := brW.ext hx
              have hxw := hx1.trans hx
              have t0 : wr.cell? ⟨w.heap.size, 0, none⟩ = some (.slice (some ⟨b, off, none⟩) t.length c) := bt2.cell (j := 0) rfl
              have lt1 := bt2.lt
              have lt2 := br2.lt
              have c2' := hxw.cellAt c2
              by_cases hlj : j < t[k].evs.length
              · have hxi : (k, j + 1) ∈ ids t := mem_ids.2 ⟨hlt, by simp, hlj⟩
                have HXI := hide hxi
                clear hxi
                go_wp2_with fail
                refine (HFO.out k j hlt hlj _ hxw).mono ?_
                rintro e w2 ⟨rfl, he2⟩
                by_cases hz : formF t (k, j + 1) = 0
                · have HN := hide (findG_next (P := fun x => formF t x != 0) HNO2.out (by simp [hz]))
                  rw [hz]
                  clear hz
                  go_wp2_with fail
                  go_roundw
                  case rel => exact ⟨j + 1, hlj, by go_num, HN.out, hx.trans he2⟩
                  case measure => simp [intOf]; omega
                · have HF := hide (fault_form HIN.out H0.out (findG_stop (P := fun x => formF t x != 0) hlt hlj HNO2.out (by simp [hz])))
                  have hne2 : ((formF t (k, j + 1) : Int) != 0) = true := by simp; omega
                  have hne3 : ¬ ((formF t (k, j + 1) : Int) = 0) := by omega
                  have br3 := br2.ext he2
                  have f0 := br3.frozen 0
                  have f1 := br3.frozen 1
                  have r0 := br3.cell (j := 0) rfl
                  have r1 := br3.cell (j := 1) rfl
                  have hxw2 := hxw.trans he2
                  go_wp2_with fail
                  obtain ⟨Wr, hWr⟩ : ∃ Wr, ((w2).setCell ⟨w.heap.size + 1, 0, none⟩ (Value.int .i64 k)).setCell ⟨w.heap.size + 1, 1, none⟩ (Value.int .i64 ((j : Int) + 1)) = Wr := ⟨_, rfl⟩
                  rw [hWr]
                  have s1 : BoxN Wr (w.heap.size + 1) 61 #[.int .i64 k, .int .i64 ((j : Int) + 1)] := by rw [← hWr]; ((repeat (first | with_reducible assumption | with_reducible exact KeepsFrom.refl _ _ | with_reducible refine KF.set ?_ _ _ | with_reducible refine KF.alloc ?_ _ | with_reducible refine KF.drew ?_ | with_reducible refine KF.drewN ?_ _ | with_reducible refine KF.ext ?_ (by assumption) | with_reducible exact Below.refl _ _ | with_reducible refine BL.set ?_ _ _ _ (by omega) | with_reducible refine BL.alloc ?_ _ (by omega) | with_reducible refine BL.drew ?_ | with_reducible refine BL.drewN ?_ _ | with_reducible refine BL.ext ?_ (by assumption) (by omega) | with_reducible exact Ext.refl _ | with_reducible refine Ext.set ?_ (by omega) _ | with_reducible refine Ext.alloc ?_ _ | with_reducible refine Ext.drew ?_ | with_reducible refine Ext.drewN ?_ _ | with_reducible refine Ext.trans ?_ (by assumption) | with_reducible refine BoxN.alloc ?_ _ | with_reducible refine BoxN.drew ?_ | with_reducible refine BoxN.drewN ?_ _ | with_reducible refine BoxN.other ?_ (by omega) _ | with_reducible refine BoxN.set ?_ _ _ | with_reducible apply BoxN.set1 | with_reducible apply BoxN.set2_1 | with_reducible apply BoxN.set2_0 | with_reducible apply BoxN.set5_4 | with_reducible apply BoxN.set5_3 | with_reducible apply BoxN.set5_2 | with_reducible apply BoxN.set5_1 | with_reducible apply BoxN.set5_0 | with_reducible apply BoxN.set3_2 | with_reducible apply BoxN.set3_1 | with_reducible apply BoxN.set3_0 | with_reducible apply BoxN.set4_3 | with_reducible apply BoxN.set4_2 | with_reducible apply BoxN.set4_1 | with_reducible apply BoxN.set4_0 | with_reducible refine BoxN.ext ?_ (by assumption))); done)
                  have sx : Ext w Wr := by rw [← hWr]; ((repeat (first | with_reducible assumption | with_reducible exact KeepsFrom.refl _ _ | with_reducible refine KF.set ?_ _ _ | with_reducible refine KF.alloc ?_ _ | with_reducible refine KF.drew ?_ | with_reducible refine KF.drewN ?_ _ | with_reducible refine KF.ext ?_ (by assumption) | with_reducible exact Below.refl _ _ | with_reducible refine BL.set ?_ _ _ _ (by omega) | with_reducible refine BL.alloc ?_ _ (by omega) | with_reducible refine BL.drew ?_ | with_reducible refine BL.drewN ?_ _ | with_reducible refine BL.ext ?_ (by assumption) (by omega) | with_reducible exact Ext.refl _ | with_reducible refine Ext.set ?_ (by omega) _ | with_reducible refine Ext.alloc ?_ _ | with_reducible refine Ext.drew ?_ | with_reducible refine Ext.drewN ?_ _ | with_reducible refine Ext.trans ?_ (by assumption) | with_reducible refine BoxN.alloc ?_ _ | with_reducible refine BoxN.drew ?_ | with_reducible refine BoxN.drewN ?_ _ | with_reducible refine BoxN.other ?_ (by omega) _ | with_reducible refine BoxN.set ?_ _ _ | with_reducible apply BoxN.set1 | with_reducible apply BoxN.set2_1 | with_reducible apply BoxN.set2_0 | with_reducible apply BoxN.set5_4 | with_reducible apply BoxN.set5_3 | with_reducible apply BoxN.set5_2 | with_reducible apply BoxN.set5_1 | with_reducible apply BoxN.set5_0 | with_reducible apply BoxN.set3_2 | with_reducible apply BoxN.set3_1 | with_reducible apply BoxN.set3_0 | with_reducible apply BoxN.set4_3 | with_reducible apply BoxN.set4_2 | with_reducible apply BoxN.set4_1 | with_reducible apply BoxN.set4_0 | with_reducible refine BoxN.ext ?_ (by assumption))); done)
                  clear hWr
                  refine bodyPost_ret (v := .tuple #[idVal (k, j + 1), .int .i64 (formF t (k, j + 1))]) ?_ rfl ⟨by first | (rw [HF.out]; done) | (rw [HF.out]; rfl), sx⟩
                  simp [results, Try.f74, go_sem, idVal, s1.cell (j := 0) rfl, s1.cell (j := 1) rfl]
              · obtain rfl : j = t[k].evs.length := by omega
                go_wp2_with fail
                go_roundw
                case rel => exact ⟨k + 1, hlt, by go_num, by rw [← idsTo_next t k hlt]; exact HNO2.out, hx⟩
                case measure => simp [intOf]; omega
          · obtain rfl : k = t.length := by omega
            have HALL := hide (findG_all HNO.out)
            have HFN := hide HALL.out
            have HPA := hide (fun p j (hx : (p, j + 1) ∈ ids t) w' (he : Ext w w') => (show ((j + 1 : Nat) : Int) = (j : Int) + 1 from by push_cast; rfl) ▸ HPA0.out p (j + 1) hx (formF_formed (findG_zero HFN.out _ hx)) w' he)
            clear HALL
            go_wp2_with fail
            clear t0 lt1 lt2 bt2 br2 hxw HNO
            go_loopw [9] (fun i wr => ∃ k : Nat, k ≤ t.length ∧ i = .int .i64 k ∧ (idsTo t k 0).find? (fun x => pairF t x != 0) = none ∧ Ext W1 wr) (fun i _ => t.length - (intOf i).toNat)
            case atStart => exact ⟨0, Nat.zero_le _, rfl, rfl, hx⟩
            case round =>
              clear hx
              obtain ⟨k, hk, rfl, hno, hx⟩ := hrel
              have HNO := hide hno
              clear hno
              have bt2 := btW.ext hx
              have br2 := brW.ext hx
              have hxw := hx1.trans hx
              have t0 : wr.cell? ⟨w.heap.size, 0, none⟩ = some (.slice A t.length c) := bt2.cell (j := 0) rfl
              have lt1 := bt2.lt
              have lt2 := br2.lt
              by_cases hlt : k < t.length
              · obtain ⟨b, off, rfl, hel⟩ := HC.out (by omega)
                obtain ⟨_, _, v2, c2, hs2⟩ := hel k hlt
                obtain ⟨A2, k2, rfl, _, _, hc2⟩ := hs2.at_
                have hne := hS.ne _ (List.getElem_mem hlt)
                clear hel hs2 hc2
                go_wp2_with fail
                clear t0 bt2 br2 hxw lt1 lt2
                go_loopw [10] (fun i wr => ∃ j : Nat, j ≤ t[k].evs.length ∧ i = .int .i64 j ∧ (idsTo t k j).find? (fun x => pairF t x != 0) = none ∧ Ext W1 wr) (fun i _ => t[k].evs.length - (intOf i).toNat)
                case atStart => exact ⟨0, Nat.zero_le _, rfl, HNO.out, hx⟩
                case round =>
                  clear hx
                  obtain ⟨j, hj, rfl, hno2, hx⟩ := hrel
                  have HNO2 := hide hno2
                  clear hno2
                  have bt2 := btW.ext hx
                  have br2 := brW.ext hx
                  have hxw := hx1.trans hx
                  have t0 : wr.cell? ⟨w.heap.size, 0, none⟩ = some (.slice (some ⟨b, off, none⟩) t.length c) := bt2.cell (j := 0) rfl
                  have lt1 := bt2.lt
                  have lt2 := br2.lt
                  have c2' := hxw.cellAt c2
                  by_cases hlj : j < t[k].evs.length
                  · have hxi : (k, j + 1) ∈ ids t := mem_ids.2 ⟨hlt, by simp, hlj⟩
                    have HXI := hide hxi
                    clear hxi
                    go_wp2_with fail
                    have bxn := BoxN.new wr 61 #[.int .i64 k, .int .i64 ((j : Int) + 1)]
                    have hxn := hxw.alloc (.cells #[.int .i64 k, .int .i64 ((j : Int) + 1)] 61)
                    have hx1n := hx.alloc (.cells #[.int .i64 k, .int .i64 ((j : Int) + 1)] 61)
                    have brn := br2.alloc (.cells #[.int .i64 k, .int .i64 ((j : Int) + 1)] 61)
                    clear t0 lt1 lt2 c2' bt2 br2 hx hxw
                    generalize wr.heap.size = gx at *
                    generalize (wr.alloc (.cells #[.int .i64 k, .int .i64 ((j : Int) + 1)] 61)) = W3 at *
                    refine (HPA.out k j HXI.out _ hxn).mono ?_
                    rintro e w2 ⟨rfl, he2⟩
                    by_cases hz : pairF t (k, j + 1) = 0
                    · have HN := hide (findG_next (P := fun x => pairF t x != 0) HNO2.out (by simp [hz]))
                      rw [hz]
                      clear hz
                      go_wp2_with fail
                      go_roundw
                      case rel => exact ⟨j + 1, hlj, by go_num, HN.out, hx1n.trans he2⟩
                      case measure => simp [intOf]; omega
                    · have HF := hide (fault_pair HIN.out H0.out HFN.out (findG_stop (P := fun x => pairF t x != 0) hlt hlj HNO2.out (by simp [hz])))
                      have hne2 : ((pairF t (k, j + 1) : Int) != 0) = true := by simp; omega
                      have hne3 : ¬ ((pairF t (k, j + 1) : Int) = 0) := by omega
                      have br3 := brn.ext he2
                      have f0 := br3.frozen 0
                      have f1 := br3.frozen 1
                      have r0 := br3.cell (j := 0) rfl
                      have r1 := br3.cell (j := 1) rfl
                      have bx3 := bxn.ext he2
                      have x0 := bx3.cell (j := 0) rfl
                      have x1 := bx3.cell (j := 1) rfl
                      have hxw2 := hxn.trans he2
                      go_wp2_with fail
                      obtain ⟨Wr, hWr⟩ : ∃ Wr, ((w2).setCell ⟨w.heap.size + 1, 0, none⟩ (Value.int .i64 k)).setCell ⟨w.heap.size + 1, 1, none⟩ (Value.int .i64 ((j : Int) + 1)) = Wr := ⟨_, rfl⟩
                      rw [hWr]
                      have s1 : BoxN Wr (w.heap.size + 1) 61 #[.int .i64 k, .int .i64 ((j : Int) + 1)] := by rw [← hWr]; ((repeat (first | with_reducible assumption | with_reducible exact KeepsFrom.refl _ _ | with_reducible refine KF.set ?_ _ _ | with_reducible refine KF.alloc ?_ _ | with_reducible refine KF.drew ?_ | with_reducible refine KF.drewN ?_ _ | with_reducible refine KF.ext ?_ (by assumption) | with_reducible exact Below.refl _ _ | with_reducible refine BL.set ?_ _ _ _ (by omega) | with_reducible refine BL.alloc ?_ _ (by omega) | with_reducible refine BL.drew ?_ | with_reducible refine BL.drewN ?_ _ | with_reducible refine BL.ext ?_ (by assumption) (by omega) | with_reducible exact Ext.refl _ | with_reducible refine Ext.set ?_ (by omega) _ | with_reducible refine Ext.alloc ?_ _ | with_reducible refine Ext.drew ?_ | with_reducible refine Ext.drewN ?_ _ | with_reducible refine Ext.trans ?_ (by assumption) | with_reducible refine BoxN.alloc ?_ _ | with_reducible refine BoxN.drew ?_ | with_reducible refine BoxN.drewN ?_ _ | with_reducible refine BoxN.other ?_ (by omega) _ | with_reducible refine BoxN.set ?_ _ _ | with_reducible apply BoxN.set1 | with_reducible apply BoxN.set2_1 | with_reducible apply BoxN.set2_0 | with_reducible apply BoxN.set5_4 | with_reducible apply BoxN.set5_3 | with_reducible apply BoxN.set5_2 | with_reducible apply BoxN.set5_1 | with_reducible apply BoxN.set5_0 | with_reducible apply BoxN.set3_2 | with_reducible apply BoxN.set3_1 | with_reducible apply BoxN.set3_0 | with_reducible apply BoxN.set4_3 | with_reducible apply BoxN.set4_2 | with_reducible apply BoxN.set4_1 | with_reducible apply BoxN.set4_0 | with_reducible refine BoxN.ext ?_ (by assumption))); done)
                      have sx : Ext w Wr := by rw [← hWr]; ((repeat (first | with_reducible assumption | with_reducible exact KeepsFrom.refl _ _ | with_reducible refine KF.set ?_ _ _ | with_reducible refine KF.alloc ?_ _ | with_reducible refine KF.drew ?_ | with_reducible refine KF.drewN ?_ _ | with_reducible refine KF.ext ?_ (by assumption) | with_reducible exact Below.refl _ _ | with_reducible refine BL.set ?_ _ _ _ (by omega) | with_reducible refine BL.alloc ?_ _ (by omega) | with_reducible refine BL.drew ?_ | with_reducible refine BL.drewN ?_ _ | with_reducible refine BL.ext ?_ (by assumption) (by omega) | with_reducible exact Ext.refl _ | with_reducible refine Ext.set ?_ (by omega) _ | with_reducible refine Ext.alloc ?_ _ | with_reducible refine Ext.drew ?_ | with_reducible refine Ext.drewN ?_ _ | with_reducible refine Ext.trans ?_ (by assumption) | with_reducible refine BoxN.alloc ?_ _ | with_reducible refine BoxN.drew ?_ | with_reducible refine BoxN.drewN ?_ _ | with_reducible refine BoxN.other ?_ (by omega) _ | with_reducible refine BoxN.set ?_ _ _ | with_reducible apply BoxN.set1 | with_reducible apply BoxN.set2_1 | with_reducible apply BoxN.set2_0 | with_reducible apply BoxN.set5_4 | with_reducible apply BoxN.set5_3 | with_reducible apply BoxN.set5_2 | with_reducible apply BoxN.set5_1 | with_reducible apply BoxN.set5_0 | with_reducible apply BoxN.set3_2 | with_reducible apply BoxN.set3_1 | with_reducible apply BoxN.set3_0 | with_reducible apply BoxN.set4_3 | with_reducible apply BoxN.set4_2 | with_reducible apply BoxN.set4_1 | with_reducible apply BoxN.set4_0 | with_reducible refine BoxN.ext ?_ (by assumption))); done)
                      clear hWr
                      refine bodyPost_ret (v := .tuple #[idVal (k, j + 1), .int .i64 (pairF t (k, j + 1))]) ?_ rfl ⟨by first | (rw [HF.out]; done) | (rw [HF.out]; rfl), sx⟩
                      simp [results, Try.f74, go_sem, idVal, s1.cell (j := 0) rfl, s1.cell (j := 1) rfl]
                  · obtain rfl : j = t[k].evs.length := by omega
                    go_wp2_with fail
                    go_roundw
                    case rel => exact ⟨k + 1, hlt, by go_num, by rw [← idsTo_next t k hlt]; exact HNO2.out, hx⟩
                    case measure => simp [intOf]; omega
              · obtain rfl : k = t.length := by omega
                have HALL := hide (findG_all HNO.out)
                have HPN := hide HALL.out
                have hP : Paired t := ⟨fun x hx => formF_formed (findG_zero HFN.out x hx), findG_zero HPN.out⟩
                have HPS := hide (fun p j (hx : (p, j + 1) ∈ ids t) w' (he : Ext w w') => (show ((j + 1 : Nat) : Int) = (j : Int) + 1 from by push_cast; rfl) ▸ HPS0.out p (j + 1) hx hP (ids_few hS.np hS.ne HIN.out H0.out) w' he)
                have HAC := hide (HAC0.out hP.pair hP.form)
                clear hP HALL
                go_wp2_with fail
                refine (HAC.out _ hxw).mono ?_
                rintro e w2 ⟨b, rfl, hb, he2⟩
                cases b
                · go_wp2_with fail
                  replace hx := hx.trans he2
                  clear t0 lt1 lt2 bt2 br2 hxw he2 hb HNO
                  obtain ⟨WB, hWB⟩ : ∃ WB : World, w2 = WB := ⟨_, rfl⟩
                  rw [hWB] at hx ⊢
                  clear hWB
                  go_loopw [13] (fun i wr => ∃ k : Nat, k ≤ t.length ∧ i = .int .i64 k ∧ (idsTo t k 0).find? (hbB t) = none ∧ Ext W1 wr) (fun i _ => t.length - (intOf i).toNat)
                  case atStart => exact ⟨0, Nat.zero_le _, rfl, rfl, hx⟩
                  case round =>
                    clear hx
                    obtain ⟨k, hk, rfl, hno, hx⟩ := hrel
                    have HNO := hide hno
                    clear hno
                    have bt2 := btW.ext hx
                    have br2 := brW.ext hx
                    have hxw := hx1.trans hx
                    have t0 : wr.cell? ⟨w.heap.size, 0, none⟩ = some (.slice A t.length c) := bt2.cell (j := 0) rfl
                    have lt1 := bt2.lt
                    have lt2 := br2.lt
                    by_cases hlt : k < t.length
                    · obtain ⟨b, off, rfl, hel⟩ := HC.out (by omega)
                      obtain ⟨_, _, v2, c2, hs2⟩ := hel k hlt
                      obtain ⟨A2, k2, rfl, _, _, hc2⟩ := hs2.at_
                      have hne := hS.ne _ (List.getElem_mem hlt)
                      clear hel hs2 hc2
                      go_wp2_with fail
                      clear t0 bt2 br2 hxw lt1 lt2
                      go_loopw [14] (fun i wr => ∃ j : Nat, j ≤ t[k].evs.length ∧ i = .int .i64 j ∧ (idsTo t k j).find? (hbB t) = none ∧ Ext W1 wr) (fun i _ => t[k].evs.length - (intOf i).toNat)
                      case atStart => exact ⟨0, Nat.zero_le _, rfl, HNO.out, hx⟩
                      case round =>
                        clear hx
                        obtain ⟨j, hj, rfl, hno2, hx⟩ := hrel
                        have HNO2 := hide hno2
                        clear hno2
                        have bt2 := btW.ext hx
                        have br2 := brW.ext hx
                        have hxw := hx1.trans hx
                        have t0 : wr.cell? ⟨w.heap.size, 0, none⟩ = some (.slice (some ⟨b, off, none⟩) t.length c) := bt2.cell (j := 0) rfl
                        have lt1 := bt2.lt
                        have lt2 := br2.lt
                        have c2' := hxw.cellAt c2
                        by_cases hlj : j < t[k].evs.length
                        · have hxi : (k, j + 1) ∈ ids t := mem_ids.2 ⟨hlt, by simp, hlj⟩
                          have HXI := hide hxi
                          clear hxi
                          go_wp2_with fail
                          have bxn := BoxN.new wr 61 #[.int .i64 k, .int .i64 ((j : Int) + 1)]
                          have hxn := hxw.alloc (.cells #[.int .i64 k, .int .i64 ((j : Int) + 1)] 61)
                          have hx1n := hx.alloc (.cells #[.int .i64 k, .int .i64 ((j : Int) + 1)] 61)
                          have brn := br2.alloc (.cells #[.int .i64 k, .int .i64 ((j : Int) + 1)] 61)
                          clear t0 lt1 lt2 c2' bt2 br2 hx hxw
                          generalize wr.heap.size = gx at *
                          generalize (wr.alloc (.cells #[.int .i64 k, .int .i64 ((j : Int) + 1)] 61)) = W3 at *
                          refine (HPS.out k j HXI.out _ hxn).mono ?_
                          rintro e w2 ⟨v9, gs, S, rfl, hgr, hgl, hiff, he2⟩
                          have hyg : k < gs.length := by rw [hgl.1]; exact hlt
                          have hgl2 : gs[k].2 = t[k].evs.length + 1 := hgl.2 k hyg hlt
                          have hHB := hide (hiff (k, j + 1) HXI.out)
                          obtain ⟨gO, offO, capO, curO, rfl, hBO, hbO, hO1, hO2, hO3, hcO⟩ := hgr.out.open_ (by omega)
                          have o0 : w2.cell? ⟨gO, offO + k, none⟩ = some (.slice (some ⟨gs[k].1, 0, none⟩) gs[k].2 gs[k].2) := hbO.cell (hcO k _ (by rw [List.getElem?_map, List.getElem?_eq_getElem hyg]; rfl))
                          have rr0 : w2.cell? ⟨gs[k].1, j + 1, none⟩ = some (.bool (decide ((k, j + 1) ∈ S))) := (hgr.row k hyg).1.cell (rowM_get (by rw [hgl2]; omega))
                          have hlO := hbO.lt
                          have hlR := (hgr.row k hyg).1.lt
                          have hi1 : (k : Int) < (gs.length : Int) := by omega
                          have hi3 : (j : Int) + 1 < (gs[k].2 : Int) := by rw [hgl2]; omega
                          have hcap : gs[k].2 ≤ 1000001 := by rw [hgl2]; omega
                          have hi2 : (0 : Int) ≤ (k : Int) := by omega
                          have hi4 : (0 : Int) ≤ (j : Int) + 1 := by omega
                          have br3 := brn.ext he2
                          have f0 := br3.frozen 0
                          have f1 := br3.frozen 1
                          have r0 := br3.cell (j := 0) rfl
                          have r1 := br3.cell (j := 1) rfl
                          have bx3 := bxn.ext he2
                          have x0 := bx3.cell (j := 0) rfl
                          have x1 := bx3.cell (j := 1) rfl
                          have hxw2 := hxn.trans he2
                          clear hgr hgl hiff hbO hcO hgl2
                          unfold maxLen at hO2
                          generalize gs[k].1 = gb at *
                          generalize gs[k].2 = gn at *
                          cases hz : decide ((k, j + 1) ∈ S)
                          · have HN := hide (findG_next (P := hbB t) HNO2.out (hbB_false fun h => of_decide_eq_false hz (hHB.out.2 h)))
                            rw [hz] at rr0
                            clear hz
                            go_wp2_with fail
                            go_roundw
                            case rel => exact ⟨j + 1, hlj, by go_num, HN.out, hx1n.trans he2⟩
                            case measure => simp [intOf]; omega
                          · have HF := hide (fault_hb HIN.out H0.out HFN.out HPN.out (show hbFirst t = _ from findG_stop (P := hbB t) hlt hlj HNO2.out (hbB_true (hHB.out.1 (of_decide_eq_true hz)))))
                            rw [hz] at rr0
                            clear hz
                            go_wp2_with fail
                            obtain ⟨Wr, hWr⟩ : ∃ Wr, ((w2).setCell ⟨w.heap.size + 1, 0, none⟩ (Value.int .i64 k)).setCell ⟨w.heap.size + 1, 1, none⟩ (Value.int .i64 ((j : Int) + 1)) = Wr := ⟨_, rfl⟩
                            rw [hWr]
                            have s1 : BoxN Wr (w.heap.size + 1) 61 #[.int .i64 k, .int .i64 ((j : Int) + 1)] := by rw [← hWr]; ((repeat (first | with_reducible assumption | with_reducible exact KeepsFrom.refl _ _ | with_reducible refine KF.set ?_ _ _ | with_reducible refine KF.alloc ?_ _ | with_reducible refine KF.drew ?_ | with_reducible refine KF.drewN ?_ _ | with_reducible refine KF.ext ?_ (by assumption) | with_reducible exact Below.refl _ _ | with_reducible refine BL.set ?_ _ _ _ (by omega) | with_reducible refine BL.alloc ?_ _ (by omega) | with_reducible refine BL.drew ?_ | with_reducible refine BL.drewN ?_ _ | with_reducible refine BL.ext ?_ (by assumption) (by omega) | with_reducible exact Ext.refl _ | with_reducible refine Ext.set ?_ (by omega) _ | with_reducible refine Ext.alloc ?_ _ | with_reducible refine Ext.drew ?_ | with_reducible refine Ext.drewN ?_ _ | with_reducible refine Ext.trans ?_ (by assumption) | with_reducible refine BoxN.alloc ?_ _ | with_reducible refine BoxN.drew ?_ | with_reducible refine BoxN.drewN ?_ _ | with_reducible refine BoxN.other ?_ (by omega) _ | with_reducible refine BoxN.set ?_ _ _ | with_reducible apply BoxN.set1 | with_reducible apply BoxN.set2_1 | with_reducible apply BoxN.set2_0 | with_reducible apply BoxN.set5_4 | with_reducible apply BoxN.set5_3 | with_reducible apply BoxN.set5_2 | with_reducible apply BoxN.set5_1 | with_reducible apply BoxN.set5_0 | with_reducible apply BoxN.set3_2 | with_reducible apply BoxN.set3_1 | with_reducible apply BoxN.set3_0 | with_reducible apply BoxN.set4_3 | with_reducible apply BoxN.set4_2 | with_reducible apply BoxN.set4_1 | with_reducible apply BoxN.set4_0 | with_reducible refine BoxN.ext ?_ (by assumption))); done)
                            have sx : Ext w Wr := by rw [← hWr]; ((repeat (first | with_reducible assumption | with_reducible exact KeepsFrom.refl _ _ | with_reducible refine KF.set ?_ _ _ | with_reducible refine KF.alloc ?_ _ | with_reducible refine KF.drew ?_ | with_reducible refine KF.drewN ?_ _ | with_reducible refine KF.ext ?_ (by assumption) | with_reducible exact Below.refl _ _ | with_reducible refine BL.set ?_ _ _ _ (by omega) | with_reducible refine BL.alloc ?_ _ (by omega) | with_reducible refine BL.drew ?_ | with_reducible refine BL.drewN ?_ _ | with_reducible refine BL.ext ?_ (by assumption) (by omega) | with_reducible exact Ext.refl _ | with_reducible refine Ext.set ?_ (by omega) _ | with_reducible refine Ext.alloc ?_ _ | with_reducible refine Ext.drew ?_ | with_reducible refine Ext.drewN ?_ _ | with_reducible refine Ext.trans ?_ (by assumption) | with_reducible refine BoxN.alloc ?_ _ | with_reducible refine BoxN.drew ?_ | with_reducible refine BoxN.drewN ?_ _ | with_reducible refine BoxN.other ?_ (by omega) _ | with_reducible refine BoxN.set ?_ _ _ | with_reducible apply BoxN.set1 | with_reducible apply BoxN.set2_1 | with_reducible apply BoxN.set2_0 | with_reducible apply BoxN.set5_4 | with_reducible apply BoxN.set5_3 | with_reducible apply BoxN.set5_2 | with_reducible apply BoxN.set5_1 | with_reducible apply BoxN.set5_0 | with_reducible apply BoxN.set3_2 | with_reducible apply BoxN.set3_1 | with_reducible apply BoxN.set3_0 | with_reducible apply BoxN.set4_3 | with_reducible apply BoxN.set4_2 | with_reducible apply BoxN.set4_1 | with_reducible apply BoxN.set4_0 | with_reducible refine BoxN.ext ?_ (by assumption))); done)
                            clear hWr
                            refine bodyPost_ret (v := .tuple #[idVal (k, j + 1), .int .i64 10]) ?_ rfl ⟨by first | (rw [HF.out]; done) | (rw [HF.out]; rfl), sx⟩
                            simp [results, Try.f74, go_sem, idVal, s1.cell (j := 0) rfl, s1.cell (j := 1) rfl]
                        · obtain rfl : j = t[k].evs.length := by omega
                          go_wp2_with fail
                          go_roundw
                          case rel => exact ⟨k + 1, hlt, by go_num, by rw [← idsTo_next t k hlt]; exact HNO2.out, hx⟩
                          case measure => simp [intOf]; omega
                    · obtain rfl : k = t.length := by omega
                      have HALL := hide (findG_all HNO.out)
                      have HF := hide (fault_ok HIN.out H0.out HFN.out HPN.out (show hbFirst t = none from HALL.out))
                      have f0 := br2.frozen 0
                      have f1 := br2.frozen 1
                      have r0 := br2.cell (j := 0) rfl
                      have r1 := br2.cell (j := 1) rfl
                      go_wp2_with fail
                      obtain ⟨Wr, hWr⟩ : ∃ Wr, (wr.setCell ⟨w.heap.size + 1, 0, none⟩ (Value.int .i64 0)).setCell ⟨w.heap.size + 1, 1, none⟩ (Value.int .i64 0) = Wr := ⟨_, rfl⟩
                      rw [hWr]
                      have s1 : BoxN Wr (w.heap.size + 1) 61 #[.int .i64 0, .int .i64 0] := by rw [← hWr]; ((repeat (first | with_reducible assumption | with_reducible exact KeepsFrom.refl _ _ | with_reducible refine KF.set ?_ _ _ | with_reducible refine KF.alloc ?_ _ | with_reducible refine KF.drew ?_ | with_reducible refine KF.drewN ?_ _ | with_reducible refine KF.ext ?_ (by assumption) | with_reducible exact Below.refl _ _ | with_reducible refine BL.set ?_ _ _ _ (by omega) | with_reducible refine BL.alloc ?_ _ (by omega) | with_reducible refine BL.drew ?_ | with_reducible refine BL.drewN ?_ _ | with_reducible refine BL.ext ?_ (by assumption) (by omega) | with_reducible exact Ext.refl _ | with_reducible refine Ext.set ?_ (by omega) _ | with_reducible refine Ext.alloc ?_ _ | with_reducible refine Ext.drew ?_ | with_reducible refine Ext.drewN ?_ _ | with_reducible refine Ext.trans ?_ (by assumption) | with_reducible refine BoxN.alloc ?_ _ | with_reducible refine BoxN.drew ?_ | with_reducible refine BoxN.drewN ?_ _ | with_reducible refine BoxN.other ?_ (by omega) _ | with_reducible refine BoxN.set ?_ _ _ | with_reducible apply BoxN.set1 | with_reducible apply BoxN.set2_1 | with_reducible apply BoxN.set2_0 | with_reducible apply BoxN.set5_4 | with_reducible apply BoxN.set5_3 | with_reducible apply BoxN.set5_2 | with_reducible apply BoxN.set5_1 | with_reducible apply BoxN.set5_0 | with_reducible apply BoxN.set3_2 | with_reducible apply BoxN.set3_1 | with_reducible apply BoxN.set3_0 | with_reducible apply BoxN.set4_3 | with_reducible apply BoxN.set4_2 | with_reducible apply BoxN.set4_1 | with_reducible apply BoxN.set4_0 | with_reducible refine BoxN.ext ?_ (by assumption))); done)
                      have sx : Ext w Wr := by rw [← hWr]; ((repeat (first | with_reducible assumption | with_reducible exact KeepsFrom.refl _ _ | with_reducible refine KF.set ?_ _ _ | with_reducible refine KF.alloc ?_ _ | with_reducible refine KF.drew ?_ | with_reducible refine KF.drewN ?_ _ | with_reducible refine KF.ext ?_ (by assumption) | with_reducible exact Below.refl _ _ | with_reducible refine BL.set ?_ _ _ _ (by omega) | with_reducible refine BL.alloc ?_ _ (by omega) | with_reducible refine BL.drew ?_ | with_reducible refine BL.drewN ?_ _ | with_reducible refine BL.ext ?_ (by assumption) (by omega) | with_reducible exact Ext.refl _ | with_reducible refine Ext.set ?_ (by omega) _ | with_reducible refine Ext.alloc ?_ _ | with_reducible refine Ext.drew ?_ | with_reducible refine Ext.drewN ?_ _ | with_reducible refine Ext.trans ?_ (by assumption) | with_reducible refine BoxN.alloc ?_ _ | with_reducible refine BoxN.drew ?_ | with_reducible refine BoxN.drewN ?_ _ | with_reducible refine BoxN.other ?_ (by omega) _ | with_reducible refine BoxN.set ?_ _ _ | with_reducible apply BoxN.set1 | with_reducible apply BoxN.set2_1 | with_reducible apply BoxN.set2_0 | with_reducible apply BoxN.set5_4 | with_reducible apply BoxN.set5_3 | with_reducible apply BoxN.set5_2 | with_reducible apply BoxN.set5_1 | with_reducible apply BoxN.set5_0 | with_reducible apply BoxN.set3_2 | with_reducible apply BoxN.set3_1 | with_reducible apply BoxN.set3_0 | with_reducible apply BoxN.set4_3 | with_reducible apply BoxN.set4_2 | with_reducible apply BoxN.set4_1 | with_reducible apply BoxN.set4_0 | with_reducible refine BoxN.ext ?_ (by assumption))); done)
                      clear hWr
                      refine bodyPost_ret (v := .tuple #[idVal (0, 0), .int .i64 0]) ?_ rfl ⟨by first | (rw [HF.out]; done) | (rw [HF.out]; rfl), sx⟩
                      simp [results, Try.f74, go_sem, idVal, s1.cell (j := 0) rfl, s1.cell (j := 1) rfl]

                · have HNB := hide (show (ids t).find? (hbB t) = none from by
                    rw [List.find?_eq_none]; intro x hx; rw [hbB_false (hb rfl x hx)]; exact Bool.false_ne_true)
                  have HF := hide (fault_ok HIN.out H0.out HFN.out HPN.out (show hbFirst t = none from HNB.out))
                  have br3 := br2.ext he2
                  have f0 := br3.frozen 0
                  have f1 := br3.frozen 1
                  have r0 := br3.cell (j := 0) rfl
                  have r1 := br3.cell (j := 1) rfl
                  have hxw2 := hxw.trans he2
                  go_wp2_with fail
                  obtain ⟨Wr, hWr⟩ : ∃ Wr, (w2.setCell ⟨w.heap.size + 1, 0, none⟩ (Value.int .i64 0)).setCell ⟨w.heap.size + 1, 1, none⟩ (Value.int .i64 0) = Wr := ⟨_, rfl⟩
                  rw [hWr]
                  have s1 : BoxN Wr (w.heap.size + 1) 61 #[.int .i64 0, .int .i64 0] := by rw [← hWr]; ((repeat (first | with_reducible assumption | with_reducible exact KeepsFrom.refl _ _ | with_reducible refine KF.set ?_ _ _ | with_reducible refine KF.alloc ?_ _ | with_reducible refine KF.drew ?_ | with_reducible refine KF.drewN ?_ _ | with_reducible refine KF.ext ?_ (by assumption) | with_reducible exact Below.refl _ _ | with_reducible refine BL.set ?_ _ _ _ (by omega) | with_reducible refine BL.alloc ?_ _ (by omega) | with_reducible refine BL.drew ?_ | with_reducible refine BL.drewN ?_ _ | with_reducible refine BL.ext ?_ (by assumption) (by omega) | with_reducible exact Ext.refl _ | with_reducible refine Ext.set ?_ (by omega) _ | with_reducible refine Ext.alloc ?_ _ | with_reducible refine Ext.drew ?_ | with_reducible refine Ext.drewN ?_ _ | with_reducible refine Ext.trans ?_ (by assumption) | with_reducible refine BoxN.alloc ?_ _ | with_reducible refine BoxN.drew ?_ | with_reducible refine BoxN.drewN ?_ _ | with_reducible refine BoxN.other ?_ (by omega) _ | with_reducible refine BoxN.set ?_ _ _ | with_reducible apply BoxN.set1 | with_reducible apply BoxN.set2_1 | with_reducible apply BoxN.set2_0 | with_reducible apply BoxN.set5_4 | with_reducible apply BoxN.set5_3 | with_reducible apply BoxN.set5_2 | with_reducible apply BoxN.set5_1 | with_reducible apply BoxN.set5_0 | with_reducible apply BoxN.set3_2 | with_reducible apply BoxN.set3_1 | with_reducible apply BoxN.set3_0 | with_reducible apply BoxN.set4_3 | with_reducible apply BoxN.set4_2 | with_reducible apply BoxN.set4_1 | with_reducible apply BoxN.set4_0 | with_reducible refine BoxN.ext ?_ (by assumption))); done)
                  have sx : Ext w Wr := by rw [← hWr]; ((repeat (first | with_reducible assumption | with_reducible exact KeepsFrom.refl _ _ | with_reducible refine KF.set ?_ _ _ | with_reducible refine KF.alloc ?_ _ | with_reducible refine KF.drew ?_ | with_reducible refine KF.drewN ?_ _ | with_reducible refine KF.ext ?_ (by assumption) | with_reducible exact Below.refl _ _ | with_reducible refine BL.set ?_ _ _ _ (by omega) | with_reducible refine BL.alloc ?_ _ (by omega) | with_reducible refine BL.drew ?_ | with_reducible refine BL.drewN ?_ _ | with_reducible refine BL.ext ?_ (by assumption) (by omega) | with_reducible exact Ext.refl _ | with_reducible refine Ext.set ?_ (by omega) _ | with_reducible refine Ext.alloc ?_ _ | with_reducible refine Ext.drew ?_ | with_reducible refine Ext.drewN ?_ _ | with_reducible refine Ext.trans ?_ (by assumption) | with_reducible refine BoxN.alloc ?_ _ | with_reducible refine BoxN.drew ?_ | with_reducible refine BoxN.drewN ?_ _ | with_reducible refine BoxN.other ?_ (by omega) _ | with_reducible refine BoxN.set ?_ _ _ | with_reducible apply BoxN.set1 | with_reducible apply BoxN.set2_1 | with_reducible apply BoxN.set2_0 | with_reducible apply BoxN.set5_4 | with_reducible apply BoxN.set5_3 | with_reducible apply BoxN.set5_2 | with_reducible apply BoxN.set5_1 | with_reducible apply BoxN.set5_0 | with_reducible apply BoxN.set3_2 | with_reducible apply BoxN.set3_1 | with_reducible apply BoxN.set3_0 | with_reducible apply BoxN.set4_3 | with_reducible apply BoxN.set4_2 | with_reducible apply BoxN.set4_1 | with_reducible apply BoxN.set4_0 | with_reducible refine BoxN.ext ?_ (by assumption))); done)
                  clear hWr
                  refine bodyPost_ret (v := .tuple #[idVal (0, 0), .int .i64 0]) ?_ rfl ⟨by first | (rw [HF.out]; done) | (rw [HF.out]; rfl), sx⟩
                  simp [results, Try.f74, go_sem, idVal, s1.cell (j := 0) rfl, s1.cell (j := 1) rfl]
theorem rValid_any (u : Value) (t : Tr) (w : World) (hS : Small t) (hs : SlR 3 RPr w u t) :
    Calls Try.prog 20 #[.agg #[u]] w fun e w' => e = .returned (.bool (validL t)) ∧ Ext w w' := by
  have HF := hide (fun w' (he : Ext w w') => rFault_any u t w' hS (hs.ext RPr.keeps he))
  obtain ⟨A, c, rfl, _, hcm, _⟩ := hs.at_
  go_enter Try.func20, Try.ntmps20
  go_wp2_with fail
  refine (HF.out _ ((Ext.refl w).alloc _)).mono ?_
  rintro e w2 ⟨rfl, he2⟩
  unfold idVal
  go_wp2
  go_ret
  refine ⟨ret_bool ?_, Ext.alloc (Ext.trans ((Ext.refl w).alloc _) he2) _⟩
  unfold validL
  rw [Bool.eq_iff_iff]; simp
end Go.Proofs.Ytiiflkcebikecaa

/- The contracts of Fault and Valid, and of the reference, in the words of runs (the part of XWJ for seats without Sender, Receiver, Count). No condition but on lengths. -/
namespace Go.Proofs.Ytiiflkcebikecaa
set_option linter.unusedVariables false

def idA (x : Nat × Nat) : AV := .agg [.v (.int .i64 x.1), .v (.int .i64 x.2)]
theorem idA_rep (w : World) (F : Nat → Prop) (L : LMap) (x : Nat × Nat) : RepA w F L (idA x) (idVal x) := by
  refine RepL.agg (vs := #[.int .i64 x.1, .int .i64 x.2]) ?_
  exact RepL.cons (.v _ _ (.int _ _)) (RepL.cons (.v _ _ (.int _ _)) RepL.nil)
theorem repL_cons {w : World} {F : Nat → Prop} {L : LMap} {x : AV} {xs : List AV} {vs : List Value} (h : RepL w F L (x :: xs) vs) : ∃ v us, vs = v :: us ∧ RepA w F L x v ∧ RepL w F L xs us := by
  obtain ⟨h1, h2⟩ := h
  cases vs with
  | nil => simp at h1
  | cons v us => exact ⟨v, us, rfl, h2 0 x v rfl rfl, by simpa using h1, fun i a u ha hu => h2 (i + 1) a u ha hu⟩
theorem repL_nil {w : World} {F : Nat → Prop} {L : LMap} {vs : List Value} (h : RepL w F L [] vs) : vs = [] := by
  have := h.1
  exact List.eq_nil_of_length_eq_zero (by simpa using this.symm)
theorem repL_tr {w : World} {F : Nat → Prop} {L : LMap} {t : Tr} {xs : List AV} {vs : Array Value} (hn : Nm t) (h : RepL w F L (.agg [.v (eT t)] :: xs) vs.toList) : ∃ u us, vs = (.agg #[u] :: us).toArray ∧ SlR 3 RPr w u t ∧ RepL w F L xs us := by
  obtain ⟨v, us, h1, h2, h3⟩ := repL_cons h
  obtain ⟨cs, rfl, h4⟩ := h2.aggL
  obtain ⟨u, rest, h5, h6, h7⟩ := repL_cons h4
  have := repL_nil h7
  subst this
  have hcs : cs = #[u] := Array.toList_inj.1 (by rw [h5])
  subst hcs
  exact ⟨u, us, Array.toList_inj.1 (by rw [h1]), tr_in hn h6.vI, h3⟩

section
theorem fault_spec (t : Tr) (hS : Small t) (hN : Nm t) (b l : List Row) : ACalls Try.prog 108 [.agg [.v (eT t)]] b l (fun r b' l' => r = .tup [idA (faultL t).1, .v (.int .i64 (faultL t).2)] ∧ b' = b ∧ l' = l) := by
  refine ACalls.of_ext ⟨_, Try.func108, by kernel_rfl, by kernel_rfl⟩ (fun F L w vs hr => ?_)
  obtain ⟨u, us, rfl, hs, hr2⟩ := repL_tr hN hr
  obtain rfl := repL_nil hr2
  refine (Fault_any u t w hS hs).mono ?_
  rintro e w' ⟨rfl, he⟩
  exact ⟨he, _, _, rfl, RepL.tup (RepL.cons (idA_rep _ _ _ _) (RepL.cons (.v _ _ (.int _ _)) RepL.nil)), rfl, rfl, rfl⟩
theorem rfault_spec (t : Tr) (hS : Small t) (hN : Nm t) (b l : List Row) : ACalls Try.prog 74 [.agg [.v (eT t)]] b l (fun r b' l' => r = .tup [idA (faultL t).1, .v (.int .i64 (faultL t).2)] ∧ b' = b ∧ l' = l) := by
  refine ACalls.of_ext ⟨_, Try.func74, by kernel_rfl, by kernel_rfl⟩ (fun F L w vs hr => ?_)
  obtain ⟨u, us, rfl, hs, hr2⟩ := repL_tr hN hr
  obtain rfl := repL_nil hr2
  refine (rFault_any u t w hS hs).mono ?_
  rintro e w' ⟨rfl, he⟩
  exact ⟨he, _, _, rfl, RepL.tup (RepL.cons (idA_rep _ _ _ _) (RepL.cons (.v _ _ (.int _ _)) RepL.nil)), rfl, rfl, rfl⟩
theorem valid_spec (t : Tr) (hS : Small t) (hN : Nm t) (b l : List Row) : ACalls Try.prog 72 [.agg [.v (eT t)]] b l (fun r b' l' => r = .v (.bool (validL t)) ∧ b' = b ∧ l' = l) := by
  refine ACalls.of_ext ⟨_, Try.func72, by kernel_rfl, by kernel_rfl⟩ (fun F L w vs hr => ?_)
  obtain ⟨u, us, rfl, hs, hr2⟩ := repL_tr hN hr
  obtain rfl := repL_nil hr2
  refine (Valid_any u t w hS hs).mono ?_
  rintro e w' ⟨rfl, he⟩
  exact ⟨he, _, _, rfl, .v _ _ (.bool _), rfl, rfl, rfl⟩
theorem rvalid_spec (t : Tr) (hS : Small t) (hN : Nm t) (b l : List Row) : ACalls Try.prog 20 [.agg [.v (eT t)]] b l (fun r b' l' => r = .v (.bool (validL t)) ∧ b' = b ∧ l' = l) := by
  refine ACalls.of_ext ⟨_, Try.func20, by kernel_rfl, by kernel_rfl⟩ (fun F L w vs hr => ?_)
  obtain ⟨u, us, rfl, hs, hr2⟩ := repL_tr hN hr
  obtain rfl := repL_nil hr2
  refine (rValid_any u t w hS hs).mono ?_
  rintro e w' ⟨rfl, he⟩
  exact ⟨he, _, _, rfl, .v _ _ (.bool _), rfl, rfl, rfl⟩
end
end Go.Proofs.Ytiiflkcebikecaa

/- What says less: a slice without room is an empty slice. IndexFunc, ContainsFunc of slices of structs, for any program. (The part of XWH that needs no function of a seat.) No condition. -/
namespace Go.Proofs.Ytiiflkcebikecaa
set_option linter.unusedVariables false
set_option linter.unusedSimpArgs false

inductive IVle : IV → IV → Prop where
  | refl (x : IV) : IVle x x
  | zsl (sz : Nat) : IVle .zsl (.isl sz [])
  | isl (sz : Nat) (rows rows' : List (List IV)) (hl : rows.length = rows'.length) (hl2 : ∀ (k : Nat) (row row' : List IV), rows[k]? = some row → rows'[k]? = some row' → row.length = row'.length)
      (hr : ∀ (k : Nat) (row row' : List IV) (j : Nat) (a a' : IV), rows[k]? = some row → rows'[k]? = some row' → row[j]? = some a → row'[j]? = some a' → IVle a a') : IVle (.isl sz rows) (.isl sz rows')

theorem RepI.le {w : World} {F : Nat → Prop} {x y : IV} (h : IVle x y) : ∀ {v : Value}, RepI w F x v → RepI w F y v := by
  induction h with
  | refl x => exact fun h => h
  | zsl sz => intro v h; cases h; exact .isl0 _ _ _ (Nat.zero_le _)
  | isl sz rows rows' hl hl2 hr ih =>
    intro v h
    obtain ⟨A, c, rfl, h2, h3, h4⟩ := repI_isl h
    rw [hl] at h2 h4 ⊢
    refine isl_repI h2 h3 (fun h0 => ?_)
    obtain ⟨b, off, h5, h6, h7⟩ := h4 h0
    refine ⟨b, off, h5, h6, fun k row' hk' => ?_⟩
    have hk : k < rows.length := by rw [hl]; exact (List.getElem?_eq_some_iff.1 hk').1
    obtain ⟨g1, g2⟩ := h7 k rows[k] (List.getElem?_eq_getElem hk)
    have hll := hl2 k rows[k] row' (List.getElem?_eq_getElem hk) hk'
    refine ⟨by rw [← hll]; exact g1, fun j a' hj' => ?_⟩
    have hj : j < rows[k].length := by rw [hll]; exact (List.getElem?_eq_some_iff.1 hj').1
    obtain ⟨v, hv, hrep⟩ := g2 j rows[k][j] (List.getElem?_eq_getElem hj)
    exact ⟨v, hv, ih k _ _ j _ _ (List.getElem?_eq_getElem hk) hk' (List.getElem?_eq_getElem hj) hj' hrep⟩

/-- Row by row. -/
def RowsLe : List (List IV) → List (List IV) → Prop
  | [], [] => True
  | r :: rs, q :: qs => (r.length = q.length ∧ ∀ (j : Nat) (a a' : IV), r[j]? = some a → q[j]? = some a' → IVle a a') ∧ RowsLe rs qs
  | _, _ => False
theorem RowsLe.len : ∀ {r q : List (List IV)}, RowsLe r q → r.length = q.length
  | [], [], _ => rfl
  | _ :: _, _ :: _, h => by simp [RowsLe.len h.2]
  | [], _ :: _, h => h.elim
  | _ :: _, [], h => h.elim
theorem RowsLe.get : ∀ {r q : List (List IV)}, RowsLe r q → ∀ (k : Nat) (row row' : List IV), r[k]? = some row → q[k]? = some row' → row.length = row'.length ∧ ∀ (j : Nat) (a a' : IV), row[j]? = some a → row'[j]? = some a' → IVle a a'
  | [], [], _, k, row, row', h, _ => by simp at h
  | r :: rs, q :: qs, h, k, row, row', h1, h2 => by
    cases k with
    | zero => simp at h1 h2; subst h1; subst h2; exact h.1
    | succ k => simp at h1 h2; exact RowsLe.get h.2 k row row' h1 h2
  | [], _ :: _, h, _, _, _, _, _ => h.elim
  | _ :: _, [], h, _, _, _, _, _ => h.elim
theorem IVle.rows {sz : Nat} {r q : List (List IV)} (h : RowsLe r q) : IVle (.isl sz r) (.isl sz q) :=
  .isl sz r q h.len (fun k row row' h1 h2 => (h.get k row row' h1 h2).1) (fun k row row' j a a' h1 h2 => (h.get k row row' h1 h2).2 j a a')

inductive AVle : AV → AV → Prop where
  | refl (x : AV) : AVle x x
  | v (x y : IV) (h : IVle x y) : AVle (.v x) (.v y)
  | agg (cs ds : List AV) (hl : cs.length = ds.length) (h : ∀ (i : Nat) (a c : AV), cs[i]? = some a → ds[i]? = some c → AVle a c) : AVle (.agg cs) (.agg ds)
theorem RepA.le {w : World} {F : Nat → Prop} {L : LMap} {x y : AV} (h : AVle x y) : ∀ {v : Value}, RepA w F L x v → RepA w F L y v := by
  induction h with
  | refl x => exact fun h => h
  | v x y h => intro v hx; exact .v _ _ (hx.vI.le h)
  | agg cs ds hl h ih =>
    intro v hx
    obtain ⟨vs, rfl, hr⟩ := hx.aggL
    refine RepL.agg ⟨by rw [← hl]; exact hr.1, fun i c u hc hu => ?_⟩
    have hi : i < cs.length := by rw [hl]; exact (List.getElem?_eq_some_iff.1 hc).1
    exact ih i cs[i] c (List.getElem?_eq_getElem hi) hc (hr.2 i _ u (List.getElem?_eq_getElem hi) hu)
/-- Arguments that say more will do. -/
theorem ACalls.le {P : Program} {f : Nat} {args args' : List AV} {b l : List Row} {Q : AV → List Row → List Row → Prop} (h : ACalls P f args b l Q) (hl : args'.length = args.length) (hle : ∀ (i : Nat) (a c : AV), args'[i]? = some a → args[i]? = some c → AVle a c) : ACalls P f args' b l Q :=
  ⟨h.1, fun F L w vs s hr => h.2 F L w vs s ⟨by rw [← hl]; exact hr.1, fun i c v hc hv => by
    have hi : i < args'.length := by rw [hl]; exact (List.getElem?_eq_some_iff.1 hc).1
    exact RepA.le (hle i args'[i] c (List.getElem?_eq_getElem hi) hc) (hr.2 i _ v (List.getElem?_eq_getElem hi) hv)⟩⟩
/-- A state that says less. -/
theorem Weak.le {e e' : List AV} {b l : List Row} (hl : e.length = e'.length) (h : ∀ (i : Nat) (x y : AV), e[i]? = some x → e'[i]? = some y → AVle x y) : Weak e b l e' b l := by
  intro F L w a s hea
  refine ⟨F, L, s, ⟨hea.1, by rw [← hl]; exact hea.2.1, fun i y v hy hv => ?_⟩, Step.refl _ _ _ _ _, rfl⟩
  have hi : i < e.length := by rw [hl]; exact (List.getElem?_eq_some_iff.1 hy).1
  exact RepA.le (h i e[i] y (List.getElem?_eq_getElem hi) hy) (hea.2.2 i _ v (List.getElem?_eq_getElem hi) hv)
/-- The end of a function that hands out no slice where an empty one is said. -/
theorem leave_zsl {rs : List ARes} {Q : AV → List Row → List Row → Prop} {B l e : _} {ex : AExit} (hex : ex = .normal ∨ ex = .ret) (sz : Nat) (hx : resVs e B l rs = some [.v .zsl]) (hR : RowsLt B.length B) {b0 l0 : List Row} (hB : B = b0 ++ l0) (hq : Q (.v (.isl sz [])) b0 l0) :
    Leaves rs Q b0.length ex e B l := by
  refine leave hex hx (y := .v (.isl sz [])) (l' := []) ((Weak.trim (l1 := []) rfl (by intro x hx; simp [one] at hx; subst hx; exact .v _) (by simpa using hR) RowsLt_nil).trans (Weak.le rfl ?_)) hB (by simpa using hq)
  intro i x y h1 h2
  cases i with
  | zero => simp [one] at h1 h2; subst h1; subst h2; exact .v _ _ (.zsl sz)
  | succ i => simp at h2

/-! IndexFunc, ContainsFunc of slices of structs. -/
def a_indexN (sz : Nat) : AFunc := ⟨2, 19, [.tmp 4],
  (.seq (.region [⟨(some 4), .mv (.c (.v (.int .i64 0))), none⟩])
  (.seq (.seq (.region [⟨(some 6), .mv (.t 0), none⟩, ⟨(some 7), .len (.t 6), none⟩, ⟨(some 8), .mv (.c (.v (.int .i64 0))), none⟩])
  (.block 0 (.loop (.seq (.region [⟨(some 9), .bin .lss (.t 8) (.t 7), none⟩])
  (.seq (.cond (.t 9) .skip
  (.exit 0))
  (.seq (.block 1 (.seq (.region [⟨(some 10), .mv (.t 8), none⟩, ⟨(some 5), .mv (.t 10), none⟩])
  (.seq (.region [⟨(some 11), .mv (.t 1), none⟩, ⟨(some 12), .mv (.t 0), none⟩, ⟨(some 13), .mv (.t 5), none⟩, ⟨(some 14), .iaddr sz (.t 12) (.t 13), none⟩, ⟨(some 15), .load (some sz) (.t 14), none⟩, ⟨(some 16), .call (.t 11) [(.t 15)], none⟩])
  (.cond (.t 16) (.seq (.region [⟨(some 17), .mv (.t 5), none⟩, ⟨(some 4), .mv (.t 17), none⟩])
  .ret)
  .skip))))
  (.region [⟨(some 18), .bin .add (.t 8) (.c (.v (.int .i64 1))), none⟩, ⟨(some 8), .mv (.t 18), none⟩])))))))
  (.seq (.region [⟨(some 4), .mv (.c (.v (.int .i64 (-1)))), none⟩])
  .ret)))⟩
def a_containsN (g : Nat) : AFunc := ⟨2, 9, [.tmp 4],
  (.seq (.region [⟨(some 4), .mv (.c (.v (.bool false))), none⟩])
  (.seq (.region [⟨(some 5), .mv (.t 0), none⟩, ⟨(some 6), .mv (.t 1), none⟩, ⟨(some 7), .call (.c (.fn g [])) [(.t 5), (.t 6)], none⟩, ⟨(some 8), .bin .geq (.t 7) (.c (.v (.int .i64 0))), none⟩, ⟨(some 4), .mv (.t 8), none⟩])
  .ret))⟩
def wIdx (p : Nat → Bool) (n : Nat) : Int := match (List.range n).find? p with
  | some i => i
  | none => -1
theorem wIdx_at {p : Nat → Bool} {n i : Nat} (h : i < n) (h0 : ∀ j, j < i → p j = false) (hi : p i = true) : wIdx p n = i := by
  have hf : (List.range n).find? p = some i := by
    rw [show n = i + (1 + (n - i - 1)) by omega, List.range_add, List.find?_append]
    have : (List.range i).find? p = none := by
      rw [List.find?_eq_none]; intro q hq; simp [h0 q (List.mem_range.1 hq)]
    rw [this, Nat.add_comm 1, List.range_succ_eq_map]
    simp [hi]
  unfold wIdx; rw [hf]
theorem wIdx_none {p : Nat → Bool} {n : Nat} (h0 : ∀ j, j < n → p j = false) : wIdx p n = -1 := by
  have : (List.range n).find? p = none := by
    rw [List.find?_eq_none]; intro q hq; simp [h0 q (List.mem_range.1 hq)]
  unfold wIdx; rw [this]
theorem index_spec {P : Program} {f sz : Nat} (hf : cFunc P f = some (a_indexN sz)) (rows : List (List IV)) (k : Nat) (caps : List AV) (p : Nat → Bool) (hlen : ∀ row ∈ rows, row.length = sz) (hn : rows.length ≤ 1000000) (b l : List Row)
    (hp : ∀ (i : Nat) (row : List IV), rows[i]? = some row → ACalls P k ([.agg (row.map .v)] ++ caps) (b ++ l) [] (fun r b' l' => r = .v (.bool (p i)) ∧ b' = b ++ l ∧ l' = [])) :
    ACalls P f [.v (.isl sz rows), .fn k caps] b l (fun r b' l' => r = .v (.int .i64 (wIdx p rows.length)) ∧ b' = b ∧ l' = l) := by
  refine calls_of hf rfl ?_
  intro B hB hR hA
  simp only [a_indexN, ↓run_skip, ↓run_region, ↓run_draw, ↓run_seq, ↓run_block, ↓run_exit, ↓run_ret, ↓run_cond, ↓atN_app, ↓seqC_normal, ↓seqC_exit, ↓seqC_ret, ↓seqQ_normal, ↓seqQ_exit, ↓seqQ_ret, ↓blkQ_normal, ↓blkQ_exit, ↓blkQ_ret, ↓runOps_nil, ↓runOps_cons, ↓runD_nil, ↓runD_cons, ↓grdO_true, ↓grdO_false, ↓grdD_true, ↓grdD_false, ↓ifC_true, ↓ifC_false, ↓opS_val, ↓opS_call, ↓opS_two, ↓opK_app, ↓dS_val, ↓dS_call, ↓dS_two, ↓dK_app, rechks_nil, rechks_cons, rechk, gcase_true, gcase_false, ex_val, ex_val0, gd_none, gd_some, nth_zero, nth_succ, upd_zero, upd_succ, put_some, put_none, ev_t, ev_c, evs_nil, evs_cons, evo_some, evo_none, hget_at, hget_first, hsetB_at, hsetB_first, hsetL_at, hsetL_first, ofOpt_some, aop, aload, astore, aslice, aappend, aiaddr, aiaddrA, afaddr, alen, alenS, acopy, amm, acall, alookup, amupdate, alenM, comma, keyEq, apick, binV, binVB, binVS, isSh, intOp, strOp, boolOp, shOp, eqC, eqF, and2, cellsOf, setFrom, fillA, fillS, rd, rdI, elems, mk, bounds, AV.cell, List.all_cons, List.all_nil, Bool.and_true, Bool.true_and, Bool.and_self, List.length_cons, List.length_nil, List.length_append, Nat.reduceAdd, Nat.reduceSub, Nat.reduceMul, Nat.zero_add, Nat.add_zero, List.replicate_succ, List.replicate_zero, List.cons_append, List.nil_append, List.append_assoc, List.append_nil, List.getElem?_cons_zero, List.getElem?_cons_succ, List.getElem?_nil, List.set_cons_zero, List.set_cons_succ, List.drop_zero, List.drop_succ_cons, List.take_zero, List.take_succ_cons, List.take_nil, List.drop_nil, List.map_cons, List.map_nil, Option.map_some, if_true, if_false, Bool.false_eq_true, and_self, true_and, and_true, Nat.reduceLeDiff, Nat.reduceLT, Nat.le_refl, Nat.reduceEqDiff, ite_true, ite_false, beq_self_eq_true, beq_true, beq_false, Bool.not_true, Bool.not_false, Bool.true_beq, Bool.false_beq]
  refine loop_rule (ι := Nat) (fun i => [.v (.isl sz rows), .fn k caps, .any, .any, .any, .any, .any, .v (.int .i64 rows.length), .v (.int .i64 i), .any, .any, .any, .any, .any, .any, .any, .any, .any, .any])
    (fun _ => B) (fun _ => []) (fun i => i ≤ rows.length ∧ ∀ j, j < i → p j = false) (fun i => rows.length - i) 0 ⟨Nat.zero_le _, fun j hj => by omega⟩ (Weak.forget (by simp [Fgt])) ?_
  rintro i ⟨hi, h0⟩
  by_cases hlt : i < rows.length
  · have hl := hlen rows[i] (List.getElem_mem hlt)
    have ht : List.take sz rows[i] = rows[i] := List.take_of_length_le (by omega)
    simp (disch := omega) only [ht, ↓run_skip, ↓run_region, ↓run_draw, ↓run_seq, ↓run_block, ↓run_exit, ↓run_ret, ↓run_cond, ↓atN_app, ↓seqC_normal, ↓seqC_exit, ↓seqC_ret, ↓seqQ_normal, ↓seqQ_exit, ↓seqQ_ret, ↓blkQ_normal, ↓blkQ_exit, ↓blkQ_ret, ↓runOps_nil, ↓runOps_cons, ↓runD_nil, ↓runD_cons, ↓grdO_true, ↓grdO_false, ↓grdD_true, ↓grdD_false, ↓ifC_true, ↓ifC_false, ↓opS_val, ↓opS_call, ↓opS_two, ↓opK_app, ↓dS_val, ↓dS_call, ↓dS_two, ↓dK_app, rechks_nil, rechks_cons, rechk, gcase_true, gcase_false, ex_val, ex_val0, gd_none, gd_some, nth_zero, nth_succ, upd_zero, upd_succ, put_some, put_none, ev_t, ev_c, evs_nil, evs_cons, evo_some, evo_none, hget_at, hget_first, hsetB_at, hsetB_first, hsetL_at, hsetL_first, ofOpt_some, aop, aload, astore, aslice, aappend, aiaddr, aiaddrA, afaddr, alen, alenS, acopy, amm, acall, alookup, amupdate, alenM, comma, keyEq, apick, binV, binVB, binVS, isSh, intOp, strOp, boolOp, shOp, eqC, eqF, and2, cellsOf, setFrom, fillA, fillS, rd, rdI, elems, mk, bounds, AV.cell, List.all_cons, List.all_nil, Bool.and_true, Bool.true_and, Bool.and_self, List.length_cons, List.length_nil, List.length_append, Nat.reduceAdd, Nat.reduceSub, Nat.reduceMul, Nat.zero_add, Nat.add_zero, List.replicate_succ, List.replicate_zero, List.cons_append, List.nil_append, List.append_assoc, List.append_nil, List.getElem?_cons_zero, List.getElem?_cons_succ, List.getElem?_nil, List.set_cons_zero, List.set_cons_succ, List.drop_zero, List.drop_succ_cons, List.take_zero, List.take_succ_cons, List.take_nil, List.drop_nil, List.map_cons, List.map_nil, Option.map_some, if_true, if_false, Bool.false_eq_true, and_self, true_and, and_true, Nat.reduceLeDiff, Nat.reduceLT, Nat.le_refl, Nat.reduceEqDiff, ite_true, ite_false, beq_self_eq_true, beq_true, beq_false, Bool.not_true, Bool.not_false, Bool.true_beq, Bool.false_beq, map_vs, vs_len, vs_get, vs_take, vs_drop, vs_snoc1, vs_snoc2, vs_snoc3, vs_snoc5, vs_set1, vs_set2, vs_rep, wrap_id, le_T, lt_T, le_F, lt_F, leI_T, ltI_T, leI_F, ltI_F, geI, gtI, get_T, decide_true, decide_false, room, List.getElem?_map, List.length_map, List.length_take, Int.toNat_natCast, Nat.min_def, Nat.min_self]
    refine ACalls_mono _ _ _ _ _ _ (hB ▸ hp i rows[i] (List.getElem?_eq_getElem hlt)) ?_
    rintro r b' l' ⟨rfl, rfl, rfl⟩
    simp (disch := omega) only [↓run_skip, ↓run_region, ↓run_draw, ↓run_seq, ↓run_block, ↓run_exit, ↓run_ret, ↓run_cond, ↓atN_app, ↓seqC_normal, ↓seqC_exit, ↓seqC_ret, ↓seqQ_normal, ↓seqQ_exit, ↓seqQ_ret, ↓blkQ_normal, ↓blkQ_exit, ↓blkQ_ret, ↓runOps_nil, ↓runOps_cons, ↓runD_nil, ↓runD_cons, ↓grdO_true, ↓grdO_false, ↓grdD_true, ↓grdD_false, ↓ifC_true, ↓ifC_false, ↓opS_val, ↓opS_call, ↓opS_two, ↓opK_app, ↓dS_val, ↓dS_call, ↓dS_two, ↓dK_app, rechks_nil, rechks_cons, rechk, gcase_true, gcase_false, ex_val, ex_val0, gd_none, gd_some, nth_zero, nth_succ, upd_zero, upd_succ, put_some, put_none, ev_t, ev_c, evs_nil, evs_cons, evo_some, evo_none, hget_at, hget_first, hsetB_at, hsetB_first, hsetL_at, hsetL_first, ofOpt_some, aop, aload, astore, aslice, aappend, aiaddr, aiaddrA, afaddr, alen, alenS, acopy, amm, acall, alookup, amupdate, alenM, comma, keyEq, apick, binV, binVB, binVS, isSh, intOp, strOp, boolOp, shOp, eqC, eqF, and2, cellsOf, setFrom, fillA, fillS, rd, rdI, elems, mk, bounds, AV.cell, List.all_cons, List.all_nil, Bool.and_true, Bool.true_and, Bool.and_self, List.length_cons, List.length_nil, List.length_append, Nat.reduceAdd, Nat.reduceSub, Nat.reduceMul, Nat.zero_add, Nat.add_zero, List.replicate_succ, List.replicate_zero, List.cons_append, List.nil_append, List.append_assoc, List.append_nil, List.getElem?_cons_zero, List.getElem?_cons_succ, List.getElem?_nil, List.set_cons_zero, List.set_cons_succ, List.drop_zero, List.drop_succ_cons, List.take_zero, List.take_succ_cons, List.take_nil, List.drop_nil, List.map_cons, List.map_nil, Option.map_some, if_true, if_false, Bool.false_eq_true, and_self, true_and, and_true, Nat.reduceLeDiff, Nat.reduceLT, Nat.le_refl, Nat.reduceEqDiff, ite_true, ite_false, beq_self_eq_true, beq_true, beq_false, Bool.not_true, Bool.not_false, Bool.true_beq, Bool.false_beq, map_vs, vs_len, vs_get, vs_take, vs_drop, vs_snoc1, vs_snoc2, vs_snoc3, vs_snoc5, vs_set1, vs_set2, vs_rep, wrap_id, le_T, lt_T, le_F, lt_F, leI_T, ltI_T, leI_F, ltI_F, geI, gtI, get_T, decide_true, decide_false, room, List.getElem?_map, List.length_map, List.length_take, Int.toNat_natCast, Nat.min_def, Nat.min_self]
    refine ifC_split (fun h => ?_) (fun h => ?_)
    · simp (disch := omega) only [↓run_skip, ↓run_region, ↓run_draw, ↓run_seq, ↓run_block, ↓run_exit, ↓run_ret, ↓run_cond, ↓atN_app, ↓seqC_normal, ↓seqC_exit, ↓seqC_ret, ↓seqQ_normal, ↓seqQ_exit, ↓seqQ_ret, ↓blkQ_normal, ↓blkQ_exit, ↓blkQ_ret, ↓runOps_nil, ↓runOps_cons, ↓runD_nil, ↓runD_cons, ↓grdO_true, ↓grdO_false, ↓grdD_true, ↓grdD_false, ↓ifC_true, ↓ifC_false, ↓opS_val, ↓opS_call, ↓opS_two, ↓opK_app, ↓dS_val, ↓dS_call, ↓dS_two, ↓dK_app, rechks_nil, rechks_cons, rechk, gcase_true, gcase_false, ex_val, ex_val0, gd_none, gd_some, nth_zero, nth_succ, upd_zero, upd_succ, put_some, put_none, ev_t, ev_c, evs_nil, evs_cons, evo_some, evo_none, hget_at, hget_first, hsetB_at, hsetB_first, hsetL_at, hsetL_first, ofOpt_some, aop, aload, astore, aslice, aappend, aiaddr, aiaddrA, afaddr, alen, alenS, acopy, amm, acall, alookup, amupdate, alenM, comma, keyEq, apick, binV, binVB, binVS, isSh, intOp, strOp, boolOp, shOp, eqC, eqF, and2, cellsOf, setFrom, fillA, fillS, rd, rdI, elems, mk, bounds, AV.cell, List.all_cons, List.all_nil, Bool.and_true, Bool.true_and, Bool.and_self, List.length_cons, List.length_nil, List.length_append, Nat.reduceAdd, Nat.reduceSub, Nat.reduceMul, Nat.zero_add, Nat.add_zero, List.replicate_succ, List.replicate_zero, List.cons_append, List.nil_append, List.append_assoc, List.append_nil, List.getElem?_cons_zero, List.getElem?_cons_succ, List.getElem?_nil, List.set_cons_zero, List.set_cons_succ, List.drop_zero, List.drop_succ_cons, List.take_zero, List.take_succ_cons, List.take_nil, List.drop_nil, List.map_cons, List.map_nil, Option.map_some, if_true, if_false, Bool.false_eq_true, and_self, true_and, and_true, Nat.reduceLeDiff, Nat.reduceLT, Nat.le_refl, Nat.reduceEqDiff, ite_true, ite_false, beq_self_eq_true, beq_true, beq_false, Bool.not_true, Bool.not_false, Bool.true_beq, Bool.false_beq, map_vs, vs_len, vs_get, vs_take, vs_drop, vs_snoc1, vs_snoc2, vs_snoc3, vs_snoc5, vs_set1, vs_set2, vs_rep, wrap_id, le_T, lt_T, le_F, lt_F, leI_T, ltI_T, leI_F, ltI_F, geI, gtI, get_T, decide_true, decide_false, room, List.getElem?_map, List.length_map, List.length_take, Int.toNat_natCast, Nat.min_def, Nat.min_self]
      exact leave_pure (.inr rfl) rfl (.v _) hR hB ⟨by rw [wIdx_at hlt h0 h]; rfl, rfl, rfl⟩
    · simp (disch := omega) only [↓run_skip, ↓run_region, ↓run_draw, ↓run_seq, ↓run_block, ↓run_exit, ↓run_ret, ↓run_cond, ↓atN_app, ↓seqC_normal, ↓seqC_exit, ↓seqC_ret, ↓seqQ_normal, ↓seqQ_exit, ↓seqQ_ret, ↓blkQ_normal, ↓blkQ_exit, ↓blkQ_ret, ↓runOps_nil, ↓runOps_cons, ↓runD_nil, ↓runD_cons, ↓grdO_true, ↓grdO_false, ↓grdD_true, ↓grdD_false, ↓ifC_true, ↓ifC_false, ↓opS_val, ↓opS_call, ↓opS_two, ↓opK_app, ↓dS_val, ↓dS_call, ↓dS_two, ↓dK_app, rechks_nil, rechks_cons, rechk, gcase_true, gcase_false, ex_val, ex_val0, gd_none, gd_some, nth_zero, nth_succ, upd_zero, upd_succ, put_some, put_none, ev_t, ev_c, evs_nil, evs_cons, evo_some, evo_none, hget_at, hget_first, hsetB_at, hsetB_first, hsetL_at, hsetL_first, ofOpt_some, aop, aload, astore, aslice, aappend, aiaddr, aiaddrA, afaddr, alen, alenS, acopy, amm, acall, alookup, amupdate, alenM, comma, keyEq, apick, binV, binVB, binVS, isSh, intOp, strOp, boolOp, shOp, eqC, eqF, and2, cellsOf, setFrom, fillA, fillS, rd, rdI, elems, mk, bounds, AV.cell, List.all_cons, List.all_nil, Bool.and_true, Bool.true_and, Bool.and_self, List.length_cons, List.length_nil, List.length_append, Nat.reduceAdd, Nat.reduceSub, Nat.reduceMul, Nat.zero_add, Nat.add_zero, List.replicate_succ, List.replicate_zero, List.cons_append, List.nil_append, List.append_assoc, List.append_nil, List.getElem?_cons_zero, List.getElem?_cons_succ, List.getElem?_nil, List.set_cons_zero, List.set_cons_succ, List.drop_zero, List.drop_succ_cons, List.take_zero, List.take_succ_cons, List.take_nil, List.drop_nil, List.map_cons, List.map_nil, Option.map_some, if_true, if_false, Bool.false_eq_true, and_self, true_and, and_true, Nat.reduceLeDiff, Nat.reduceLT, Nat.le_refl, Nat.reduceEqDiff, ite_true, ite_false, beq_self_eq_true, beq_true, beq_false, Bool.not_true, Bool.not_false, Bool.true_beq, Bool.false_beq, map_vs, vs_len, vs_get, vs_take, vs_drop, vs_snoc1, vs_snoc2, vs_snoc3, vs_snoc5, vs_set1, vs_set2, vs_rep, wrap_id, le_T, lt_T, le_F, lt_F, leI_T, ltI_T, leI_F, ltI_F, geI, gtI, get_T, decide_true, decide_false, room, List.getElem?_map, List.length_map, List.length_take, Int.toNat_natCast, Nat.min_def, Nat.min_self]
      refine ⟨i + 1, ⟨hlt, fun j hj => ?_⟩, by simp only; omega, Weak.forget (by simp [Fgt])⟩
      rcases Nat.lt_or_ge j i with hji | hji
      · exact h0 j hji
      · have : j = i := by omega
        rw [this]; exact h
  · simp (disch := omega) only [↓run_skip, ↓run_region, ↓run_draw, ↓run_seq, ↓run_block, ↓run_exit, ↓run_ret, ↓run_cond, ↓atN_app, ↓seqC_normal, ↓seqC_exit, ↓seqC_ret, ↓seqQ_normal, ↓seqQ_exit, ↓seqQ_ret, ↓blkQ_normal, ↓blkQ_exit, ↓blkQ_ret, ↓runOps_nil, ↓runOps_cons, ↓runD_nil, ↓runD_cons, ↓grdO_true, ↓grdO_false, ↓grdD_true, ↓grdD_false, ↓ifC_true, ↓ifC_false, ↓opS_val, ↓opS_call, ↓opS_two, ↓opK_app, ↓dS_val, ↓dS_call, ↓dS_two, ↓dK_app, rechks_nil, rechks_cons, rechk, gcase_true, gcase_false, ex_val, ex_val0, gd_none, gd_some, nth_zero, nth_succ, upd_zero, upd_succ, put_some, put_none, ev_t, ev_c, evs_nil, evs_cons, evo_some, evo_none, hget_at, hget_first, hsetB_at, hsetB_first, hsetL_at, hsetL_first, ofOpt_some, aop, aload, astore, aslice, aappend, aiaddr, aiaddrA, afaddr, alen, alenS, acopy, amm, acall, alookup, amupdate, alenM, comma, keyEq, apick, binV, binVB, binVS, isSh, intOp, strOp, boolOp, shOp, eqC, eqF, and2, cellsOf, setFrom, fillA, fillS, rd, rdI, elems, mk, bounds, AV.cell, List.all_cons, List.all_nil, Bool.and_true, Bool.true_and, Bool.and_self, List.length_cons, List.length_nil, List.length_append, Nat.reduceAdd, Nat.reduceSub, Nat.reduceMul, Nat.zero_add, Nat.add_zero, List.replicate_succ, List.replicate_zero, List.cons_append, List.nil_append, List.append_assoc, List.append_nil, List.getElem?_cons_zero, List.getElem?_cons_succ, List.getElem?_nil, List.set_cons_zero, List.set_cons_succ, List.drop_zero, List.drop_succ_cons, List.take_zero, List.take_succ_cons, List.take_nil, List.drop_nil, List.map_cons, List.map_nil, Option.map_some, if_true, if_false, Bool.false_eq_true, and_self, true_and, and_true, Nat.reduceLeDiff, Nat.reduceLT, Nat.le_refl, Nat.reduceEqDiff, ite_true, ite_false, beq_self_eq_true, beq_true, beq_false, Bool.not_true, Bool.not_false, Bool.true_beq, Bool.false_beq, map_vs, vs_len, vs_get, vs_take, vs_drop, vs_snoc1, vs_snoc2, vs_snoc3, vs_snoc5, vs_set1, vs_set2, vs_rep, wrap_id, le_T, lt_T, le_F, lt_F, leI_T, ltI_T, leI_F, ltI_F, geI, gtI, get_T, decide_true, decide_false, room, List.getElem?_map, List.length_map, List.length_take, Int.toNat_natCast, Nat.min_def, Nat.min_self]
    obtain rfl : i = rows.length := by omega
    exact leave_pure (.inr rfl) rfl (.v _) hR hB ⟨by rw [wIdx_none h0]; rfl, rfl, rfl⟩

theorem wIdx_ge {p : Nat → Bool} {n : Nat} : decide (wIdx p n ≥ 0) = (List.range n).any p := by
  unfold wIdx
  cases h : (List.range n).find? p with
  | none =>
    have := List.find?_eq_none.1 h
    have hn : (List.range n).any p = false := by rw [List.any_eq_false]; exact this
    rw [hn]; rfl
  | some i =>
    have h1 := List.find?_some h
    have h2 := List.mem_of_find?_eq_some h
    have hn : (List.range n).any p = true := List.any_eq_true.2 ⟨i, h2, h1⟩
    rw [hn]; simp

theorem contains_spec {P : Program} {f g sz : Nat} (hf : cFunc P f = some (a_containsN g)) (hg : cFunc P g = some (a_indexN sz)) (rows : List (List IV)) (k : Nat) (caps : List AV) (p : Nat → Bool) (hlen : ∀ row ∈ rows, row.length = sz) (hn : rows.length ≤ 1000000) (b l : List Row)
    (hp : ∀ (i : Nat) (row : List IV), rows[i]? = some row → ACalls P k ([.agg (row.map .v)] ++ caps) (b ++ l) [] (fun r b' l' => r = .v (.bool (p i)) ∧ b' = b ++ l ∧ l' = [])) :
    ACalls P f [.v (.isl sz rows), .fn k caps] b l (fun r b' l' => r = .v (.bool ((List.range rows.length).any p)) ∧ b' = b ∧ l' = l) := by
  refine calls_of hf rfl ?_
  intro B hB hR hA
  simp only [a_containsN, ↓run_skip, ↓run_region, ↓run_draw, ↓run_seq, ↓run_block, ↓run_exit, ↓run_ret, ↓run_cond, ↓atN_app, ↓seqC_normal, ↓seqC_exit, ↓seqC_ret, ↓seqQ_normal, ↓seqQ_exit, ↓seqQ_ret, ↓blkQ_normal, ↓blkQ_exit, ↓blkQ_ret, ↓runOps_nil, ↓runOps_cons, ↓runD_nil, ↓runD_cons, ↓grdO_true, ↓grdO_false, ↓grdD_true, ↓grdD_false, ↓ifC_true, ↓ifC_false, ↓opS_val, ↓opS_call, ↓opS_two, ↓opK_app, ↓dS_val, ↓dS_call, ↓dS_two, ↓dK_app, rechks_nil, rechks_cons, rechk, gcase_true, gcase_false, ex_val, ex_val0, gd_none, gd_some, nth_zero, nth_succ, upd_zero, upd_succ, put_some, put_none, ev_t, ev_c, evs_nil, evs_cons, evo_some, evo_none, hget_at, hget_first, hsetB_at, hsetB_first, hsetL_at, hsetL_first, ofOpt_some, aop, aload, astore, aslice, aappend, aiaddr, aiaddrA, afaddr, alen, alenS, acopy, amm, acall, alookup, amupdate, alenM, comma, keyEq, apick, binV, binVB, binVS, isSh, intOp, strOp, boolOp, shOp, eqC, eqF, and2, cellsOf, setFrom, fillA, fillS, rd, rdI, elems, mk, bounds, AV.cell, List.all_cons, List.all_nil, Bool.and_true, Bool.true_and, Bool.and_self, List.length_cons, List.length_nil, List.length_append, Nat.reduceAdd, Nat.reduceSub, Nat.reduceMul, Nat.zero_add, Nat.add_zero, List.replicate_succ, List.replicate_zero, List.cons_append, List.nil_append, List.append_assoc, List.append_nil, List.getElem?_cons_zero, List.getElem?_cons_succ, List.getElem?_nil, List.set_cons_zero, List.set_cons_succ, List.drop_zero, List.drop_succ_cons, List.take_zero, List.take_succ_cons, List.take_nil, List.drop_nil, List.map_cons, List.map_nil, Option.map_some, if_true, if_false, Bool.false_eq_true, and_self, true_and, and_true, Nat.reduceLeDiff, Nat.reduceLT, Nat.le_refl, Nat.reduceEqDiff, ite_true, ite_false, beq_self_eq_true, beq_true, beq_false, Bool.not_true, Bool.not_false, Bool.true_beq, Bool.false_beq]
  refine ACalls_mono _ _ _ _ _ _ (index_spec hg rows k caps p hlen hn B [] (by rw [List.append_nil, hB]; exact hp)) ?_
  rintro r b' l' ⟨rfl, rfl, rfl⟩
  simp only [↓run_skip, ↓run_region, ↓run_draw, ↓run_seq, ↓run_block, ↓run_exit, ↓run_ret, ↓run_cond, ↓atN_app, ↓seqC_normal, ↓seqC_exit, ↓seqC_ret, ↓seqQ_normal, ↓seqQ_exit, ↓seqQ_ret, ↓blkQ_normal, ↓blkQ_exit, ↓blkQ_ret, ↓runOps_nil, ↓runOps_cons, ↓runD_nil, ↓runD_cons, ↓grdO_true, ↓grdO_false, ↓grdD_true, ↓grdD_false, ↓ifC_true, ↓ifC_false, ↓opS_val, ↓opS_call, ↓opS_two, ↓opK_app, ↓dS_val, ↓dS_call, ↓dS_two, ↓dK_app, rechks_nil, rechks_cons, rechk, gcase_true, gcase_false, ex_val, ex_val0, gd_none, gd_some, nth_zero, nth_succ, upd_zero, upd_succ, put_some, put_none, ev_t, ev_c, evs_nil, evs_cons, evo_some, evo_none, hget_at, hget_first, hsetB_at, hsetB_first, hsetL_at, hsetL_first, ofOpt_some, aop, aload, astore, aslice, aappend, aiaddr, aiaddrA, afaddr, alen, alenS, acopy, amm, acall, alookup, amupdate, alenM, comma, keyEq, apick, binV, binVB, binVS, isSh, intOp, strOp, boolOp, shOp, eqC, eqF, and2, cellsOf, setFrom, fillA, fillS, rd, rdI, elems, mk, bounds, AV.cell, List.all_cons, List.all_nil, Bool.and_true, Bool.true_and, Bool.and_self, List.length_cons, List.length_nil, List.length_append, Nat.reduceAdd, Nat.reduceSub, Nat.reduceMul, Nat.zero_add, Nat.add_zero, List.replicate_succ, List.replicate_zero, List.cons_append, List.nil_append, List.append_assoc, List.append_nil, List.getElem?_cons_zero, List.getElem?_cons_succ, List.getElem?_nil, List.set_cons_zero, List.set_cons_succ, List.drop_zero, List.drop_succ_cons, List.take_zero, List.take_succ_cons, List.take_nil, List.drop_nil, List.map_cons, List.map_nil, Option.map_some, if_true, if_false, Bool.false_eq_true, and_self, true_and, and_true, Nat.reduceLeDiff, Nat.reduceLT, Nat.le_refl, Nat.reduceEqDiff, ite_true, ite_false, beq_self_eq_true, beq_true, beq_false, Bool.not_true, Bool.not_false, Bool.true_beq, Bool.false_beq]
  exact leave_pure (.inr rfl) rfl (.v _) hR hB ⟨by rw [← wIdx_ge]; rfl, rfl, rfl⟩
end Go.Proofs.Ytiiflkcebikecaa

/- A concrete trace is valid: by computing, with a rank that grows from event to event. No condition. -/
namespace Go.Proofs.Ytiiflkcebikecaa
set_option linter.unusedVariables false
def concB (t : Tr) (rank : Nat × Nat → Nat) : Bool :=
  decide (1 ≤ t.length) && (decide (t.length ≤ 8) && ((List.range t.length).all (fun p => headF t p == 0) && ((ids t).all (fun x => formF t x == 0) && ((ids t).all (fun x => pairF t x == 0) && (ids t).all (fun x => (dirL t x).all fun y => decide (rank x < rank y))))))
theorem conc_fault {t : Tr} {rank : Nat × Nat → Nat} (h : concB t rank = true) : faultL t = ((0, 0), 0) := by
  simp only [concB, Bool.and_eq_true, decide_eq_true_eq, List.all_eq_true, beq_iff_eq] at h
  obtain ⟨h1, h2, h3, h4, h5, h6⟩ := h
  have hb : ∀ {x y : Nat × Nat}, Hb t x y → x ∈ ids t → rank x < rank y := by
    intro x y hxy
    induction hxy with
    | one h => intro hx; exact h6 _ hx _ (mem_dirL.2 h)
    | more h k ih =>
      intro hx
      exact Nat.lt_trans (ih hx) (h6 _ (Hb.mem hx h) _ (mem_dirL.2 k))
  unfold faultL
  rw [if_neg (by omega)]
  have e1 : (List.range t.length).find? (fun p => headF t p != 0) = none := by
    rw [List.find?_eq_none]; intro p hp; simp [h3 p hp]
  have e2 : (ids t).find? (fun x => formF t x != 0) = none := by
    rw [List.find?_eq_none]; intro p hp; simp [h4 p hp]
  have e3 : (ids t).find? (fun x => pairF t x != 0) = none := by
    rw [List.find?_eq_none]; intro p hp; simp [h5 p hp]
  rw [e1]; simp only
  rw [e2]; simp only
  rw [e3]; simp only
  have e4 : (ids t).find? (fun x => @decide (Hb t x x) (Classical.propDecidable _)) = none := by
    rw [List.find?_eq_none]
    intro x hx
    simp only [decide_eq_true_eq]
    intro hh
    have := hb hh hx
    omega
  rw [e4]
theorem conc_valid {t : Tr} {rank : Nat × Nat → Nat} (h : concB t rank = true) : validL t = true := by simp [validL, conc_fault h]
end Go.Proofs.Ytiiflkcebikecaa

/- awake of chapter 15: the concrete run. -/
namespace Go.Proofs.Ytiiflkcebikecaa
set_option linter.unusedVariables false
set_option linter.unusedSimpArgs false
def xOk : XV → Bool
  | .ok (.v (.bool true)) _ _ _ => true
  | _ => false
theorem xOk_ok {x : XV} (h : xOk x = true) : ∃ b l t, x = .ok (.v (.bool true)) b l t := by
  unfold xOk at h
  split at h
  · exact ⟨_, _, _, rfl⟩
  · exact absurd h (by decide)
def pair15 : Tr := [⟨⟨#[97]⟩, [], [⟨1, 0, 0, 0, []⟩, ⟨2, 1, 5, 0, []⟩]⟩, ⟨⟨#[98]⟩, [], [⟨3, 0, 5, 0, []⟩, ⟨1, 0, 0, 0, []⟩]⟩]
def epair15 : IV := .isl 3 [[.str ⟨#[97]⟩, .zsl, .isl 5 [[.int .i64 1, .int .i64 0, .int .i64 0, .int .i64 0, .zsl], [.int .i64 2, .int .i64 1, .int .i64 5, .int .i64 0, .zsl]]], [.str ⟨#[98]⟩, .zsl, .isl 5 [[.int .i64 3, .int .i64 0, .int .i64 5, .int .i64 0, .zsl], [.int .i64 1, .int .i64 0, .int .i64 0, .int .i64 0, .zsl]]]]
noncomputable def tab15 : Nat → Option AFunc := fun f => cFunc Try.prog f
def ora15 : Nat → List AV → Option AV := fun f args => if (f == 72 && eqL (eqA 20) args [.agg [.v epair15]]) = true then some (.v (.bool true)) else none
def frz15 : Nat → Nat := fun f => if f = 66 then 5 else 0
set_option maxRecDepth 100000
theorem run15 : xOk (xcall tab15 ora15 frz15 (exec tab15 ora15 frz15 3000) 15 [] [] []) = true := by kernel_rfl
theorem getLe_nil {f : IV → IV → Prop} : ∀ (j : Nat) (a a' : IV), ([] : List IV)[j]? = some a → ([] : List IV)[j]? = some a' → f a a' := fun j a a' h => by simp at h
theorem getLe_cons {f : IV → IV → Prop} {x y : IV} {xs ys : List IV} (h : f x y) (hs : ∀ (j : Nat) (a a' : IV), xs[j]? = some a → ys[j]? = some a' → f a a') : ∀ (j : Nat) (a a' : IV), (x :: xs)[j]? = some a → (y :: ys)[j]? = some a' → f a a' := by
  intro j a a' h1 h2
  cases j with
  | zero => simp at h1 h2; subst h1; subst h2; exact h
  | succ j => simp at h1 h2; exact hs j a a' h1 h2
theorem epair_le : IVle epair15 (eT pair15) := by
  have ev : ∀ (a c d e a2 c2 d2 e2 : Int), IVle (.isl 5 [[.int .i64 a, .int .i64 c, .int .i64 d, .int .i64 e, .zsl], [.int .i64 a2, .int .i64 c2, .int .i64 d2, .int .i64 e2, .zsl]]) (.isl 5 [[.int .i64 a, .int .i64 c, .int .i64 d, .int .i64 e, .isl 2 []], [.int .i64 a2, .int .i64 c2, .int .i64 d2, .int .i64 e2, .isl 2 []]]) := fun a c d e a2 c2 d2 e2 =>
    .rows ⟨⟨rfl, getLe_cons (.refl _) (getLe_cons (.refl _) (getLe_cons (.refl _) (getLe_cons (.refl _) (getLe_cons (.zsl 2) getLe_nil))))⟩, ⟨rfl, getLe_cons (.refl _) (getLe_cons (.refl _) (getLe_cons (.refl _) (getLe_cons (.refl _) (getLe_cons (.zsl 2) getLe_nil))))⟩, trivial⟩
  exact .rows ⟨⟨rfl, getLe_cons (.refl _) (getLe_cons (.zsl 2) (getLe_cons (ev _ _ _ _ _ _ _ _) getLe_nil))⟩, ⟨rfl, getLe_cons (.refl _) (getLe_cons (.zsl 2) (getLe_cons (ev _ _ _ _ _ _ _ _) getLe_nil))⟩, trivial⟩
theorem pair15_small : Small pair15 := ⟨by decide, by decide, by decide, by decide⟩
theorem pair15_nm : Nm pair15 := by
  intro p hp
  simp [pair15] at hp
  rcases hp with rfl | rfl <;> exact ⟨by decide, by simp⟩
theorem pair15_valid : validL pair15 = true := conc_valid (rank := fun x => x.1 * 10 + x.2) (by kernel_rfl)
theorem ora15_ok (f : Nat) (args : List AV) (y : AV) (h : ora15 f args = some y) (b l : List Row) : ACalls Try.prog f args b l (fun r b' l' => r = y ∧ b' = b ∧ l' = l) := by
  unfold ora15 at h
  split at h
  · rename_i hc
    simp only [Bool.and_eq_true, beq_iff_eq] at hc
    obtain ⟨rfl, h2⟩ := hc
    have h3 := eqL_eq (eqA_eq 20) h2
    subst h3
    cases h
    have hv := valid_spec pair15 pair15_small pair15_nm b l
    rw [pair15_valid] at hv
    refine ACalls.le hv rfl ?_
    intro i a c h1 h2
    cases i with
    | zero =>
      simp at h1 h2; subst h1; subst h2
      refine .agg _ _ rfl (fun i a c h1 h2 => ?_)
      cases i with
      | zero => simp at h1 h2; subst h1; subst h2; exact .v _ _ epair_le
      | succ i => simp at h1
    | succ i => simp at h1
  · cases h
/-- A contract of a function without arguments that answers with a bool, with nothing said of rows: it holds among any rows. -/
theorem ACalls.lift_bool {P : Program} {f : Nat} {z : Bool} (h : ACalls P f [] [] [] (fun r _ _ => r = .v (.bool z))) (b l : List Row) : ACalls P f [] b l (fun r b' l' => r = .v (.bool z) ∧ b' = b ∧ l' = l) := by
  refine ACalls.of_ext h.1 (fun F L w vs hr => ?_)
  have hn : vs = #[] := Array.toList_inj.1 (repL_nil hr)
  subst hn
  refine (ACalls.calls h (vs := #[]) RepL.nil).mono ?_
  rintro en w' ⟨v, x, b', l', F', L', he, hx, hE, rfl⟩
  cases hx.vI
  exact ⟨hE, _, _, he, .v _ _ (.bool _), rfl, rfl, rfl⟩
/-- The example of chapter 15. -/
theorem awake15_spec (b l : List Row) : ACalls Try.prog 15 [] b l (fun r b' l' => r = .v (.bool true) ∧ b' = b ∧ l' = l) := by
  obtain ⟨b1, l1, t, h⟩ := xOk_ok run15
  exact ACalls.lift_bool (ACalls.of_exec (T := tab15) (O := ora15) (Z := frz15) (fun f af h => h) ora15_ok h) b l
end Go.Proofs.Ytiiflkcebikecaa
