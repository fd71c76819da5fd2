/- Texts of one proof, laid together: RI, RJ, RD, OM, KP, PP, CT, RP. No condition. -/
import Derived.Test.YtnihdkfmmbpilaaDoorPK3
import Derived.StillTailTactics
import Derived.Laws.MakeOwn
import Derived.Deep.RegionWith
namespace Go.Proofs.YtnihdkfmmbpilaaDoor
open Go.RowKit
set_option linter.unusedVariables false

def findV (t : Tr) (k m : Int) : Nat × Nat := firstOf t (ids t) k m

theorem findV_stop {t : Tr} {k m : Int} {p i : Nat} (hp : p < t.length) (hi : i < t[p].evs.length) (h0 : (idsTo t p i).find? (keyB t k m) = none) (h1 : keyB t k m (p, i + 1) = true) : findV t k m = (p, i + 1) := by
 obtain ⟨c, hc⟩ := idsTo_prefix t p (i + 1) hp hi
 unfold findV firstOf
 rw [← hc, idsTo_succ, List.append_assoc, List.find?_append, h0]
 simp [h1]
theorem find_next {t : Tr} {k m : Int} {p i : Nat} (h0 : (idsTo t p i).find? (keyB t k m) = none) (h1 : keyB t k m (p, i + 1) = false) : (idsTo t p (i + 1)).find? (keyB t k m) = none := by
 rw [idsTo_succ, List.find?_append, h0]; simp [h1]

set_option maxRecDepth 100000 in
set_option maxHeartbeats 4000000 in
theorem Find_any (u : Value) (t : Tr) (kd m : Int) (w : World) (hS : Small t) (hs : SlR 3 RPr w u t) :
  Calls Tryd.prog 125 #[.agg #[u], .int .i64 kd, .int .i64 m] w fun e w' => e = .returned (idVal (findV t kd m)) ∧ Ext w w' := by
 obtain ⟨A, c, rfl, h1, h2, hc⟩ := hs.at_
 have hnp := hS.np
 have HC := hide hc
 clear hs hc
 have bt : BoxN ((w.alloc (.cells #[.slice A t.length c] 24)).alloc (.cells #[.int .i64 0, .int .i64 0] 68)) w.heap.size 24 _ := (BoxN.new w _ _).alloc _
 have br : BoxN ((w.alloc (.cells #[.slice A t.length c] 24)).alloc (.cells #[.int .i64 0, .int .i64 0] 68)) (w.heap.size + 1) 68 _ := BoxN.newAt _ _ (by simp)
 have hx1 : Ext w ((w.alloc (.cells #[.slice A t.length c] 24)).alloc (.cells #[.int .i64 0, .int .i64 0] 68)) := ((Ext.refl _).alloc _).alloc _
 go_enter Tryd.func125, Tryd.ntmps125
 go_wp2_with fail
 generalize (w.alloc (.cells #[.slice A t.length c] 24)).alloc (.cells #[.int .i64 0, .int .i64 0] 68) = W1 at *
 go_loopw [7] (fun i wr => ∃ k : Nat, k ≤ t.length ∧ i = .int .i64 k ∧ (idsTo t k 0).find? (keyB t kd m) = none ∧ Ext W1 wr) (fun i _ => t.length - (intOf i).toNat)
 case atStart => exact ⟨0, Nat.zero_le _, rfl, rfl, Ext.refl _⟩
 case round =>
  obtain ⟨k, hk, rfl, hno, hx⟩ := hrel
  have HNO := hide hno
  clear hno
  have bt2 := bt.ext hx
  have br2 := br.ext hx
  have hxx := hx1.trans hx
  have t0 := bt2.cell (j := 0) rfl
  by_cases hlt : k < t.length
  ·obtain ⟨b, off, rfl, hel⟩ := HC.out oM
   obtain ⟨_, _, v2, c2, hs2⟩ := hel k hlt
   obtain ⟨A2, k2, rfl, _, _, hc2⟩ := hs2.at_
   have HC2 := hide hc2
   have hne := hS.ne _ (List.getElem_mem hlt)
   clear hel hs2 hc2
   go_wp2_with fail
   obtain ⟨W2, hW2⟩ : ∃ W2 : World, wr = W2 := ⟨_, rfl⟩
   rw [hW2] at hx bt2 br2 hxx ⊢
   clear t0
   rw [hW2] at *
   clear hW2
   go_loopw [8] (fun i wr => ∃ j : Nat, j ≤ t[k].evs.length ∧ i = .int .i64 j ∧ (idsTo t k j).find? (keyB t kd m) = none ∧ Ext W2 wr) (fun i _ => t[k].evs.length - (intOf i).toNat)
   case atStart => exact ⟨0, Nat.zero_le _, rfl, HNO.out, Ext.refl _⟩
   case round =>
    obtain ⟨j, hj, rfl, hno2, hx3⟩ := hrel
    have HNO2 := hide hno2
    clear hno2
    have t0 := (bt2.ext hx3).cell (j := 0) rfl
    have br3 := br2.ext hx3
    have f0 := br3.frozen 0
    have f1 := br3.frozen 1
    have r0 := br3.cell (j := 0) rfl
    have r1 := br3.cell (j := 1) rfl
    have lt1 := (bt2.ext hx3).lt
    have lt2 := br3.lt
    have hx4 := hxx.trans hx3
    have c2' := hx4.cellAt c2
    by_cases hlj : j < t[k].evs.length
    ·obtain ⟨b2, off2, rfl, hel2⟩ := HC2.out oM
     obtain ⟨g0, g1, g2, g3, va, g4, hs4⟩ := hel2 j hlj
     obtain ⟨A4, k4, rfl, _, _, _⟩ := hs4.at_
     have e0 := hx4.cellAt g0
     have e1 := hx4.cellAt g1
     have e2 := hx4.cellAt g2
     have e3 := hx4.cellAt g3
     have e4 := hx4.cellAt g4
     have HK := hide (show keyB t kd m (k, j + 1) = ((t[k].evs[j].kind == kd) && (t[k].evs[j].msg == m)) by unfold keyB; rw [evAt_eq hlt hlj])
     clear hel2 hs4 g0 g1 g2 g3 g4
     cases q1 : t[k].evs[j].kind == kd
     ·have HN := hide (find_next HNO2.out (by rw [HK.out, q1]; rfl))
      go_wp2_with fail
      go_roundw
      case rel => exact ⟨j + 1, hlj, by go_num, HN.out, hx3.alloc _⟩
      case measure => simp [intOf]; omega
     ·cases q2 : t[k].evs[j].msg == m
      ·have HN := hide (find_next HNO2.out (by rw [HK.out, q1, q2]; rfl))
       go_wp2_with fail
       go_roundw
       case rel => exact ⟨j + 1, hlj, by go_num, HN.out, hx3.alloc _⟩
       case measure => simp [intOf]; omega
      ·have HF := hide (findV_stop hlt hlj HNO2.out (by rw [HK.out, q1, q2]; rfl))
       go_wp2_with fail
       obtain ⟨Wr, hWr⟩ : ∃ Wr, (((wr.setCell ⟨w.heap.size + 1, 0, none⟩ (Value.int .i64 k)).setCell ⟨w.heap.size + 1, 1, none⟩ (Value.int .i64 ((j : Int) + 1))).alloc (Obj.cells #[.int .i64 t[k].evs[j].kind, .int .i64 t[k].evs[j].peer, .int .i64 t[k].evs[j].msg, .int .i64 t[k].evs[j].time, .slice A4 t[k].evs[j].asg.length k4] 74)) = Wr := ⟨_, rfl⟩
       rw [hWr]
       have s1 : BoxN Wr (w.heap.size + 1) 68 #[.int .i64 k, .int .i64 ((j : Int) + 1)] := by rw [← hWr]; exact kW0
       have sx : Ext w Wr := by rw [← hWr]; exact kW0
       clear hWr
       refine bodyPost_ret (v := idVal (k, j + 1)) ?_ rfl ⟨by rw [HF.out], sx⟩
       simp [results, Tryd.f125, go_sem, idVal, s1.cell (j := 0) rfl, s1.cell (j := 1) rfl]
    ·obtain rfl : j = t[k].evs.length := by omega
     go_wp2_with fail
     go_roundw
     case rel => exact ⟨k + 1, hlt, by go_num, by rw [← idsTo_next t k hlt]; exact HNO2.out, hx.trans hx3⟩
     case measure => simp [intOf]; omega
  ·obtain rfl : k = t.length := by omega
   have f0 := br2.frozen 0
   have f1 := br2.frozen 1
   have r0 := br2.cell (j := 0) rfl
   have r1 := br2.cell (j := 1) rfl
   have HF := hide (show findV t kd m = (0, 0) by have := HNO.out; rw [idsTo_all] at this; unfold findV firstOf; rw [this]; rfl)
   go_wp2_with fail
   have hxr := hx1.trans hx
   obtain ⟨Wr, hWr⟩ : ∃ Wr, ((wr.setCell ⟨w.heap.size + 1, 0, none⟩ (Value.int .i64 0)).setCell ⟨w.heap.size + 1, 1, none⟩ (Value.int .i64 0)) = Wr := ⟨_, rfl⟩
   rw [hWr]
   have s1 : BoxN Wr (w.heap.size + 1) 68 #[.int .i64 0, .int .i64 0] := by rw [← hWr]; exact kW0
   have sx : Ext w Wr := by rw [← hWr]; exact kW0
   clear hWr
   refine bodyPost_ret (v := idVal (0, 0)) ?_ rfl ⟨by rw [HF.out], sx⟩
   simp [results, Tryd.f125, go_sem, idVal, s1.cell (j := 0) rfl, s1.cell (j := 1) rfl]
end Go.Proofs.YtnihdkfmmbpilaaDoor
namespace Go.Proofs.YtnihdkfmmbpilaaDoor
open Go.RowKit
set_option linter.unusedVariables false

def AtPost (t : Tr) (x : Nat × Nat) (w : World) (e : Ending) (w' : World) : Prop := ∃ A n c, e = .returned (.agg #[.int .i64 (evAt t x).kind, .int .i64 (evAt t x).peer, .int .i64 (evAt t x).msg, .int .i64 (evAt t x).time, .slice A n c]) ∧ SlR 2 RAsg w (.slice A n c) (evAt t x).asg ∧ Ext w w'

theorem kW1 {p : Prop} (h : p := by (with_reducible repeat (first | assumption | exact KeepsFrom.refl _ _ | refine KF.set ?_ _ _ | refine KF.alloc ?_ _ | refine KF.drew ?_ | refine KF.drewN ?_ _ | refine KF.ext ?_ aS | exact Below.refl _ _ | refine BL.set ?_ _ _ _ oM | refine BL.alloc ?_ _ oM | refine BL.drew ?_ | refine BL.drewN ?_ _ | refine BL.ext ?_ aS oM | exact Ext.refl _ | refine Ext.set ?_ oM _ | refine Ext.alloc ?_ _ | refine Ext.drew ?_ | refine Ext.drewN ?_ _ | refine Ext.trans ?_ aS | refine BoxN.alloc ?_ _ | refine BoxN.drew ?_ | refine BoxN.drewN ?_ _ | refine BoxN.other ?_ oM _ | refine BoxN.set ?_ _ _ | apply BoxN.set1 | apply BoxN.set2_1 | apply BoxN.set2_0 | apply BoxN.set5_4 | apply BoxN.set5_3 | apply BoxN.set5_2 | apply BoxN.set5_1 | apply BoxN.set5_0 | apply BoxN.set3_2 | apply BoxN.set3_1 | apply BoxN.set3_0 | apply BoxN.set4_3 | apply BoxN.set4_2 | apply BoxN.set4_1 | apply BoxN.set4_0 | refine BoxN.ext ?_ aS)); done) : p := h
set_option maxRecDepth 100000 in
set_option maxHeartbeats 4000000 in
theorem At_any (u : Value) (t : Tr) (p i : Nat) (w : World) (hx : (p, i) ∈ ids t) (hS : Small t) (hs : SlR 3 RPr w u t) :
  Calls Tryd.prog 124 #[.agg #[u], idVal (p, i)] w fun e w' => AtPost t (p, i) w e w' := by
 obtain ⟨hp, hi1, hi2⟩ := mem_ids.1 hx
 simp only at hp hi1 hi2
 obtain ⟨j, rfl⟩ : ∃ j, i = j + 1 := ⟨i - 1, by omega⟩
 have hj : j < t[p].evs.length := by omega
 have hev := hide (evAt_eq hp hj)
 obtain ⟨A, c, rfl, h1, h2, hc⟩ := hs.at_
 obtain ⟨b, off, rfl, hel⟩ := hc oM
 obtain ⟨_, _, v2, c2, hs2⟩ := hel p hp
 obtain ⟨A2, k2, rfl, _, _, hc2⟩ := hs2.at_
 obtain ⟨b2, off2, rfl, hel2⟩ := hc2 oM
 obtain ⟨g0, g1, g2, g3, va, g4, hs4⟩ := hel2 j hj
 obtain ⟨A4, k4, rfl, _, _, _⟩ := hs4.at_
 have HS4 := hide hs4
 have hb := lt_of_cell c2
 have hb2 := lt_of_cell g0
 have hnp := hS.np
 have hne := hS.ne _ (List.getElem_mem hp)
 have hjl : (j : Int) < (t[p].evs.length : Int) := by omega
 clear hs hc hel hs2 hc2 hel2 hs4
 unfold idVal
 have bt : BoxN (((w.alloc (.cells #[.slice (some ⟨b, off, none⟩) t.length c] 24)).alloc (.cells #[.int .i64 p, .int .i64 ((j : Int) + 1)] 68)).alloc (.cells #[.int .i64 0, .int .i64 0, .int .i64 0, .int .i64 0, .slice none 0 0] 74)) w.heap.size 24 _ := ((BoxN.new w _ _).alloc _).alloc _
 have bx : BoxN (((w.alloc (.cells #[.slice (some ⟨b, off, none⟩) t.length c] 24)).alloc (.cells #[.int .i64 p, .int .i64 ((j : Int) + 1)] 68)).alloc (.cells #[.int .i64 0, .int .i64 0, .int .i64 0, .int .i64 0, .slice none 0 0] 74)) (w.heap.size + 1) 68 _ := (BoxN.newAt _ _ (by simp)).alloc _
 have br : BoxN (((w.alloc (.cells #[.slice (some ⟨b, off, none⟩) t.length c] 24)).alloc (.cells #[.int .i64 p, .int .i64 ((j : Int) + 1)] 68)).alloc (.cells #[.int .i64 0, .int .i64 0, .int .i64 0, .int .i64 0, .slice none 0 0] 74)) (w.heap.size + 1 + 1) 74 _ := BoxN.newAt _ _ (by simp)
 have hx1 : Ext w (((w.alloc (.cells #[.slice (some ⟨b, off, none⟩) t.length c] 24)).alloc (.cells #[.int .i64 p, .int .i64 ((j : Int) + 1)] 68)).alloc (.cells #[.int .i64 0, .int .i64 0, .int .i64 0, .int .i64 0, .slice none 0 0] 74)) := (((Ext.refl _).alloc _).alloc _).alloc _
 go_enter Tryd.func124, Tryd.ntmps124
 go_wp2_with fail
 generalize (((w.alloc (.cells #[.slice (some ⟨b, off, none⟩) t.length c] 24)).alloc (.cells #[.int .i64 p, .int .i64 ((j : Int) + 1)] 68)).alloc (.cells #[.int .i64 0, .int .i64 0, .int .i64 0, .int .i64 0, .slice none 0 0] 74)) = W1 at *
 have t0 := bt.cell (j := 0) rfl
 have x0 := bx.cell (j := 0) rfl
 have x1 := bx.cell (j := 1) rfl
 have e0 := hx1.cellAt g0
 have e1 := hx1.cellAt g1
 have e2 := hx1.cellAt g2
 have e3 := hx1.cellAt g3
 have e4 := hx1.cellAt g4
 have d2 := hx1.cellAt c2
 have r0 := br.cell (j := 0) rfl
 have r1 := br.cell (j := 1) rfl
 have r2 := br.cell (j := 2) rfl
 have r3 := br.cell (j := 3) rfl
 have r4 := br.cell (j := 4) rfl
 have f0 := br.frozen 0
 have f1 := br.frozen 1
 have f2 := br.frozen 2
 have f3 := br.frozen 3
 have f4 := br.frozen 4
 have hw1 : IntKind.i64.wrap ((j : Int) + 1 - 1) = (j : Int) := by rw [IntKind.wrap_i64]; omega
 have hw2 : IntKind.i64.wrap (j : Int) = (j : Int) := by rw [IntKind.wrap_i64]; omega
 have hj0 : (0 : Int) ≤ (j : Int) := by omega
 have hp0 : (0 : Int) ≤ (p : Int) := by omega
 have n1 : b ≠ w.heap.size + 1 + 1 := by omega
 have n2 : b2 ≠ w.heap.size + 1 + 1 := by omega
 have n3 : w.heap.size ≠ w.heap.size + 1 + 1 := by omega
 have n4 : w.heap.size + 1 ≠ w.heap.size + 1 + 1 := by omega
 have hpl : (p : Int) < (t.length : Int) := by omega
 go_region
 all_goals go_wp2
 obtain ⟨Wr, hWr⟩ : ∃ Wr, (((((W1.setCell ⟨w.heap.size + 1 + 1, 0, none⟩ (.int .i64 t[p].evs[j].kind)).setCell ⟨w.heap.size + 1 + 1, 1, none⟩ (.int .i64 t[p].evs[j].peer)).setCell ⟨w.heap.size + 1 + 1, 2, none⟩ (.int .i64 t[p].evs[j].msg)).setCell ⟨w.heap.size + 1 + 1, 3, none⟩ (.int .i64 t[p].evs[j].time)).setCell ⟨w.heap.size + 1 + 1, 4, none⟩ (.slice A4 t[p].evs[j].asg.length k4)).drew = Wr := ⟨_, rfl⟩
 rw [hWr]
 have s1 : BoxN Wr (w.heap.size + 1 + 1) 74 #[.int .i64 t[p].evs[j].kind, .int .i64 t[p].evs[j].peer, .int .i64 t[p].evs[j].msg, .int .i64 t[p].evs[j].time, .slice A4 t[p].evs[j].asg.length k4] := by rw [← hWr]; exact kW1
 have sx : Ext w Wr := by rw [← hWr]; exact kW1
 clear hWr
 refine bodyPost_ret (v := .agg #[.int .i64 t[p].evs[j].kind, .int .i64 t[p].evs[j].peer, .int .i64 t[p].evs[j].msg, .int .i64 t[p].evs[j].time, .slice A4 t[p].evs[j].asg.length k4]) ?_ rfl ⟨A4, _, k4, by rw [hev.out], by rw [hev.out]; exact HS4.out, sx⟩
 simp [results, Tryd.f124, go_sem, s1.cell (j := 0) rfl, s1.cell (j := 1) rfl, s1.cell (j := 2) rfl, s1.cell (j := 3) rfl, s1.cell (j := 4) rfl]
end Go.Proofs.YtnihdkfmmbpilaaDoor
namespace Go.Proofs.YtnihdkfmmbpilaaDoor
open Go.RowKit
set_option linter.unusedVariables false

def backL (t : Tr) (x : Nat × Nat) : List (Nat × Nat) := (if 1 < x.2 then [(x.1, x.2 - 1)] else []) ++ if (evAt t x).kind == 3 then [findV t 2 (evAt t x).msg] else []

set_option maxRecDepth 100000 in
set_option maxHeartbeats 4000000 in
theorem Directly_any (u : Value) (t : Tr) (p i : Nat) (w : World) (hx : (p, i) ∈ ids t) (hS : Small t) (hs : SlR 3 RPr w u t) :
  Calls Tryd.prog 118 #[.agg #[u], idVal (p, i)] w fun e w' => RetIds w (backL t (p, i)) e w' := by
 have HAT := hide (fun w' (he : Ext w w') => At_any u t p i w' hx hS (hs.ext RPr.keeps he))
 have HFD := hide (fun m w' (he : Ext w w') => Find_any u t 2 m w' hS (hs.ext RPr.keeps he))
 have HBL := hide (show backL t (p, i) = (if 1 < i then [(p, i - 1)] else []) ++ if (evAt t (p, i)).kind == 3 then [findV t 2 (evAt t (p, i)).msg] else [] from rfl)
 have hpos := mem_pos hx
 have hi64 : i ≤ 1000000 := by
  obtain ⟨hp, _, h2⟩ := mem_ids.1 hx
  exact Nat.le_trans h2 (hS.ne _ (List.getElem_mem hp))
 obtain ⟨A, c, rfl, _, _, _⟩ := hs.at_
 clear hs
 simp only at hpos
 unfold idVal at *
 go_enter Tryd.func118, Tryd.ntmps118
 by_cases h1 : 1 < i
 ·have hd : decide ((1 : Int) < (i : Int)) = true := decide_eq_true oM
  go_wp2_with (at_builtin; go_must (refine wpl_appC (v := .slice none 0 0) (.tmp 10) (.tmp 17) elId rfl rfl rfl rfl (OwnC.nil _ _ _ w.heap.size) (SlC.lit (x := (p, i - 1)) _ (by simp) rfl oM) (idsC_one _) oM (by simp; omega) ?_; intro v1 w1 hown1 hgr1 hbl1; have he1 := hgr1.ext rfl; have hew1 : Ext w w1 := Ext.trans (((Ext.refl w).alloc _).alloc _ |>.alloc _) he1; have bt := (((BoxN.new w 24 _).alloc _ |>.alloc _).ext he1); have t0 := bt.cell (j := 0) rfl; have bx := (((BoxN.newAt (B := w.heap.size + 1) (W := w.alloc _) 68 _ (by simp)).alloc _).ext he1); have x0 := bx.cell (j := 0) rfl; have x1 := bx.cell (j := 1) rfl; have hown : OwnIds w1 w.heap.size v1 [(p, i - 1)] := (OwnIds.snoc (l := []) hown1 rfl); clear hgr1 hbl1 hown1))
  clear t0 bx x0 x1 he1
  refine (HAT.out _ hew1).mono ?_
  rintro e w2 ⟨A4, n4, k4, rfl, _, he2⟩
  have hew2 : Ext w w2 := hew1.trans he2
  have hown2 := OwnC.ext hown he2
  have bt2 := bt.ext he2
  have hsz2 := hew2.size
  clear hown bt
  generalize hev : evAt t (p, i) = ev at *
  have HEQ := hide hev
  clear hev
  cases z3 : ev.kind == 3
  ·have HR := hide (show backL t (p, i) = [(p, i - 1)] by rw [HBL.out, z3]; simp [h1])
   go_wp2_with fail
   go_ret
   exact ⟨_, rfl, by rw [HR.out]; exact OwnC.alloc hown2 _, hew2.alloc _⟩
  ·have HR := hide (show backL t (p, i) = [(p, i - 1)] ++ [findV t 2 ev.msg] by rw [HBL.out, z3]; simp [h1])
   have t0 : (w2.alloc (.cells #[.int .i64 ev.kind, .int .i64 ev.peer, .int .i64 ev.msg, .int .i64 ev.time, .slice A4 n4 k4] 74)).cell? ⟨w.heap.size, 0, none⟩ = some (.slice A t.length c) := (bt2.alloc _).cell rfl
   have hlt := bt2.lt
   go_wp2_with fail
   refine (HFD.out _ _ (hew2.alloc _)).mono ?_
   rintro e w3 ⟨rfl, he3⟩
   have hown3 := OwnC.ext (OwnC.alloc hown2 _) he3
   have hew3 : Ext w w3 := (hew2.alloc _).trans he3
   have hsz3 := hew3.size
   go_wp2_with (at_builtin; go_must (refine wpl_appC (v := v1) (.tmp 25) (.tmp 30) elId rfl rfl rfl rfl (OwnC.alloc hown3 _) (SlC.lit (x := findV t 2 ev.msg) _ rfl rfl rfl) (idsC_one _) (by simp <;> omega) (by simp <;> omega) ?_; intro v4 w4 hown4 hgr4 hbl4))
   go_ret
   exact ⟨_, rfl, by rw [HR.out]; exact OwnIds.snoc hown4 rfl, Ext.more (hew3.alloc _) hbl4⟩
 ·have hd : decide ((1 : Int) < (i : Int)) = false := decide_eq_false oM
  have hew1 : Ext w ((w.alloc (.cells #[.slice A t.length c] 24)).alloc (.cells #[.int .i64 p, .int .i64 i] 68)) := ((Ext.refl w).alloc _).alloc _
  have bt : BoxN ((w.alloc (.cells #[.slice A t.length c] 24)).alloc (.cells #[.int .i64 p, .int .i64 i] 68)) w.heap.size 24 #[.slice A t.length c] := (BoxN.new w _ _).alloc _
  have hown : OwnIds ((w.alloc (.cells #[.slice A t.length c] 24)).alloc (.cells #[.int .i64 p, .int .i64 i] 68)) w.heap.size (.slice none 0 0) [] := OwnC.nil _ _ _ _
  go_wp2_with fail
  refine (HAT.out _ hew1).mono ?_
  rintro e w2 ⟨A4, n4, k4, rfl, _, he2⟩
  have hew2 : Ext w w2 := hew1.trans he2
  have hown2 := OwnC.ext hown he2
  have bt2 := bt.ext he2
  have hsz2 := hew2.size
  clear hown bt
  generalize hev : evAt t (p, i) = ev at *
  have HEQ := hide hev
  clear hev
  cases z3 : ev.kind == 3
  ·have HR := hide (show backL t (p, i) = [] by rw [HBL.out, z3]; simp [h1])
   go_wp2_with fail
   go_ret
   exact ⟨_, rfl, by rw [HR.out]; exact OwnC.alloc hown2 _, hew2.alloc _⟩
  ·have HR := hide (show backL t (p, i) = [] ++ [findV t 2 ev.msg] by rw [HBL.out, z3]; simp [h1])
   have t0 : (w2.alloc (.cells #[.int .i64 ev.kind, .int .i64 ev.peer, .int .i64 ev.msg, .int .i64 ev.time, .slice A4 n4 k4] 74)).cell? ⟨w.heap.size, 0, none⟩ = some (.slice A t.length c) := (bt2.alloc _).cell rfl
   have hlt := bt2.lt
   go_wp2_with fail
   refine (HFD.out _ _ (hew2.alloc _)).mono ?_
   rintro e w3 ⟨rfl, he3⟩
   have hown3 := OwnC.ext (OwnC.alloc hown2 _) he3
   have hew3 : Ext w w3 := (hew2.alloc _).trans he3
   have hsz3 := hew3.size
   go_wp2_with (at_builtin; go_must (refine wpl_appC (v := .slice none 0 0) (.tmp 25) (.tmp 30) elId rfl rfl rfl rfl (OwnC.alloc hown3 _) (SlC.lit (x := findV t 2 ev.msg) _ rfl rfl rfl) (idsC_one _) (by simp <;> omega) (by simp <;> omega) ?_; intro v4 w4 hown4 hgr4 hbl4))
   go_ret
   exact ⟨_, rfl, by rw [HR.out]; exact OwnIds.snoc hown4 rfl, Ext.more (hew3.alloc _) hbl4⟩
end Go.Proofs.YtnihdkfmmbpilaaDoor
namespace Go.Proofs.YtnihdkfmmbpilaaDoor
open Go.RowKit
set_option linter.unusedVariables false

theorem made_one (v : Value) (n : Nat) : madeCells #[v] (n * 1) = Array.replicate n v := by
 unfold madeCells
 apply Array.ext
 ·simp
 ·intro i h1 h2
  simp [Nat.mod_one]
theorem run_makeN {P : Program} {t e : TypeId} {i : TypeInfo} {z v : Value} (ht : P.underlying t = some (.slice e)) (hi : P.info? e = some i) (hz : i.zero = some z) (hs : i.size = 1) (hzc : z.cells = #[v]) (n : Nat) (hb : i.bytes * n ≤ 281474976710656) (h63 : n ≤ 9223372036854775807) (w : World) :
  (Instr.makeSlice t (.int .i64 n) (.int .i64 n)).run P w = .ok (.slice (some ⟨w.heap.size, 0, none⟩) n n) (w.alloc (.cells (Array.replicate n v) e)) := by
 have := run_make (P := P) w t e i z ht hi hz .i64 .i64 (n : Int) (n : Int) oM (Int.le_refl _) (by rw [← Int.natCast_mul]; omega) oM
 rw [hs, hzc, Int.toNat_natCast, made_one] at this
 exact this
def rowC (D : List Nat) : Array Value := (D.map fun d : Nat => Value.int .i64 d).toArray
theorem rowC_get {D : List Nat} {k : Nat} (h : k < D.length) : (rowC D)[k]? = some (.int .i64 (D[k] : Nat)) := by simp [rowC, List.getElem?_eq_getElem h]
theorem rowC_set (D : List Nat) (k d : Nat) : (rowC D).setIfInBounds k (.int .i64 d) = rowC (D.set k d) := by
 unfold rowC
 rw [List.setIfInBounds_toArray, List.map_set]
theorem rowC_zero (n : Nat) : Array.replicate n (Value.int .i64 0) = rowC (List.replicate n 0) := by simp [rowC]
theorem BoxN.setRow {W : World} {B : Nat} {t : TypeId} {D : List Nat} {k : Nat} (h : BoxN W B t (rowC D)) (d : Nat) : BoxN (W.setCell ⟨B, k, none⟩ (.int .i64 d)) B t (rowC (D.set k d)) := by
 rw [← rowC_set]; exact h.set _ _
theorem BoxN.setRow1 {W : World} {B : Nat} {t : TypeId} {D : List Nat} {k : Nat} (h : BoxN W B t (rowC D)) (d : Nat) : BoxN (W.setCell ⟨B, k, none⟩ (.int .i64 ((d : Int) + 1))) B t (rowC (D.set k (d + 1))) := by
 have := h.setRow (k := k) (d + 1)
 rwa [show ((d + 1 : Nat) : Int) = (d : Int) + 1 from by push_cast; rfl] at this
def sumB (w : World) (g : Nat) : Nat := match w.heap[g]? with | some (.cells cs _ _) => (cs.toList.map fun v => (intOf v).toNat).sum | _ => 0
theorem sumB_eq {w : World} {g : Nat} {t : TypeId} {D : List Nat} (h : BoxN w g t (rowC D)) : sumB w g = D.sum := by
 unfold sumB
 rw [show w.heap[g]? = _ from h]
 simp only [rowC, List.map_map]
 congr 1
 conv => rhs; rw [← List.map_id D]
 apply List.map_congr_left
 intro x _
 simp [intOf]
def numB (w : World) (g k : Nat) : Nat := match w.cell? ⟨g, k, none⟩ with | some v => (intOf v).toNat | none => 0
theorem numB_eq {w : World} {g k : Nat} {t : TypeId} {D : List Nat} (h : BoxN w g t (rowC D)) (hk : k < D.length) : numB w g k = D[k] := by
 unfold numB
 rw [h.cell (rowC_get hk)]
 simp [intOf]
theorem sum_set {D : List Nat} : ∀ {k d : Nat} (hk : k < D.length), (D.set k d).sum + D[k] = D.sum + d := by
 induction D with
 | nil => intro k d hk; simp at hk
 | cons a D ih =>
   intro k d hk
   cases k with
   | zero => simp; omega
   | succ k =>
     have := ih (k := k) (d := d) (by simpa using hk)
     simp at this ⊢; omega
end Go.Proofs.YtnihdkfmmbpilaaDoor
namespace Go.Proofs.YtnihdkfmmbpilaaDoor
set_option linter.unusedVariables false

theorem Hb.back {t : Tr} {x z : Nat × Nat} (h : Hb t x z) : ∃ y, Dir t y z ∧ (y = x ∨ Hb t x y) := by
 cases h with
 | one h => exact ⟨_, h, .inl rfl⟩
 | more h1 h2 => exact ⟨_, h2, .inr h1⟩
def Gone (D : List Nat) (x : Nat × Nat) : Prop := x.2 ≤ D.getD x.1 0
structure KI (t : Tr) (D : List Nat) : Prop where
 len : D.length = t.length
 le : ∀ p (hp : p < t.length), D.getD p 0 ≤ t[p].evs.length
 closed : ∀ x ∈ ids t, Gone D x → ∀ y ∈ ids t, Dir t y x → Gone D y
 acyc : ∀ x ∈ ids t, Gone D x → ¬ Hb t x x
theorem KI.start (t : Tr) : KI t (List.replicate t.length 0) := by
 have h0 : ∀ p, (List.replicate t.length 0).getD p 0 = 0 := fun p => by
  rw [List.getD_eq_getElem?_getD, List.getElem?_replicate]; split <;> rfl
 have hn : ∀ x ∈ ids t, ¬ Gone (List.replicate t.length 0) x := fun x hx hg => by
  have := mem_pos hx
  unfold Gone at hg; rw [h0] at hg; omega
 exact ⟨by simp, fun p hp => by rw [h0]; exact Nat.zero_le _, fun x hx hg => absurd hg (hn x hx), fun x hx hg => absurd hg (hn x hx)⟩
theorem KI.gone_back {t : Tr} {D : List Nat} (h : KI t D) {x z : Nat × Nat} (hx : x ∈ ids t) (hz : z ∈ ids t) (hg : Gone D z) (hb : Hb t x z) : Gone D x := by
 induction hb with
 | one hd => exact h.closed _ hz hg _ hx hd
 | more h1 hd ih =>
   have hy := h1.mem hx
   exact ih hy (h.closed _ hz hg _ hy hd)
theorem getD_set {D : List Nat} {p q d : Nat} (hp : p < D.length) : (D.set p d).getD q 0 = if q = p then d else D.getD q 0 := by
 rw [List.getD_eq_getElem?_getD, List.getElem?_set]
 by_cases h : p = q
 ·subst h; rw [if_pos rfl, if_pos rfl, if_pos hp]; rfl
 ·rw [if_neg h, if_neg (fun e => h e.symm), List.getD_eq_getElem?_getD]
theorem KI.step {t : Tr} {D : List Nat} (h : KI t D) {p : Nat} (hp : p < t.length) (hi : D.getD p 0 < t[p].evs.length) (hpre : ∀ y ∈ ids t, Dir t y (p, D.getD p 0 + 1) → Gone D y) : KI t (D.set p (D.getD p 0 + 1)) := by
 have hlen : p < D.length := by rw [h.len]; exact hp
 have hgs : ∀ x, x ∈ ids t → (Gone (D.set p (D.getD p 0 + 1)) x ↔ Gone D x ∨ x = (p, D.getD p 0 + 1)) := fun x hx => by
  unfold Gone
  rw [getD_set hlen]
  obtain ⟨a, b⟩ := x
  simp only [Prod.mk.injEq]
  by_cases ha : a = p
  ·subst ha; rw [if_pos rfl]; omega
  ·rw [if_neg ha]; simp [ha]
 have hxin : (p, D.getD p 0 + 1) ∈ ids t := mem_ids.2 ⟨hp, by simp, hi⟩
 have hnx : ¬ Gone D (p, D.getD p 0 + 1) := by unfold Gone; simp
 refine ⟨by simpa using h.len, fun q hq => ?_, fun x hx hg y hy hd => ?_, fun x hx hg hb => ?_⟩
 ·rw [getD_set hlen]
  split
  ·rename_i e; subst e; exact hi
  ·exact h.le q hq
 ·rcases (hgs x hx).1 hg with h1 | rfl
  ·exact (hgs y hy).2 (.inl (h.closed x hx h1 y hy hd))
  ·exact (hgs y hy).2 (.inl (hpre y hy hd))
 ·rcases (hgs x hx).1 hg with h1 | rfl
  ·exact h.acyc x hx h1 hb
  ·obtain ⟨y, hd, he⟩ := hb.back
   rcases he with rfl | h2
   ·exact hnx (hpre _ hxin hd)
   ·have hy := h2.mem hxin
    exact hnx (h.gone_back hxin hy (hpre y hy hd) h2)
theorem dir_pre {t : Tr} {D : List Nat} {p i : Nat} (hpair : ∀ x ∈ ids t, pairF t x = 0) (hp : p < t.length) (hi : i = D.getD p 0) (hle : i < t[p].evs.length) (hs : (evAt t (p, i + 1)).kind = 3 → (findV t 2 (evAt t (p, i + 1)).msg).2 ≤ D.getD (findV t 2 (evAt t (p, i + 1)).msg).1 0) :
  ∀ y ∈ ids t, Dir t y (p, i + 1) → Gone D y := by
 rintro ⟨a, b⟩ hy (⟨he, hl⟩ | ⟨hk, hf⟩)
 ·injection he with h1 h2
  simp only at h1 h2
  subst h1
  unfold Gone
  simp only
  omega
 ·obtain ⟨hfo, _, _⟩ := firstOf_find hf
  have e : findL t 3 (evAt t (a, b)).msg = (ids t).find? (keyB t 3 (evAt t (a, b)).msg) := rfl
  rw [e] at hf
  have hkey := List.find?_some hf
  unfold keyB at hkey
  simp only [Bool.and_eq_true, beq_iff_eq] at hkey
  have hq := hs hkey.1
  rw [hkey.2] at hq
  have hpy := hpair (a, b) hy
  unfold pairF at hpy
  rw [hk] at hpy
  simp only [show ((2 : Int) == 2) = true from rfl, if_true] at hpy
  have hfy : findL t 2 (evAt t (a, b)).msg = some (a, b) := by
   by_cases hh : (findL t 2 (evAt t (a, b)).msg == some (a, b)) = true
   ·simpa using hh
   ·rw [if_neg hh] at hpy; cases hpy
  have hv : findV t 2 (evAt t (a, b)).msg = (a, b) := (firstOf_find hfy).1
  rw [hv] at hq
  exact hq
theorem KI.all {t : Tr} {D : List Nat} (h : KI t D) (hd : ∀ p (hp : p < t.length), t[p].evs.length ≤ D.getD p 0) : ∀ x ∈ ids t, ¬ Hb t x x := by
 intro x hx
 obtain ⟨hp, h1, h2⟩ := mem_ids.1 hx
 exact h.acyc x hx (Nat.le_trans h2 (hd x.1 hp))
end Go.Proofs.YtnihdkfmmbpilaaDoor
namespace Go.Proofs.YtnihdkfmmbpilaaDoor
open Go.RowKit
set_option linter.unusedVariables false

theorem sends_find {t : Tr} {q m p : Nat} (hq : q < t.length) (h : sendsB t q m p = true) : ∃ y, findL t 2 m = some y := by
 have e : findL t 2 m = (ids t).find? (keyB t 2 m) := rfl
 rw [e]
 unfold sendsB evsOf at h
 rw [getD_lt dfPr t hq, List.any_eq_true] at h
 obtain ⟨ev, he, hk⟩ := h
 obtain ⟨j, hj, hev⟩ := List.mem_iff_getElem.1 he
 simp only [Bool.and_eq_true, beq_iff_eq] at hk
 have hmem : (q, j + 1) ∈ ids t := mem_ids.2 ⟨hq, by simp, hj⟩
 cases hf : (ids t).find? (keyB t 2 m) with
 | some y => exact ⟨y, rfl⟩
 | none =>
   rw [List.find?_eq_none] at hf
   refine absurd ?_ (hf _ hmem)
   unfold keyB
   rw [evAt_eq hq hj, hev, hk.1.1, hk.1.2]
   simp
structure Paired (t : Tr) : Prop where
 form : ∀ x ∈ ids t, formedB t.length x.1 (evAt t x) = true
 pair : ∀ x ∈ ids t, pairF t x = 0
theorem Paired.recv {t : Tr} (h : Paired t) {x : Nat × Nat} (hx : x ∈ ids t) (hk : (evAt t x).kind = 3) : findL t 3 (evAt t x).msg = some x ∧ ∃ y, findL t 2 (evAt t x).msg = some y := by
 have hp := h.pair x hx
 obtain ⟨m, q, hm, _, hq, hq2, _⟩ := formed_open (h.form x hx) (by rw [hk]; rfl)
 unfold pairF at hp
 rw [hk] at hp
 simp only [show ((3 : Int) == 2) = false from rfl, show ((3 : Int) == 3) = true from rfl, if_true, Bool.false_eq_true, if_false] at hp
 by_cases h1 : (findL t 3 (evAt t x).msg == some x) = true
 ·rw [if_pos h1] at hp
  refine ⟨by simpa using h1, ?_⟩
  by_cases h2 : sendsB t (evAt t x).peer.toNat (evAt t x).msg x.1 = true
  ·rw [hq, hm, Int.toNat_natCast] at h2
   rw [hm]
   exact sends_find hq2 h2
  ·rw [if_neg h2] at hp; cases hp
 ·rw [if_neg h1] at hp; cases hp
theorem Paired.send {t : Tr} (h : Paired t) {x : Nat × Nat} (hx : x ∈ ids t) (hk : (evAt t x).kind = 2) : findL t 2 (evAt t x).msg = some x := by
 have hp := h.pair x hx
 unfold pairF at hp
 rw [hk] at hp
 simp only [show ((2 : Int) == 2) = true from rfl, if_true] at hp
 by_cases h1 : (findL t 2 (evAt t x).msg == some x) = true
 ·simpa using h1
 ·rw [if_neg h1] at hp; cases hp
theorem find_key {t : Tr} {k m : Int} {y : Nat × Nat} (h : findL t k m = some y) : (evAt t y).kind = k ∧ (evAt t y).msg = m := by
 have e : findL t k m = (ids t).find? (keyB t k m) := rfl
 rw [e] at h
 have := List.find?_some h
 simpa [keyB] using this
theorem mem_backL {t : Tr} (h : Paired t) {x y : Nat × Nat} (hx : x ∈ ids t) : y ∈ backL t x ↔ (y ∈ ids t ∧ Dir t y x) := by
 obtain ⟨hp, h1, h2⟩ := mem_ids.1 hx
 unfold backL
 rw [List.mem_append]
 constructor
 ·rintro (hy | hy)
  ·split at hy
   ·rename_i hlt
    have : y = (x.1, x.2 - 1) := by simpa using hy
    subst this
    refine ⟨mem_ids.2 ⟨hp, by simp; omega, by simp; omega⟩, .inl ⟨?_, ?_⟩⟩
    ·ext <;> simp; omega
    ·unfold evsOf; simp only; rw [getD_lt dfPr t hp]; omega
   ·cases hy
  ·split at hy
   ·rename_i hk
    have hk3 : (evAt t x).kind = 3 := by simpa using hk
    obtain ⟨h3, z, hz⟩ := h.recv hx hk3
    have hv : findV t 2 (evAt t x).msg = z := (firstOf_find hz).1
    have : y = z := by rw [← hv]; simpa using hy
    subst this
    obtain ⟨k2, m2⟩ := find_key hz
    refine ⟨(firstOf_find hz).2.2, .inr ⟨k2, ?_⟩⟩
    rw [m2]; exact h3
   ·cases hy
 ·rintro ⟨hy, (⟨he, hl⟩ | ⟨hk, hf⟩)⟩
  ·obtain ⟨_, hy1, _⟩ := mem_ids.1 hy
   left
   rw [he]
   simp only
   rw [if_pos oM]
   simp
  ·right
   obtain ⟨k3, m3⟩ := find_key hf
   rw [k3]
   simp only [show ((3 : Int) == 3) = true from rfl, if_true]
   have := h.send hy hk
   rw [m3, show findV t 2 (evAt t y).msg = y from (firstOf_find this).1]
   simp
theorem Hb.cons {t : Tr} {x y z : Nat × Nat} (h : Dir t x y) (k : Hb t y z) : Hb t x z := by
 induction k with
 | one h2 => exact .more (.one h) h2
 | more _ h2 ih => exact .more ih h2
structure PaI (t : Tr) (x : Nat × Nat) (S R : List (Nat × Nat)) : Prop where
 nod : S.Nodup
 s : ∀ y ∈ S, y ∈ ids t ∧ Hb t y x
 r : ∀ y ∈ R, y ∈ ids t ∧ Hb t y x
 closed : ∀ z, z = x ∨ z ∈ S → ∀ y ∈ ids t, Dir t y z → y ∈ S ∨ y ∈ R
structure PaJ (t : Tr) (x z0 : Nat × Nat) (S R : List (Nat × Nat)) (k : Nat) : Prop where
 nod : S.Nodup
 s : ∀ y ∈ S, y ∈ ids t ∧ Hb t y x
 r : ∀ y ∈ R, y ∈ ids t ∧ Hb t y x
 cur : z0 ∈ S
 done : ∀ y ∈ (backL t z0).take k, y ∈ R
 closed : ∀ z, z = x ∨ z ∈ S → z ≠ z0 → ∀ y ∈ ids t, Dir t y z → y ∈ S ∨ y ∈ R
theorem PaI.start {t : Tr} (h : Paired t) {x : Nat × Nat} (hx : x ∈ ids t) : PaI t x [] (backL t x) :=
 ⟨List.nodup_nil, by simp, fun y hy => let ⟨a, b⟩ := (mem_backL h hx).1 hy; ⟨a, .one b⟩, fun z hz y hy hd => by
  rcases hz with rfl | h1
  ·exact .inr ((mem_backL h hx).2 ⟨hy, hd⟩)
  ·cases h1⟩
theorem PaI.skip {t : Tr} {x y : Nat × Nat} {S R : List (Nat × Nat)} (h : PaI t x S (y :: R)) (hy : y ∈ S) : PaI t x S R :=
 ⟨h.nod, h.s, fun z hz => h.r z (by simp [hz]), fun z hz w hw hd => by
  rcases h.closed z hz w hw hd with h1 | h1
  ·exact .inl h1
  ·rcases List.mem_cons.1 h1 with rfl | h2
   ·exact .inl hy
   ·exact .inr h2⟩
theorem PaI.mark {t : Tr} {x y : Nat × Nat} {S R : List (Nat × Nat)} (h : PaI t x S (y :: R)) (hy : y ∉ S) : PaJ t x y (S ++ [y]) R 0 := by
 obtain ⟨h1, h2⟩ := h.r y (by simp)
 refine ⟨?_, ?_, fun z hz => h.r z (by simp [hz]), by simp, by simp, ?_⟩
 ·refine List.nodup_append.2 ⟨h.nod, by simp, fun a ha b hb => ?_⟩
  have : b = y := by simpa using hb
  subst this; exact fun e => hy (e ▸ ha)
 ·intro z hz
  rcases List.mem_append.1 hz with h3 | h3
  ·exact h.s z h3
  ·have : z = y := by simpa using h3
   subst this; exact ⟨h1, h2⟩
 ·intro z hz hne w hw hd
  have hz' : z = x ∨ z ∈ S := by
   rcases hz with h3 | h3
   ·exact .inl h3
   ·rcases List.mem_append.1 h3 with h4 | h4
    ·exact .inr h4
    ·exact absurd (by simpa using h4) hne
  rcases h.closed z hz' w hw hd with h3 | h3
  ·exact .inl (by simp [h3])
  ·rcases List.mem_cons.1 h3 with rfl | h4
   ·exact .inl (by simp)
   ·exact .inr h4
theorem PaJ.push {t : Tr} (hp : Paired t) {x z0 y : Nat × Nat} {S R : List (Nat × Nat)} {k : Nat} (h : PaJ t x z0 S R k) (hk : (backL t z0)[k]? = some y) : PaJ t x z0 S (R ++ [y]) (k + 1) := by
 obtain ⟨hz, hzx⟩ := h.s z0 h.cur
 obtain ⟨hy, hd⟩ := (mem_backL hp hz).1 (List.mem_of_getElem? hk)
 refine ⟨h.nod, h.s, fun w hw => ?_, h.cur, fun w hw => ?_, fun z hz' hne w hw hd' => ?_⟩
 ·rcases List.mem_append.1 hw with h1 | h1
  ·exact h.r w h1
  ·have : w = y := by simpa using h1
   subst this; exact ⟨hy, .cons hd hzx⟩
 ·rw [take_snoc' hk] at hw
  rcases List.mem_append.1 hw with h1 | h1
  ·simp [h.done w h1]
  ·exact List.mem_append.2 (.inr h1)
 ·rcases h.closed z hz' hne w hw hd' with h1 | h1
  ·exact .inl h1
  ·exact .inr (by simp [h1])
theorem PaJ.fin {t : Tr} (hp : Paired t) {x z0 : Nat × Nat} {S R : List (Nat × Nat)} {k : Nat} (h : PaJ t x z0 S R k) (hk : (backL t z0).length ≤ k) : PaI t x S R :=
 ⟨h.nod, h.s, h.r, fun z hz w hw hd => by
  by_cases he : z = z0
  ·subst he
   refine .inr (h.done w ?_)
   rw [List.take_of_length_le hk]
   exact (mem_backL hp (h.s z h.cur).1).2 ⟨hw, hd⟩
  ·exact h.closed z hz he w hw hd⟩
theorem PaI.all {t : Tr} {x : Nat × Nat} {S : List (Nat × Nat)} (h : PaI t x S []) : ∀ y ∈ ids t, y ∈ S ↔ Hb t y x := by
 intro y hy
 refine ⟨fun hs => (h.s y hs).2, fun hb => ?_⟩
 have key : ∀ z, Hb t y z → (z = x ∨ z ∈ S) → y ∈ S := by
  intro z hz
  induction hz with
  | one hd => exact fun hc => (h.closed _ hc _ hy hd).resolve_right (by simp)
  | more h1 hd ih => exact fun hc => ih (.inr ((h.closed _ hc _ (h1.mem hy) hd).resolve_right (by simp)))
 exact key x hb (.inl rfl)
theorem PaI.few {t : Tr} {x : Nat × Nat} {S R : List (Nat × Nat)} (h : PaI t x S R) : S.length ≤ (ids t).length := nodup_le h.nod fun y hy => (h.s y hy).1
theorem PaJ.few {t : Tr} {x z0 : Nat × Nat} {S R : List (Nat × Nat)} {k : Nat} (h : PaJ t x z0 S R k) : S.length ≤ (ids t).length := nodup_le h.nod fun y hy => (h.s y hy).1
theorem backL_len (t : Tr) (x : Nat × Nat) : (backL t x).length ≤ 2 := by
 unfold backL
 rw [List.length_append]
 split <;> split <;> simp

def rowM (S : List (Nat × Nat)) (p n : Nat) : Array Value := ((List.range n).map fun i => Value.bool (decide ((p, i) ∈ S))).toArray
theorem rowM_get {S : List (Nat × Nat)} {p n i : Nat} (h : i < n) : (rowM S p n)[i]? = some (.bool (decide ((p, i) ∈ S))) := by simp [rowM, h]
theorem rowM_set {S : List (Nat × Nat)} {p n i : Nat} : (rowM S p n).setIfInBounds i (.bool true) = rowM (S ++ [(p, i)]) p n := by
 apply Array.ext
 ·simp [rowM]
 ·intro j h1 h2
  simp [rowM] at h2
  rw [Array.getElem_setIfInBounds (by simpa using h1)]
  simp only [rowM, List.getElem_toArray, List.getElem_map, List.getElem_range]
  by_cases hij : i = j
  ·subst hij; simp
  ·rw [if_neg hij]
   congr 1
   rw [Bool.eq_iff_iff]
   simp
   omega
theorem rowM_other {S : List (Nat × Nat)} {p q n i : Nat} (h : q ≠ p) : rowM (S ++ [(p, i)]) q n = rowM S q n := by
 unfold rowM
 congr 1
 apply List.map_congr_left
 intro j _
 congr 1
 rw [Bool.eq_iff_iff]
 simp [h]
theorem rowM_zero (p n : Nat) : Array.replicate n (Value.bool false) = rowM [] p n := by
 apply Array.ext
 ·simp [rowM]
 ·intro j h1 h2
  simp [rowM]
def rowV (q : Nat × Nat) : Value := .slice (some ⟨q.1, 0, none⟩) q.2 q.2
structure GridM (tr tb : TypeId) (W : World) (B : Nat) (v : Value) (gs S : List (Nat × Nat)) : Prop where
 out : OwnC 1 tr W B v gs.length (gs.map rowV)
 row : ∀ p (hp : p < gs.length), BoxN W gs[p].1 tb (rowM S p gs[p].2) ∧ B ≤ gs[p].1
 nod : ∀ p q (hp : p < gs.length) (hq : q < gs.length), gs[p].1 = gs[q].1 → p = q
section
variable {tr tb : TypeId} {W W' : World} {B : Nat} {v : Value} {gs S : List (Nat × Nat)}
theorem GridM.ext (h : GridM tr tb W B v gs S) (he : Ext W W') : GridM tr tb W' B v gs S := ⟨h.out.ext he, fun p hp => ⟨(h.row p hp).1.ext he, (h.row p hp).2⟩, h.nod⟩
theorem GridM.drewN (h : GridM tr tb W B v gs S) (n : Nat) : GridM tr tb (W.drewN n) B v gs S := h.ext ((Ext.refl W).drewN n)
theorem GridM.alloc (h : GridM tr tb W B v gs S) (o : Obj) : GridM tr tb (W.alloc o) B v gs S := h.ext ((Ext.refl W).alloc o)
theorem GridM.kept (h : GridM tr tb W B v gs S) {r : Option Nat} (hg : W.grownBy W' r) (h1 : v.ownBlock ≠ r ∨ v.ownBlock = none) (h2 : ∀ p (hp : p < gs.length), some gs[p].1 ≠ r) : GridM tr tb W' B v gs S :=
 ⟨h.out.kept hg (h1.symm), fun p hp => ⟨(h.row p hp).1.kept hg (h2 p hp), (h.row p hp).2⟩, h.nod⟩
theorem GridM.mark (h : GridM tr tb W B v gs S) (hne : tr ≠ tb) {p i : Nat} (hp : p < gs.length) : GridM tr tb (W.setCell ⟨gs[p].1, i, none⟩ (.bool true)) B v gs (S ++ [(p, i)]) := by
 refine ⟨h.out.other (h.out.not_box (h.row p hp).1 hne.symm) _, fun q hq => ⟨?_, (h.row q hq).2⟩, h.nod⟩
 by_cases hpq : q = p
 ·subst hpq
  rw [← rowM_set]
  exact (h.row q hq).1.set _ _
 ·rw [rowM_other hpq]
  exact (h.row q hq).1.other (fun e => hpq (h.nod q p hq hp e)) _
end
def marks (t : Tr) (gs : List (Nat × Nat)) (w : World) : Nat := (ids t).countP fun x => match w.cell? ⟨(gs.getD x.1 (0, 0)).1, x.2, none⟩ with | some (.bool true) => true | _ => false
theorem marks_eq {t : Tr} {tr tb : TypeId} {W : World} {B : Nat} {v : Value} {gs S : List (Nat × Nat)} (h : GridM tr tb W B v gs S) (hl : ∀ x ∈ ids t, ∃ (hp : x.1 < gs.length), x.2 < gs[x.1].2) (hn : S.Nodup) (hs : ∀ y ∈ S, y ∈ ids t) : marks t gs W = S.length := by
 have e : marks t gs W = (ids t).countP fun x => decide (x ∈ S) := by
  unfold marks
  refine List.countP_congr fun x hx => ?_
  obtain ⟨hp, hi⟩ := hl x hx
  rw [getD_lt (0, 0) gs hp, (h.row x.1 hp).1.cell (rowM_get hi)]
  cases decide ((x.1, x.2) ∈ S) <;> simp
 rw [e, List.countP_eq_length_filter]
 apply Nat.le_antisymm
 ·exact nodup_le ((nodup_ids t).filter _) fun x hx => by simpa using (List.mem_filter.1 hx).2
 ·exact nodup_le hn fun x hx => List.mem_filter.2 ⟨hs x hx, by simpa using hx⟩
end Go.Proofs.YtnihdkfmmbpilaaDoor
namespace Go.Proofs.YtnihdkfmmbpilaaDoor
set_option linter.unusedVariables false

structure Vok (t : Tr) : Prop where
 lo : 1 ≤ t.length
 hi : t.length ≤ 8
 head : ∀ p, p < t.length → headF t p = 0
 form : ∀ x ∈ ids t, formF t x = 0
 pair : ∀ x ∈ ids t, pairF t x = 0
 acyc : ∀ x ∈ ids t, ¬ Hb t x x
theorem vok {t : Tr} (h : validL t = true) : Vok t := by
 unfold validL faultL at h
 split at h
 ·simp at h
 rename_i hl
 split at h
 ·rename_i p hp
  have := List.find?_some hp
  simp at h this; exact absurd h this
 rename_i h1
 split at h
 ·rename_i p hp
  have := List.find?_some hp
  simp at h this; exact absurd h this
 rename_i h2
 split at h
 ·rename_i p hp
  have := List.find?_some hp
  simp at h this; exact absurd h this
 rename_i h3
 split at h
 ·simp at h
 rename_i h4
 rw [List.find?_eq_none] at h1 h2 h3 h4
 refine ⟨by omega, by omega, fun p hp => ?_, fun x hx => ?_, fun x hx => ?_, fun x hx => ?_⟩
 ·simpa using h1 p (List.mem_range.2 hp)
 ·simpa using h2 x hx
 ·simpa using h3 x hx
 ·simpa using h4 x hx
theorem Vok.paired {t : Tr} (h : Vok t) : Paired t := ⟨fun x hx => formF_formed (h.form x hx), h.pair⟩
theorem evsOf_lt {t : Tr} {p : Nat} (h : p < t.length) : evsOf t p = t[p].evs := by unfold evsOf; simp [List.getD, h]
theorem mem_ids2 {t : Tr} {p i : Nat} : (p, i + 1) ∈ ids t ↔ p < t.length ∧ i < (evsOf t p).length := by
 rw [mem_ids]
 constructor
 ·rintro ⟨hp, _, h⟩
  have h : i + 1 ≤ t[p].evs.length := h
  exact ⟨hp, by rw [evsOf_lt hp]; omega⟩
 ·rintro ⟨hp, h⟩; rw [evsOf_lt hp] at h; exact ⟨hp, by simp, (show i + 1 ≤ t[p].evs.length by omega)⟩

theorem Hb.trans {t : Tr} {x y z : Nat × Nat} (h : Hb t x y) (k : Hb t y z) : Hb t x z := by
 induction k with
 | one h2 => exact .more h h2
 | more _ h2 ih => exact .more ih h2
def Le (t : Tr) (x y : Nat × Nat) : Prop := x = y ∨ Hb t x y
theorem Le.refl {t : Tr} (x : Nat × Nat) : Le t x x := .inl rfl
theorem Le.hb {t : Tr} {x y z : Nat × Nat} (h : Le t x y) (k : Hb t y z) : Hb t x z := by
 rcases h with rfl | h
 ·exact k
 ·exact h.trans k
theorem Le.trans {t : Tr} {x y z : Nat × Nat} (h : Le t x y) (k : Le t y z) : Le t x z := by
 rcases k with rfl | k
 ·exact h
 ·exact .inr (h.hb k)
theorem hb_row {t : Tr} {p i : Nat} : ∀ {j : Nat}, i < j → j ≤ (evsOf t p).length → Hb t (p, i) (p, j)
 | 0, h, _ => by omega
 | j + 1, h, hl => by
   have d : Dir t (p, j) (p, j + 1) := .inl ⟨rfl, hl⟩
   by_cases hj : i = j
   ·subst hj; exact .one d
   ·exact .more (hb_row (show i < j by omega) oM) d
theorem le_row {t : Tr} {p i j : Nat} (h : i ≤ j) (hl : j ≤ (evsOf t p).length) : Le t (p, i) (p, j) := by
 by_cases hj : i = j
 ·exact .inl (by rw [hj])
 ·exact .inr (hb_row oM hl)

noncomputable def leB (t : Tr) (x y : Nat × Nat) : Bool := @decide (Le t x y) (Classical.propDecidable _)
theorem leB_iff {t : Tr} {x y : Nat × Nat} : leB t x y = true ↔ Le t x y := by unfold leB; exact @decide_eq_true_iff _ (Classical.propDecidable _)
noncomputable def vc (t : Tr) (x : Nat × Nat) (q : Nat) : Nat := (List.range (evsOf t q).length).countP fun i => leB t (q, i + 1) x
theorem count_down {P : Nat → Bool} : ∀ {n : Nat}, (∀ i j, i < n → j ≤ i → P i = true → P j = true) → ∀ i, i < n → (P i = true ↔ i < (List.range n).countP P)
 | 0, _, i, hi => by omega
 | n + 1, h, i, hi => by
   have ih := count_down (P := P) (n := n) (fun i j hi hj hp => h i j oM hj hp)
   have hle := List.countP_le_length (p := P) (l := List.range n)
   rw [List.length_range] at hle
   rw [List.range_succ, List.countP_append, List.countP_singleton]
   by_cases hn : P n = true
   ·have all : ∀ j, j < n → P j = true := fun j hj => h n j oM oM hn
    have hc : (List.range n).countP P = n := by
     rcases Nat.lt_or_ge ((List.range n).countP P) n with hlt | hge
     ·have := (ih _ hlt).1 (all _ hlt); omega
     ·omega
    rw [if_pos hn, hc]
    constructor
    ·intro _; omega
    ·intro _
     rcases Nat.lt_or_ge i n with hlt | hge
     ·exact all i hlt
     ·have : i = n := by omega
      subst this; exact hn
   ·rw [if_neg hn]
    rcases Nat.lt_or_ge i n with hlt | hge
    ·exact ih i hlt
    ·have : i = n := by omega
     subst this
     constructor
     ·intro hp; exact absurd hp hn
     ·intro hp; omega
theorem vc_iff {t : Tr} {x : Nat × Nat} {q i : Nat} (h : i < (evsOf t q).length) : Le t (q, i + 1) x ↔ i < vc t x q := by
 have := count_down (P := fun i => leB t (q, i + 1) x) (n := (evsOf t q).length) (fun i j hi hj hp => by
  rw [leB_iff] at hp ⊢
  exact (le_row oM oM).trans hp) i h
 rw [← leB_iff]
 exact this
theorem vc_le {t : Tr} {x : Nat × Nat} {q : Nat} : vc t x q ≤ (evsOf t q).length := by
 have := List.countP_le_length (p := fun i => leB t (q, i + 1) x) (l := List.range (evsOf t q).length)
 rwa [List.length_range] at this
theorem thresh {a b n : Nat} (ha : a ≤ n) (hb : b ≤ n) (h : ∀ j, j < n → (j < a ↔ j < b)) : a = b := by
 rcases Nat.lt_trichotomy a b with hl | hl | hl
 ·have := (h a oM).2 hl; omega
 ·exact hl
 ·have := (h b oM).1 hl; omega
theorem le_back {t : Tr} (hv : Vok t) {x w : Nat × Nat} (hx : x ∈ ids t) (hw : w ∈ ids t) : Le t w x ↔ w = x ∨ ∃ y ∈ backL t x, Le t w y := by
 constructor
 ·rintro (h | h)
  ·exact .inl h
  ·obtain ⟨y, h1, h2⟩ := h.back
   refine .inr ⟨y, ?_, ?_⟩
   ·refine (mem_backL hv.paired hx).2 ⟨?_, h1⟩
    rcases h2 with rfl | h2
    ·exact hw
    ·exact h2.mem hw
   ·rcases h2 with rfl | h2
    ·exact .inl rfl
    ·exact .inr h2
 ·rintro (h | ⟨y, h1, h2⟩)
  ·exact .inl h
  ·exact .inr (h2.hb (.one ((mem_backL hv.paired hx).1 h1).2))
theorem back_mem {t : Tr} (hv : Vok t) {x y : Nat × Nat} (hx : x ∈ ids t) (hy : y ∈ backL t x) : y ∈ ids t ∧ Hb t y x := by
 obtain ⟨h1, h2⟩ := (mem_backL hv.paired hx).1 hy
 exact ⟨h1, .one h2⟩
noncomputable def sndr (t : Tr) (x : Nat × Nat) : Nat × Nat := findV t 2 (evAt t x).msg
theorem sndr_back {t : Tr} {x : Nat × Nat} (hk : (evAt t x).kind = 3) : sndr t x ∈ backL t x := by
 unfold backL sndr; rw [hk]; simp
theorem backL_cases {t : Tr} {x y : Nat × Nat} (h : y ∈ backL t x) : (1 < x.2 ∧ y = (x.1, x.2 - 1)) ∨ ((evAt t x).kind = 3 ∧ y = sndr t x) := by
 unfold backL at h
 rw [List.mem_append] at h
 rcases h with h | h
 ·split at h
  ·rename_i h1; exact .inl ⟨h1, by simpa using h⟩
  ·simp at h
 ·split at h
  ·rename_i h1; exact .inr ⟨by simpa using h1, by simpa [sndr] using h⟩
  ·simp at h
noncomputable def rk (t : Tr) (x : Nat × Nat) : Nat := (ids t).countP fun z => leB t z x
theorem countP_lt {α : Type} {P Q : α → Bool} : ∀ {l : List α} {a : α}, (∀ x ∈ l, P x = true → Q x = true) → a ∈ l → P a = false → Q a = true → l.countP P < l.countP Q
 | [], a, _, h, _, _ => by simp at h
 | y :: l, a, h, ha, h1, h2 => by
   have hle : l.countP P ≤ l.countP Q := List.countP_mono_left (fun x hx hp => h x (by simp [hx]) hp)
   rw [List.countP_cons, List.countP_cons]
   rcases List.mem_cons.1 ha with rfl | ha
   ·rw [h1, h2]; simp; omega
   ·have ih := countP_lt (fun x hx => h x (by simp [hx])) ha h1 h2
    have hy := h y (by simp)
    cases hP : P y
    ·simp; omega
    ·rw [hy hP]; simp; omega
theorem rk_lt {t : Tr} (hv : Vok t) {x y : Nat × Nat} (hy : y ∈ ids t) (h : Hb t x y) : rk t x < rk t y := by
 unfold rk
 refine countP_lt (a := y) (fun z _ hz => ?_) hy ?_ (leB_iff.2 (.refl y))
 ·rw [leB_iff] at hz ⊢; exact .inr (hz.hb h)
 ·rw [Bool.eq_false_iff]
  intro hz
  exact hv.acyc y hy ((leB_iff.1 hz).hb h)
theorem some_ready {t : Tr} (hv : Vok t) (D : Nat → Nat) (hD : ∀ p, p < t.length → D p ≤ (evsOf t p).length) (hl : ∃ p, p < t.length ∧ D p < (evsOf t p).length) :
  ∃ p, p < t.length ∧ D p < (evsOf t p).length ∧ ((evAt t (p, D p + 1)).kind = 3 → (sndr t (p, D p + 1)).2 ≤ D (sndr t (p, D p + 1)).1) := by
 obtain ⟨p0, h1, h2⟩ := hl
 have key : ∀ n p, rk t (p, D p + 1) = n → p < t.length → D p < (evsOf t p).length → ∃ p, p < t.length ∧ D p < (evsOf t p).length ∧ ((evAt t (p, D p + 1)).kind = 3 → (sndr t (p, D p + 1)).2 ≤ D (sndr t (p, D p + 1)).1) := by
  intro n
  induction n using Nat.strongRecOn with
  | ind n ih =>
    intro p hn hp hd
    by_cases hr : (evAt t (p, D p + 1)).kind = 3 → (sndr t (p, D p + 1)).2 ≤ D (sndr t (p, D p + 1)).1
    ·exact ⟨p, hp, hd, hr⟩
    ·have hk : (evAt t (p, D p + 1)).kind = 3 := Classical.byContradiction fun h => hr (fun h2 => absurd h2 h)
     have hs : ¬ (sndr t (p, D p + 1)).2 ≤ D (sndr t (p, D p + 1)).1 := fun h => hr (fun _ => h)
     have hx : (p, D p + 1) ∈ ids t := mem_ids2.2 ⟨hp, hd⟩
     obtain ⟨hm, hb⟩ := back_mem hv hx (sndr_back hk)
     generalize sndr t (p, D p + 1) = s at *
     obtain ⟨q, j⟩ := s
     obtain ⟨j, rfl⟩ : ∃ j', j = j' + 1 := by
      obtain ⟨_, h3, _⟩ := mem_ids.1 hm
      exact ⟨j - 1, by simp only at h3; omega⟩
     obtain ⟨hq, hj⟩ := mem_ids2.1 hm
     simp only at hs
     have hle : Le t (q, D q + 1) (q, j + 1) := le_row oM oM
     exact ih _ (by rw [← hn]; exact rk_lt hv hx (hle.hb hb)) q rfl hq oM
 exact key _ p0 rfl h1 h2
end Go.Proofs.YtnihdkfmmbpilaaDoor
namespace Go.Proofs.YtnihdkfmmbpilaaDoor
open Go.RowKit
set_option linter.unusedVariables false

theorem findV_is {t : Tr} {k m : Int} {x : Nat × Nat} (hx : 1 ≤ x.2) : (findL t k m == some x) = decide (findV t k m = x) := by
 have e : findL t k m = (ids t).find? (keyB t k m) := rfl
 rw [e]
 unfold findV firstOf
 cases h : (ids t).find? (keyB t k m) with
 | none =>
   have : (0, 0) ≠ x := fun e => by rw [← e] at hx; simp at hx
   simp [this]
 | some y => rw [Bool.eq_iff_iff]; simp
theorem any_take_or {α : Type} {f : α → Bool} {l : List α} {k : Nat} (hk : k < l.length) : (l.take (k + 1)).any f = ((l.take k).any f || f l[k]) := by
 rw [List.take_succ_eq_append_getElem hk, List.any_append]; simp

set_option maxRecDepth 100000 in
set_option maxHeartbeats 4000000 in
theorem paired_any (u : Value) (t : Tr) (p i : Nat) (w : World) (hx : (p, i) ∈ ids t) (hform : formedB t.length p (evAt t (p, i)) = true) (hS : Small t) (hs : SlR 3 RPr w u t) :
  Calls Tryd.prog 106 #[.agg #[u], idVal (p, i)] w fun e w' => e = .returned (.int .i64 (pairF t (p, i))) ∧ Ext w w' := by
 have HAT := hide (fun w' (he : Ext w w') => At_any u t p i w' hx hS (hs.ext RPr.keeps he))
 have HFD := hide (fun k m w' (he : Ext w w') => Find_any u t k m w' hS (hs.ext RPr.keeps he))
 have hpos := mem_pos hx
 have HIS := hide (fun k m => findV_is (t := t) (k := k) (m := m) hpos)
 have HPF := hide (show pairF t (p, i) = _ from rfl)
 have hs' := hs
 obtain ⟨A, c, rfl, h1, h2, hc⟩ := hs.at_
 have HC := hide hc
 have hnp := hS.np
 clear hs hc
 unfold idVal at *
 go_enter Tryd.func106, Tryd.ntmps106
 go_wp2_with fail
 refine (HAT.out _ (((Ext.refl w).alloc _).alloc _)).mono ?_
 rintro e w1 ⟨A4, n4, k4, rfl, _, he1⟩
 have hx1 : Ext w w1 := Ext.trans (((Ext.refl w).alloc _).alloc _) he1
 have bt := ((BoxN.new w 24 #[.slice A t.length c]).alloc (.cells #[.int .i64 p, .int .i64 i] 68)).ext he1
 have bx := (BoxN.newAt (B := w.heap.size + 1) (W := w.alloc (.cells #[.slice A t.length c] 24)) 68 #[.int .i64 p, .int .i64 i] (by simp)).ext he1
 have HF := hide hform
 have HEV := hide (fun (hk : ((evAt t (p, i)).kind == 1) = false) => formed_open hform hk)
 clear hform he1
 generalize hev : evAt t (p, i) = ev at *
 have HEQ := hide hev
 clear hev
 cases z1 : ev.kind == 1
 ·obtain ⟨m, q, hm, hm2, hq, hq2, hqp⟩ := HEV.out z1
  have HM := hide hm
  have HQ := hide hq
  clear hm hq
  have HKD := hide (show ev.kind = 2 ∨ ev.kind = 3 by
   have := HF.out
   unfold formedB at this
   rw [z1] at this
   simp only [Bool.false_eq_true, if_false] at this
   split at this
   ·rename_i h; simpa using h
   ·cases this)
  have be := BoxN.new w1 74 #[.int .i64 ev.kind, .int .i64 ev.peer, .int .i64 ev.msg, .int .i64 ev.time, .slice A4 n4 k4]
  have hxa : Ext w (w1.alloc (.cells #[.int .i64 ev.kind, .int .i64 ev.peer, .int .i64 ev.msg, .int .i64 ev.time, .slice A4 n4 k4] 74)) := hx1.alloc _
  have bt2 := bt.alloc (.cells #[.int .i64 ev.kind, .int .i64 ev.peer, .int .i64 ev.msg, .int .i64 ev.time, .slice A4 n4 k4] 74)
  have bx2 := bx.alloc (.cells #[.int .i64 ev.kind, .int .i64 ev.peer, .int .i64 ev.msg, .int .i64 ev.time, .slice A4 n4 k4] 74)
  go_wp2_with fail
  clear bt bx hx1
  generalize hbe : w1.heap.size = b5 at *
  clear hbe
  generalize w1.alloc (.cells #[.int .i64 ev.kind, .int .i64 ev.peer, .int .i64 ev.msg, .int .i64 ev.time, .slice A4 n4 k4] 74) = W1 at *
  have t0 : W1.cell? ⟨w.heap.size, 0, none⟩ = some (.slice A t.length c) := bt2.cell rfl
  have x0 : W1.cell? ⟨w.heap.size + 1, 0, none⟩ = some (.int .i64 p) := bx2.cell rfl
  have x1 : W1.cell? ⟨w.heap.size + 1, 1, none⟩ = some (.int .i64 i) := bx2.cell rfl
  have e0 : W1.cell? ⟨b5, 0, none⟩ = some (.int .i64 ev.kind) := be.cell rfl
  have e2 : W1.cell? ⟨b5, 2, none⟩ = some (.int .i64 ev.msg) := be.cell rfl
  by_cases hfx : findV t ev.kind ev.msg = (p, i)
  ·have HFX := hide (fun w' (he : Ext w w') => (by have := HFD.out ev.kind ev.msg w' he; rw [hfx] at this; exact this : Calls Tryd.prog 125 #[.agg #[.slice A t.length c], .int .i64 ev.kind, .int .i64 ev.msg] w' fun e w'' => e = .returned (.agg #[.int .i64 p, .int .i64 i]) ∧ Ext w' w''))
   have HFXE := hide hfx
   clear hfx
   go_region_held3 (fun w' => w'.cell? ⟨w.heap.size, 0, none⟩ = some (.slice A t.length c) ∧ w'.cell? ⟨w.heap.size + 1, 0, none⟩ = some (.int .i64 p) ∧ w'.cell? ⟨w.heap.size + 1, 1, none⟩ = some (.int .i64 i) ∧ w'.cell? ⟨b5, 0, none⟩ = some (.int .i64 ev.kind) ∧ w'.cell? ⟨b5, 2, none⟩ = some (.int .i64 ev.msg)) (go_keep)
    ((go_at_call 125; refine (HFX.out _ (by repeat (first | exact hxa | apply Ext.drew))).mono ?_; rintro e w2 ⟨rfl, he2⟩; have t0' := he2.cellAt (a := W1.drew) t0; have x0' := he2.cellAt (a := W1.drew) x0; have x1' := he2.cellAt (a := W1.drew) x1; have e0' := he2.cellAt (a := W1.drew) e0; have e2' := he2.cellAt (a := W1.drew) e2))
   have hx2 : Ext w w2 := Ext.trans (Ext.drew hxa) he2
   have bt3 := (BoxN.drew bt2).ext he2
   have bx3 := (BoxN.drew bx2).ext he2
   have be3 := (BoxN.drew be).ext he2
   clear t0 x0 x1 e0 e2 t0' x0' x1' e0' e2' bt2 bx2 be hxa he2
   cases z3 : ev.kind == 3
   ·have HR := hide (show pairF t (p, i) = 0 by
     have h2 : ev.kind = 2 := by
      rcases HKD.out with h | h
      ·exact h
      ·rw [h] at z3; simp at z3
     unfold pairF
     rw [HEQ.out, h2]
     simp only [show ((2 : Int) == 2) = true from rfl, if_true]
     rw [HIS.out, decide_eq_true (by have := HFXE.out; rw [h2] at this; exact this)]; rfl)
    have e0 : w2.cell? ⟨b5, 0, none⟩ = some (.int .i64 ev.kind) := be3.cell rfl
    go_wp2_with fail
    go_ret
    exact ⟨by rw [HR.out]; rfl, hx2⟩
   ·have HR := hide (show pairF t (p, i) = if sendsB t q m p then 0 else 7 by
     have h3 : ev.kind = 3 := by simpa using z3
     unfold pairF
     rw [HEQ.out, h3]
     simp only [show ((3 : Int) == 2) = false from rfl, show ((3 : Int) == 3) = true from rfl, if_true, Bool.false_eq_true, if_false]
     rw [HIS.out, decide_eq_true (by have := HFXE.out; rw [h3] at this; exact this), HM.out, HQ.out]; rfl)
    have e0 : w2.cell? ⟨b5, 0, none⟩ = some (.int .i64 ev.kind) := be3.cell rfl
    obtain ⟨b, off, rfl, hel⟩ := HC.out oM
    obtain ⟨_, _, v2, c2, hs2⟩ := hel q hq2
    obtain ⟨A2, k2, rfl, _, _, hc2⟩ := hs2.at_
    have HC2 := hide hc2
    have hne := hS.ne _ (List.getElem_mem hq2)
    clear hel hs2 hc2
    go_wp2_with fail
    clear e0
    have HSD := hide (show sendsB t q m p = (t[q].evs.any fun e => e.kind == 2 && e.msg == (m : Int) && e.peer == (p : Int)) by unfold sendsB evsOf; rw [getD_lt dfPr t hq2])
    go_loopw [7, 6] (fun i s wr => ∃ k : Nat, k ≤ t[q].evs.length ∧ i = .int .i64 k ∧ s = .bool ((t[q].evs.take k).any fun e => e.kind == 2 && e.msg == (m : Int) && e.peer == (p : Int)) ∧ Ext w2 wr) (fun i _ _ => t[q].evs.length - (intOf i).toNat)
    case atStart => exact ⟨0, Nat.zero_le _, rfl, rfl, Ext.refl _⟩
    case round =>
     obtain ⟨k, hk, rfl, rfl, hx3⟩ := hrel
     have t0 : wr.cell? ⟨w.heap.size, 0, none⟩ = some (.slice (some ⟨b, off, none⟩) t.length c) := (bt3.ext hx3).cell rfl
     have x0 : wr.cell? ⟨w.heap.size + 1, 0, none⟩ = some (.int .i64 p) := (bx3.ext hx3).cell rfl
     have e1 : wr.cell? ⟨b5, 1, none⟩ = some (.int .i64 q) := by rw [← HQ.out]; exact (be3.ext hx3).cell rfl
     have e2 : wr.cell? ⟨b5, 2, none⟩ = some (.int .i64 m) := by rw [← HM.out]; exact (be3.ext hx3).cell rfl
     have hxx := hx2.trans hx3
     have c2' := hxx.cellAt c2
     have hql : (q : Int) < (t.length : Int) := by omega
     have lt1 := (bt3.ext hx3).lt
     have lt2 := (bx3.ext hx3).lt
     have lt3 := (be3.ext hx3).lt
     by_cases hlt : k < t[q].evs.length
     ·obtain ⟨b2, off2, rfl, hel2⟩ := HC2.out oM
      obtain ⟨g0, g1, g2, g3, va, g4, hs4⟩ := hel2 k hlt
      obtain ⟨A5, k5, rfl, _, _, _⟩ := hs4.at_
      have f0 := hxx.cellAt g0
      have f1 := hxx.cellAt g1
      have f2 := hxx.cellAt g2
      have f3 := hxx.cellAt g3
      have f4 := hxx.cellAt g4
      have HT := hide (any_take_or (f := fun e : Ev => e.kind == 2 && e.msg == (m : Int) && e.peer == (p : Int)) hlt)
      clear hel2 hs4 g0 g1 g2 g3 g4
      have hways : (((t[q].evs.take k).any fun e => e.kind == 2 && e.msg == (m : Int) && e.peer == (p : Int)) = true) ∨
       (((t[q].evs.take k).any fun e => e.kind == 2 && e.msg == (m : Int) && e.peer == (p : Int)) = false ∧ (t[q].evs[k].kind == 2) = false) ∨
       (((t[q].evs.take k).any fun e => e.kind == 2 && e.msg == (m : Int) && e.peer == (p : Int)) = false ∧ (t[q].evs[k].kind == 2) = true ∧ (t[q].evs[k].msg == (m : Int)) = false) ∨
       (((t[q].evs.take k).any fun e => e.kind == 2 && e.msg == (m : Int) && e.peer == (p : Int)) = false ∧ (t[q].evs[k].kind == 2) = true ∧ (t[q].evs[k].msg == (m : Int)) = true ∧ (t[q].evs[k].peer == (p : Int)) = false) ∨
       (((t[q].evs.take k).any fun e => e.kind == 2 && e.msg == (m : Int) && e.peer == (p : Int)) = false ∧ (t[q].evs[k].kind == 2) = true ∧ (t[q].evs[k].msg == (m : Int)) = true ∧ (t[q].evs[k].peer == (p : Int)) = true) := by
       cases ((t[q].evs.take k).any fun e => e.kind == 2 && e.msg == (m : Int) && e.peer == (p : Int)) <;> cases (t[q].evs[k].kind == 2) <;> cases (t[q].evs[k].msg == (m : Int)) <;> cases (t[q].evs[k].peer == (p : Int)) <;> simp
      rcases hways with y0 | ⟨y0, y1⟩ | ⟨y0, y1, y2⟩ | ⟨y0, y1, y2, y3⟩ | ⟨y0, y1, y2, y3⟩
      ·have HN := hide (show ((t[q].evs.take (k + 1)).any fun e => e.kind == 2 && e.msg == (m : Int) && e.peer == (p : Int)) = true by rw [HT.out, y0]; rfl)
       rw [y0]
       clear y0
       go_wp2_with fail
       go_roundw
       case rel => exact ⟨k + 1, hlt, by go_num, by rw [HN.out], hx3.alloc _⟩
       case measure => simp [intOf]; omega
      ·have HN := hide (show ((t[q].evs.take (k + 1)).any fun e => e.kind == 2 && e.msg == (m : Int) && e.peer == (p : Int)) = false by rw [HT.out, y0, y1]; rfl)
       rw [y0]
       clear y0
       go_wp2_with fail
       go_roundw
       case rel => exact ⟨k + 1, hlt, by go_num, by rw [HN.out], hx3.alloc _⟩
       case measure => simp [intOf]; omega
      ·have HN := hide (show ((t[q].evs.take (k + 1)).any fun e => e.kind == 2 && e.msg == (m : Int) && e.peer == (p : Int)) = false by rw [HT.out, y0, y1, y2]; rfl)
       rw [y0]
       clear y0
       go_wp2_with fail
       go_roundw
       case rel => exact ⟨k + 1, hlt, by go_num, by rw [HN.out], hx3.alloc _⟩
       case measure => simp [intOf]; omega
      ·have HN := hide (show ((t[q].evs.take (k + 1)).any fun e => e.kind == 2 && e.msg == (m : Int) && e.peer == (p : Int)) = false by rw [HT.out, y0, y1, y2, y3]; rfl)
       rw [y0]
       clear y0
       go_wp2_with fail
       go_roundw
       case rel => exact ⟨k + 1, hlt, by go_num, by rw [HN.out], hx3.alloc _⟩
       case measure => simp [intOf]; omega
      ·have HN := hide (show ((t[q].evs.take (k + 1)).any fun e => e.kind == 2 && e.msg == (m : Int) && e.peer == (p : Int)) = true by rw [HT.out, y0, y1, y2, y3]; rfl)
       rw [y0]
       clear y0
       go_wp2_with fail
       go_roundw
       case rel => exact ⟨k + 1, hlt, by go_num, by rw [HN.out], hx3.alloc _⟩
       case measure => simp [intOf]; omega
     ·obtain rfl : k = t[q].evs.length := by omega
      rw [List.take_length]
      cases hsd : t[q].evs.any fun e => e.kind == 2 && e.msg == (m : Int) && e.peer == (p : Int)
      ·have HR2 := hide (show pairF t (p, i) = 7 by rw [HR.out, HSD.out, hsd]; rfl)
       clear hsd
       go_wp2_with fail
       go_ret
       exact ⟨by rw [HR2.out]; rfl, hxx⟩
      ·have HR2 := hide (show pairF t (p, i) = 0 by rw [HR.out, HSD.out, hsd]; rfl)
       clear hsd
       go_wp2_with fail
       go_ret
       exact ⟨by rw [HR2.out]; rfl, hxx⟩
  ·have HFX := hide (fun w' (he : Ext w w') => HFD.out ev.kind ev.msg w' he)
   have HR := hide (show pairF t (p, i) = 8 by
    unfold pairF
    rw [HEQ.out]
    rcases HKD.out with h | h
    ·rw [h]; simp only [show ((2 : Int) == 2) = true from rfl, if_true]
     rw [HIS.out, decide_eq_false (by rw [← h]; exact hfx)]; rfl
    ·rw [h]; simp only [show ((3 : Int) == 2) = false from rfl, show ((3 : Int) == 3) = true from rfl, if_true, Bool.false_eq_true, if_false]
     rw [HIS.out, decide_eq_false (by rw [← h]; exact hfx)]; rfl)
   generalize findV t ev.kind ev.msg = fv at *
   obtain ⟨fa, fb⟩ := fv
   by_cases hfa : p = fa
   ·subst hfa
    have hfb : ((fb : Int) == (i : Int)) = false := by
     rw [beq_eq_false_iff_ne]; intro e; exact hfx (by rw [Int.ofNat.inj e])
    clear hfx
    go_region_held3 (fun w' => w'.cell? ⟨w.heap.size, 0, none⟩ = some (.slice A t.length c) ∧ w'.cell? ⟨w.heap.size + 1, 0, none⟩ = some (.int .i64 p) ∧ w'.cell? ⟨w.heap.size + 1, 1, none⟩ = some (.int .i64 i) ∧ w'.cell? ⟨b5, 0, none⟩ = some (.int .i64 ev.kind) ∧ w'.cell? ⟨b5, 2, none⟩ = some (.int .i64 ev.msg)) (go_keep)
     ((go_at_call 125; refine (HFX.out _ (by repeat (first | exact hxa | apply Ext.drew))).mono ?_; rintro e w2 ⟨rfl, he2⟩; have t0' := he2.cellAt (a := W1.drew) t0; have x0' := he2.cellAt (a := W1.drew) x0; have x1' := he2.cellAt (a := W1.drew) x1; have e0' := he2.cellAt (a := W1.drew) e0; have e2' := he2.cellAt (a := W1.drew) e2))
    go_wp2_with fail
    go_ret
    exact ⟨by rw [HR.out]; rfl, Ext.trans (Ext.drew hxa) he2⟩
   ·have hfb : ((fa : Int) == (p : Int)) = false := by
     rw [beq_eq_false_iff_ne]; intro e; exact hfa (Int.ofNat.inj e).symm
    clear hfx hfa
    go_region_held3 (fun w' => w'.cell? ⟨w.heap.size, 0, none⟩ = some (.slice A t.length c) ∧ w'.cell? ⟨w.heap.size + 1, 0, none⟩ = some (.int .i64 p) ∧ w'.cell? ⟨w.heap.size + 1, 1, none⟩ = some (.int .i64 i) ∧ w'.cell? ⟨b5, 0, none⟩ = some (.int .i64 ev.kind) ∧ w'.cell? ⟨b5, 2, none⟩ = some (.int .i64 ev.msg)) (go_keep)
     ((go_at_call 125; refine (HFX.out _ (by repeat (first | exact hxa | apply Ext.drew))).mono ?_; rintro e w2 ⟨rfl, he2⟩; have t0' := he2.cellAt (a := W1.drew) t0; have x0' := he2.cellAt (a := W1.drew) x0; have x1' := he2.cellAt (a := W1.drew) x1; have e0' := he2.cellAt (a := W1.drew) e0; have e2' := he2.cellAt (a := W1.drew) e2))
    go_wp2_with fail
    go_ret
    exact ⟨by rw [HR.out]; rfl, Ext.trans (Ext.drew hxa) he2⟩
 ·have HR := hide (show pairF t (p, i) = 0 by
   have : ev.kind = 1 := by simpa using z1
   unfold pairF; rw [HEQ.out, this]; rfl)
  go_wp2_with fail
  go_ret
  exact ⟨by rw [HR.out]; rfl, hx1.alloc _⟩
end Go.Proofs.YtnihdkfmmbpilaaDoor
