/- Texts of one proof, laid together: RK, OA, RQ, RV. No condition. -/
import Derived.Test.YtnihdkfmmbpilaaDoorPK5
import Derived.Test.YtnihdkfmmbpilaaDoorPK3
import Derived.Test.YtnihdkfmmbpilaaDoorPK4
namespace Go.Proofs.YtnihdkfmmbpilaaDoor
open Go.RowKit
set_option linter.unusedVariables false

def AcPost (t : Tr) (w : World) (e : Ending) (w' : World) : Prop := ∃ b : Bool, e = .returned (.bool b) ∧ (b = true → ∀ x ∈ ids t, ¬ Hb t x x) ∧ Ext w w'
def sumE (t : Tr) : Nat := (t.map fun x => x.evs.length).sum
def AcS (t : Tr) (w : World) (u : Value) (wr : World) (D : List Nat) : Prop := KI t D ∧ BoxN wr w.heap.size 24 #[u] ∧ BoxN wr (w.heap.size + 1) 3 (rowC D) ∧ Ext w wr
theorem infoInt : ∃ i : TypeInfo, Tryd.prog.info? 3 = some i ∧ i.zero = some (.int .i64 0) ∧ i.size = 1 ∧ i.bytes = 8 := by
 have h : (Tryd.prog.info? 3).map (fun i => (i.zero, i.size, i.bytes)) = some (some (.int .i64 0), 1, 8) := by kernel_rfl
 obtain ⟨i, hi, he⟩ := Option.map_eq_some_iff.1 h
 injection he with h1 h2
 injection h2 with h2 h3
 exact ⟨i, hi, h1, h2, h3⟩
theorem run_makeInts (n : Nat) (hn : n ≤ 1000000) (w : World) : (Instr.makeSlice 31 (.int .i64 n) (.int .i64 n)).run Tryd.prog w = .ok (.slice (some ⟨w.heap.size, 0, none⟩) n n) (w.alloc (.cells (rowC (List.replicate n 0)) 3)) := by
 obtain ⟨i, hi, hz, hs, hb⟩ := infoInt
 rw [← rowC_zero]
 exact run_makeN Tryd.underlying31 hi hz hs rfl n (by rw [hb]; omega) oM w

theorem KI.sum_le {t : Tr} {D : List Nat} (h : KI t D) : D.sum ≤ sumE t := by
 have hl := h.len
 have hle := h.le
 clear h
 unfold sumE
 induction t generalizing D with
 | nil => cases D <;> simp at hl ⊢
 | cons x t ih =>
   cases D with
   | nil => simp at hl
   | cons d D =>
     have h0 := hle 0 (by simp)
     have h1 := ih (D := D) (by simpa using hl) (fun p hp => hle (p + 1) (by simpa using hp))
     simp at h0 h1 ⊢; omega

set_option maxRecDepth 100000 in
set_option maxHeartbeats 8000000 in
theorem acyclic_any (u : Value) (t : Tr) (w : World) (hpair : ∀ x ∈ ids t, pairF t x = 0) (hform : ∀ x ∈ ids t, formedB t.length x.1 (evAt t x) = true) (hS : Small t) (hs : SlR 3 RPr w u t) :
  Calls Tryd.prog 107 #[.agg #[u]] w fun e w' => AcPost t w e w' := by
 have HFD := hide (fun m w' (he : Ext w w') => Find_any u t 2 m w' hS (hs.ext RPr.keeps he))
 have HMK := run_makeInts t.length hS.np
 obtain ⟨A, c, rfl, _, hcm, hc⟩ := hs.at_
 have HC := hide hc
 have hnp := hS.np
 clear hs hc
 go_enter Tryd.func107, Tryd.ntmps107
 go_wp2_with fail
 clear HMK
 have HST := hide (show AcS t w (.slice A t.length c) ((w.alloc (.cells #[.slice A t.length c] 24)).alloc (.cells (rowC (List.replicate t.length 0)) 3)) (List.replicate t.length 0) from ⟨KI.start t, (BoxN.new w _ _).alloc _, BoxN.newAt _ _ (by simp), ((Ext.refl w).alloc _).alloc _⟩)
 generalize (w.alloc (.cells #[.slice A t.length c] 24)).alloc (.cells (rowC (List.replicate t.length 0)) 3) = W1 at *
 go_loopw [4] (fun mv wr => ∃ D, AcS t w (.slice A t.length c) wr D) (fun _ wr => sumE t - sumB wr (w.heap.size + 1))
 case atStart => exact ⟨_, HST.out⟩
 case round =>
  obtain ⟨D0, hD0⟩ := hrel
  have HD0 := hide hD0
  have hms := hide (show ∀ D wr, AcS t w (.slice A t.length c) wr D → D0.sum < D.sum → sumE t - sumB wr (w.heap.size + 1) < sumE t - D0.sum from fun D wr h hl => by
   have h1 := KI.sum_le h.1
   rw [sumB_eq h.2.2.1]; omega)
  have hm0 := hide (sumB_eq hD0.2.2.1)
  clear hD0
  go_wp2_with fail
  go_loopw [5, 4] (fun i mv wr => ∃ (k : Nat) (D : List Nat) (b : Bool), k ≤ t.length ∧ i = .int .i64 k ∧ mv = .bool b ∧ AcS t w (.slice A t.length c) wr D ∧ D0.sum ≤ D.sum ∧ (b = true → D0.sum < D.sum)) (fun i _ _ => t.length - (intOf i).toNat)
  case atStart => exact ⟨0, D0, false, Nat.zero_le _, rfl, rfl, HD0.out, Nat.le_refl _, fun h => by cases h⟩
  case round =>
   obtain ⟨k, D1, b, hk, rfl, rfl, hD1, hs1, hb1⟩ := hrel
   have HD1 := hide hD1
   have HB1 := hide hb1
   obtain ⟨_, bt1, bd1, hx1⟩ := hD1
   have t0 : wr.cell? ⟨w.heap.size, 0, none⟩ = some (.slice A t.length c) := bt1.cell rfl
   clear hb1
   by_cases hlt : k < t.length
   ·obtain ⟨b0, off, rfl, hel⟩ := HC.out oM
    obtain ⟨_, _, v2, c2, hs2⟩ := hel k hlt
    obtain ⟨A2, k2, rfl, _, _, hc2⟩ := hs2.at_
    have HC2 := hide hc2
    have hne := hS.ne _ (List.getElem_mem hlt)
    have hb0 := lt_of_cell c2
    clear hel hs2 hc2
    go_wp2_with fail
    clear t0 bt1 bd1 hx1
    go_loopw [4] (fun mv wr => ∃ (D : List Nat) (b : Bool), mv = .bool b ∧ AcS t w (.slice (some ⟨b0, off, none⟩) t.length c) wr D ∧ D0.sum ≤ D.sum ∧ (b = true → D0.sum < D.sum)) (fun _ wr => t[k].evs.length - numB wr (w.heap.size + 1) k)
    case atStart => exact ⟨D1, b, rfl, HD1.out, hs1, HB1.out⟩
    case round =>
     obtain ⟨D, b', rfl, hD, hs2, hb2⟩ := hrel
     have HD := hide hD
     have HB2 := hide hb2
     obtain ⟨hki, bt, bd, hx⟩ := hD
     have hDl := hki.len
     have HDL := hide hDl
     have hkl : k < D.length := by omega
     have hle := hki.le k hlt
     have hdk : D.getD k 0 = D[k] := getD_lt 0 D hkl
     have HDK := hide hdk
     rw [hdk] at hle
     have t0 : wr.cell? ⟨w.heap.size, 0, none⟩ = some (.slice (some ⟨b0, off, none⟩) t.length c) := bt.cell rfl
     have d0 := bd.cell (rowC_get hkl)
     have hnum := hide (numB_eq bd hkl)
     have c2' := hx.cellAt c2
     have hkl2 : (k : Int) < (t.length : Int) := by omega
     have hk0 : (0 : Int) ≤ (k : Int) := by omega
     clear hki hb2 hdk hDl
     have HSUM := hide (sum_set (d := D[k] + 1) hkl)
     generalize hd : D[k] = d at *
     have HDD := hide hd
     clear hd
     by_cases hdl : d < t[k].evs.length
     ·have hdl2 : (d : Int) < (t[k].evs.length : Int) := by omega
      have hd0 : (0 : Int) ≤ (d : Int) := by omega
      obtain ⟨b2, off2, rfl, hel2⟩ := HC2.out oM
      obtain ⟨g0, g1, g2, g3, va, g4, hs4⟩ := hel2 d hdl
      obtain ⟨A5, k5, rfl, _, _, _⟩ := hs4.at_
      have hb2 := lt_of_cell g0
      have f0 := hx.cellAt g0
      have f1 := hx.cellAt g1
      have f2 := hx.cellAt g2
      have f3 := hx.cellAt g3
      have f4 := hx.cellAt g4
      have HEV := hide (evAt_eq hlt hdl)
      have hbw := hx.size
      have lt1 := bt.lt
      have lt2 := bd.lt
      clear hel2 hs4 g0 g1 g2 g3 g4
      generalize t[k].evs[d] = ev at *
      go_wp2_with fail
      go_quiet (fail)
      revert nq; intro n1
      go_wp2_with fail
      have hxn := hx.drewN n1
      have btn := bt.drewN n1
      have bdn := bd.drewN n1
      have t0n : (wr.drewN n1).cell? ⟨w.heap.size, 0, none⟩ = some (.slice (some ⟨b0, off, none⟩) t.length c) := t0
      have d0n : (wr.drewN n1).cell? ⟨w.heap.size + 1, k, none⟩ = some (.int .i64 d) := d0
      have c2n : (wr.drewN n1).cell? ⟨b0, off + k * 3 + 2, none⟩ = some (.slice (some ⟨b2, off2, none⟩) t[k].evs.length k2) := c2'
      have f0n : (wr.drewN n1).cell? ⟨b2, off2 + d * 5, none⟩ = some (.int .i64 ev.kind) := f0
      have f1n : (wr.drewN n1).cell? ⟨b2, off2 + d * 5 + 1, none⟩ = some (.int .i64 ev.peer) := f1
      have f2n : (wr.drewN n1).cell? ⟨b2, off2 + d * 5 + 2, none⟩ = some (.int .i64 ev.msg) := f2
      have f3n : (wr.drewN n1).cell? ⟨b2, off2 + d * 5 + 3, none⟩ = some (.int .i64 ev.time) := f3
      have f4n : (wr.drewN n1).cell? ⟨b2, off2 + d * 5 + 4, none⟩ = some (.slice A5 ev.asg.length k5) := f4
      have l1 : w.heap.size < (wr.drewN n1).heap.size := btn.lt
      have l2 : w.heap.size + 1 < (wr.drewN n1).heap.size := bdn.lt
      have hswr : wr.heap.size = (wr.drewN n1).heap.size := rfl
      clear t0 d0 c2' f0 f1 f2 f3 f4 lt1 lt2 hx bt bd
      generalize wr.drewN n1 = W3 at *
      clear hswr
      have l3 : b0 < W3.heap.size := by have := hxn.size; omega
      have l4 : b2 < W3.heap.size := by have := hxn.size; omega
      go_region_held3 (fun w' => w'.cell? ⟨w.heap.size, 0, none⟩ = some (.slice (some ⟨b0, off, none⟩) t.length c) ∧ w'.cell? ⟨w.heap.size + 1, k, none⟩ = some (.int .i64 d) ∧ w'.cell? ⟨b0, off + k * 3 + 2, none⟩ = some (.slice (some ⟨b2, off2, none⟩) t[k].evs.length k2) ∧ w'.cell? ⟨b2, off2 + d * 5, none⟩ = some (.int .i64 ev.kind) ∧ w'.cell? ⟨b2, off2 + d * 5 + 1, none⟩ = some (.int .i64 ev.peer) ∧ w'.cell? ⟨b2, off2 + d * 5 + 2, none⟩ = some (.int .i64 ev.msg) ∧ w'.cell? ⟨b2, off2 + d * 5 + 3, none⟩ = some (.int .i64 ev.time) ∧ w'.cell? ⟨b2, off2 + d * 5 + 4, none⟩ = some (.slice A5 ev.asg.length k5)) (go_keep) (fail)
      have bt4 := (btn.alloc (.cells #[.int .i64 ev.kind, .int .i64 ev.peer, .int .i64 ev.msg, .int .i64 ev.time, .slice A5 ev.asg.length k5] 74)).drew
      have bd4 := (bdn.alloc (.cells #[.int .i64 ev.kind, .int .i64 ev.peer, .int .i64 ev.msg, .int .i64 ev.time, .slice A5 ev.asg.length k5] 74)).drew
      have be4 := (BoxN.new W3 74 #[.int .i64 ev.kind, .int .i64 ev.peer, .int .i64 ev.msg, .int .i64 ev.time, .slice A5 ev.asg.length k5]).drew
      have hx4 := (hxn.alloc (.cells #[.int .i64 ev.kind, .int .i64 ev.peer, .int .i64 ev.msg, .int .i64 ev.time, .slice A5 ev.asg.length k5] 74)).drew
      clear t0n d0n c2n f0n f1n f2n f3n f4n btn bdn hxn
      generalize W3.heap.size = be0 at *
      generalize (W3.alloc (.cells #[.int .i64 ev.kind, .int .i64 ev.peer, .int .i64 ev.msg, .int .i64 ev.time, .slice A5 ev.asg.length k5] 74)).drew = W4 at *
      have e0 : W4.cell? ⟨be0, 0, none⟩ = some (.int .i64 ev.kind) := be4.cell rfl
      cases z3 : ev.kind == 3
      ·have HKS := hide (show KI t (D.set k (d + 1)) by
        have := KI.step HD.out.1 hlt (by rw [HDK.out]; exact hdl) (dir_pre hpair hlt rfl (by rw [HDK.out]; exact hdl) (fun h3 => by rw [HDK.out, HEV.out] at h3; rw [h3] at z3; simp at z3))
        rwa [HDK.out] at this)
       have f0 := bd4.frozen k
       have d0 : (W4).cell? ⟨w.heap.size + 1, k, none⟩ = some (.int .i64 d) := bd4.cell (by rw [← HDD.out]; exact rowC_get hkl)
       go_wp2_with fail
       go_roundw
       case rel =>
        refine ⟨D.set k (d + 1), true, rfl, ⟨HKS.out, ?_, ?_, ?_⟩, by have := HSUM.out; omega, fun _ => by have := HSUM.out; omega⟩
        ·exact (bt4).other oM _
        ·exact BoxN.setRow1 bd4 d
        ·exact Ext.set hx4 oM _
       case measure =>
        rw [hnum.out, numB_eq (BoxN.setRow1 bd4 d) (by simpa using hkl)]
        simp
        omega
      ·have t0 : W4.cell? ⟨w.heap.size, 0, none⟩ = some (.slice (some ⟨b0, off, none⟩) t.length c) := bt4.cell rfl
       have e2 : W4.cell? ⟨be0, 2, none⟩ = some (.int .i64 ev.msg) := be4.cell rfl
       go_wp2_with fail
       refine (HFD.out _ _ hx4).mono ?_
       rintro e w5 ⟨rfl, he5⟩
       have hsin : (findV t 2 ev.msg).1 < t.length := by
        unfold findV
        by_cases h0 : 0 < (firstOf t (ids t) 2 ev.msg).2
        ·exact (mem_ids.1 (firstOf_mem h0).1).1
        ·have hl : ∀ y ∈ ids t, 1 ≤ y.2 := fun y hy => mem_pos hy
         have := firstOf_none hl h0
         unfold firstOf; rw [this]; simp; omega
       have HPR := hide (fun (h : (findV t 2 ev.msg).2 ≤ D.getD (findV t 2 ev.msg).1 0) => show KI t (D.set k (d + 1)) by
        have := KI.step HD.out.1 hlt (by rw [HDK.out]; exact hdl) (dir_pre hpair hlt rfl (by rw [HDK.out]; exact hdl) (fun _ => by rw [HDK.out, HEV.out]; exact h))
        rwa [HDK.out] at this)
       unfold idVal
       generalize findV t 2 ev.msg = sv at *
       obtain ⟨sp, si⟩ := sv
       simp only at hsin
       have hspl : sp < D.length := by rw [HDL.out]; exact hsin
       have HGS := hide (getD_lt 0 D hspl)
       have bt5 := bt4.ext he5
       have bd5 := bd4.ext he5
       have hx5 := hx4.trans he5
       have hsp2 : (sp : Int) < (t.length : Int) := by omega
       have l5 := bt5.lt
       have l6 := bd5.lt
       have bt6 := bt5.alloc (.cells #[.int .i64 sp, .int .i64 si] 68)
       have bd6 := bd5.alloc (.cells #[.int .i64 sp, .int .i64 si] 68)
       have bs6 := BoxN.new w5 68 #[.int .i64 sp, .int .i64 si]
       have hx6 := hx5.alloc (.cells #[.int .i64 sp, .int .i64 si] 68)
       go_wp2_with fail
       clear t0 e0 e2 bt4 bd4 be4 hx4 he5 bt5 bd5 hx5
       generalize w5.heap.size = bs0 at *
       generalize w5.alloc (.cells #[.int .i64 sp, .int .i64 si] 68) = W6 at *
       have s0 : W6.cell? ⟨bs0, 0, none⟩ = some (.int .i64 sp) := bs6.cell rfl
       have s1 : W6.cell? ⟨bs0, 1, none⟩ = some (.int .i64 si) := bs6.cell rfl
       have ds := bd6.cell (rowC_get hspl)
       cases hcmp : decide (D[sp] < si)
       ·have HKS := hide (HPR.out (by simp at hcmp; rw [HGS.out]; exact hcmp))
        have hcmp2 : decide ((D[sp] : Int) < (si : Int)) = false := by simp at hcmp ⊢; omega
        go_quiet (fail)
        revert nq; intro n2
        have bt7 := bt6.drewN n2
        have bd7 := bd6.drewN n2
        have hx7 := hx6.drewN n2
        have f0 := bd7.frozen k
        have d0 : (W6.drewN n2).cell? ⟨w.heap.size + 1, k, none⟩ = some (.int .i64 d) := bd7.cell (by rw [← HDD.out]; exact rowC_get hkl)
        go_wp2_with fail
        go_roundw
        case rel =>
         refine ⟨D.set k (d + 1), true, rfl, ⟨HKS.out, ?_, ?_, ?_⟩, by have := HSUM.out; omega, fun _ => by have := HSUM.out; omega⟩
         ·exact (bt7).other oM _
         ·exact BoxN.setRow1 bd7 d
         ·exact Ext.set hx7 oM _
        case measure =>
         rw [hnum.out, numB_eq (BoxN.setRow1 bd7 d) (by simpa using hkl)]
         simp
         omega
       ·have hcmp2 : decide ((D[sp] : Int) < (si : Int)) = true := by simp at hcmp ⊢; omega
        go_quiet (fail)
        revert nq; intro n2
        go_wp2_with fail
        go_roundw
        case rel => exact ⟨k + 1, D, b', hlt, by go_num, rfl, ⟨HD.out.1, bt6.drewN _, bd6.drewN _, hx6.drewN _⟩, hs2, HB2.out⟩
        case measure => simp [intOf]; omega
     ·go_wp2_with fail
      go_quiet (fail)
      revert nq; intro n1
      go_wp2_with fail
      go_roundw
      case rel => exact ⟨k + 1, D, b', hlt, by go_num, rfl, ⟨HD.out.1, bt.drewN _, bd.drewN _, hx.drewN _⟩, hs2, HB2.out⟩
      case measure => simp [intOf]; omega
   ·obtain rfl : k = t.length := by omega
    cases b
    ·have hki := HD1.out.1
     have HKI := hide hki
     have hdl0 := hki.len
     clear hki
     go_wp2_with fail
     clear t0
     go_loopw [8] (fun i wr2 => ∃ k : Nat, k ≤ t.length ∧ i = .int .i64 k ∧ (∀ p (hp : p < t.length), p < k → t[p].evs.length ≤ D1.getD p 0) ∧ Ext wr wr2) (fun i _ => t.length - (intOf i).toNat)
     case atStart => exact ⟨0, Nat.zero_le _, rfl, fun p hp h => absurd h (Nat.not_lt_zero _), Ext.refl _⟩
     case round =>
      obtain ⟨k, hk, rfl, hall, hxx⟩ := hrel
      have HALL := hide hall
      clear hall
      have bt2 := bt1.ext hxx
      have bd2 := bd1.ext hxx
      have hx2 := hx1.trans hxx
      have t0 : wr.cell? ⟨w.heap.size, 0, none⟩ = some (.slice A t.length c) := bt2.cell rfl
      by_cases hlt : k < t.length
      ·obtain ⟨b0, off, rfl, hel⟩ := HC.out oM
       obtain ⟨_, _, v2, c2, hs2⟩ := hel k hlt
       obtain ⟨A2, k2, rfl, _, _, hc2⟩ := hs2.at_
       have c2' := hx2.cellAt c2
       have hkl : k < D1.length := by omega
       have d0 := bd2.cell (rowC_get hkl)
       have HG := hide (getD_lt 0 D1 hkl)
       have hkl2 : (k : Int) < (t.length : Int) := by omega
       have hk0 : (0 : Int) ≤ (k : Int) := by omega
       clear hel hs2 hc2 c2
       by_cases hdl : D1[k] < t[k].evs.length
       ·have hdc : decide ((D1[k] : Int) < (t[k].evs.length : Int)) = true := by simp; omega
        go_wp2_with fail
        go_quiet (fail)
        revert nq; intro n1
        go_wp2_with fail
        go_ret
        exact ⟨false, rfl, (fun h => by cases h), hx2.drewN _⟩
       ·have hdc : decide ((D1[k] : Int) < (t[k].evs.length : Int)) = false := by simp; omega
        have HN := hide (show t[k].evs.length ≤ D1.getD k 0 by rw [HG.out]; omega)
        go_wp2_with fail
        go_quiet (fail)
        revert nq; intro n1
        go_wp2_with fail
        go_roundw
        case rel => exact ⟨k + 1, hlt, by go_num, fun p hp h => (Nat.lt_succ_iff_lt_or_eq.1 h).elim (HALL.out p hp) (fun e => by subst e; exact HN.out), hxx.drewN _⟩
        case measure => simp [intOf]; omega
      ·obtain rfl : k = t.length := by omega
       go_wp2_with fail
       go_ret
       exact ⟨true, rfl, (fun _ => KI.all HKI.out fun p hp => HALL.out p hp hp), hx2⟩
    ·go_wp2_with fail
     go_roundw
     case rel => exact ⟨D1, HD1.out⟩
     case measure => rw [hm0.out]; exact hms.out D1 _ HD1.out (HB1.out rfl)
end Go.Proofs.YtnihdkfmmbpilaaDoor
namespace Go.Proofs.YtnihdkfmmbpilaaDoor
open Go.RowKit
set_option linter.unusedVariables false

section
variable {size : Nat} {e : TypeId} {w w' : World} {B : Nat} {v v' : Value} {n : Nat} {cs : List Value}
theorem OwnC.apart {size' n' : Nat} {e' : TypeId} {B' : Nat} {v' : Value} {cs' : List Value} (h : OwnC size e w B v n cs) (h' : OwnC size' e' w B' v' n' cs') (hne : e ≠ e') : v.ownBlock = none ∨ v.ownBlock ≠ v'.ownBlock := by
 rcases h'.2 with ⟨rfl, _⟩ | ⟨g, off, cap, cur, rfl, _, hbox, _⟩
 ·cases hv : v.ownBlock
  ·exact .inl rfl
  ·right; simp [Value.ownBlock]
 ·exact .inr (h.not_box hbox hne.symm)
theorem OwnC.cutL {P : Program} {t : TypeId} {z : Value} {bytes : Nat} (ht : P.underlying t = some (.slice e)) (hs : ∃ i : TypeInfo, P.info? e = some i ∧ i.zero = some z ∧ i.size = size ∧ i.bytes = bytes) {A : Option Addr} {c : Nat} (h : OwnC size e w B (.slice A n c) n cs) (k : Nat) {kI : Int} (hkI : kI = k) (hk : k ≤ n) :
  ∃ A', (∀ W, (Instr.sliceAt t (.slice A n c) (some (.int .i64 kI)) none none).run P W = .ok (.slice A' (n - k) (c - k)) W) ∧ OwnC size e w B (.slice A' (n - k) (c - k)) (n - k) (cs.drop (k * size)) := by
 obtain ⟨i, hi, _, hsz, _⟩ := hs
 obtain ⟨_, _, hv, hnc, _⟩ := h.form
 injection hv with _ _ hc
 subst hc; subst hkI
 refine ⟨if c = k then A else A.map (·.add (k * size)), fun W => ?_, h.drop k hk (fun b off hA => ?_) (fun hA => ?_)⟩
 ·have b2 : ∀ (code : BoundsCode) (W : World), (Instr.sliceBound (.int .i64 (k : Int)) n code).run P W = .ok k W := fun code W => by
   rw [run_sliceBound W .i64 (k : Int) n code oM oM]; simp
  simp [Instr.sliceAt, Instr.slice, Instr.sliceBounds, run_underlying ht, sizeOf, typeInfo, hi, hsz, b2]
 ·by_cases hck : c = k
  ·rw [if_pos hck]; exact .inr ⟨hck, rfl⟩
  ·rw [if_neg hck, hA]; exact .inl (by simp [addr_lit])
 ·rw [hA]; split <;> rfl
end
end Go.Proofs.YtnihdkfmmbpilaaDoor
namespace Go.Proofs.YtnihdkfmmbpilaaDoor
open Go.RowKit
set_option linter.unusedVariables false

theorem elRB : ElS Tryd.prog 106 108 (.slice none 0 0) 1 24 where
 ht := Tryd.underlying106
 inf := by
  have h : (Tryd.prog.info? 108).map (fun i => (i.zero, i.size, i.bytes)) = some (some (.slice none 0 0), 1, 24) := by kernel_rfl
  obtain ⟨i, hi, he⟩ := Option.map_eq_some_iff.1 h
  injection he with h1 h2
  injection h2 with h2 h3
  exact ⟨i, hi, h1, h2, h3⟩
 zs := by rfl
 pos := by decide
 few := by decide
theorem infoBool : ∃ i : TypeInfo, Tryd.prog.info? 4 = some i ∧ i.zero = some (.bool false) ∧ i.size = 1 ∧ i.bytes = 1 := by
 have h : (Tryd.prog.info? 4).map (fun i => (i.zero, i.size, i.bytes)) = some (some (.bool false), 1, 1) := by kernel_rfl
 obtain ⟨i, hi, he⟩ := Option.map_eq_some_iff.1 h
 injection he with h1 h2
 injection h2 with h2 h3
 exact ⟨i, hi, h1, h2, h3⟩
theorem run_makeBools (p n : Nat) (hn : n ≤ 1000000) (w : World) : (Instr.makeSlice 108 (.int .i64 ((n : Int) + 1)) (.int .i64 ((n : Int) + 1))).run Tryd.prog w = .ok (.slice (some ⟨w.heap.size, 0, none⟩) (n + 1) (n + 1)) (w.alloc (.cells (rowM [] p (n + 1)) 4)) := by
 obtain ⟨i, hi, hz, hs, hb⟩ := infoBool
 rw [← rowM_zero]
 have := run_makeN (P := Tryd.prog) Tryd.underlying108 hi hz hs rfl (n + 1) (by rw [hb]; omega) oM w
 rw [show ((n + 1 : Nat) : Int) = (n : Int) + 1 from by push_cast; rfl] at this
 exact this
theorem slc_one {w : World} {g : Nat} (e : TypeId) (v : Value) (hg : g = w.heap.size) : SlC 1 (w.alloc (.cells #[v] e)) (.slice (some ⟨g, 0, none⟩) 1 1) 1 [v] := by
 have := (OwnC.madeAt (B := 0) (e := e) (n := 1) (size := 1) hg #[v] (Nat.zero_le _) (by simp [maxLen]) rfl).slc
 simpa using this
abbrev Grid (W : World) (B : Nat) (v : Value) (gs S : List (Nat × Nat)) : Prop := GridM 108 4 W B v gs S
def GLen (t : Tr) (gs : List (Nat × Nat)) (k : Nat) : Prop := gs.length = k ∧ ∀ p (hp : p < gs.length) (ht : p < t.length), gs[p].2 = t[p].evs.length + 1
def PastPost (t : Tr) (x : Nat × Nat) (w : World) (e : Ending) (w' : World) : Prop := ∃ v gs S, e = .returned v ∧ Grid w' w.heap.size v gs S ∧ GLen t gs t.length ∧ (∀ y ∈ ids t, y ∈ S ↔ Hb t y x) ∧ Ext w w'
theorem Grid.grow {W W' : World} {B n g0 : Nat} {v v' : Value} {gs : List (Nat × Nat)} (h : Grid W B v gs []) (hr : BoxN W g0 4 (rowM [] gs.length n)) (hB : B ≤ g0) (hnew : ∀ p (hp : p < gs.length), gs[p].1 ≠ g0)
  (hv : OwnC 1 108 W' B v' (gs.length + 1) (gs.map rowV ++ [rowV (g0, n)])) (hg : Grw W v W' v') : Grid W' B v' (gs ++ [(g0, n)]) [] := by
 have hne : ∀ (b : Nat) (cs : Array Value), BoxN W b 4 cs → some b ≠ v.ownBlock := fun b cs hb e => h.out.not_box hb (by decide) e.symm
 refine ⟨?_, ?_, ?_⟩
 ·rw [List.length_append, List.map_append]; exact hv
 ·intro p hp
  rw [List.length_append, List.length_singleton] at hp
  by_cases hlt : p < gs.length
  ·rw [List.getElem_append_left hlt]
   exact ⟨(h.row p hlt).1.kept hg.1 (hne _ _ (h.row p hlt).1), (h.row p hlt).2⟩
  ·obtain rfl : p = gs.length := by omega
   rw [List.getElem_append_right (Nat.le_refl _)]
   simp only [Nat.sub_self, List.getElem_singleton]
   exact ⟨hr.kept hg.1 (hne _ _ hr), hB⟩
 ·intro p q hp hq he
  rw [List.length_append, List.length_singleton] at hp hq
  by_cases h1 : p < gs.length
  ·by_cases h2 : q < gs.length
   ·rw [List.getElem_append_left h1, List.getElem_append_left h2] at he
    exact h.nod p q h1 h2 he
   ·obtain rfl : q = gs.length := by omega
    rw [List.getElem_append_left h1, List.getElem_append_right (Nat.le_refl _)] at he
    simp only [Nat.sub_self, List.getElem_singleton] at he
    exact absurd he (hnew p h1)
  ·obtain rfl : p = gs.length := by omega
   by_cases h2 : q < gs.length
   ·rw [List.getElem_append_left h2, List.getElem_append_right (Nat.le_refl _)] at he
    simp only [Nat.sub_self, List.getElem_singleton] at he
    exact absurd he.symm (hnew q h2)
   ·omega
theorem Grid.marks {t : Tr} {W : World} {B : Nat} {v : Value} {gs S : List (Nat × Nat)} (h : Grid W B v gs S) (hl : GLen t gs t.length) (hn : S.Nodup) (hs : ∀ y ∈ S, y ∈ ids t) : marks t gs W = S.length :=
 marks_eq h (fun y hy => by
  obtain ⟨hp, _, h2⟩ := mem_ids.1 hy
  have h3 : y.1 < gs.length := by rw [hl.1]; exact hp
  exact ⟨h3, by rw [hl.2 y.1 h3 hp]; omega⟩) hn hs
set_option maxRecDepth 100000 in
set_option maxHeartbeats 8000000 in
theorem Past_any (u : Value) (t : Tr) (p i : Nat) (w : World) (hx : (p, i) ∈ ids t) (hP : Paired t) (hN : (ids t).length ≤ 1000000) (hS : Small t) (hs : SlR 3 RPr w u t) :
  Calls Tryd.prog 88 #[.agg #[u], idVal (p, i)] w fun e w' => PastPost t (p, i) w e w' := by
 have HDI := hide (fun (y : Nat × Nat) (hy : y ∈ ids t) w' (he : Ext w w') => Directly_any u t y.1 y.2 w' hy hS (hs.ext RPr.keeps he))
 have HMK := hide (fun q n (hn : n ≤ 1000000) => run_makeBools q n hn)
 obtain ⟨A, c, rfl, _, hcm, hc⟩ := hs.at_
 have HC := hide hc
 have hnp := hS.np
 clear hs hc
 unfold idVal at *
 go_enter Tryd.func88, Tryd.ntmps88
 go_wp2_with fail
 have bt0 : BoxN ((w.alloc (.cells #[.slice A t.length c] 24)).alloc (.cells #[.int .i64 p, .int .i64 i] 68)) w.heap.size 24 #[.slice A t.length c] := (BoxN.new w _ _).alloc _
 have bx0 : BoxN ((w.alloc (.cells #[.slice A t.length c] 24)).alloc (.cells #[.int .i64 p, .int .i64 i] 68)) (w.heap.size + 1) 68 #[.int .i64 p, .int .i64 i] := BoxN.newAt _ _ (by simp)
 have hx0 : Ext w ((w.alloc (.cells #[.slice A t.length c] 24)).alloc (.cells #[.int .i64 p, .int .i64 i] 68)) := ((Ext.refl w).alloc _).alloc _
 generalize (w.alloc (.cells #[.slice A t.length c] 24)).alloc (.cells #[.int .i64 p, .int .i64 i] 68) = W1 at *
 go_loopw [6, 5] (fun j v wr => ∃ (k : Nat) (gs : List (Nat × Nat)), k ≤ t.length ∧ j = .int .i64 k ∧ GLen t gs k ∧ Grid wr W1.heap.size v gs [] ∧ Ext W1 wr) (fun j _ _ => t.length - (intOf j).toNat)
 case atStart => exact ⟨0, [], Nat.zero_le _, rfl, ⟨rfl, fun p hp => absurd hp (by simp)⟩, ⟨OwnC.nil _ _ _ _, fun p hp => absurd hp (by simp), fun p q hp => absurd hp (by simp)⟩, Ext.refl _⟩
 case round =>
  obtain ⟨k, gs, hk, rfl, hgl, hgr, hxr⟩ := hrel
  have HGL := hide hgl
  have HGR := hide hgr
  have bt := bt0.ext hxr
  have bx := bx0.ext hxr
  have hx1 := hx0.trans hxr
  have t0 : wr.cell? ⟨w.heap.size, 0, none⟩ = some (.slice A t.length c) := bt.cell rfl
  have lt1 := bt.lt
  have lt2 := bx.lt
  by_cases hlt : k < t.length
  ·obtain ⟨b0, off, rfl, hel⟩ := HC.out oM
   obtain ⟨_, _, v2, c2, hs2⟩ := hel k hlt
   obtain ⟨A2, k2, rfl, _, _, hc2⟩ := hs2.at_
   have hne := hS.ne _ (List.getElem_mem hlt)
   have c2' := hx1.cellAt c2
   have hmk := HMK.out k t[k].evs.length hne
   have hgl1 := hgl.1
   have HV := hide hgr.out.form
   clear hel hs2 hc2 c2 hgl hgr
   go_wp2_with (at_builtin; go_must (refine wpl_appC (v := u5) (n := gs.length) (.tmp 18) (.tmp 28) elRB rfl rfl rfl rfl (OwnC.alloc (OwnC.alloc HGR.out.out _) _) (slc_one _ _ (by simp)) (by simp [Value.oneCell']) oM (by have := hxr.size; simp; omega) ?_; intro v1 w2 hown1 hgr1 hbl1))
   go_roundw
   case rel =>
    have hW1 := hxr.size
    refine ⟨k + 1, gs ++ [(wr.heap.size, t[k].evs.length + 1)], hlt, by go_num, ⟨by simp [hgl1], ?_⟩, Grid.grow (W := (wr.alloc (.cells (rowM [] k (t[k].evs.length + 1)) 4)).alloc (.cells #[.slice (some ⟨wr.heap.size, 0, none⟩) (t[k].evs.length + 1) (t[k].evs.length + 1)] 108)) ((HGR.out.alloc _).alloc _) (by rw [hgl1]; exact (BoxN.new _ _ _).alloc _) hW1 (fun q hq e => ?_) hown1 hgr1, Ext.more ((hxr.alloc _).alloc _) hbl1⟩
    ·intro q hq ht
     rw [List.length_append, List.length_singleton] at hq
     by_cases hlq : q < gs.length
     ·rw [List.getElem_append_left hlq]; exact HGL.out.2 q hlq ht
     ·obtain rfl : q = gs.length := by omega
      rw [List.getElem_append_right (Nat.le_refl _)]
      simp only [Nat.sub_self, List.getElem_singleton, hgl1]
    ·have := (HGR.out.row q hq).1.lt
     omega
   case measure => simp [intOf]; omega
  ·obtain rfl : k = t.length := by omega
   have x0 : wr.cell? ⟨w.heap.size + 1, 0, none⟩ = some (.int .i64 p) := bx.cell rfl
   have x1 : wr.cell? ⟨w.heap.size + 1, 1, none⟩ = some (.int .i64 i) := bx.cell rfl
   have hW1 := hxr.size
   clear hgl hgr
   go_wp2_with fail
   refine (HDI.out (p, i) hx _ hx1).mono ?_
   rintro e w2 ⟨v7, rfl, ho7, he2⟩
   have HST := hide (show ∃ S R, PaI t (p, i) S R ∧ Grid w2 W1.heap.size u5 gs S ∧ OwnIds w2 W1.heap.size v7 R ∧ BoxN w2 w.heap.size 24 #[.slice A t.length c] ∧ Ext W1 w2 ∧ R.length + 3 * ((ids t).length - S.length) ≤ 3 * (ids t).length + 2 from
    ⟨[], _, PaI.start hP hx, HGR.out.ext he2, OwnC.mono ho7 hW1, bt.ext he2, hxr.trans he2, by have := backL_len t (p, i); simp; omega⟩)
   clear t0 x0 x1 bt bx hx1 he2 ho7
   go_wp2_with fail
   go_loopw [7] (fun v wr => ∃ S R, PaI t (p, i) S R ∧ Grid wr W1.heap.size u5 gs S ∧ OwnIds wr W1.heap.size v R ∧ BoxN wr w.heap.size 24 #[.slice A t.length c] ∧ Ext W1 wr ∧ R.length + 3 * ((ids t).length - S.length) ≤ 3 * (ids t).length + 2) (fun v wr => 3 * ((ids t).length - marks t gs wr) + lenV v)
   case atStart => exact HST.out
   case round =>
    obtain ⟨S, R, hPa, hgr, ho, btr, hxr2, hbd⟩ := hrel
    have HPA := hide hPa
    have HGR2 := hide hgr
    have HO := hide ho
    have hx2 := hx0.trans hxr2
    have hmk := hide (Grid.marks hgr HGL.out hPa.nod (fun y hy => (hPa.s y hy).1))
    cases R with
    | nil =>
      obtain ⟨A7, c7, rfl, _, _⟩ := ho.form
      clear hPa hgr ho
      go_wp2_with fail
      go_ret
      exact ⟨_, gs, S, rfl, ⟨OwnC.mono HGR2.out.out hx0.size, fun q hq => ⟨(HGR2.out.row q hq).1, Nat.le_trans hx0.size (HGR2.out.row q hq).2⟩, HGR2.out.nod⟩, HGL.out, HPA.out.all, hx2⟩
    | cons y R' =>
      obtain ⟨yp, yi⟩ := y
      obtain ⟨g7, off7, c7, rfl, h71, h72, h73, h74, h75⟩ := ho.at_ (by simp)
      obtain ⟨y0, y1⟩ := h75 0 (yp, yi) rfl
      simp only [List.length_cons, Nat.zero_mul, Nat.add_zero] at h71 y0 y1
      obtain ⟨hyin, hyhb⟩ := hPa.r (yp, yi) (by simp)
      have HYHB := hide hyhb
      have HYIN := hide hyin
      have HBD := hide hbd
      obtain ⟨A8, hcut, ho8⟩ := OwnC.cutL elId.ht elId.inf (A := some ⟨g7, off7, none⟩) (c := c7) ho 1 (kI := 1) rfl (by simp)
      have hdrop : (idsC ((yp, yi) :: R')).drop (1 * 2) = idsC R' := rfl
      rw [hdrop] at ho8
      simp only [List.length_cons, Nat.add_sub_cancel] at hcut ho8
      have HO8 := hide (show OwnIds wr W1.heap.size (.slice A8 R'.length (c7 - 1)) R' from ho8)
      obtain ⟨hyp', hy1, hy2⟩ := mem_ids.1 hyin
      have hyp : yp < t.length := hyp'
      have hyg : yp < gs.length := by rw [HGL.out.1]; exact hyp
      have hgl2 : gs[yp].2 = t[yp].evs.length + 1 := HGL.out.2 yp hyg hyp
      have hyg2 : yi < gs[yp].2 := by rw [hgl2]; simp at hy2; omega
      have hgn : gs[yp].2 ≤ 1000001 := by rw [hgl2]; have := hS.ne _ (List.getElem_mem hyp); omega
      obtain ⟨gO, offO, capO, curO, rfl, hBO, hbO, hO1, hO2, hO3, hcO⟩ := HGR2.out.out.open_ oM
      have o0 : wr.cell? ⟨gO, offO + yp, none⟩ = some (.slice (some ⟨gs[yp].1, 0, none⟩) gs[yp].2 gs[yp].2) := hbO.cell (hcO yp _ (by rw [List.getElem?_map, List.getElem?_eq_getElem hyg]; rfl))
      have r0 : wr.cell? ⟨gs[yp].1, yi, none⟩ = some (.bool (decide ((yp, yi) ∈ S))) := (HGR2.out.row yp hyg).1.cell (rowM_get hyg2)
      have HROW := hide (HGR2.out.row yp hyg)
      have hlO := hbO.lt
      have hlR := (HGR2.out.row yp hyg).1.lt
      have HGLN : Hx (gs.length = t.length) := hide HGL.out.1
      have hi1 : (yp : Int) < (gs.length : Int) := by omega
      have hi2 : (0 : Int) ≤ (yp : Int) := by omega
      have hi3 : (yi : Int) < (gs[yp].2 : Int) := by omega
      have hi4 : (0 : Int) ≤ (yi : Int) := by omega
      have hw1 := hxr2.size
      clear hPa hgr ho h75 ho8 hdrop hgl2 hyin hyhb hbd hbO hcO hO3
      unfold maxLen at h72 hO2
      generalize hgb : gs[yp].1 = gb at *
      generalize hgn2 : gs[yp].2 = gn at *
      have HGB := hide hgb
      have HGN := hide hgn2
      clear hgb hgn2
      go_wp2_with fail
      have by3 := hide (BoxN.new wr 68 #[.int .i64 yp, .int .i64 yi])
      have bt3 := hide (btr.alloc (.cells #[.int .i64 yp, .int .i64 yi] 68))
      have HG3 := hide (HGR2.out.alloc (.cells #[.int .i64 yp, .int .i64 yi] 68))
      have HO3 := hide (OwnC.alloc HO8.out (.cells #[.int .i64 yp, .int .i64 yi] 68))
      have HROW3 := hide (HROW.out.1.alloc (.cells #[.int .i64 yp, .int .i64 yi] 68))
      have hx3 := hide (hxr2.alloc (.cells #[.int .i64 yp, .int .i64 yi] 68))
      have o3 : (wr.alloc (.cells #[.int .i64 yp, .int .i64 yi] 68)).cell? ⟨gO, offO + yp, none⟩ = some (.slice (some ⟨gb, 0, none⟩) gn gn) := ((Ext.refl wr).alloc _).cellAt o0
      have y2 : (wr.alloc (.cells #[.int .i64 yp, .int .i64 yi] 68)).cell? ⟨wr.heap.size, 0, none⟩ = some (.int .i64 yp) := by3.out.cell rfl
      have y3 : (wr.alloc (.cells #[.int .i64 yp, .int .i64 yi] 68)).cell? ⟨wr.heap.size, 1, none⟩ = some (.int .i64 yi) := by3.out.cell rfl
      have r3 : (wr.alloc (.cells #[.int .i64 yp, .int .i64 yi] 68)).cell? ⟨gb, yi, none⟩ = some (.bool (decide ((yp, yi) ∈ S))) := HROW3.out.cell (rowM_get hyg2)
      have hsz : (wr.alloc (.cells #[.int .i64 yp, .int .i64 yi] 68)).heap.size = wr.heap.size + 1 := by simp
      have hy3 : wr.heap.size < (wr.alloc (.cells #[.int .i64 yp, .int .i64 yi] 68)).heap.size := by omega
      have hO3l : gO < (wr.alloc (.cells #[.int .i64 yp, .int .i64 yi] 68)).heap.size := by omega
      have hR3l : gb < (wr.alloc (.cells #[.int .i64 yp, .int .i64 yi] 68)).heap.size := by omega
      clear y0 y1 btr hxr2 hx2 o0 r0 hsz hcut
      generalize (wr.alloc (.cells #[.int .i64 yp, .int .i64 yi] 68)) = W3 at *
      generalize wr.heap.size = gy at *
      cases hms : decide ((yp, yi) ∈ S)
      ·have HMS : Hx ((yp, yi) ∉ S) := hide (of_decide_eq_false hms)
       rw [hms] at r3
       clear hms
       go_quiet (fail)
       revert nq; intro n1
       go_wp2_with fail
       replace by3 := hide (by3.out.drewN n1)
       replace bt3 := hide (bt3.out.drewN n1)
       replace HG3 := hide (HG3.out.drewN n1)
       replace HO3 := hide (OwnC.drewN HO3.out n1)
       replace HROW3 := hide (HROW3.out.drewN n1)
       replace hx3 := hide (hx3.out.drewN n1)
       have o4 : (W3.drewN n1).cell? ⟨gO, offO + yp, none⟩ = some (.slice (some ⟨gb, 0, none⟩) gn gn) := o3
       have y4 : (W3.drewN n1).cell? ⟨gy, 0, none⟩ = some (.int .i64 yp) := y2
       have y5 : (W3.drewN n1).cell? ⟨gy, 1, none⟩ = some (.int .i64 yi) := y3
       have r4 : (W3.drewN n1).cell? ⟨gb, yi, none⟩ = some (.bool false) := r3
       have hz1 : gy < (W3.drewN n1).heap.size := hy3
       have hz2 : gO < (W3.drewN n1).heap.size := hO3l
       have hz3 : gb < (W3.drewN n1).heap.size := hR3l
       clear o3 y2 y3 r3 hy3 hO3l hR3l
       generalize W3.drewN n1 = W4 at *
       have fr := HROW3.out.frozen yi
       go_region
       have HG5 := hide (show Grid (W4.setCell ⟨gb, yi, none⟩ (.bool true)).drew W1.heap.size (.slice (some ⟨gO, offO, none⟩) gs.length capO) gs (S ++ [(yp, yi)]) from by
        have := GridM.mark HG3.out (by decide) (i := yi) hyg
        rw [HGB.out] at this; exact this.ext ((Ext.refl _).drew))
       have hwb := bt0.lt
       have hgbB := HROW.out.2
       have HO5 := hide (show OwnIds (W4.setCell ⟨gb, yi, none⟩ (.bool true)).drew W1.heap.size _ R' from OwnC.drew (OwnC.other HO3.out (HO3.out.not_box HROW3.out (by decide)) _))
       have by5 := hide (BoxN.drew (by3.out.other (B' := gb) (j := yi) oM (.bool true)))
       have bt5 := hide (BoxN.drew (bt3.out.other (B' := gb) (j := yi) oM (.bool true)))
       have hx5 := hide (Ext.drew (Ext.set (j := yi) hx3.out hgbB (.bool true)))
       have hwx5 := hide (hx0.trans hx5.out)
       have y6 : ((W4.setCell ⟨gb, yi, none⟩ (.bool true)).drew).cell? ⟨gy, 0, none⟩ = some (.int .i64 yp) := by5.out.cell rfl
       have y7 : ((W4.setCell ⟨gb, yi, none⟩ (.bool true)).drew).cell? ⟨gy, 1, none⟩ = some (.int .i64 yi) := by5.out.cell rfl
       have t5 : ((W4.setCell ⟨gb, yi, none⟩ (.bool true)).drew).cell? ⟨w.heap.size, 0, none⟩ = some (.slice A t.length c) := bt5.out.cell rfl
       have HMJ := hide (PaI.mark HPA.out HMS.out)
       clear o4 y4 y5 r4 hz1 hz2 hz3 fr HG3 HO3 by3 bt3 hx3 HROW3
       generalize (W4.setCell ⟨gb, yi, none⟩ (.bool true)).drew = W5 at *
       go_wp2_with fail
       refine (HDI.out (yp, yi) HYIN.out _ hwx5.out).mono ?_
       rintro e w6 ⟨v8, rfl, ho8, he6⟩
       obtain ⟨A9, c9, rfl, h91, h92⟩ := OwnC.form ho8
       have hap : ∀ k, (Value.slice A8 R'.length (c7 - 1)).ownBlock = some k → (Value.slice A9 (backL t (yp, yi)).length c9).ownBlock ≠ some k := by
        intro k h1 h2
        have := (OwnC.blk HO5.out k h1).2
        have := (OwnC.blk ho8 k h2).1
        omega
       have HST2 := hide (show ∃ k R2, k ≤ (backL t (yp, yi)).length ∧ (Value.int .i64 0) = .int .i64 (k : Nat) ∧ PaJ t (p, i) (yp, yi) (S ++ [(yp, yi)]) R2 k ∧ Grid w6 W1.heap.size (.slice (some ⟨gO, offO, none⟩) gs.length capO) gs (S ++ [(yp, yi)]) ∧ OwnIds w6 W1.heap.size (.slice A8 R'.length (c7 - 1)) R2 ∧ OwnIds w6 0 (.slice A9 (backL t (yp, yi)).length c9) (backL t (yp, yi)) ∧ (∀ k, (Value.slice A8 R'.length (c7 - 1)).ownBlock = some k → (Value.slice A9 (backL t (yp, yi)).length c9).ownBlock ≠ some k) ∧ BoxN w6 w.heap.size 24 #[.slice A t.length c] ∧ Ext W1 w6 ∧ R2.length ≤ R'.length + k from
        ⟨0, R', Nat.zero_le _, rfl, HMJ.out, HG5.out.ext he6, OwnC.ext HO5.out he6, OwnC.mono ho8 (Nat.zero_le _), hap, bt5.out.ext he6, hx5.out.trans he6, Nat.le_refl _⟩)
       have hbl := hide (backL_len t (yp, yi))
       clear ho8 hap y6 y7 t5 he6
       unfold maxLen at h92
       go_wp2_with fail
       go_loopw [10, 7] (fun j v wr => ∃ k R2, k ≤ (backL t (yp, yi)).length ∧ j = .int .i64 (k : Nat) ∧ PaJ t (p, i) (yp, yi) (S ++ [(yp, yi)]) R2 k ∧ Grid wr W1.heap.size (.slice (some ⟨gO, offO, none⟩) gs.length capO) gs (S ++ [(yp, yi)]) ∧ OwnIds wr W1.heap.size v R2 ∧ OwnIds wr 0 (.slice A9 (backL t (yp, yi)).length c9) (backL t (yp, yi)) ∧ (∀ k, v.ownBlock = some k → (Value.slice A9 (backL t (yp, yi)).length c9).ownBlock ≠ some k) ∧ BoxN wr w.heap.size 24 #[.slice A t.length c] ∧ Ext W1 wr ∧ R2.length ≤ R'.length + k) (fun j _ _ => (backL t (yp, yi)).length - (intOf j).toNat)
       case atStart => exact HST2.out
       case round =>
        obtain ⟨k, R2, hk, rfl, hJ, hgr, ho, hd2, hne, hb4, hx4, hlen⟩ := hrel
        have HJ := hide hJ
        have HG6 := hide hgr
        have HO6 := hide ho
        have HD6 := hide hd2
        have HNE := hide hne
        have HB6 := hide hb4
        have HX6 := hide hx4
        have HLEN := hide hlen
        obtain ⟨A10, c10, rfl, h101, h102⟩ := OwnC.form ho
        by_cases hlt : k < (backL t (yp, yi)).length
        ·obtain ⟨⟨za, zb⟩, hz⟩ : ∃ z, (backL t (yp, yi))[k]? = some z := ⟨_, List.getElem?_eq_getElem hlt⟩
         obtain ⟨g2, off2, cap2, hv, hc2, _, _, hg2l, hcells⟩ := hd2.at_ oM
         injection hv with hA2 _ hc22
         subst hA2; subst hc22
         obtain ⟨e0, e1⟩ := hcells k _ hz
         have HZ := hide hz
         clear hcells hz hJ hgr ho hd2 hne hb4 hx4 hlen
         unfold maxLen at h102
         go_wp2_with (at_builtin; go_must (refine wpl_appC (v := .slice A10 R2.length c10) (n := R2.length) (.tmp 67) (.tmp 72) elId rfl rfl rfl rfl (OwnC.alloc HO6.out _) (SlC.lit (x := (za, zb)) _ (by simp) rfl rfl) (idsC_one _) (by have h1 := HLEN.out; have h2 := HBD.out; have h3 := hbl.out; rw [List.length_cons] at h2; omega) (by have := HX6.out.size; simp; omega) ?_; intro v1 w7 hown1 hgr1 hbl1))
         go_roundw
         case rel =>
          have ho7 := hide (OwnIds.snoc hown1 rfl)
          have hne7 : (Value.slice A10 R2.length c10).ownBlock ≠ some gO := fun e => by
           rcases OwnC.apart HG6.out.out HO6.out (by decide) with h | h
           ·cases h
           ·exact h (by rw [e]; rfl)
          have hrow7 : ∀ q (hq : q < gs.length), some gs[q].1 ≠ (Value.slice A10 R2.length c10).ownBlock := fun q hq e => HO6.out.not_box (HG6.out.row q hq).1 (by decide) e.symm
          have hbw : some w.heap.size ≠ (Value.slice A10 R2.length c10).ownBlock := fun e => by
           have h1 := (HO6.out.blk _ e.symm).1
           omega
          have hmw : ∀ k, (Value.slice (some ⟨g2, off2, none⟩) (backL t (yp, yi)).length c9).ownBlock = some k → k < wr.heap.size := fun k hk => (OwnC.blk HD6.out k hk).2
          refine ⟨k + 1, R2 ++ [(za, zb)], hlt, by go_num, HJ.out.push hP HZ.out, GridM.kept (HG6.out.alloc _) hgr1.1 (.inl fun e => hne7 (by rw [← e]; rfl)) hrow7, ho7.out, OwnC.kept (OwnC.alloc HD6.out _) hgr1.1 (.inr fun e => ?_), fun k hk => ?_, (HB6.out.alloc _).kept hgr1.1 hbw, Ext.more (HX6.out.alloc _) hbl1, by have := HLEN.out; simp; omega⟩
          ·exact HNE.out _ e.symm rfl
          ·rcases hgr1.2 k hk with h | h
           ·exact HNE.out k h
           ·intro e
            have := hmw k e
            simp at h; omega
         case measure => simp [intOf]; omega
        ·obtain rfl : k = (backL t (yp, yi)).length := by omega
         clear hJ hgr ho hd2 hne hb4 hx4 hlen
         unfold maxLen at h102
         go_wp2_with fail
         have hPI := hide (HJ.out.fin hP (Nat.le_refl _))
         go_roundw
         case rel =>
          refine ⟨_, R2, hPI.out, HG6.out, HO6.out, HB6.out, HX6.out, ?_⟩
          have h1 := HLEN.out
          have h2 := HBD.out
          have h3 := hbl.out
          have h4 := hPI.out.few
          rw [List.length_append] at h4 ⊢
          rw [List.length_cons] at h2
          rw [List.length_singleton] at h4 ⊢
          omega
         case measure =>
          rw [hmk.out, Grid.marks HG6.out HGL.out hPI.out.nod (fun y hy => (hPI.out.s y hy).1)]
          have h1 := HLEN.out
          have h3 := hbl.out
          have h4 := hPI.out.few
          rw [List.length_append] at h4 ⊢
          rw [List.length_singleton] at h4 ⊢
          simp only [lenV, List.length_cons]
          omega
      ·have HMS : Hx ((yp, yi) ∈ S) := hide (of_decide_eq_true hms)
       rw [hms] at r3
       clear hms
       go_quiet (fail)
       revert nq; intro n1
       go_wp2_with fail
       go_roundw
       case rel =>
        exact ⟨S, R', PaI.skip HPA.out HMS.out, HG3.out.drewN n1, OwnC.drewN HO3.out n1, bt3.out.drewN n1, hx3.out.drewN n1, by have := HBD.out; simp at this; omega⟩
       case measure =>
        rw [hmk.out, Grid.marks (HG3.out.drewN n1) HGL.out HPA.out.nod (fun y hy => (HPA.out.s y hy).1)]
        simp [lenV]
end Go.Proofs.YtnihdkfmmbpilaaDoor
namespace Go.Proofs.YtnihdkfmmbpilaaDoor
open Go.RowKit
set_option linter.unusedVariables false

theorem findG_next {t : Tr} {P : Nat × Nat → Bool} {k j : Nat} (h : (idsTo t k j).find? P = none) (hx : P (k, j + 1) = false) : (idsTo t k (j + 1)).find? P = none := by
 rw [idsTo_succ, List.find?_append, h]
 simp [hx]
theorem findG_stop {t : Tr} {P : Nat × Nat → Bool} {k j : Nat} (hk : k < t.length) (hj : j < t[k].evs.length) (h : (idsTo t k j).find? P = none) (hx : P (k, j + 1) = true) : (ids t).find? P = some (k, j + 1) := by
 obtain ⟨r, hr⟩ := idsTo_prefix t k (j + 1) hk hj
 rw [← hr, idsTo_succ, List.append_assoc, List.find?_append, h]
 simp [hx]
theorem findG_all {t : Tr} {P : Nat × Nat → Bool} (h : (idsTo t t.length 0).find? P = none) : (ids t).find? P = none := by
 rw [idsTo_all] at h; exact h
theorem findG_zero {t : Tr} {f : Nat × Nat → Nat} (h : (ids t).find? (fun x => f x != 0) = none) : ∀ x ∈ ids t, f x = 0 := fun x hx => by
 rw [List.find?_eq_none] at h
 simpa using h x hx

open Classical in
noncomputable def hbB (t : Tr) (x : Nat × Nat) : Bool := decide (Hb t x x)
open Classical in
theorem hbB_true {t : Tr} {x : Nat × Nat} (h : Hb t x x) : hbB t x = true := by unfold hbB; exact decide_eq_true h
open Classical in
theorem hbB_false {t : Tr} {x : Nat × Nat} (h : ¬ Hb t x x) : hbB t x = false := by unfold hbB; exact decide_eq_false h

set_option maxRecDepth 100000 in
set_option maxHeartbeats 8000000 in
theorem rFault_any (u : Value) (t : Tr) (w : World) (hS : Sm t) (hs : SlR 3 RPr w u t) :
  Calls Tryd.prog 64 #[.agg #[u]] w fun e w' => FPost t w e w' := by
 have HHD := hide (fun p (hp : p < t.length) w' (he : Ext w w') => rhead_any u t p w' hp hS (hs.ext RPr.keeps he))
 have HFO := hide (fun (hS : Small t) p i (hp : p < t.length) (hi : i < t[p].evs.length) w' (he : Ext w w') => rform_any u t p i w' hp hi hS (hs.ext RPr.keeps he))
 have HPA0 := hide (fun (hS : Small t) p i (hx : (p, i) ∈ ids t) (hf : formedB t.length p (evAt t (p, i)) = true) w' (he : Ext w w') => paired_any u t p i w' hx hf hS (hs.ext RPr.keeps he))
 have HAC0 := hide (fun (hS : Small t) (h1 : ∀ x ∈ ids t, pairF t x = 0) (h2 : ∀ x ∈ ids t, formedB t.length x.1 (evAt t x) = true) w' (he : Ext w w') => acyclic_any u t w' h1 h2 hS (hs.ext RPr.keeps he))
 have HPS0 := hide (fun (hS : Small t) p i (hx : (p, i) ∈ ids t) (hP : Paired t) (hN : (ids t).length ≤ 1000000) w' (he : Ext w w') => Past_any u t p i w' hx hP hN hS (hs.ext RPr.keeps he))
 obtain ⟨A, c, rfl, _, hcm, hc⟩ := hs.at_
 have HC := hide hc
 have hnp := hS.np
 clear hs hc
 unfold idVal at *
 go_enter Tryd.func64, Tryd.ntmps64
 cases hin : inB t.length 1 8
 ·have HF := hide (fault_len hin)
  have hd : t.length < 1 ∨ 8 < t.length := by simp [inB] at hin; omega
  clear hin
  rcases hd with hd | hd
  ·have hd1 : decide ((t.length : Int) < 1) = true := decide_eq_true oM
   clear hd
   go_wp2_with fail
   refine bodyPost_ret (v := .tuple #[idVal (0, 0), .int .i64 1]) ?_ rfl ⟨by rw [HF.out]; rfl, ((Ext.refl w).alloc _).alloc _⟩
   simp [results, Tryd.f64, go_sem, idVal]
  ·have hd1 : decide ((t.length : Int) < 1) = false := decide_eq_false oM
   have hd2 : decide ((8 : Int) < (t.length : Int)) = true := decide_eq_true oM
   clear hd
   go_wp2_with fail
   refine bodyPost_ret (v := .tuple #[idVal (0, 0), .int .i64 1]) ?_ rfl ⟨by rw [HF.out]; rfl, ((Ext.refl w).alloc _).alloc _⟩
   simp [results, Tryd.f64, go_sem, idVal]
 ·have HIN := hide hin
  have hd1 : decide ((t.length : Int) < 1) = false := decide_eq_false (by simp [inB] at hin; omega)
  have hd2 : decide ((8 : Int) < (t.length : Int)) = false := decide_eq_false (by simp [inB] at hin; omega)
  clear hin
  go_wp2_with fail
  clear hd1 hd2
  have btW := (BoxN.new w 24 #[.slice A t.length c]).alloc (.cells #[.int .i64 0, .int .i64 0] 68)
  have brW : BoxN ((w.alloc (.cells #[.slice A t.length c] 24)).alloc (.cells #[.int .i64 0, .int .i64 0] 68)) (w.heap.size + 1) 68 #[.int .i64 0, .int .i64 0] := BoxN.newAt _ _ (by simp)
  have hx1 := ((Ext.refl w).alloc (.cells #[.slice A t.length c] 24)).alloc (.cells #[.int .i64 0, .int .i64 0] 68)
  generalize (w.alloc (.cells #[.slice A t.length c] 24)).alloc (.cells #[.int .i64 0, .int .i64 0] 68) = W1 at *
  go_loopw [4] (fun i wr => ∃ k : Nat, k ≤ t.length ∧ i = .int .i64 k ∧ (∀ q, q < k → headF t q = 0) ∧ Ext W1 wr) (fun i _ => t.length - (intOf i).toNat)
  case atStart => exact ⟨0, Nat.zero_le _, rfl, fun q hq => absurd hq (Nat.not_lt_zero _), Ext.refl _⟩
  case round =>
   obtain ⟨k, hk, rfl, h0, hxx⟩ := hrel
   have H0 := hide h0
   clear h0
   have bt2 := btW.ext hxx
   have br2 := brW.ext hxx
   have t0 : wr.cell? ⟨w.heap.size, 0, none⟩ = some (.slice A t.length c) := bt2.cell (j := 0) rfl
   have lt1 := bt2.lt
   have lt2 := br2.lt
   have hxw := hx1.trans hxx
   by_cases hlt : k < t.length
   ·go_wp2_with fail
    refine (HHD.out k hlt _ hxw).mono ?_
    rintro e w2 ⟨rfl, he2⟩
    by_cases hz : headF t k = 0
    ·have HZ := hide hz
     rw [hz]
     clear hz
     go_wp2_with fail
     go_roundw
     case rel => exact ⟨k + 1, hlt, by go_num, fun q hq => (Nat.lt_succ_iff_lt_or_eq.1 hq).elim (H0.out q) (fun e => e ▸ HZ.out), hxx.trans he2⟩
     case measure => simp [intOf]; omega
    ·have HF := hide (fault_head HIN.out hlt H0.out hz)
     have hne2 : ((headF t k : Int) != 0) = true := by simp; omega
     have hne3 : ¬ ((headF t k : Int) = 0) := by omega
     have br3 := br2.ext he2
     have f0 := br3.frozen 0
     have f1 := br3.frozen 1
     have r0 := br3.cell (j := 0) rfl
     have r1 := br3.cell (j := 1) rfl
     have hxw2 := hxw.trans he2
     go_wp2_with fail
     obtain ⟨Wr, hWr⟩ : ∃ Wr, ((w2).setCell ⟨w.heap.size + 1, 0, none⟩ (Value.int .i64 k)).setCell ⟨w.heap.size + 1, 1, none⟩ (Value.int .i64 0) = Wr := ⟨_, rfl⟩
     rw [hWr]
     have s1 : BoxN Wr (w.heap.size + 1) 68 #[.int .i64 k, .int .i64 0] := by rw [← hWr]; exact kW1
     have sx : Ext w Wr := by rw [← hWr]; exact kW1
     clear hWr
     refine bodyPost_ret (v := .tuple #[idVal (k, 0), .int .i64 (headF t k)]) ?_ rfl ⟨by first | (rw [HF.out]; done) | (rw [HF.out]; rfl), sx⟩
     simp [results, Tryd.f64, go_sem, idVal, s1.cell (j := 0) rfl, s1.cell (j := 1) rfl]
   ·obtain rfl : k = t.length := by omega
    have hS := hS.small H0.out
    have HFO := hide (HFO.out hS)
    have HPA0 := hide (HPA0.out hS)
    have HAC0 := hide (HAC0.out hS)
    have HPS0 := hide (HPS0.out hS)
    go_wp2_with fail
    clear t0 lt1 lt2 bt2 br2 hxw
    go_loopw [6] (fun i wr => ∃ k : Nat, k ≤ t.length ∧ i = .int .i64 k ∧ (idsTo t k 0).find? (fun x => formF t x != 0) = none ∧ Ext W1 wr) (fun i _ => t.length - (intOf i).toNat)
    case atStart => exact ⟨0, Nat.zero_le _, rfl, rfl, hxx⟩
    case round =>
     obtain ⟨k, hk, rfl, hno, hx⟩ := hrel
     have HNO := hide hno
     clear hno
     have bt2 := btW.ext hx
     have br2 := brW.ext hx
     have hxw := hx1.trans hx
     have t0 : wr.cell? ⟨w.heap.size, 0, none⟩ = some (.slice A t.length c) := bt2.cell (j := 0) rfl
     have lt1 := bt2.lt
     have lt2 := br2.lt
     by_cases hlt : k < t.length
     ·obtain ⟨b, off, rfl, hel⟩ := HC.out oM
      obtain ⟨_, _, v2, c2, hs2⟩ := hel k hlt
      obtain ⟨A2, k2, rfl, _, _, hc2⟩ := hs2.at_
      have hne := hS.ne _ (List.getElem_mem hlt)
      clear hel hs2 hc2
      go_wp2_with fail
      clear t0 bt2 br2 hxw lt1 lt2
      go_loopw [7] (fun i wr => ∃ j : Nat, j ≤ t[k].evs.length ∧ i = .int .i64 j ∧ (idsTo t k j).find? (fun x => formF t x != 0) = none ∧ Ext W1 wr) (fun i _ => t[k].evs.length - (intOf i).toNat)
      case atStart => exact ⟨0, Nat.zero_le _, rfl, HNO.out, hx⟩
      case round =>
       clear hx
       obtain ⟨j, hj, rfl, hno2, hx⟩ := hrel
       have HNO2 := hide hno2
       clear hno2
       have bt2 := btW.ext hx
       have br2 := brW.ext hx
       have hxw := hx1.trans hx
       have t0 : wr.cell? ⟨w.heap.size, 0, none⟩ = some (.slice (some ⟨b, off, none⟩) t.length c) := bt2.cell (j := 0) rfl
       have lt1 := bt2.lt
       have lt2 := br2.lt
       have c2' := hxw.cellAt c2
       by_cases hlj : j < t[k].evs.length
       ·have hxi : (k, j + 1) ∈ ids t := mem_ids.2 ⟨hlt, by simp, hlj⟩
        have HXI := hide hxi
        clear hxi
        go_wp2_with fail
        refine (HFO.out k j hlt hlj _ hxw).mono ?_
        rintro e w2 ⟨rfl, he2⟩
        by_cases hz : formF t (k, j + 1) = 0
        ·have HN := hide (findG_next (P := fun x => formF t x != 0) HNO2.out (by simp [hz]))
         rw [hz]
         clear hz
         go_wp2_with fail
         go_roundw
         case rel => exact ⟨j + 1, hlj, by go_num, HN.out, hx.trans he2⟩
         case measure => simp [intOf]; omega
        ·have HF := hide (fault_form HIN.out H0.out (findG_stop (P := fun x => formF t x != 0) hlt hlj HNO2.out (by simp [hz])))
         have hne2 : ((formF t (k, j + 1) : Int) != 0) = true := by simp; omega
         have hne3 : ¬ ((formF t (k, j + 1) : Int) = 0) := by omega
         have br3 := br2.ext he2
         have f0 := br3.frozen 0
         have f1 := br3.frozen 1
         have r0 := br3.cell (j := 0) rfl
         have r1 := br3.cell (j := 1) rfl
         have hxw2 := hxw.trans he2
         go_wp2_with fail
         obtain ⟨Wr, hWr⟩ : ∃ Wr, ((w2).setCell ⟨w.heap.size + 1, 0, none⟩ (Value.int .i64 k)).setCell ⟨w.heap.size + 1, 1, none⟩ (Value.int .i64 ((j : Int) + 1)) = Wr := ⟨_, rfl⟩
         rw [hWr]
         have s1 : BoxN Wr (w.heap.size + 1) 68 #[.int .i64 k, .int .i64 ((j : Int) + 1)] := by rw [← hWr]; exact kW1
         have sx : Ext w Wr := by rw [← hWr]; exact kW1
         clear hWr
         refine bodyPost_ret (v := .tuple #[idVal (k, j + 1), .int .i64 (formF t (k, j + 1))]) ?_ rfl ⟨by first | (rw [HF.out]; done) | (rw [HF.out]; rfl), sx⟩
         simp [results, Tryd.f64, go_sem, idVal, s1.cell (j := 0) rfl, s1.cell (j := 1) rfl]
       ·obtain rfl : j = t[k].evs.length := by omega
        go_wp2_with fail
        go_roundw
        case rel => exact ⟨k + 1, hlt, by go_num, by rw [← idsTo_next t k hlt]; exact HNO2.out, hx⟩
        case measure => simp [intOf]; omega
     ·obtain rfl : k = t.length := by omega
      have HALL := hide (findG_all HNO.out)
      have HFN := hide HALL.out
      have HPA := hide (fun p j (hx : (p, j + 1) ∈ ids t) w' (he : Ext w w') => (show ((j + 1 : Nat) : Int) = (j : Int) + 1 from by push_cast; rfl) ▸ HPA0.out p (j + 1) hx (formF_formed (findG_zero HFN.out _ hx)) w' he)
      clear HALL
      go_wp2_with fail
      clear t0 lt1 lt2 bt2 br2 hxw HNO
      go_loopw [9] (fun i wr => ∃ k : Nat, k ≤ t.length ∧ i = .int .i64 k ∧ (idsTo t k 0).find? (fun x => pairF t x != 0) = none ∧ Ext W1 wr) (fun i _ => t.length - (intOf i).toNat)
      case atStart => exact ⟨0, Nat.zero_le _, rfl, rfl, hx⟩
      case round =>
       clear hx
       obtain ⟨k, hk, rfl, hno, hx⟩ := hrel
       have HNO := hide hno
       clear hno
       have bt2 := btW.ext hx
       have br2 := brW.ext hx
       have hxw := hx1.trans hx
       have t0 : wr.cell? ⟨w.heap.size, 0, none⟩ = some (.slice A t.length c) := bt2.cell (j := 0) rfl
       have lt1 := bt2.lt
       have lt2 := br2.lt
       by_cases hlt : k < t.length
       ·obtain ⟨b, off, rfl, hel⟩ := HC.out oM
        obtain ⟨_, _, v2, c2, hs2⟩ := hel k hlt
        obtain ⟨A2, k2, rfl, _, _, hc2⟩ := hs2.at_
        have hne := hS.ne _ (List.getElem_mem hlt)
        clear hel hs2 hc2
        go_wp2_with fail
        clear t0 bt2 br2 hxw lt1 lt2
        go_loopw [10] (fun i wr => ∃ j : Nat, j ≤ t[k].evs.length ∧ i = .int .i64 j ∧ (idsTo t k j).find? (fun x => pairF t x != 0) = none ∧ Ext W1 wr) (fun i _ => t[k].evs.length - (intOf i).toNat)
        case atStart => exact ⟨0, Nat.zero_le _, rfl, HNO.out, hx⟩
        case round =>
         clear hx
         obtain ⟨j, hj, rfl, hno2, hx⟩ := hrel
         have HNO2 := hide hno2
         clear hno2
         have bt2 := btW.ext hx
         have br2 := brW.ext hx
         have hxw := hx1.trans hx
         have t0 : wr.cell? ⟨w.heap.size, 0, none⟩ = some (.slice (some ⟨b, off, none⟩) t.length c) := bt2.cell (j := 0) rfl
         have lt1 := bt2.lt
         have lt2 := br2.lt
         have c2' := hxw.cellAt c2
         by_cases hlj : j < t[k].evs.length
         ·have hxi : (k, j + 1) ∈ ids t := mem_ids.2 ⟨hlt, by simp, hlj⟩
          have HXI := hide hxi
          clear hxi
          go_wp2_with fail
          have bxn := BoxN.new wr 68 #[.int .i64 k, .int .i64 ((j : Int) + 1)]
          have hxn := hxw.alloc (.cells #[.int .i64 k, .int .i64 ((j : Int) + 1)] 68)
          have hx1n := hx.alloc (.cells #[.int .i64 k, .int .i64 ((j : Int) + 1)] 68)
          have brn := br2.alloc (.cells #[.int .i64 k, .int .i64 ((j : Int) + 1)] 68)
          clear t0 lt1 lt2 c2' bt2 br2 hx hxw
          generalize wr.heap.size = gx at *
          generalize (wr.alloc (.cells #[.int .i64 k, .int .i64 ((j : Int) + 1)] 68)) = W3 at *
          refine (HPA.out k j HXI.out _ hxn).mono ?_
          rintro e w2 ⟨rfl, he2⟩
          by_cases hz : pairF t (k, j + 1) = 0
          ·have HN := hide (findG_next (P := fun x => pairF t x != 0) HNO2.out (by simp [hz]))
           rw [hz]
           clear hz
           go_wp2_with fail
           go_roundw
           case rel => exact ⟨j + 1, hlj, by go_num, HN.out, hx1n.trans he2⟩
           case measure => simp [intOf]; omega
          ·have HF := hide (fault_pair HIN.out H0.out HFN.out (findG_stop (P := fun x => pairF t x != 0) hlt hlj HNO2.out (by simp [hz])))
           have hne2 : ((pairF t (k, j + 1) : Int) != 0) = true := by simp; omega
           have hne3 : ¬ ((pairF t (k, j + 1) : Int) = 0) := by omega
           have br3 := brn.ext he2
           have f0 := br3.frozen 0
           have f1 := br3.frozen 1
           have r0 := br3.cell (j := 0) rfl
           have r1 := br3.cell (j := 1) rfl
           have bx3 := bxn.ext he2
           have x0 := bx3.cell (j := 0) rfl
           have x1 := bx3.cell (j := 1) rfl
           have hxw2 := hxn.trans he2
           go_wp2_with fail
           obtain ⟨Wr, hWr⟩ : ∃ Wr, ((w2).setCell ⟨w.heap.size + 1, 0, none⟩ (Value.int .i64 k)).setCell ⟨w.heap.size + 1, 1, none⟩ (Value.int .i64 ((j : Int) + 1)) = Wr := ⟨_, rfl⟩
           rw [hWr]
           have s1 : BoxN Wr (w.heap.size + 1) 68 #[.int .i64 k, .int .i64 ((j : Int) + 1)] := by rw [← hWr]; exact kW1
           have sx : Ext w Wr := by rw [← hWr]; exact kW1
           clear hWr
           refine bodyPost_ret (v := .tuple #[idVal (k, j + 1), .int .i64 (pairF t (k, j + 1))]) ?_ rfl ⟨by first | (rw [HF.out]; done) | (rw [HF.out]; rfl), sx⟩
           simp [results, Tryd.f64, go_sem, idVal, s1.cell (j := 0) rfl, s1.cell (j := 1) rfl]
         ·obtain rfl : j = t[k].evs.length := by omega
          go_wp2_with fail
          go_roundw
          case rel => exact ⟨k + 1, hlt, by go_num, by rw [← idsTo_next t k hlt]; exact HNO2.out, hx⟩
          case measure => simp [intOf]; omega
       ·obtain rfl : k = t.length := by omega
        have HALL := hide (findG_all HNO.out)
        have HPN := hide HALL.out
        have hP : Paired t := ⟨fun x hx => formF_formed (findG_zero HFN.out x hx), findG_zero HPN.out⟩
        have HPS := hide (fun p j (hx : (p, j + 1) ∈ ids t) w' (he : Ext w w') => (show ((j + 1 : Nat) : Int) = (j : Int) + 1 from by push_cast; rfl) ▸ HPS0.out p (j + 1) hx hP (ids_few hS.np hS.ne HIN.out H0.out) w' he)
        have HAC := hide (HAC0.out hP.pair hP.form)
        clear hP HALL
        go_wp2_with fail
        refine (HAC.out _ hxw).mono ?_
        rintro e w2 ⟨b, rfl, hb, he2⟩
        cases b
        ·go_wp2_with fail
         replace hx := hx.trans he2
         clear t0 lt1 lt2 bt2 br2 hxw he2 hb HNO
         obtain ⟨WB, hWB⟩ : ∃ WB : World, w2 = WB := ⟨_, rfl⟩
         rw [hWB] at hx ⊢
         clear hWB
         go_loopw [13] (fun i wr => ∃ k : Nat, k ≤ t.length ∧ i = .int .i64 k ∧ (idsTo t k 0).find? (hbB t) = none ∧ Ext W1 wr) (fun i _ => t.length - (intOf i).toNat)
         case atStart => exact ⟨0, Nat.zero_le _, rfl, rfl, hx⟩
         case round =>
          clear hx
          obtain ⟨k, hk, rfl, hno, hx⟩ := hrel
          have HNO := hide hno
          clear hno
          have bt2 := btW.ext hx
          have br2 := brW.ext hx
          have hxw := hx1.trans hx
          have t0 : wr.cell? ⟨w.heap.size, 0, none⟩ = some (.slice A t.length c) := bt2.cell (j := 0) rfl
          have lt1 := bt2.lt
          have lt2 := br2.lt
          by_cases hlt : k < t.length
          ·obtain ⟨b, off, rfl, hel⟩ := HC.out oM
           obtain ⟨_, _, v2, c2, hs2⟩ := hel k hlt
           obtain ⟨A2, k2, rfl, _, _, hc2⟩ := hs2.at_
           have hne := hS.ne _ (List.getElem_mem hlt)
           clear hel hs2 hc2
           go_wp2_with fail
           clear t0 bt2 br2 hxw lt1 lt2
           go_loopw [14] (fun i wr => ∃ j : Nat, j ≤ t[k].evs.length ∧ i = .int .i64 j ∧ (idsTo t k j).find? (hbB t) = none ∧ Ext W1 wr) (fun i _ => t[k].evs.length - (intOf i).toNat)
           case atStart => exact ⟨0, Nat.zero_le _, rfl, HNO.out, hx⟩
           case round =>
            clear hx
            obtain ⟨j, hj, rfl, hno2, hx⟩ := hrel
            have HNO2 := hide hno2
            clear hno2
            have bt2 := btW.ext hx
            have br2 := brW.ext hx
            have hxw := hx1.trans hx
            have t0 : wr.cell? ⟨w.heap.size, 0, none⟩ = some (.slice (some ⟨b, off, none⟩) t.length c) := bt2.cell (j := 0) rfl
            have lt1 := bt2.lt
            have lt2 := br2.lt
            have c2' := hxw.cellAt c2
            by_cases hlj : j < t[k].evs.length
            ·have hxi : (k, j + 1) ∈ ids t := mem_ids.2 ⟨hlt, by simp, hlj⟩
             have HXI := hide hxi
             clear hxi
             go_wp2_with fail
             have bxn := BoxN.new wr 68 #[.int .i64 k, .int .i64 ((j : Int) + 1)]
             have hxn := hxw.alloc (.cells #[.int .i64 k, .int .i64 ((j : Int) + 1)] 68)
             have hx1n := hx.alloc (.cells #[.int .i64 k, .int .i64 ((j : Int) + 1)] 68)
             have brn := br2.alloc (.cells #[.int .i64 k, .int .i64 ((j : Int) + 1)] 68)
             clear t0 lt1 lt2 c2' bt2 br2 hx hxw
             generalize wr.heap.size = gx at *
             generalize (wr.alloc (.cells #[.int .i64 k, .int .i64 ((j : Int) + 1)] 68)) = W3 at *
             refine (HPS.out k j HXI.out _ hxn).mono ?_
             rintro e w2 ⟨v9, gs, S, rfl, hgr, hgl, hiff, he2⟩
             have hyg : k < gs.length := by rw [hgl.1]; exact hlt
             have hgl2 : gs[k].2 = t[k].evs.length + 1 := hgl.2 k hyg hlt
             have hHB := hide (hiff (k, j + 1) HXI.out)
             obtain ⟨gO, offO, capO, curO, rfl, hBO, hbO, hO1, hO2, hO3, hcO⟩ := hgr.out.open_ oM
             have o0 : w2.cell? ⟨gO, offO + k, none⟩ = some (.slice (some ⟨gs[k].1, 0, none⟩) gs[k].2 gs[k].2) := hbO.cell (hcO k _ (by rw [List.getElem?_map, List.getElem?_eq_getElem hyg]; rfl))
             have rr0 : w2.cell? ⟨gs[k].1, j + 1, none⟩ = some (.bool (decide ((k, j + 1) ∈ S))) := (hgr.row k hyg).1.cell (rowM_get (by rw [hgl2]; omega))
             have hlO := hbO.lt
             have hlR := (hgr.row k hyg).1.lt
             have hi1 : (k : Int) < (gs.length : Int) := by omega
             have hi3 : (j : Int) + 1 < (gs[k].2 : Int) := by rw [hgl2]; omega
             have hcap : gs[k].2 ≤ 1000001 := by rw [hgl2]; omega
             have hi2 : (0 : Int) ≤ (k : Int) := by omega
             have hi4 : (0 : Int) ≤ (j : Int) + 1 := by omega
             have br3 := brn.ext he2
             have f0 := br3.frozen 0
             have f1 := br3.frozen 1
             have r0 := br3.cell (j := 0) rfl
             have r1 := br3.cell (j := 1) rfl
             have bx3 := bxn.ext he2
             have x0 := bx3.cell (j := 0) rfl
             have x1 := bx3.cell (j := 1) rfl
             have hxw2 := hxn.trans he2
             clear hgr hgl hiff hbO hcO hgl2
             unfold maxLen at hO2
             generalize gs[k].1 = gb at *
             generalize gs[k].2 = gn at *
             cases hz : decide ((k, j + 1) ∈ S)
             ·have HN := hide (findG_next (P := hbB t) HNO2.out (hbB_false fun h => of_decide_eq_false hz (hHB.out.2 h)))
              rw [hz] at rr0
              clear hz
              go_wp2_with fail
              go_roundw
              case rel => exact ⟨j + 1, hlj, by go_num, HN.out, hx1n.trans he2⟩
              case measure => simp [intOf]; omega
             ·have HF := hide (fault_hb HIN.out H0.out HFN.out HPN.out (show hbFirst t = _ from findG_stop (P := hbB t) hlt hlj HNO2.out (hbB_true (hHB.out.1 (of_decide_eq_true hz)))))
              rw [hz] at rr0
              clear hz
              go_wp2_with fail
              obtain ⟨Wr, hWr⟩ : ∃ Wr, ((w2).setCell ⟨w.heap.size + 1, 0, none⟩ (Value.int .i64 k)).setCell ⟨w.heap.size + 1, 1, none⟩ (Value.int .i64 ((j : Int) + 1)) = Wr := ⟨_, rfl⟩
              rw [hWr]
              have s1 : BoxN Wr (w.heap.size + 1) 68 #[.int .i64 k, .int .i64 ((j : Int) + 1)] := by rw [← hWr]; exact kW1
              have sx : Ext w Wr := by rw [← hWr]; exact kW1
              clear hWr
              refine bodyPost_ret (v := .tuple #[idVal (k, j + 1), .int .i64 10]) ?_ rfl ⟨by first | (rw [HF.out]; done) | (rw [HF.out]; rfl), sx⟩
              simp [results, Tryd.f64, go_sem, idVal, s1.cell (j := 0) rfl, s1.cell (j := 1) rfl]
            ·obtain rfl : j = t[k].evs.length := by omega
             go_wp2_with fail
             go_roundw
             case rel => exact ⟨k + 1, hlt, by go_num, by rw [← idsTo_next t k hlt]; exact HNO2.out, hx⟩
             case measure => simp [intOf]; omega
          ·obtain rfl : k = t.length := by omega
           have HALL := hide (findG_all HNO.out)
           have HF := hide (fault_ok HIN.out H0.out HFN.out HPN.out (show hbFirst t = none from HALL.out))
           have f0 := br2.frozen 0
           have f1 := br2.frozen 1
           have r0 := br2.cell (j := 0) rfl
           have r1 := br2.cell (j := 1) rfl
           go_wp2_with fail
           obtain ⟨Wr, hWr⟩ : ∃ Wr, (wr.setCell ⟨w.heap.size + 1, 0, none⟩ (Value.int .i64 0)).setCell ⟨w.heap.size + 1, 1, none⟩ (Value.int .i64 0) = Wr := ⟨_, rfl⟩
           rw [hWr]
           have s1 : BoxN Wr (w.heap.size + 1) 68 #[.int .i64 0, .int .i64 0] := by rw [← hWr]; exact kW1
           have sx : Ext w Wr := by rw [← hWr]; exact kW1
           clear hWr
           refine bodyPost_ret (v := .tuple #[idVal (0, 0), .int .i64 0]) ?_ rfl ⟨by first | (rw [HF.out]; done) | (rw [HF.out]; rfl), sx⟩
           simp [results, Tryd.f64, go_sem, idVal, s1.cell (j := 0) rfl, s1.cell (j := 1) rfl]

        ·have HNB := hide (show (ids t).find? (hbB t) = none from by
          rw [List.find?_eq_none]; intro x hx; rw [hbB_false (hb rfl x hx)]; exact Bool.false_ne_true)
         have HF := hide (fault_ok HIN.out H0.out HFN.out HPN.out (show hbFirst t = none from HNB.out))
         have br3 := br2.ext he2
         have f0 := br3.frozen 0
         have f1 := br3.frozen 1
         have r0 := br3.cell (j := 0) rfl
         have r1 := br3.cell (j := 1) rfl
         have hxw2 := hxw.trans he2
         go_wp2_with fail
         obtain ⟨Wr, hWr⟩ : ∃ Wr, (w2.setCell ⟨w.heap.size + 1, 0, none⟩ (Value.int .i64 0)).setCell ⟨w.heap.size + 1, 1, none⟩ (Value.int .i64 0) = Wr := ⟨_, rfl⟩
         rw [hWr]
         have s1 : BoxN Wr (w.heap.size + 1) 68 #[.int .i64 0, .int .i64 0] := by rw [← hWr]; exact kW1
         have sx : Ext w Wr := by rw [← hWr]; exact kW1
         clear hWr
         refine bodyPost_ret (v := .tuple #[idVal (0, 0), .int .i64 0]) ?_ rfl ⟨by first | (rw [HF.out]; done) | (rw [HF.out]; rfl), sx⟩
         simp [results, Tryd.f64, go_sem, idVal, s1.cell (j := 0) rfl, s1.cell (j := 1) rfl]
theorem rValid_any (u : Value) (t : Tr) (w : World) (hS : Sm t) (hs : SlR 3 RPr w u t) :
  Calls Tryd.prog 21 #[.agg #[u]] w fun e w' => e = .returned (.bool (validL t)) ∧ Ext w w' := by
 have HF := hide (fun w' (he : Ext w w') => rFault_any u t w' hS (hs.ext RPr.keeps he))
 obtain ⟨A, c, rfl, _, hcm, _⟩ := hs.at_
 go_enter Tryd.func21, Tryd.ntmps21
 go_wp2_with fail
 refine (HF.out _ ((Ext.refl w).alloc _)).mono ?_
 rintro e w2 ⟨rfl, he2⟩
 unfold idVal
 go_wp2
 go_ret
 refine ⟨ret_bool ?_, Ext.alloc (Ext.trans ((Ext.refl w).alloc _) he2) _⟩
 unfold validL
 rw [Bool.eq_iff_iff]; simp
end Go.Proofs.YtnihdkfmmbpilaaDoor
