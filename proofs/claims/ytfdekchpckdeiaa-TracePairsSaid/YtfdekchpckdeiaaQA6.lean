/- Texts of one proof, laid together: RV, WJ, WK, WM, WN, WO, PH, TS. No condition. -/
import Derived.Test.YtfdekchpckdeiaaQA5
import Derived.KernelRfl
/- Walks of the reference: Fault and Valid. No condition but on lengths. -/
namespace Go.Proofs.Ytfdekchpckdeiaa
open Go.RowKit
set_option linter.unusedVariables false

theorem findG_next {t : Tr} {P : Nat × Nat → Bool} {k j : Nat} (h : (idsTo t k j).find? P = none) (hx : P (k, j + 1) = false) : (idsTo t k (j + 1)).find? P = none := by
  rw [idsTo_succ, List.find?_append, h]
  simp [hx]
theorem findG_stop {t : Tr} {P : Nat × Nat → Bool} {k j : Nat} (hk : k < t.length) (hj : j < t[k].evs.length) (h : (idsTo t k j).find? P = none) (hx : P (k, j + 1) = true) : (ids t).find? P = some (k, j + 1) := by
  obtain ⟨r, hr⟩ := idsTo_prefix t k (j + 1) hk hj
  rw [← hr, idsTo_succ, List.append_assoc, List.find?_append, h]
  simp [hx]
theorem findG_all {t : Tr} {P : Nat × Nat → Bool} (h : (idsTo t t.length 0).find? P = none) : (ids t).find? P = none := by
  rw [idsTo_all] at h; exact h
theorem findG_zero {t : Tr} {f : Nat × Nat → Nat} (h : (ids t).find? (fun x => f x != 0) = none) : ∀ x ∈ ids t, f x = 0 := fun x hx => by
  rw [List.find?_eq_none] at h
  simpa using h x hx

open Classical in
noncomputable def hbB (t : Tr) (x : Nat × Nat) : Bool := decide (Hb t x x)
open Classical in
theorem hbB_true {t : Tr} {x : Nat × Nat} (h : Hb t x x) : hbB t x = true := by unfold hbB; exact decide_eq_true h
open Classical in
theorem hbB_false {t : Tr} {x : Nat × Nat} (h : ¬ Hb t x x) : hbB t x = false := by unfold hbB; exact decide_eq_false h

set_option maxRecDepth 100000 in
set_option maxHeartbeats 8000000 in
theorem rFault_any (u : Value) (t : Tr) (w : World) (hS : Small t) (hs : SlR 3 RPr w u t) :
    Calls Try.prog 18 #[.agg #[u]] w fun e w' => FPost t w e w' := by
  have HHD := hide (fun p (hp : p < t.length) w' (he : Ext w w') => rhead_any u t p w' hp hS (hs.ext RPr.keeps he))
  have HFO := hide (fun p i (hp : p < t.length) (hi : i < t[p].evs.length) w' (he : Ext w w') => rform_any u t p i w' hp hi hS (hs.ext RPr.keeps he))
  have HPA0 := hide (fun p i (hx : (p, i) ∈ ids t) (hf : formedB t.length p (evAt t (p, i)) = true) w' (he : Ext w w') => paired_any u t p i w' hx hf hS (hs.ext RPr.keeps he))
  have HAC0 := hide (fun (h1 : ∀ x ∈ ids t, pairF t x = 0) (h2 : ∀ x ∈ ids t, formedB t.length x.1 (evAt t x) = true) w' (he : Ext w w') => acyclic_any u t w' h1 h2 hS (hs.ext RPr.keeps he))
  have HPS0 := hide (fun p i (hx : (p, i) ∈ ids t) (hP : Paired t) (hN : (ids t).length ≤ 1000000) w' (he : Ext w w') => Past_any u t p i w' hx hP hN hS (hs.ext RPr.keeps he))
  obtain ⟨A, c, rfl, _, hcm, hc⟩ := hs.at_
  have HC := hide hc
  have hnp := hS.np
  clear hs hc
  unfold idVal at *
  go_enter Try.func18, Try.ntmps18
  cases hin : inB t.length 1 8
  · have HF := hide (fault_len hin)
    have hd : t.length < 1 ∨ 8 < t.length := by simp [inB] at hin; omega
    clear hin
    rcases hd with hd | hd
    · have hd1 : decide ((t.length : Int) < 1) = true := decide_eq_true (by omega)
      clear hd
      go_wp2_with fail
      refine bodyPost_ret (v := .tuple #[idVal (0, 0), .int .i64 1]) ?_ rfl ⟨by rw [HF.out]; rfl, ((Ext.refl w).alloc _).alloc _⟩
      simp [results, Try.f18, go_sem, idVal]
    · have hd1 : decide ((t.length : Int) < 1) = false := decide_eq_false (by omega)
      have hd2 : decide ((8 : Int) < (t.length : Int)) = true := decide_eq_true (by omega)
      clear hd
      go_wp2_with fail
      refine bodyPost_ret (v := .tuple #[idVal (0, 0), .int .i64 1]) ?_ rfl ⟨by rw [HF.out]; rfl, ((Ext.refl w).alloc _).alloc _⟩
      simp [results, Try.f18, go_sem, idVal]
  · have HIN := hide hin
    have hd1 : decide ((t.length : Int) < 1) = false := decide_eq_false (by simp [inB] at hin; omega)
    have hd2 : decide ((8 : Int) < (t.length : Int)) = false := decide_eq_false (by simp [inB] at hin; omega)
    clear hin
    go_wp2_with fail
    clear hd1 hd2
    have btW := (BoxN.new w 24 #[.slice A t.length c]).alloc (.cells #[.int .i64 0, .int .i64 0] 28)
    have brW : BoxN ((w.alloc (.cells #[.slice A t.length c] 24)).alloc (.cells #[.int .i64 0, .int .i64 0] 28)) (w.heap.size + 1) 28 #[.int .i64 0, .int .i64 0] := BoxN.newAt _ _ (by simp)
    have hx1 := ((Ext.refl w).alloc (.cells #[.slice A t.length c] 24)).alloc (.cells #[.int .i64 0, .int .i64 0] 28)
    generalize (w.alloc (.cells #[.slice A t.length c] 24)).alloc (.cells #[.int .i64 0, .int .i64 0] 28) = W1 at *
    go_loopw [4] (fun i wr => ∃ k : Nat, k ≤ t.length ∧ i = .int .i64 k ∧ (∀ q, q < k → headF t q = 0) ∧ Ext W1 wr) (fun i _ => t.length - (intOf i).toNat)
    case atStart => exact ⟨0, Nat.zero_le _, rfl, fun q hq => absurd hq (Nat.not_lt_zero _), Ext.refl _⟩
    case round =>
      obtain ⟨k, hk, rfl, h0, hxx⟩ := hrel
      have H0 := hide h0
      clear h0
      have bt2 := btW.ext hxx
      have br2 := brW.ext hxx
      have t0 : wr.cell? ⟨w.heap.size, 0, none⟩ = some (.slice A t.length c) := bt2.cell (j := 0) rfl
      have lt1 := bt2.lt
      have lt2 := br2.lt
      have hxw := hx1.trans hxx
      by_cases hlt : k < t.length
      · go_wp2_with fail
        refine (HHD.out k hlt _ hxw).mono ?_
        rintro e w2 ⟨rfl, he2⟩
        by_cases hz : headF t k = 0
        · have HZ := hide hz
          rw [hz]
          clear hz
          go_wp2_with fail
          go_roundw
          case rel => exact ⟨k + 1, hlt, by go_num, fun q hq => (Nat.lt_succ_iff_lt_or_eq.1 hq).elim (H0.out q) (fun e => e ▸ HZ.out), hxx.trans he2⟩
          case measure => simp [intOf]; omega
        · have HF := hide (fault_head HIN.out hlt H0.out hz)
          have hne2 : ((headF t k : Int) != 0) = true := by simp; omega
          have hne3 : ¬ ((headF t k : Int) = 0) := by omega
          have br3 := br2.ext he2
          have f0 := br3.frozen 0
          have f1 := br3.frozen 1
          have r0 := br3.cell (j := 0) rfl
          have r1 := br3.cell (j := 1) rfl
          have hxw2 := hxw.trans he2
          go_wp2_with fail
          obtain ⟨Wr, hWr⟩ : ∃ Wr, ((w2).setCell ⟨w.heap.size + 1, 0, none⟩ (Value.int .i64 k)).setCell ⟨w.heap.size + 1, 1, none⟩ (Value.int .i64 0) = Wr := ⟨_, rfl⟩
          rw [hWr]
          have s1 : BoxN Wr (w.heap.size + 1) 28 #[.int .i64 k, .int .i64 0] := by rw [← hWr]; ((repeat (first | with_reducible assumption | with_reducible exact KeepsFrom.refl _ _ | with_reducible refine KF.set ?_ _ _ | with_reducible refine KF.alloc ?_ _ | with_reducible refine KF.drew ?_ | with_reducible refine KF.drewN ?_ _ | with_reducible refine KF.ext ?_ (by assumption) | with_reducible exact Below.refl _ _ | with_reducible refine BL.set ?_ _ _ _ (by omega) | with_reducible refine BL.alloc ?_ _ (by omega) | with_reducible refine BL.drew ?_ | with_reducible refine BL.drewN ?_ _ | with_reducible refine BL.ext ?_ (by assumption) (by omega) | with_reducible exact Ext.refl _ | with_reducible refine Ext.set ?_ (by omega) _ | with_reducible refine Ext.alloc ?_ _ | with_reducible refine Ext.drew ?_ | with_reducible refine Ext.drewN ?_ _ | with_reducible refine Ext.trans ?_ (by assumption) | with_reducible refine BoxN.alloc ?_ _ | with_reducible refine BoxN.drew ?_ | with_reducible refine BoxN.drewN ?_ _ | with_reducible refine BoxN.other ?_ (by omega) _ | with_reducible refine BoxN.set ?_ _ _ | with_reducible apply BoxN.set1 | with_reducible apply BoxN.set2_1 | with_reducible apply BoxN.set2_0 | with_reducible apply BoxN.set5_4 | with_reducible apply BoxN.set5_3 | with_reducible apply BoxN.set5_2 | with_reducible apply BoxN.set5_1 | with_reducible apply BoxN.set5_0 | with_reducible apply BoxN.set3_2 | with_reducible apply BoxN.set3_1 | with_reducible apply BoxN.set3_0 | with_reducible apply BoxN.set4_3 | with_reducible apply BoxN.set4_2 | with_reducible apply BoxN.set4_1 | with_reducible apply BoxN.set4_0 | with_reducible refine BoxN.ext ?_ (by assumption))); done)
          have sx : Ext w Wr := by rw [← hWr]; ((repeat (first | with_reducible assumption | with_reducible exact KeepsFrom.refl _ _ | with_reducible refine KF.set ?_ _ _ | with_reducible refine KF.alloc ?_ _ | with_reducible refine KF.drew ?_ | with_reducible refine KF.drewN ?_ _ | with_reducible refine KF.ext ?_ (by assumption) | with_reducible exact Below.refl _ _ | with_reducible refine BL.set ?_ _ _ _ (by omega) | with_reducible refine BL.alloc ?_ _ (by omega) | with_reducible refine BL.drew ?_ | with_reducible refine BL.drewN ?_ _ | with_reducible refine BL.ext ?_ (by assumption) (by omega) | with_reducible exact Ext.refl _ | with_reducible refine Ext.set ?_ (by omega) _ | with_reducible refine Ext.alloc ?_ _ | with_reducible refine Ext.drew ?_ | with_reducible refine Ext.drewN ?_ _ | with_reducible refine Ext.trans ?_ (by assumption) | with_reducible refine BoxN.alloc ?_ _ | with_reducible refine BoxN.drew ?_ | with_reducible refine BoxN.drewN ?_ _ | with_reducible refine BoxN.other ?_ (by omega) _ | with_reducible refine BoxN.set ?_ _ _ | with_reducible apply BoxN.set1 | with_reducible apply BoxN.set2_1 | with_reducible apply BoxN.set2_0 | with_reducible apply BoxN.set5_4 | with_reducible apply BoxN.set5_3 | with_reducible apply BoxN.set5_2 | with_reducible apply BoxN.set5_1 | with_reducible apply BoxN.set5_0 | with_reducible apply BoxN.set3_2 | with_reducible apply BoxN.set3_1 | with_reducible apply BoxN.set3_0 | with_reducible apply BoxN.set4_3 | with_reducible apply BoxN.set4_2 | with_reducible apply BoxN.set4_1 | with_reducible apply BoxN.set4_0 | with_reducible refine BoxN.ext ?_ (by assumption))); done)
          clear hWr
          refine bodyPost_ret (v := .tuple #[idVal (k, 0), .int .i64 (headF t k)]) ?_ rfl ⟨by first | (rw [HF.out]; done) | (rw [HF.out]; rfl), sx⟩
          simp [results, Try.f18, go_sem, idVal, s1.cell (j := 0) rfl, s1.cell (j := 1) rfl]
      · obtain rfl : k = t.length := by omega
        go_wp2_with fail
        clear t0 lt1 lt2 bt2 br2 hxw
        go_loopw [6] (fun i wr => ∃ k : Nat, k ≤ t.length ∧ i = .int .i64 k ∧ (idsTo t k 0).find? (fun x => formF t x != 0) = none ∧ Ext W1 wr) (fun i _ => t.length - (intOf i).toNat)
        case atStart => exact ⟨0, Nat.zero_le _, rfl, rfl, hxx⟩
        case round =>
          obtain ⟨k, hk, rfl, hno, hx⟩ := hrel
          have HNO := hide hno
          clear hno
          have bt2 := btW.ext hx
          have br2 := brW.ext hx
          have hxw := hx1.trans hx
          have t0 : wr.cell? ⟨w.heap.size, 0, none⟩ = some (.slice A t.length c) := bt2.cell (j := 0) rfl
          have lt1 := bt2.lt
          have lt2 := br2.lt
          by_cases hlt : k < t.length
          · obtain ⟨b, off, rfl, hel⟩ := HC.out (by omega)
            obtain ⟨_, _, v2, c2, hs2⟩ := hel k hlt
            obtain ⟨A2, k2, rfl, _, _, hc2⟩ := hs2.at_
            have hne := hS.ne _ (List.getElem_mem hlt)
            clear hel hs2 hc2
            go_wp2_with fail
            clear t0 bt2 br2 hxw lt1 lt2
            go_loopw [7] (fun i wr => ∃ j : Nat, j ≤ t[k].evs.length ∧ i = .int .i64 j ∧ (idsTo t k j).find? (fun x => formF t x != 0) = none ∧ Ext W1 wr) (fun i _ => t[k].evs.length - (intOf i).toNat)
            case atStart => exact ⟨0, Nat.zero_le _, rfl, HNO.out, hx⟩
            case round =>
              clear hx
              obtain ⟨j, hj, rfl, hno2, hx⟩ := hrel
              have HNO2 := hide hno2
              clear hno2
              have bt2 := btW.ext hx
              have br2 := brW.ext hx
              have hxw := hx1.trans hx
              have t0 : wr.cell? ⟨w.heap.size, 0, none⟩ = some (.slice (some ⟨b, off, none⟩) t.length c) := bt2.cell (j := 0) rfl
              have lt1 := bt2.lt
              have lt2 := br2.lt
              have c2' := hxw.cellAt c2
              by_cases hlj : j < t[k].evs.length
              · have hxi : (k, j + 1) ∈ ids t := mem_ids.2 ⟨hlt, by simp, hlj⟩
                have HXI := hide hxi
                clear hxi
                go_wp2_with fail
                refine (HFO.out k j hlt hlj _ hxw).mono ?_
                rintro e w2 ⟨rfl, he2⟩
                by_cases hz : formF t (k, j + 1) = 0
                · have HN := hide (findG_next (P := fun x => formF t x != 0) HNO2.out (by simp [hz]))
                  rw [hz]
                  clear hz
                  go_wp2_with fail
                  go_roundw
                  case rel => exact ⟨j + 1, hlj, by go_num, HN.out, hx.trans he2⟩
                  case measure => simp [intOf]; omega
                · have HF := hide (fault_form HIN.out H0.out (findG_stop (P := fun x => formF t x != 0) hlt hlj HNO2.out (by simp [hz])))
                  have hne2 : ((formF t (k, j + 1) : Int) != 0) = true := by simp; omega
                  have hne3 : ¬ ((formF t (k, j + 1) : Int) = 0) := by omega
                  have br3 := br2.ext he2
                  have f0 := br3.frozen 0
                  have f1 := br3.frozen 1
                  have r0 := br3.cell (j := 0) rfl
                  have r1 := br3.cell (j := 1) rfl
                  have hxw2 := hxw.trans he2
                  go_wp2_with fail
                  obtain ⟨Wr, hWr⟩ : ∃ Wr, ((w2).setCell ⟨w.heap.size + 1, 0, none⟩ (Value.int .i64 k)).setCell ⟨w.heap.size + 1, 1, none⟩ (Value.int .i64 ((j : Int) + 1)) = Wr := ⟨_, rfl⟩
                  rw [hWr]
                  have s1 : BoxN Wr (w.heap.size + 1) 28 #[.int .i64 k, .int .i64 ((j : Int) + 1)] := by rw [← hWr]; ((repeat (first | with_reducible assumption | with_reducible exact KeepsFrom.refl _ _ | with_reducible refine KF.set ?_ _ _ | with_reducible refine KF.alloc ?_ _ | with_reducible refine KF.drew ?_ | with_reducible refine KF.drewN ?_ _ | with_reducible refine KF.ext ?_ (by assumption) | with_reducible exact Below.refl _ _ | with_reducible refine BL.set ?_ _ _ _ (by omega) | with_reducible refine BL.alloc ?_ _ (by omega) | with_reducible refine BL.drew ?_ | with_reducible refine BL.drewN ?_ _ | with_reducible refine BL.ext ?_ (by assumption) (by omega) | with_reducible exact Ext.refl _ | with_reducible refine Ext.set ?_ (by omega) _ | with_reducible refine Ext.alloc ?_ _ | with_reducible refine Ext.drew ?_ | with_reducible refine Ext.drewN ?_ _ | with_reducible refine Ext.trans ?_ (by assumption) | with_reducible refine BoxN.alloc ?_ _ | with_reducible refine BoxN.drew ?_ | with_reducible refine BoxN.drewN ?_ _ | with_reducible refine BoxN.other ?_ (by omega) _ | with_reducible refine BoxN.set ?_ _ _ | with_reducible apply BoxN.set1 | with_reducible apply BoxN.set2_1 | with_reducible apply BoxN.set2_0 | with_reducible apply BoxN.set5_4 | with_reducible apply BoxN.set5_3 | with_reducible apply BoxN.set5_2 | with_reducible apply BoxN.set5_1 | with_reducible apply BoxN.set5_0 | with_reducible apply BoxN.set3_2 | with_reducible apply BoxN.set3_1 | with_reducible apply BoxN.set3_0 | with_reducible apply BoxN.set4_3 | with_reducible apply BoxN.set4_2 | with_reducible apply BoxN.set4_1 | with_reducible apply BoxN.set4_0 | with_reducible refine BoxN.ext ?_ (by assumption))); done)
                  have sx : Ext w Wr := by rw [← hWr]; ((repeat (first | with_reducible assumption | with_reducible exact KeepsFrom.refl _ _ | with_reducible refine KF.set ?_ _ _ | with_reducible refine KF.alloc ?_ _ | with_reducible refine KF.drew ?_ | with_reducible refine KF.drewN ?_ _ | with_reducible refine KF.ext ?_ (by assumption) | with_reducible exact Below.refl _ _ | with_reducible refine BL.set ?_ _ _ _ (by omega) | with_reducible refine BL.alloc ?_ _ (by omega) | with_reducible refine BL.drew ?_ | with_reducible refine BL.drewN ?_ _ | with_reducible refine BL.ext ?_ (by assumption) (by omega) | with_reducible exact Ext.refl _ | with_reducible refine Ext.set ?_ (by omega) _ | with_reducible refine Ext.alloc ?_ _ | with_reducible refine Ext.drew ?_ | with_reducible refine Ext.drewN ?_ _ | with_reducible refine Ext.trans ?_ (by assumption) | with_reducible refine BoxN.alloc ?_ _ | with_reducible refine BoxN.drew ?_ | with_reducible refine BoxN.drewN ?_ _ | with_reducible refine BoxN.other ?_ (by omega) _ | with_reducible refine BoxN.set ?_ _ _ | with_reducible apply BoxN.set1 | with_reducible apply BoxN.set2_1 | with_reducible apply BoxN.set2_0 | with_reducible apply BoxN.set5_4 | with_reducible apply BoxN.set5_3 | with_reducible apply BoxN.set5_2 | with_reducible apply BoxN.set5_1 | with_reducible apply BoxN.set5_0 | with_reducible apply BoxN.set3_2 | with_reducible apply BoxN.set3_1 | with_reducible apply BoxN.set3_0 | with_reducible apply BoxN.set4_3 | with_reducible apply BoxN.set4_2 | with_reducible apply BoxN.set4_1 | with_reducible apply BoxN.set4_0 | with_reducible refine BoxN.ext ?_ (by assumption))); done)
                  clear hWr
                  refine bodyPost_ret (v := .tuple #[idVal (k, j + 1), .int .i64 (formF t (k, j + 1))]) ?_ rfl ⟨by first | (rw [HF.out]; done) | (rw [HF.out]; rfl), sx⟩
                  simp [results, Try.f18, go_sem, idVal, s1.cell (j := 0) rfl, s1.cell (j := 1) rfl]
              · obtain rfl : j = t[k].evs.length := by omega
                go_wp2_with fail
                go_roundw
                case rel => exact ⟨k + 1, hlt, by go_num, by rw [← idsTo_next t k hlt]; exact HNO2.out, hx⟩
                case measure => simp [intOf]; omega
          · obtain rfl : k = t.length := by omega
            have HALL := hide (findG_all HNO.out)
            have HFN := hide HALL.out
            have HPA := hide (fun p j (hx : (p, j + 1) ∈ ids t) w' (he : Ext w w') => (show ((j + 1 : Nat) : Int) = (j : Int) + 1 from by push_cast; rfl) ▸ HPA0.out p (j + 1) hx (formF_formed (findG_zero HFN.out _ hx)) w' he)
            clear HALL
            go_wp2_with fail
            clear t0 lt1 lt2 bt2 br2 hxw HNO
            go_loopw [9] (fun i wr => ∃ k : Nat, k ≤ t.length ∧ i = .int .i64 k ∧ (idsTo t k 0).find? (fun x => pairF t x != 0) = none ∧ Ext W1 wr) (fun i _ => t.length - (intOf i).toNat)
            case atStart => exact ⟨0, Nat.zero_le _, rfl, rfl, hx⟩
            case round =>
              clear hx
              obtain ⟨k, hk, rfl, hno, hx⟩ := hrel
              have HNO := hide hno
              clear hno
              have bt2 := btW.ext hx
              have br2 := brW.ext hx
              have hxw := hx1.trans hx
              have t0 : wr.cell? ⟨w.heap.size, 0, none⟩ = some (.slice A t.length c) := bt2.cell (j := 0) rfl
              have lt1 := bt2.lt
              have lt2 := br2.lt
              by_cases hlt : k < t.length
              · obtain ⟨b, off, rfl, hel⟩ := HC.out (by omega)
                obtain ⟨_, _, v2, c2, hs2⟩ := hel k hlt
                obtain ⟨A2, k2, rfl, _, _, hc2⟩ := hs2.at_
                have hne := hS.ne _ (List.getElem_mem hlt)
                clear hel hs2 hc2
                go_wp2_with fail
                clear t0 bt2 br2 hxw lt1 lt2
                go_loopw [10] (fun i wr => ∃ j : Nat, j ≤ t[k].evs.length ∧ i = .int .i64 j ∧ (idsTo t k j).find? (fun x => pairF t x != 0) = none ∧ Ext W1 wr) (fun i _ => t[k].evs.length - (intOf i).toNat)
                case atStart => exact ⟨0, Nat.zero_le _, rfl, HNO.out, hx⟩
                case round =>
                  clear hx
                  obtain ⟨j, hj, rfl, hno2, hx⟩ := hrel
                  have HNO2 := hide hno2
                  clear hno2
                  have bt2 := btW.ext hx
                  have br2 := brW.ext hx
                  have hxw := hx1.trans hx
                  have t0 : wr.cell? ⟨w.heap.size, 0, none⟩ = some (.slice (some ⟨b, off, none⟩) t.length c) := bt2.cell (j := 0) rfl
                  have lt1 := bt2.lt
                  have lt2 := br2.lt
                  have c2' := hxw.cellAt c2
                  by_cases hlj : j < t[k].evs.length
                  · have hxi : (k, j + 1) ∈ ids t := mem_ids.2 ⟨hlt, by simp, hlj⟩
                    have HXI := hide hxi
                    clear hxi
                    go_wp2_with fail
                    have bxn := BoxN.new wr 28 #[.int .i64 k, .int .i64 ((j : Int) + 1)]
                    have hxn := hxw.alloc (.cells #[.int .i64 k, .int .i64 ((j : Int) + 1)] 28)
                    have hx1n := hx.alloc (.cells #[.int .i64 k, .int .i64 ((j : Int) + 1)] 28)
                    have brn := br2.alloc (.cells #[.int .i64 k, .int .i64 ((j : Int) + 1)] 28)
                    clear t0 lt1 lt2 c2' bt2 br2 hx hxw
                    generalize wr.heap.size = gx at *
                    generalize (wr.alloc (.cells #[.int .i64 k, .int .i64 ((j : Int) + 1)] 28)) = W3 at *
                    refine (HPA.out k j HXI.out _ hxn).mono ?_
                    rintro e w2 ⟨rfl, he2⟩
                    by_cases hz : pairF t (k, j + 1) = 0
                    · have HN := hide (findG_next (P := fun x => pairF t x != 0) HNO2.out (by simp [hz]))
                      rw [hz]
                      clear hz
                      go_wp2_with fail
                      go_roundw
                      case rel => exact ⟨j + 1, hlj, by go_num, HN.out, hx1n.trans he2⟩
                      case measure => simp [intOf]; omega
                    · have HF := hide (fault_pair HIN.out H0.out HFN.out (findG_stop (P := fun x => pairF t x != 0) hlt hlj HNO2.out (by simp [hz])))
                      have hne2 : ((pairF t (k, j + 1) : Int) != 0) = true := by simp; omega
                      have hne3 : ¬ ((pairF t (k, j + 1) : Int) = 0) := by omega
                      have br3 := brn.ext he2
                      have f0 := br3.frozen 0
                      have f1 := br3.frozen 1
                      have r0 := br3.cell (j := 0) rfl
                      have r1 := br3.cell (j := 1) rfl
                      have bx3 := bxn.ext he2
                      have x0 := bx3.cell (j := 0) rfl
                      have x1 := bx3.cell (j := 1) rfl
                      have hxw2 := hxn.trans he2
                      go_wp2_with fail
                      obtain ⟨Wr, hWr⟩ : ∃ Wr, ((w2).setCell ⟨w.heap.size + 1, 0, none⟩ (Value.int .i64 k)).setCell ⟨w.heap.size + 1, 1, none⟩ (Value.int .i64 ((j : Int) + 1)) = Wr := ⟨_, rfl⟩
                      rw [hWr]
                      have s1 : BoxN Wr (w.heap.size + 1) 28 #[.int .i64 k, .int .i64 ((j : Int) + 1)] := by rw [← hWr]; ((repeat (first | with_reducible assumption | with_reducible exact KeepsFrom.refl _ _ | with_reducible refine KF.set ?_ _ _ | with_reducible refine KF.alloc ?_ _ | with_reducible refine KF.drew ?_ | with_reducible refine KF.drewN ?_ _ | with_reducible refine KF.ext ?_ (by assumption) | with_reducible exact Below.refl _ _ | with_reducible refine BL.set ?_ _ _ _ (by omega) | with_reducible refine BL.alloc ?_ _ (by omega) | with_reducible refine BL.drew ?_ | with_reducible refine BL.drewN ?_ _ | with_reducible refine BL.ext ?_ (by assumption) (by omega) | with_reducible exact Ext.refl _ | with_reducible refine Ext.set ?_ (by omega) _ | with_reducible refine Ext.alloc ?_ _ | with_reducible refine Ext.drew ?_ | with_reducible refine Ext.drewN ?_ _ | with_reducible refine Ext.trans ?_ (by assumption) | with_reducible refine BoxN.alloc ?_ _ | with_reducible refine BoxN.drew ?_ | with_reducible refine BoxN.drewN ?_ _ | with_reducible refine BoxN.other ?_ (by omega) _ | with_reducible refine BoxN.set ?_ _ _ | with_reducible apply BoxN.set1 | with_reducible apply BoxN.set2_1 | with_reducible apply BoxN.set2_0 | with_reducible apply BoxN.set5_4 | with_reducible apply BoxN.set5_3 | with_reducible apply BoxN.set5_2 | with_reducible apply BoxN.set5_1 | with_reducible apply BoxN.set5_0 | with_reducible apply BoxN.set3_2 | with_reducible apply BoxN.set3_1 | with_reducible apply BoxN.set3_0 | with_reducible apply BoxN.set4_3 | with_reducible apply BoxN.set4_2 | with_reducible apply BoxN.set4_1 | with_reducible apply BoxN.set4_0 | with_reducible refine BoxN.ext ?_ (by assumption))); done)
                      have sx : Ext w Wr := by rw [← hWr]; ((repeat (first | with_reducible assumption | with_reducible exact KeepsFrom.refl _ _ | with_reducible refine KF.set ?_ _ _ | with_reducible refine KF.alloc ?_ _ | with_reducible refine KF.drew ?_ | with_reducible refine KF.drewN ?_ _ | with_reducible refine KF.ext ?_ (by assumption) | with_reducible exact Below.refl _ _ | with_reducible refine BL.set ?_ _ _ _ (by omega) | with_reducible refine BL.alloc ?_ _ (by omega) | with_reducible refine BL.drew ?_ | with_reducible refine BL.drewN ?_ _ | with_reducible refine BL.ext ?_ (by assumption) (by omega) | with_reducible exact Ext.refl _ | with_reducible refine Ext.set ?_ (by omega) _ | with_reducible refine Ext.alloc ?_ _ | with_reducible refine Ext.drew ?_ | with_reducible refine Ext.drewN ?_ _ | with_reducible refine Ext.trans ?_ (by assumption) | with_reducible refine BoxN.alloc ?_ _ | with_reducible refine BoxN.drew ?_ | with_reducible refine BoxN.drewN ?_ _ | with_reducible refine BoxN.other ?_ (by omega) _ | with_reducible refine BoxN.set ?_ _ _ | with_reducible apply BoxN.set1 | with_reducible apply BoxN.set2_1 | with_reducible apply BoxN.set2_0 | with_reducible apply BoxN.set5_4 | with_reducible apply BoxN.set5_3 | with_reducible apply BoxN.set5_2 | with_reducible apply BoxN.set5_1 | with_reducible apply BoxN.set5_0 | with_reducible apply BoxN.set3_2 | with_reducible apply BoxN.set3_1 | with_reducible apply BoxN.set3_0 | with_reducible apply BoxN.set4_3 | with_reducible apply BoxN.set4_2 | with_reducible apply BoxN.set4_1 | with_reducible apply BoxN.set4_0 | with_reducible refine BoxN.ext ?_ (by assumption))); done)
                      clear hWr
                      refine bodyPost_ret (v := .tuple #[idVal (k, j + 1), .int .i64 (pairF t (k, j + 1))]) ?_ rfl ⟨by first | (rw [HF.out]; done) | (rw [HF.out]; rfl), sx⟩
                      simp [results, Try.f18, go_sem, idVal, s1.cell (j := 0) rfl, s1.cell (j := 1) rfl]
                  · obtain rfl : j = t[k].evs.length := by omega
                    go_wp2_with fail
                    go_roundw
                    case rel => exact ⟨k + 1, hlt, by go_num, by rw [← idsTo_next t k hlt]; exact HNO2.out, hx⟩
                    case measure => simp [intOf]; omega
              · obtain rfl : k = t.length := by omega
                have HALL := hide (findG_all HNO.out)
                have HPN := hide HALL.out
                have hP : Paired t := ⟨fun x hx => formF_formed (findG_zero HFN.out x hx), findG_zero HPN.out⟩
                have HPS := hide (fun p j (hx : (p, j + 1) ∈ ids t) w' (he : Ext w w') => (show ((j + 1 : Nat) : Int) = (j : Int) + 1 from by push_cast; rfl) ▸ HPS0.out p (j + 1) hx hP (ids_few hS.np hS.ne HIN.out H0.out) w' he)
                have HAC := hide (HAC0.out hP.pair hP.form)
                clear hP HALL
                go_wp2_with fail
                refine (HAC.out _ hxw).mono ?_
                rintro e w2 ⟨b, rfl, hb, he2⟩
                cases b
                · go_wp2_with fail
                  replace hx := hx.trans he2
                  clear t0 lt1 lt2 bt2 br2 hxw he2 hb HNO
                  obtain ⟨WB, hWB⟩ : ∃ WB : World, w2 = WB := ⟨_, rfl⟩
                  rw [hWB] at hx ⊢
                  clear hWB
                  go_loopw [13] (fun i wr => ∃ k : Nat, k ≤ t.length ∧ i = .int .i64 k ∧ (idsTo t k 0).find? (hbB t) = none ∧ Ext W1 wr) (fun i _ => t.length - (intOf i).toNat)
                  case atStart => exact ⟨0, Nat.zero_le _, rfl, rfl, hx⟩
                  case round =>
                    clear hx
                    obtain ⟨k, hk, rfl, hno, hx⟩ := hrel
                    have HNO := hide hno
                    clear hno
                    have bt2 := btW.ext hx
                    have br2 := brW.ext hx
                    have hxw := hx1.trans hx
                    have t0 : wr.cell? ⟨w.heap.size, 0, none⟩ = some (.slice A t.length c) := bt2.cell (j := 0) rfl
                    have lt1 := bt2.lt
                    have lt2 := br2.lt
                    by_cases hlt : k < t.length
                    · obtain ⟨b, off, rfl, hel⟩ := HC.out (by omega)
                      obtain ⟨_, _, v2, c2, hs2⟩ := hel k hlt
                      obtain ⟨A2, k2, rfl, _, _, hc2⟩ := hs2.at_
                      have hne := hS.ne _ (List.getElem_mem hlt)
                      clear hel hs2 hc2
                      go_wp2_with fail
                      clear t0 bt2 br2 hxw lt1 lt2
                      go_loopw [14] (fun i wr => ∃ j : Nat, j ≤ t[k].evs.length ∧ i = .int .i64 j ∧ (idsTo t k j).find? (hbB t) = none ∧ Ext W1 wr) (fun i _ => t[k].evs.length - (intOf i).toNat)
                      case atStart => exact ⟨0, Nat.zero_le _, rfl, HNO.out, hx⟩
                      case round =>
                        clear hx
                        obtain ⟨j, hj, rfl, hno2, hx⟩ := hrel
                        have HNO2 := hide hno2
                        clear hno2
                        have bt2 := btW.ext hx
                        have br2 := brW.ext hx
                        have hxw := hx1.trans hx
                        have t0 : wr.cell? ⟨w.heap.size, 0, none⟩ = some (.slice (some ⟨b, off, none⟩) t.length c) := bt2.cell (j := 0) rfl
                        have lt1 := bt2.lt
                        have lt2 := br2.lt
                        have c2' := hxw.cellAt c2
                        by_cases hlj : j < t[k].evs.length
                        · have hxi : (k, j + 1) ∈ ids t := mem_ids.2 ⟨hlt, by simp, hlj⟩
                          have HXI := hide hxi
                          clear hxi
                          go_wp2_with fail
                          have bxn := BoxN.new wr 28 #[.int .i64 k, .int .i64 ((j : Int) + 1)]
                          have hxn := hxw.alloc (.cells #[.int .i64 k, .int .i64 ((j : Int) + 1)] 28)
                          have hx1n := hx.alloc (.cells #[.int .i64 k, .int .i64 ((j : Int) + 1)] 28)
                          have brn := br2.alloc (.cells #[.int .i64 k, .int .i64 ((j : Int) + 1)] 28)
                          clear t0 lt1 lt2 c2' bt2 br2 hx hxw
                          generalize wr.heap.size = gx at *
                          generalize (wr.alloc (.cells #[.int .i64 k, .int .i64 ((j : Int) + 1)] 28)) = W3 at *
                          refine (HPS.out k j HXI.out _ hxn).mono ?_
                          rintro e w2 ⟨v9, gs, S, rfl, hgr, hgl, hiff, he2⟩
                          have hyg : k < gs.length := by rw [hgl.1]; exact hlt
                          have hgl2 : gs[k].2 = t[k].evs.length + 1 := hgl.2 k hyg hlt
                          have hHB := hide (hiff (k, j + 1) HXI.out)
                          obtain ⟨gO, offO, capO, curO, rfl, hBO, hbO, hO1, hO2, hO3, hcO⟩ := hgr.out.open_ (by omega)
                          have o0 : w2.cell? ⟨gO, offO + k, none⟩ = some (.slice (some ⟨gs[k].1, 0, none⟩) gs[k].2 gs[k].2) := hbO.cell (hcO k _ (by rw [List.getElem?_map, List.getElem?_eq_getElem hyg]; rfl))
                          have rr0 : w2.cell? ⟨gs[k].1, j + 1, none⟩ = some (.bool (decide ((k, j + 1) ∈ S))) := (hgr.row k hyg).1.cell (rowM_get (by rw [hgl2]; omega))
                          have hlO := hbO.lt
                          have hlR := (hgr.row k hyg).1.lt
                          have hi1 : (k : Int) < (gs.length : Int) := by omega
                          have hi3 : (j : Int) + 1 < (gs[k].2 : Int) := by rw [hgl2]; omega
                          have hcap : gs[k].2 ≤ 1000001 := by rw [hgl2]; omega
                          have hi2 : (0 : Int) ≤ (k : Int) := by omega
                          have hi4 : (0 : Int) ≤ (j : Int) + 1 := by omega
                          have br3 := brn.ext he2
                          have f0 := br3.frozen 0
                          have f1 := br3.frozen 1
                          have r0 := br3.cell (j := 0) rfl
                          have r1 := br3.cell (j := 1) rfl
                          have bx3 := bxn.ext he2
                          have x0 := bx3.cell (j := 0) rfl
                          have x1 := bx3.cell (j := 1) rfl
                          have hxw2 := hxn.trans he2
                          clear hgr hgl hiff hbO hcO hgl2
                          unfold maxLen at hO2
                          generalize gs[k].1 = gb at *
                          generalize gs[k].2 = gn at *
                          cases hz : decide ((k, j + 1) ∈ S)
                          · have HN := hide (findG_next (P := hbB t) HNO2.out (hbB_false fun h => of_decide_eq_false hz (hHB.out.2 h)))
                            rw [hz] at rr0
                            clear hz
                            go_wp2_with fail
                            go_roundw
                            case rel => exact ⟨j + 1, hlj, by go_num, HN.out, hx1n.trans he2⟩
                            case measure => simp [intOf]; omega
                          · have HF := hide (fault_hb HIN.out H0.out HFN.out HPN.out (show hbFirst t = _ from findG_stop (P := hbB t) hlt hlj HNO2.out (hbB_true (hHB.out.1 (of_decide_eq_true hz)))))
                            rw [hz] at rr0
                            clear hz
                            go_wp2_with fail
                            obtain ⟨Wr, hWr⟩ : ∃ Wr, ((w2).setCell ⟨w.heap.size + 1, 0, none⟩ (Value.int .i64 k)).setCell ⟨w.heap.size + 1, 1, none⟩ (Value.int .i64 ((j : Int) + 1)) = Wr := ⟨_, rfl⟩
                            rw [hWr]
                            have s1 : BoxN Wr (w.heap.size + 1) 28 #[.int .i64 k, .int .i64 ((j : Int) + 1)] := by rw [← hWr]; ((repeat (first | with_reducible assumption | with_reducible exact KeepsFrom.refl _ _ | with_reducible refine KF.set ?_ _ _ | with_reducible refine KF.alloc ?_ _ | with_reducible refine KF.drew ?_ | with_reducible refine KF.drewN ?_ _ | with_reducible refine KF.ext ?_ (by assumption) | with_reducible exact Below.refl _ _ | with_reducible refine BL.set ?_ _ _ _ (by omega) | with_reducible refine BL.alloc ?_ _ (by omega) | with_reducible refine BL.drew ?_ | with_reducible refine BL.drewN ?_ _ | with_reducible refine BL.ext ?_ (by assumption) (by omega) | with_reducible exact Ext.refl _ | with_reducible refine Ext.set ?_ (by omega) _ | with_reducible refine Ext.alloc ?_ _ | with_reducible refine Ext.drew ?_ | with_reducible refine Ext.drewN ?_ _ | with_reducible refine Ext.trans ?_ (by assumption) | with_reducible refine BoxN.alloc ?_ _ | with_reducible refine BoxN.drew ?_ | with_reducible refine BoxN.drewN ?_ _ | with_reducible refine BoxN.other ?_ (by omega) _ | with_reducible refine BoxN.set ?_ _ _ | with_reducible apply BoxN.set1 | with_reducible apply BoxN.set2_1 | with_reducible apply BoxN.set2_0 | with_reducible apply BoxN.set5_4 | with_reducible apply BoxN.set5_3 | with_reducible apply BoxN.set5_2 | with_reducible apply BoxN.set5_1 | with_reducible apply BoxN.set5_0 | with_reducible apply BoxN.set3_2 | with_reducible apply BoxN.set3_1 | with_reducible apply BoxN.set3_0 | with_reducible apply BoxN.set4_3 | with_reducible apply BoxN.set4_2 | with_reducible apply BoxN.set4_1 | with_reducible apply BoxN.set4_0 | with_reducible refine BoxN.ext ?_ (by assumption))); done)
                            have sx : Ext w Wr := by rw [← hWr]; ((repeat (first | with_reducible assumption | with_reducible exact KeepsFrom.refl _ _ | with_reducible refine KF.set ?_ _ _ | with_reducible refine KF.alloc ?_ _ | with_reducible refine KF.drew ?_ | with_reducible refine KF.drewN ?_ _ | with_reducible refine KF.ext ?_ (by assumption) | with_reducible exact Below.refl _ _ | with_reducible refine BL.set ?_ _ _ _ (by omega) | with_reducible refine BL.alloc ?_ _ (by omega) | with_reducible refine BL.drew ?_ | with_reducible refine BL.drewN ?_ _ | with_reducible refine BL.ext ?_ (by assumption) (by omega) | with_reducible exact Ext.refl _ | with_reducible refine Ext.set ?_ (by omega) _ | with_reducible refine Ext.alloc ?_ _ | with_reducible refine Ext.drew ?_ | with_reducible refine Ext.drewN ?_ _ | with_reducible refine Ext.trans ?_ (by assumption) | with_reducible refine BoxN.alloc ?_ _ | with_reducible refine BoxN.drew ?_ | with_reducible refine BoxN.drewN ?_ _ | with_reducible refine BoxN.other ?_ (by omega) _ | with_reducible refine BoxN.set ?_ _ _ | with_reducible apply BoxN.set1 | with_reducible apply BoxN.set2_1 | with_reducible apply BoxN.set2_0 | with_reducible apply BoxN.set5_4 | with_reducible apply BoxN.set5_3 | with_reducible apply BoxN.set5_2 | with_reducible apply BoxN.set5_1 | with_reducible apply BoxN.set5_0 | with_reducible apply BoxN.set3_2 | with_reducible apply BoxN.set3_1 | with_reducible apply BoxN.set3_0 | with_reducible apply BoxN.set4_3 | with_reducible apply BoxN.set4_2 | with_reducible apply BoxN.set4_1 | with_reducible apply BoxN.set4_0 | with_reducible refine BoxN.ext ?_ (by assumption))); done)
                            clear hWr
                            refine bodyPost_ret (v := .tuple #[idVal (k, j + 1), .int .i64 10]) ?_ rfl ⟨by first | (rw [HF.out]; done) | (rw [HF.out]; rfl), sx⟩
                            simp [results, Try.f18, go_sem, idVal, s1.cell (j := 0) rfl, s1.cell (j := 1) rfl]
                        · obtain rfl : j = t[k].evs.length := by omega
                          go_wp2_with fail
                          go_roundw
                          case rel => exact ⟨k + 1, hlt, by go_num, by rw [← idsTo_next t k hlt]; exact HNO2.out, hx⟩
                          case measure => simp [intOf]; omega
                    · obtain rfl : k = t.length := by omega
                      have HALL := hide (findG_all HNO.out)
                      have HF := hide (fault_ok HIN.out H0.out HFN.out HPN.out (show hbFirst t = none from HALL.out))
                      have f0 := br2.frozen 0
                      have f1 := br2.frozen 1
                      have r0 := br2.cell (j := 0) rfl
                      have r1 := br2.cell (j := 1) rfl
                      go_wp2_with fail
                      obtain ⟨Wr, hWr⟩ : ∃ Wr, (wr.setCell ⟨w.heap.size + 1, 0, none⟩ (Value.int .i64 0)).setCell ⟨w.heap.size + 1, 1, none⟩ (Value.int .i64 0) = Wr := ⟨_, rfl⟩
                      rw [hWr]
                      have s1 : BoxN Wr (w.heap.size + 1) 28 #[.int .i64 0, .int .i64 0] := by rw [← hWr]; ((repeat (first | with_reducible assumption | with_reducible exact KeepsFrom.refl _ _ | with_reducible refine KF.set ?_ _ _ | with_reducible refine KF.alloc ?_ _ | with_reducible refine KF.drew ?_ | with_reducible refine KF.drewN ?_ _ | with_reducible refine KF.ext ?_ (by assumption) | with_reducible exact Below.refl _ _ | with_reducible refine BL.set ?_ _ _ _ (by omega) | with_reducible refine BL.alloc ?_ _ (by omega) | with_reducible refine BL.drew ?_ | with_reducible refine BL.drewN ?_ _ | with_reducible refine BL.ext ?_ (by assumption) (by omega) | with_reducible exact Ext.refl _ | with_reducible refine Ext.set ?_ (by omega) _ | with_reducible refine Ext.alloc ?_ _ | with_reducible refine Ext.drew ?_ | with_reducible refine Ext.drewN ?_ _ | with_reducible refine Ext.trans ?_ (by assumption) | with_reducible refine BoxN.alloc ?_ _ | with_reducible refine BoxN.drew ?_ | with_reducible refine BoxN.drewN ?_ _ | with_reducible refine BoxN.other ?_ (by omega) _ | with_reducible refine BoxN.set ?_ _ _ | with_reducible apply BoxN.set1 | with_reducible apply BoxN.set2_1 | with_reducible apply BoxN.set2_0 | with_reducible apply BoxN.set5_4 | with_reducible apply BoxN.set5_3 | with_reducible apply BoxN.set5_2 | with_reducible apply BoxN.set5_1 | with_reducible apply BoxN.set5_0 | with_reducible apply BoxN.set3_2 | with_reducible apply BoxN.set3_1 | with_reducible apply BoxN.set3_0 | with_reducible apply BoxN.set4_3 | with_reducible apply BoxN.set4_2 | with_reducible apply BoxN.set4_1 | with_reducible apply BoxN.set4_0 | with_reducible refine BoxN.ext ?_ (by assumption))); done)
                      have sx : Ext w Wr := by rw [← hWr]; ((repeat (first | with_reducible assumption | with_reducible exact KeepsFrom.refl _ _ | with_reducible refine KF.set ?_ _ _ | with_reducible refine KF.alloc ?_ _ | with_reducible refine KF.drew ?_ | with_reducible refine KF.drewN ?_ _ | with_reducible refine KF.ext ?_ (by assumption) | with_reducible exact Below.refl _ _ | with_reducible refine BL.set ?_ _ _ _ (by omega) | with_reducible refine BL.alloc ?_ _ (by omega) | with_reducible refine BL.drew ?_ | with_reducible refine BL.drewN ?_ _ | with_reducible refine BL.ext ?_ (by assumption) (by omega) | with_reducible exact Ext.refl _ | with_reducible refine Ext.set ?_ (by omega) _ | with_reducible refine Ext.alloc ?_ _ | with_reducible refine Ext.drew ?_ | with_reducible refine Ext.drewN ?_ _ | with_reducible refine Ext.trans ?_ (by assumption) | with_reducible refine BoxN.alloc ?_ _ | with_reducible refine BoxN.drew ?_ | with_reducible refine BoxN.drewN ?_ _ | with_reducible refine BoxN.other ?_ (by omega) _ | with_reducible refine BoxN.set ?_ _ _ | with_reducible apply BoxN.set1 | with_reducible apply BoxN.set2_1 | with_reducible apply BoxN.set2_0 | with_reducible apply BoxN.set5_4 | with_reducible apply BoxN.set5_3 | with_reducible apply BoxN.set5_2 | with_reducible apply BoxN.set5_1 | with_reducible apply BoxN.set5_0 | with_reducible apply BoxN.set3_2 | with_reducible apply BoxN.set3_1 | with_reducible apply BoxN.set3_0 | with_reducible apply BoxN.set4_3 | with_reducible apply BoxN.set4_2 | with_reducible apply BoxN.set4_1 | with_reducible apply BoxN.set4_0 | with_reducible refine BoxN.ext ?_ (by assumption))); done)
                      clear hWr
                      refine bodyPost_ret (v := .tuple #[idVal (0, 0), .int .i64 0]) ?_ rfl ⟨by first | (rw [HF.out]; done) | (rw [HF.out]; rfl), sx⟩
                      simp [results, Try.f18, go_sem, idVal, s1.cell (j := 0) rfl, s1.cell (j := 1) rfl]

                · have HNB := hide (show (ids t).find? (hbB t) = none from by
                    rw [List.find?_eq_none]; intro x hx; rw [hbB_false (hb rfl x hx)]; exact Bool.false_ne_true)
                  have HF := hide (fault_ok HIN.out H0.out HFN.out HPN.out (show hbFirst t = none from HNB.out))
                  have br3 := br2.ext he2
                  have f0 := br3.frozen 0
                  have f1 := br3.frozen 1
                  have r0 := br3.cell (j := 0) rfl
                  have r1 := br3.cell (j := 1) rfl
                  have hxw2 := hxw.trans he2
                  go_wp2_with fail
                  obtain ⟨Wr, hWr⟩ : ∃ Wr, (w2.setCell ⟨w.heap.size + 1, 0, none⟩ (Value.int .i64 0)).setCell ⟨w.heap.size + 1, 1, none⟩ (Value.int .i64 0) = Wr := ⟨_, rfl⟩
                  rw [hWr]
                  have s1 : BoxN Wr (w.heap.size + 1) 28 #[.int .i64 0, .int .i64 0] := by rw [← hWr]; ((repeat (first | with_reducible assumption | with_reducible exact KeepsFrom.refl _ _ | with_reducible refine KF.set ?_ _ _ | with_reducible refine KF.alloc ?_ _ | with_reducible refine KF.drew ?_ | with_reducible refine KF.drewN ?_ _ | with_reducible refine KF.ext ?_ (by assumption) | with_reducible exact Below.refl _ _ | with_reducible refine BL.set ?_ _ _ _ (by omega) | with_reducible refine BL.alloc ?_ _ (by omega) | with_reducible refine BL.drew ?_ | with_reducible refine BL.drewN ?_ _ | with_reducible refine BL.ext ?_ (by assumption) (by omega) | with_reducible exact Ext.refl _ | with_reducible refine Ext.set ?_ (by omega) _ | with_reducible refine Ext.alloc ?_ _ | with_reducible refine Ext.drew ?_ | with_reducible refine Ext.drewN ?_ _ | with_reducible refine Ext.trans ?_ (by assumption) | with_reducible refine BoxN.alloc ?_ _ | with_reducible refine BoxN.drew ?_ | with_reducible refine BoxN.drewN ?_ _ | with_reducible refine BoxN.other ?_ (by omega) _ | with_reducible refine BoxN.set ?_ _ _ | with_reducible apply BoxN.set1 | with_reducible apply BoxN.set2_1 | with_reducible apply BoxN.set2_0 | with_reducible apply BoxN.set5_4 | with_reducible apply BoxN.set5_3 | with_reducible apply BoxN.set5_2 | with_reducible apply BoxN.set5_1 | with_reducible apply BoxN.set5_0 | with_reducible apply BoxN.set3_2 | with_reducible apply BoxN.set3_1 | with_reducible apply BoxN.set3_0 | with_reducible apply BoxN.set4_3 | with_reducible apply BoxN.set4_2 | with_reducible apply BoxN.set4_1 | with_reducible apply BoxN.set4_0 | with_reducible refine BoxN.ext ?_ (by assumption))); done)
                  have sx : Ext w Wr := by rw [← hWr]; ((repeat (first | with_reducible assumption | with_reducible exact KeepsFrom.refl _ _ | with_reducible refine KF.set ?_ _ _ | with_reducible refine KF.alloc ?_ _ | with_reducible refine KF.drew ?_ | with_reducible refine KF.drewN ?_ _ | with_reducible refine KF.ext ?_ (by assumption) | with_reducible exact Below.refl _ _ | with_reducible refine BL.set ?_ _ _ _ (by omega) | with_reducible refine BL.alloc ?_ _ (by omega) | with_reducible refine BL.drew ?_ | with_reducible refine BL.drewN ?_ _ | with_reducible refine BL.ext ?_ (by assumption) (by omega) | with_reducible exact Ext.refl _ | with_reducible refine Ext.set ?_ (by omega) _ | with_reducible refine Ext.alloc ?_ _ | with_reducible refine Ext.drew ?_ | with_reducible refine Ext.drewN ?_ _ | with_reducible refine Ext.trans ?_ (by assumption) | with_reducible refine BoxN.alloc ?_ _ | with_reducible refine BoxN.drew ?_ | with_reducible refine BoxN.drewN ?_ _ | with_reducible refine BoxN.other ?_ (by omega) _ | with_reducible refine BoxN.set ?_ _ _ | with_reducible apply BoxN.set1 | with_reducible apply BoxN.set2_1 | with_reducible apply BoxN.set2_0 | with_reducible apply BoxN.set5_4 | with_reducible apply BoxN.set5_3 | with_reducible apply BoxN.set5_2 | with_reducible apply BoxN.set5_1 | with_reducible apply BoxN.set5_0 | with_reducible apply BoxN.set3_2 | with_reducible apply BoxN.set3_1 | with_reducible apply BoxN.set3_0 | with_reducible apply BoxN.set4_3 | with_reducible apply BoxN.set4_2 | with_reducible apply BoxN.set4_1 | with_reducible apply BoxN.set4_0 | with_reducible refine BoxN.ext ?_ (by assumption))); done)
                  clear hWr
                  refine bodyPost_ret (v := .tuple #[idVal (0, 0), .int .i64 0]) ?_ rfl ⟨by first | (rw [HF.out]; done) | (rw [HF.out]; rfl), sx⟩
                  simp [results, Try.f18, go_sem, idVal, s1.cell (j := 0) rfl, s1.cell (j := 1) rfl]
theorem rValid_any (u : Value) (t : Tr) (w : World) (hS : Small t) (hs : SlR 3 RPr w u t) :
    Calls Try.prog 34 #[.agg #[u]] w fun e w' => e = .returned (.bool (validL t)) ∧ Ext w w' := by
  have HF := hide (fun w' (he : Ext w w') => rFault_any u t w' hS (hs.ext RPr.keeps he))
  obtain ⟨A, c, rfl, _, hcm, _⟩ := hs.at_
  go_enter Try.func34, Try.ntmps34
  go_wp2_with fail
  refine (HF.out _ ((Ext.refl w).alloc _)).mono ?_
  rintro e w2 ⟨rfl, he2⟩
  unfold idVal
  go_wp2
  go_ret
  refine ⟨ret_bool ?_, Ext.alloc (Ext.trans ((Ext.refl w).alloc _) he2) _⟩
  unfold validL
  rw [Bool.eq_iff_iff]; simp
end Go.Proofs.Ytfdekchpckdeiaa

/- The contracts of Fault, Valid, Sender, Receiver, Count and of the reference, in the words of runs. No condition but on lengths. -/
namespace Go.Proofs.Ytfdekchpckdeiaa
set_option linter.unusedVariables false

def idA (x : Nat × Nat) : AV := .agg [.v (.int .i64 x.1), .v (.int .i64 x.2)]
theorem idA_rep (w : World) (F : Nat → Prop) (L : LMap) (x : Nat × Nat) : RepA w F L (idA x) (idVal x) := by
  refine RepL.agg (vs := #[.int .i64 x.1, .int .i64 x.2]) ?_
  exact RepL.cons (.v _ _ (.int _ _)) (RepL.cons (.v _ _ (.int _ _)) RepL.nil)
theorem repL_cons {w : World} {F : Nat → Prop} {L : LMap} {x : AV} {xs : List AV} {vs : List Value} (h : RepL w F L (x :: xs) vs) : ∃ v us, vs = v :: us ∧ RepA w F L x v ∧ RepL w F L xs us := by
  obtain ⟨h1, h2⟩ := h
  cases vs with
  | nil => simp at h1
  | cons v us => exact ⟨v, us, rfl, h2 0 x v rfl rfl, by simpa using h1, fun i a u ha hu => h2 (i + 1) a u ha hu⟩
theorem repL_nil {w : World} {F : Nat → Prop} {L : LMap} {vs : List Value} (h : RepL w F L [] vs) : vs = [] := by
  have := h.1
  exact List.eq_nil_of_length_eq_zero (by simpa using this.symm)
theorem repL_tr {w : World} {F : Nat → Prop} {L : LMap} {t : Tr} {xs : List AV} {vs : Array Value} (hn : Nm t) (h : RepL w F L (.agg [.v (eT t)] :: xs) vs.toList) : ∃ u us, vs = (.agg #[u] :: us).toArray ∧ SlR 3 RPr w u t ∧ RepL w F L xs us := by
  obtain ⟨v, us, h1, h2, h3⟩ := repL_cons h
  obtain ⟨cs, rfl, h4⟩ := h2.aggL
  obtain ⟨u, rest, h5, h6, h7⟩ := repL_cons h4
  have := repL_nil h7
  subst this
  have hcs : cs = #[u] := Array.toList_inj.1 (by rw [h5])
  subst hcs
  exact ⟨u, us, Array.toList_inj.1 (by rw [h1]), tr_in hn h6.vI, h3⟩

section
theorem fault_spec (t : Tr) (hS : Small t) (hN : Nm t) (b l : List Row) : ACalls Try.prog 17 [.agg [.v (eT t)]] b l (fun r b' l' => r = .tup [idA (faultL t).1, .v (.int .i64 (faultL t).2)] ∧ b' = b ∧ l' = l) := by
  refine ACalls.of_ext ⟨_, Try.func17, by kernel_rfl, by kernel_rfl⟩ (fun F L w vs hr => ?_)
  obtain ⟨u, us, rfl, hs, hr2⟩ := repL_tr hN hr
  obtain rfl := repL_nil hr2
  refine (Fault_any u t w hS hs).mono ?_
  rintro e w' ⟨rfl, he⟩
  exact ⟨he, _, _, rfl, RepL.tup (RepL.cons (idA_rep _ _ _ _) (RepL.cons (.v _ _ (.int _ _)) RepL.nil)), rfl, rfl, rfl⟩
theorem rfault_spec (t : Tr) (hS : Small t) (hN : Nm t) (b l : List Row) : ACalls Try.prog 18 [.agg [.v (eT t)]] b l (fun r b' l' => r = .tup [idA (faultL t).1, .v (.int .i64 (faultL t).2)] ∧ b' = b ∧ l' = l) := by
  refine ACalls.of_ext ⟨_, Try.func18, by kernel_rfl, by kernel_rfl⟩ (fun F L w vs hr => ?_)
  obtain ⟨u, us, rfl, hs, hr2⟩ := repL_tr hN hr
  obtain rfl := repL_nil hr2
  refine (rFault_any u t w hS hs).mono ?_
  rintro e w' ⟨rfl, he⟩
  exact ⟨he, _, _, rfl, RepL.tup (RepL.cons (idA_rep _ _ _ _) (RepL.cons (.v _ _ (.int _ _)) RepL.nil)), rfl, rfl, rfl⟩
theorem valid_spec (t : Tr) (hS : Small t) (hN : Nm t) (b l : List Row) : ACalls Try.prog 19 [.agg [.v (eT t)]] b l (fun r b' l' => r = .v (.bool (validL t)) ∧ b' = b ∧ l' = l) := by
  refine ACalls.of_ext ⟨_, Try.func19, by kernel_rfl, by kernel_rfl⟩ (fun F L w vs hr => ?_)
  obtain ⟨u, us, rfl, hs, hr2⟩ := repL_tr hN hr
  obtain rfl := repL_nil hr2
  refine (Valid_any u t w hS hs).mono ?_
  rintro e w' ⟨rfl, he⟩
  exact ⟨he, _, _, rfl, .v _ _ (.bool _), rfl, rfl, rfl⟩
theorem rvalid_spec (t : Tr) (hS : Small t) (hN : Nm t) (b l : List Row) : ACalls Try.prog 34 [.agg [.v (eT t)]] b l (fun r b' l' => r = .v (.bool (validL t)) ∧ b' = b ∧ l' = l) := by
  refine ACalls.of_ext ⟨_, Try.func34, by kernel_rfl, by kernel_rfl⟩ (fun F L w vs hr => ?_)
  obtain ⟨u, us, rfl, hs, hr2⟩ := repL_tr hN hr
  obtain rfl := repL_nil hr2
  refine (rValid_any u t w hS hs).mono ?_
  rintro e w' ⟨rfl, he⟩
  exact ⟨he, _, _, rfl, .v _ _ (.bool _), rfl, rfl, rfl⟩
theorem sender_spec (t : Tr) (hS : Small t) (hN : Nm t) (b l : List Row) (m : Int) : ACalls Try.prog 27 [.agg [.v (eT t)], .v (.int .i64 m)] b l (fun r b' l' => r = .tup [idA (findR t 2 m), .v (.bool (decide (0 < (findR t 2 m).2)))] ∧ b' = b ∧ l' = l) := by
  refine ACalls.of_ext ⟨_, Try.func27, by kernel_rfl, by kernel_rfl⟩ (fun F L w vs hr => ?_)
  obtain ⟨u, us, rfl, hs, hr2⟩ := repL_tr hN hr
  obtain ⟨v, us, rfl, h3, hr2⟩ := repL_cons hr2
  obtain rfl := repL_nil hr2
  cases h3.vI
  refine (Sender_any u t m w hS hs).mono ?_
  rintro e w' ⟨rfl, he⟩
  exact ⟨he, _, _, rfl, RepL.tup (RepL.cons (idA_rep _ _ _ _) (RepL.cons (.v _ _ (.bool _)) RepL.nil)), rfl, rfl, rfl⟩
theorem receiver_spec (t : Tr) (hS : Small t) (hN : Nm t) (b l : List Row) (m : Int) : ACalls Try.prog 28 [.agg [.v (eT t)], .v (.int .i64 m)] b l (fun r b' l' => r = .tup [idA (findR t 3 m), .v (.bool (decide (0 < (findR t 3 m).2)))] ∧ b' = b ∧ l' = l) := by
  refine ACalls.of_ext ⟨_, Try.func28, by kernel_rfl, by kernel_rfl⟩ (fun F L w vs hr => ?_)
  obtain ⟨u, us, rfl, hs, hr2⟩ := repL_tr hN hr
  obtain ⟨v, us, rfl, h3, hr2⟩ := repL_cons hr2
  obtain rfl := repL_nil hr2
  cases h3.vI
  refine (Receiver_any u t m w hS hs).mono ?_
  rintro e w' ⟨rfl, he⟩
  exact ⟨he, _, _, rfl, RepL.tup (RepL.cons (idA_rep _ _ _ _) (RepL.cons (.v _ _ (.bool _)) RepL.nil)), rfl, rfl, rfl⟩
theorem count_spec (t : Tr) (hS : Small t) (hN : Nm t) (b l : List Row) (hM : (ids t).length ≤ 1000000) : ACalls Try.prog 31 [.agg [.v (eT t)]] b l (fun r b' l' => r = .v (.int .i64 (countR t)) ∧ b' = b ∧ l' = l) := by
  refine ACalls.of_ext ⟨_, Try.func31, by kernel_rfl, by kernel_rfl⟩ (fun F L w vs hr => ?_)
  obtain ⟨u, us, rfl, hs, hr2⟩ := repL_tr hN hr
  obtain rfl := repL_nil hr2
  refine (Count_any u t w hS hM hs).mono ?_
  rintro e w' ⟨rfl, he⟩
  exact ⟨he, _, _, rfl, .v _ _ (.int _ _), rfl, rfl, rfl⟩
end
end Go.Proofs.Ytfdekchpckdeiaa

/- The law TraceFaults, as a run; awake is a premise here. -/
namespace Go.Proofs.Ytfdekchpckdeiaa
set_option linter.unusedVariables false
set_option linter.unusedSimpArgs false
def a_TraceFaults : AFunc := ⟨1, 37, [.tmp 2],
  (.seq (.region [⟨(some 1), .box (.t 0), none⟩, ⟨(some 2), .mv (.c (.v (.bool false))), none⟩])
  (.seq (.seq (.region [⟨(some 7), .call (.c (.fn 15 [])) [], none⟩, ⟨(some 8), .not (.t 7), none⟩])
  (.cond (.t 8) (.seq (.region [⟨(some 2), .mv (.c (.v (.bool false))), none⟩])
  .ret)
  .skip))
  (.seq (.seq (.region [⟨(some 9), .load (some 1) (.t 1), none⟩, ⟨(some 10), .call (.c (.fn 16 [])) [(.t 9)], none⟩, ⟨(some 11), .not (.t 10), none⟩])
  (.cond (.t 11) (.seq (.region [⟨(some 2), .mv (.c (.v (.bool true))), none⟩])
  .ret)
  .skip))
  (.seq (.region [⟨(some 13), .load (some 1) (.t 1), none⟩, ⟨(some 14), .call (.c (.fn 17 [])) [(.t 13)], none⟩, ⟨(some 12), .mv (.t 14), none⟩, ⟨(some 15), .extract 0 (.t 12), none⟩, ⟨(some 16), .extract 1 (.t 12), none⟩, ⟨(some 3), .alloc [(.v (.int .i64 0)), (.v (.int .i64 0))], none⟩, ⟨none, .store 2 (.t 3) (.t 15), none⟩, ⟨(some 4), .mv (.t 16), none⟩])
  (.seq (.region [⟨(some 18), .load (some 1) (.t 1), none⟩, ⟨(some 19), .call (.c (.fn 18 [])) [(.t 18)], none⟩, ⟨(some 17), .mv (.t 19), none⟩, ⟨(some 20), .extract 0 (.t 17), none⟩, ⟨(some 21), .extract 1 (.t 17), none⟩, ⟨(some 5), .alloc [(.v (.int .i64 0)), (.v (.int .i64 0))], none⟩, ⟨none, .store 2 (.t 5) (.t 20), none⟩, ⟨(some 6), .mv (.t 21), none⟩])
  (.seq (.region [⟨(some 22), .load (some 2) (.t 3), none⟩, ⟨(some 23), .load (some 2) (.t 5), none⟩, ⟨(some 24), .eqs false [.i, .i] (.t 22) (.t 23), none⟩, ⟨(some 25), .mv (.t 24), none⟩, ⟨(some 26), .mv (.t 4), some (25, true)⟩, ⟨(some 27), .mv (.t 6), some (25, true)⟩, ⟨(some 28), .bin .eql (.t 26) (.t 27), some (25, true)⟩, ⟨(some 29), .pick (.t 25) (.t 28) (.c (.v (.bool false))), none⟩, ⟨(some 30), .mv (.t 29), none⟩, ⟨(some 31), .load (some 1) (.t 1), some (30, true)⟩, ⟨(some 32), .call (.c (.fn 19 [])) [(.t 31)], some (30, true)⟩, ⟨(some 33), .mv (.t 6), some (30, true)⟩, ⟨(some 34), .bin .eql (.t 33) (.c (.v (.int .i64 0))), some (30, true)⟩, ⟨(some 35), .binB .eql (.t 32) (.t 34), some (30, true)⟩, ⟨(some 36), .pick (.t 30) (.t 35) (.c (.v (.bool false))), none⟩, ⟨(some 2), .mv (.t 36), none⟩])
  .ret))))))⟩
theorem a_TraceFaults_ok : cFunc Try.prog 3 = some a_TraceFaults := by kernel_rfl

/-- Frozen for a call: a row of plain values of the caller's own, handed on as a value. -/
theorem ACalls.frz {P : Program} {f i ver sz : Nat} {args : List AV} {rows : List (List IV)} {b l : List Row} {Q : AV → List Row → List Row → Prop} (hi : l[i]? = some (.live ver sz (vs rows))) (h : ACalls P f (args.map (frz (b.length + i) ver sz rows)) b (l.set i (.dead ver)) Q) : ACalls P f args b l Q := by
  refine ⟨h.1, fun F L w us s hr => ?_⟩
  obtain ⟨F', s1, he1, st1, _⟩ := freeze_core (e := args) hi F L w { tmps := us, defers := [] } s ⟨rfl, by have := hr.1; simpa using this.symm, fun j x v hx hv => hr.2 j x v hx (by simpa using hv)⟩
  refine Calls.mono (h.2 F' L w us s1 ⟨by have := hr.1; simpa using this, fun j x v hx hv => he1.2.2 j x v hx (by simpa using hv)⟩) ?_
  rintro en w' ⟨v, x, b', l', F2, L2, h1, h2, h3, h4, h5, h6⟩
  have hlen : (b ++ l.set i (.dead ver)).length = (b ++ l).length := by simp
  have st : Step (b ++ l).length F L (b ++ l) w F' L (b ++ l.set i (.dead ver)) w := by
    refine ⟨st1.imm, fun _ _ _ _ hl => hl, rfl, rfl, rfl, Nat.le_refl _, fun _ _ _ => rfl, st1.own, fun id hid v hv => ?_, st1.fnew⟩
    by_cases hj : id < b.length
    · rw [List.getElem?_append_left hj] at hv ⊢; exact hv
    · rw [List.getElem?_append_right (by omega)] at hv ⊢
      by_cases hji : i = id - b.length
      · rw [← hji, hi] at hv; cases hv
      · rw [List.getElem?_set_ne hji]; exact hv
  exact ⟨v, x, b', l', F2, L2, h1, h2, h3, st.trans (hlen ▸ h4), h5, h6⟩

theorem few_small {t : Tr} (h : fewB t = true) : Small t := by
  unfold fewB at h
  simp only [Bool.and_eq_true, decide_eq_true_eq, List.all_eq_true, List.mem_range, Bool.not_eq_true'] at h
  obtain ⟨h1, h2⟩ := h
  have key : ∀ x ∈ t, (x.evs.length ≤ 70 ∧ x.vars.length ≤ 12) ∧ ∀ e ∈ x.evs, e.asg.length ≤ 12 := by
    intro x hx
    obtain ⟨i, hi⟩ := List.mem_iff_getElem?.1 hx
    have hb := h2 i (List.getElem?_eq_some_iff.1 hi).1
    unfold badAt at hb
    rw [hi] at hb
    simp only [longP, longIn, Bool.or_eq_false_iff, decide_eq_false_iff_not] at hb
    refine ⟨⟨by omega, by omega⟩, fun e he => ?_⟩
    obtain ⟨j, hj⟩ := List.mem_iff_getElem?.1 he
    have := List.any_eq_false.1 hb.2.2 j (List.mem_range.2 (List.getElem?_eq_some_iff.1 hj).1)
    unfold longE at this
    rw [hj] at this
    simp at this
    omega
  exact ⟨by omega, fun x hx => by have := (key x hx).1.2; omega, fun x hx => by have := (key x hx).1.1; omega, fun x hx e he => by have := (key x hx).2 e he; omega⟩

theorem traceFaults_run (hA : ∀ b l, ACalls Try.prog 15 [] b l (fun r b' l' => r = .v (.bool true) ∧ b' = b ∧ l' = l)) (t : Tr) (hF : Fits t) (hN : Nm t) (b l : List Row) :
    ACalls Try.prog 3 [.agg [.v (eT t)]] b l (fun r b' l' => r = .v (.bool true) ∧ b' = b ∧ l' = l) := by
  refine calls_of a_TraceFaults_ok rfl ?_
  intro B hB hR _
  simp only [a_TraceFaults, eT, ↓run_skip, ↓run_region, ↓run_draw, ↓run_seq, ↓run_block, ↓run_exit, ↓run_ret, ↓run_cond, ↓atN_app, ↓seqC_normal, ↓seqC_exit, ↓seqC_ret, ↓seqQ_normal, ↓seqQ_exit, ↓seqQ_ret, ↓blkQ_normal, ↓blkQ_exit, ↓blkQ_ret, ↓runOps_nil, ↓runOps_cons, ↓runD_nil, ↓runD_cons, ↓grdO_true, ↓grdO_false, ↓grdD_true, ↓grdD_false, ↓ifC_true, ↓ifC_false, ↓opS_val, ↓opS_call, ↓opS_two, ↓opK_app, ↓dS_val, ↓dS_call, ↓dS_two, ↓dK_app, rechks_nil, rechks_cons, rechk, gcase_true, gcase_false, ex_val, ex_val0, gd_none, gd_some, nth_zero, nth_succ, upd_zero, upd_succ, put_some, put_none, ev_t, ev_c, evs_nil, evs_cons, evo_some, evo_none, hget_at, hget_first, hsetB_at, hsetB_first, hsetL_at, hsetL_first, ofOpt_some, aop, aload, astore, aslice, aappend, aiaddr, aiaddrA, afaddr, alen, alenS, acopy, amm, acall, apick, binV, binVB, binVS, isSh, intOp, strOp, boolOp, shOp, eqC, eqF, and2, cellsOf, setFrom, fillA, fillS, rd, rdI, elems, mk, bounds, AV.cell, List.all_cons, List.all_nil, Bool.and_true, Bool.true_and, Bool.and_self, List.length_cons, List.length_nil, List.length_append, Nat.reduceAdd, Nat.reduceSub, Nat.reduceMul, Nat.zero_add, Nat.add_zero, List.replicate_succ, List.replicate_zero, List.cons_append, List.nil_append, List.append_assoc, List.append_nil, List.getElem?_cons_zero, List.getElem?_cons_succ, List.getElem?_nil, List.set_cons_zero, List.set_cons_succ, List.drop_zero, List.drop_succ_cons, List.take_zero, List.take_succ_cons, List.take_nil, List.drop_nil, List.map_cons, List.map_nil, Option.map_some, if_true, if_false, Bool.false_eq_true, and_self, true_and, and_true, Nat.reduceLeDiff, Nat.reduceLT, Nat.le_refl, Nat.reduceEqDiff, ite_true, ite_false, beq_self_eq_true, beq_true, beq_false, Bool.not_true, Bool.not_false, Bool.true_beq, Bool.false_beq]
  refine ACalls_mono _ _ _ _ _ _ (hA _ _) ?_
  rintro r b' l' ⟨rfl, rfl, rfl⟩
  simp only [↓run_skip, ↓run_region, ↓run_draw, ↓run_seq, ↓run_block, ↓run_exit, ↓run_ret, ↓run_cond, ↓atN_app, ↓seqC_normal, ↓seqC_exit, ↓seqC_ret, ↓seqQ_normal, ↓seqQ_exit, ↓seqQ_ret, ↓blkQ_normal, ↓blkQ_exit, ↓blkQ_ret, ↓runOps_nil, ↓runOps_cons, ↓runD_nil, ↓runD_cons, ↓grdO_true, ↓grdO_false, ↓grdD_true, ↓grdD_false, ↓ifC_true, ↓ifC_false, ↓opS_val, ↓opS_call, ↓opS_two, ↓opK_app, ↓dS_val, ↓dS_call, ↓dS_two, ↓dK_app, rechks_nil, rechks_cons, rechk, gcase_true, gcase_false, ex_val, ex_val0, gd_none, gd_some, nth_zero, nth_succ, upd_zero, upd_succ, put_some, put_none, ev_t, ev_c, evs_nil, evs_cons, evo_some, evo_none, hget_at, hget_first, hsetB_at, hsetB_first, hsetL_at, hsetL_first, ofOpt_some, aop, aload, astore, aslice, aappend, aiaddr, aiaddrA, afaddr, alen, alenS, acopy, amm, acall, apick, binV, binVB, binVS, isSh, intOp, strOp, boolOp, shOp, eqC, eqF, and2, cellsOf, setFrom, fillA, fillS, rd, rdI, elems, mk, bounds, AV.cell, List.all_cons, List.all_nil, Bool.and_true, Bool.true_and, Bool.and_self, List.length_cons, List.length_nil, List.length_append, Nat.reduceAdd, Nat.reduceSub, Nat.reduceMul, Nat.zero_add, Nat.add_zero, List.replicate_succ, List.replicate_zero, List.cons_append, List.nil_append, List.append_assoc, List.append_nil, List.getElem?_cons_zero, List.getElem?_cons_succ, List.getElem?_nil, List.set_cons_zero, List.set_cons_succ, List.drop_zero, List.drop_succ_cons, List.take_zero, List.take_succ_cons, List.take_nil, List.drop_nil, List.map_cons, List.map_nil, Option.map_some, if_true, if_false, Bool.false_eq_true, and_self, true_and, and_true, Nat.reduceLeDiff, Nat.reduceLT, Nat.le_refl, Nat.reduceEqDiff, ite_true, ite_false, beq_self_eq_true, beq_true, beq_false, Bool.not_true, Bool.not_false, Bool.true_beq, Bool.false_beq]
  refine ACalls_mono _ _ _ _ _ _ (few_spec t hF _ _) ?_
  rintro r b' l' ⟨rfl, rfl, rfl⟩
  cases hf : fewB t
  · simp only [↓run_skip, ↓run_region, ↓run_draw, ↓run_seq, ↓run_block, ↓run_exit, ↓run_ret, ↓run_cond, ↓atN_app, ↓seqC_normal, ↓seqC_exit, ↓seqC_ret, ↓seqQ_normal, ↓seqQ_exit, ↓seqQ_ret, ↓blkQ_normal, ↓blkQ_exit, ↓blkQ_ret, ↓runOps_nil, ↓runOps_cons, ↓runD_nil, ↓runD_cons, ↓grdO_true, ↓grdO_false, ↓grdD_true, ↓grdD_false, ↓ifC_true, ↓ifC_false, ↓opS_val, ↓opS_call, ↓opS_two, ↓opK_app, ↓dS_val, ↓dS_call, ↓dS_two, ↓dK_app, rechks_nil, rechks_cons, rechk, gcase_true, gcase_false, ex_val, ex_val0, gd_none, gd_some, nth_zero, nth_succ, upd_zero, upd_succ, put_some, put_none, ev_t, ev_c, evs_nil, evs_cons, evo_some, evo_none, hget_at, hget_first, hsetB_at, hsetB_first, hsetL_at, hsetL_first, ofOpt_some, aop, aload, astore, aslice, aappend, aiaddr, aiaddrA, afaddr, alen, alenS, acopy, amm, acall, apick, binV, binVB, binVS, isSh, intOp, strOp, boolOp, shOp, eqC, eqF, and2, cellsOf, setFrom, fillA, fillS, rd, rdI, elems, mk, bounds, AV.cell, List.all_cons, List.all_nil, Bool.and_true, Bool.true_and, Bool.and_self, List.length_cons, List.length_nil, List.length_append, Nat.reduceAdd, Nat.reduceSub, Nat.reduceMul, Nat.zero_add, Nat.add_zero, List.replicate_succ, List.replicate_zero, List.cons_append, List.nil_append, List.append_assoc, List.append_nil, List.getElem?_cons_zero, List.getElem?_cons_succ, List.getElem?_nil, List.set_cons_zero, List.set_cons_succ, List.drop_zero, List.drop_succ_cons, List.take_zero, List.take_succ_cons, List.take_nil, List.drop_nil, List.map_cons, List.map_nil, Option.map_some, if_true, if_false, Bool.false_eq_true, and_self, true_and, and_true, Nat.reduceLeDiff, Nat.reduceLT, Nat.le_refl, Nat.reduceEqDiff, ite_true, ite_false, beq_self_eq_true, beq_true, beq_false, Bool.not_true, Bool.not_false, Bool.true_beq, Bool.false_beq]
    exact leave_pure (.inr rfl) rfl (.v _) hR hB ⟨rfl, rfl, rfl⟩
  have hS := few_small hf
  simp only [↓run_skip, ↓run_region, ↓run_draw, ↓run_seq, ↓run_block, ↓run_exit, ↓run_ret, ↓run_cond, ↓atN_app, ↓seqC_normal, ↓seqC_exit, ↓seqC_ret, ↓seqQ_normal, ↓seqQ_exit, ↓seqQ_ret, ↓blkQ_normal, ↓blkQ_exit, ↓blkQ_ret, ↓runOps_nil, ↓runOps_cons, ↓runD_nil, ↓runD_cons, ↓grdO_true, ↓grdO_false, ↓grdD_true, ↓grdD_false, ↓ifC_true, ↓ifC_false, ↓opS_val, ↓opS_call, ↓opS_two, ↓opK_app, ↓dS_val, ↓dS_call, ↓dS_two, ↓dK_app, rechks_nil, rechks_cons, rechk, gcase_true, gcase_false, ex_val, ex_val0, gd_none, gd_some, nth_zero, nth_succ, upd_zero, upd_succ, put_some, put_none, ev_t, ev_c, evs_nil, evs_cons, evo_some, evo_none, hget_at, hget_first, hsetB_at, hsetB_first, hsetL_at, hsetL_first, ofOpt_some, aop, aload, astore, aslice, aappend, aiaddr, aiaddrA, afaddr, alen, alenS, acopy, amm, acall, apick, binV, binVB, binVS, isSh, intOp, strOp, boolOp, shOp, eqC, eqF, and2, cellsOf, setFrom, fillA, fillS, rd, rdI, elems, mk, bounds, AV.cell, List.all_cons, List.all_nil, Bool.and_true, Bool.true_and, Bool.and_self, List.length_cons, List.length_nil, List.length_append, Nat.reduceAdd, Nat.reduceSub, Nat.reduceMul, Nat.zero_add, Nat.add_zero, List.replicate_succ, List.replicate_zero, List.cons_append, List.nil_append, List.append_assoc, List.append_nil, List.getElem?_cons_zero, List.getElem?_cons_succ, List.getElem?_nil, List.set_cons_zero, List.set_cons_succ, List.drop_zero, List.drop_succ_cons, List.take_zero, List.take_succ_cons, List.take_nil, List.drop_nil, List.map_cons, List.map_nil, Option.map_some, if_true, if_false, Bool.false_eq_true, and_self, true_and, and_true, Nat.reduceLeDiff, Nat.reduceLT, Nat.le_refl, Nat.reduceEqDiff, ite_true, ite_false, beq_self_eq_true, beq_true, beq_false, Bool.not_true, Bool.not_false, Bool.true_beq, Bool.false_beq]
  refine ACalls_mono _ _ _ _ _ _ (fault_spec t hS hN _ _) ?_
  rintro r b' l' ⟨rfl, rfl, rfl⟩
  simp only [idA, ↓run_skip, ↓run_region, ↓run_draw, ↓run_seq, ↓run_block, ↓run_exit, ↓run_ret, ↓run_cond, ↓atN_app, ↓seqC_normal, ↓seqC_exit, ↓seqC_ret, ↓seqQ_normal, ↓seqQ_exit, ↓seqQ_ret, ↓blkQ_normal, ↓blkQ_exit, ↓blkQ_ret, ↓runOps_nil, ↓runOps_cons, ↓runD_nil, ↓runD_cons, ↓grdO_true, ↓grdO_false, ↓grdD_true, ↓grdD_false, ↓ifC_true, ↓ifC_false, ↓opS_val, ↓opS_call, ↓opS_two, ↓opK_app, ↓dS_val, ↓dS_call, ↓dS_two, ↓dK_app, rechks_nil, rechks_cons, rechk, gcase_true, gcase_false, ex_val, ex_val0, gd_none, gd_some, nth_zero, nth_succ, upd_zero, upd_succ, put_some, put_none, ev_t, ev_c, evs_nil, evs_cons, evo_some, evo_none, hget_at, hget_first, hsetB_at, hsetB_first, hsetL_at, hsetL_first, ofOpt_some, aop, aload, astore, aslice, aappend, aiaddr, aiaddrA, afaddr, alen, alenS, acopy, amm, acall, apick, binV, binVB, binVS, isSh, intOp, strOp, boolOp, shOp, eqC, eqF, and2, cellsOf, setFrom, fillA, fillS, rd, rdI, elems, mk, bounds, AV.cell, List.all_cons, List.all_nil, Bool.and_true, Bool.true_and, Bool.and_self, List.length_cons, List.length_nil, List.length_append, Nat.reduceAdd, Nat.reduceSub, Nat.reduceMul, Nat.zero_add, Nat.add_zero, List.replicate_succ, List.replicate_zero, List.cons_append, List.nil_append, List.append_assoc, List.append_nil, List.getElem?_cons_zero, List.getElem?_cons_succ, List.getElem?_nil, List.set_cons_zero, List.set_cons_succ, List.drop_zero, List.drop_succ_cons, List.take_zero, List.take_succ_cons, List.take_nil, List.drop_nil, List.map_cons, List.map_nil, Option.map_some, if_true, if_false, Bool.false_eq_true, and_self, true_and, and_true, Nat.reduceLeDiff, Nat.reduceLT, Nat.le_refl, Nat.reduceEqDiff, ite_true, ite_false, beq_self_eq_true, beq_true, beq_false, Bool.not_true, Bool.not_false, Bool.true_beq, Bool.false_beq]
  refine ACalls_mono _ _ _ _ _ _ (rfault_spec t hS hN _ _) ?_
  rintro r b' l' ⟨rfl, rfl, rfl⟩
  simp only [idA, ↓run_skip, ↓run_region, ↓run_draw, ↓run_seq, ↓run_block, ↓run_exit, ↓run_ret, ↓run_cond, ↓atN_app, ↓seqC_normal, ↓seqC_exit, ↓seqC_ret, ↓seqQ_normal, ↓seqQ_exit, ↓seqQ_ret, ↓blkQ_normal, ↓blkQ_exit, ↓blkQ_ret, ↓runOps_nil, ↓runOps_cons, ↓runD_nil, ↓runD_cons, ↓grdO_true, ↓grdO_false, ↓grdD_true, ↓grdD_false, ↓ifC_true, ↓ifC_false, ↓opS_val, ↓opS_call, ↓opS_two, ↓opK_app, ↓dS_val, ↓dS_call, ↓dS_two, ↓dK_app, rechks_nil, rechks_cons, rechk, gcase_true, gcase_false, ex_val, ex_val0, gd_none, gd_some, nth_zero, nth_succ, upd_zero, upd_succ, put_some, put_none, ev_t, ev_c, evs_nil, evs_cons, evo_some, evo_none, hget_at, hget_first, hsetB_at, hsetB_first, hsetL_at, hsetL_first, ofOpt_some, aop, aload, astore, aslice, aappend, aiaddr, aiaddrA, afaddr, alen, alenS, acopy, amm, acall, apick, binV, binVB, binVS, isSh, intOp, strOp, boolOp, shOp, eqC, eqF, and2, cellsOf, setFrom, fillA, fillS, rd, rdI, elems, mk, bounds, AV.cell, List.all_cons, List.all_nil, Bool.and_true, Bool.true_and, Bool.and_self, List.length_cons, List.length_nil, List.length_append, Nat.reduceAdd, Nat.reduceSub, Nat.reduceMul, Nat.zero_add, Nat.add_zero, List.replicate_succ, List.replicate_zero, List.cons_append, List.nil_append, List.append_assoc, List.append_nil, List.getElem?_cons_zero, List.getElem?_cons_succ, List.getElem?_nil, List.set_cons_zero, List.set_cons_succ, List.drop_zero, List.drop_succ_cons, List.take_zero, List.take_succ_cons, List.take_nil, List.drop_nil, List.map_cons, List.map_nil, Option.map_some, if_true, if_false, Bool.false_eq_true, and_self, true_and, and_true, Nat.reduceLeDiff, Nat.reduceLT, Nat.le_refl, Nat.reduceEqDiff, ite_true, ite_false, beq_self_eq_true, beq_true, beq_false, Bool.not_true, Bool.not_false, Bool.true_beq, Bool.false_beq]
  refine ACalls_mono _ _ _ _ _ _ (valid_spec t hS hN _ _) ?_
  rintro r b' l' ⟨rfl, rfl, rfl⟩
  have hv : ((validL t) == (((faultL t).2 : Int) == 0)) = true := by
    unfold validL
    cases h : (faultL t).2 <;> simp
    omega
  simp only [hv, ↓run_skip, ↓run_region, ↓run_draw, ↓run_seq, ↓run_block, ↓run_exit, ↓run_ret, ↓run_cond, ↓atN_app, ↓seqC_normal, ↓seqC_exit, ↓seqC_ret, ↓seqQ_normal, ↓seqQ_exit, ↓seqQ_ret, ↓blkQ_normal, ↓blkQ_exit, ↓blkQ_ret, ↓runOps_nil, ↓runOps_cons, ↓runD_nil, ↓runD_cons, ↓grdO_true, ↓grdO_false, ↓grdD_true, ↓grdD_false, ↓ifC_true, ↓ifC_false, ↓opS_val, ↓opS_call, ↓opS_two, ↓opK_app, ↓dS_val, ↓dS_call, ↓dS_two, ↓dK_app, rechks_nil, rechks_cons, rechk, gcase_true, gcase_false, ex_val, ex_val0, gd_none, gd_some, nth_zero, nth_succ, upd_zero, upd_succ, put_some, put_none, ev_t, ev_c, evs_nil, evs_cons, evo_some, evo_none, hget_at, hget_first, hsetB_at, hsetB_first, hsetL_at, hsetL_first, ofOpt_some, aop, aload, astore, aslice, aappend, aiaddr, aiaddrA, afaddr, alen, alenS, acopy, amm, acall, apick, binV, binVB, binVS, isSh, intOp, strOp, boolOp, shOp, eqC, eqF, and2, cellsOf, setFrom, fillA, fillS, rd, rdI, elems, mk, bounds, AV.cell, List.all_cons, List.all_nil, Bool.and_true, Bool.true_and, Bool.and_self, List.length_cons, List.length_nil, List.length_append, Nat.reduceAdd, Nat.reduceSub, Nat.reduceMul, Nat.zero_add, Nat.add_zero, List.replicate_succ, List.replicate_zero, List.cons_append, List.nil_append, List.append_assoc, List.append_nil, List.getElem?_cons_zero, List.getElem?_cons_succ, List.getElem?_nil, List.set_cons_zero, List.set_cons_succ, List.drop_zero, List.drop_succ_cons, List.take_zero, List.take_succ_cons, List.take_nil, List.drop_nil, List.map_cons, List.map_nil, Option.map_some, if_true, if_false, Bool.false_eq_true, and_self, true_and, and_true, Nat.reduceLeDiff, Nat.reduceLT, Nat.le_refl, Nat.reduceEqDiff, ite_true, ite_false, beq_self_eq_true, beq_true, beq_false, Bool.not_true, Bool.not_false, Bool.true_beq, Bool.false_beq]
  exact leave_pure (.inr rfl) rfl (.v _) hR hB ⟨rfl, rfl, rfl⟩
end Go.Proofs.Ytfdekchpckdeiaa

/- pair: the concrete trace of the laws of chapter 12, as a run. No condition. -/
namespace Go.Proofs.Ytfdekchpckdeiaa
set_option linter.unusedVariables false
set_option linter.unusedSimpArgs false
def a_pair : AFunc := ⟨0, 9, [.cell 0 (some 1)],
  (.seq (.region [⟨(some 0), .alloc [(.v .zsl)], none⟩])
  (.seq (.region [⟨(some 1), .build [(.v (.int .i64 0)), (.v (.int .i64 0)), (.v (.int .i64 0)), (.v (.int .i64 0)), (.v .zsl)] [(0, 1, (.c (.v (.int .i64 2)))), (1, 1, (.c (.v (.int .i64 1)))), (2, 1, (.c (.v (.int .i64 5))))], none⟩, ⟨(some 2), .bslice 5 [(.v (.int .i64 0)), (.v (.int .i64 0)), (.v (.int .i64 0)), (.v (.int .i64 0)), (.v .zsl)] 1 [(0, (.t 1))], none⟩, ⟨(some 3), .build [(.v (.str ⟨#[]⟩)), (.v .zsl), (.v .zsl)] [(0, 1, (.c (.v (.str ⟨#[97]⟩)))), (2, 1, (.t 2))], none⟩, ⟨(some 4), .build [(.v (.int .i64 0)), (.v (.int .i64 0)), (.v (.int .i64 0)), (.v (.int .i64 0)), (.v .zsl)] [(0, 1, (.c (.v (.int .i64 3)))), (1, 1, (.c (.v (.int .i64 0)))), (2, 1, (.c (.v (.int .i64 5))))], none⟩, ⟨(some 5), .bslice 5 [(.v (.int .i64 0)), (.v (.int .i64 0)), (.v (.int .i64 0)), (.v (.int .i64 0)), (.v .zsl)] 1 [(0, (.t 4))], none⟩, ⟨(some 6), .build [(.v (.str ⟨#[]⟩)), (.v .zsl), (.v .zsl)] [(0, 1, (.c (.v (.str ⟨#[98]⟩)))), (2, 1, (.t 5))], none⟩, ⟨(some 7), .bslice 3 [(.v (.str ⟨#[]⟩)), (.v .zsl), (.v .zsl)] 2 [(0, (.t 3)), (1, (.t 6))], none⟩, ⟨(some 8), .build [(.v .zsl)] [(0, 1, (.t 7))], none⟩, ⟨none, .store 1 (.t 0) (.t 8), none⟩])
  .ret))⟩
theorem a_pair_ok : cFunc Try.prog 66 = some a_pair := by kernel_rfl

def pairT : Tr := [⟨⟨#[97]⟩, [], [⟨2, 1, 5, 0, []⟩]⟩, ⟨⟨#[98]⟩, [], [⟨3, 0, 5, 0, []⟩]⟩]
def pairR : List (List IV) := [[.str ⟨#[97]⟩, .zsl, .isl 5 [[.int .i64 2, .int .i64 1, .int .i64 5, .int .i64 0, .zsl]]], [.str ⟨#[98]⟩, .zsl, .isl 5 [[.int .i64 3, .int .i64 0, .int .i64 5, .int .i64 0, .zsl]]]]
theorem getLe_nil {f : IV → IV → Prop} : ∀ (j : Nat) (a a' : IV), ([] : List IV)[j]? = some a → ([] : List IV)[j]? = some a' → f a a' := fun j a a' h => by simp at h
theorem getLe_cons {f : IV → IV → Prop} {x y : IV} {xs ys : List IV} (h : f x y) (hs : ∀ (j : Nat) (a a' : IV), xs[j]? = some a → ys[j]? = some a' → f a a') : ∀ (j : Nat) (a a' : IV), (x :: xs)[j]? = some a → (y :: ys)[j]? = some a' → f a a' := by
  intro j a a' h1 h2
  cases j with
  | zero => simp at h1 h2; subst h1; subst h2; exact h
  | succ j => simp at h1 h2; exact hs j a a' h1 h2
theorem pair_le : RowsLe pairR (pairT.map ePr) := by
  have ev : ∀ (a c d e : Int), IVle (.isl 5 [[.int .i64 a, .int .i64 c, .int .i64 d, .int .i64 e, .zsl]]) (.isl 5 [[.int .i64 a, .int .i64 c, .int .i64 d, .int .i64 e, .isl 2 []]]) := fun a c d e =>
    .rows ⟨⟨rfl, getLe_cons (.refl _) (getLe_cons (.refl _) (getLe_cons (.refl _) (getLe_cons (.refl _) (getLe_cons (.zsl 2) getLe_nil))))⟩, trivial⟩
  exact ⟨⟨rfl, getLe_cons (.refl _) (getLe_cons (.zsl 2) (getLe_cons (ev _ _ _ _) getLe_nil))⟩, ⟨rfl, getLe_cons (.refl _) (getLe_cons (.zsl 2) (getLe_cons (ev _ _ _ _) getLe_nil))⟩, trivial⟩
theorem pair_spec (b l : List Row) : ACalls Try.prog 66 [] b l (fun r b' l' => r = .agg [.v (eT pairT)] ∧ b' = b ∧ l' = l) := by
  refine calls_of a_pair_ok rfl ?_
  intro B hB hR _
  simp only [a_pair, ↓run_skip, ↓run_region, ↓run_draw, ↓run_seq, ↓run_block, ↓run_exit, ↓run_ret, ↓run_cond, ↓atN_app, ↓seqC_normal, ↓seqC_exit, ↓seqC_ret, ↓seqQ_normal, ↓seqQ_exit, ↓seqQ_ret, ↓blkQ_normal, ↓blkQ_exit, ↓blkQ_ret, ↓runOps_nil, ↓runOps_cons, ↓runD_nil, ↓runD_cons, ↓grdO_true, ↓grdO_false, ↓grdD_true, ↓grdD_false, ↓ifC_true, ↓ifC_false, ↓opS_val, ↓opS_call, ↓opS_two, ↓opK_app, ↓dS_val, ↓dS_call, ↓dS_two, ↓dK_app, rechks_nil, rechks_cons, rechk, gcase_true, gcase_false, ex_val, ex_val0, gd_none, gd_some, nth_zero, nth_succ, upd_zero, upd_succ, put_some, put_none, ev_t, ev_c, evs_nil, evs_cons, evo_some, evo_none, hget_at, hget_first, hsetB_at, hsetB_first, hsetL_at, hsetL_first, ofOpt_some, aop, aload, astore, aslice, aappend, aiaddr, aiaddrA, afaddr, alen, alenS, acopy, amm, acall, apick, binV, binVB, binVS, isSh, intOp, strOp, boolOp, shOp, eqC, eqF, and2, cellsOf, setFrom, fillA, fillS, rd, rdI, elems, mk, bounds, AV.cell, List.all_cons, List.all_nil, Bool.and_true, Bool.true_and, Bool.and_self, List.length_cons, List.length_nil, List.length_append, Nat.reduceAdd, Nat.reduceSub, Nat.reduceMul, Nat.zero_add, Nat.add_zero, List.replicate_succ, List.replicate_zero, List.cons_append, List.nil_append, List.append_assoc, List.append_nil, List.getElem?_cons_zero, List.getElem?_cons_succ, List.getElem?_nil, List.set_cons_zero, List.set_cons_succ, List.drop_zero, List.drop_succ_cons, List.take_zero, List.take_succ_cons, List.take_nil, List.drop_nil, List.map_cons, List.map_nil, Option.map_some, if_true, if_false, Bool.false_eq_true, and_self, true_and, and_true, Nat.reduceLeDiff, Nat.reduceLT, Nat.le_refl, Nat.reduceEqDiff, ite_true, ite_false, beq_self_eq_true, beq_true, beq_false, Bool.not_true, Bool.not_false, Bool.true_beq, Bool.false_beq]
  refine leave (.inr rfl) (xs := [.agg [.sl (B.length + 3) 0 0 2]]) (by simp only [resVs, resV, ↓run_skip, ↓run_region, ↓run_draw, ↓run_seq, ↓run_block, ↓run_exit, ↓run_ret, ↓run_cond, ↓atN_app, ↓seqC_normal, ↓seqC_exit, ↓seqC_ret, ↓seqQ_normal, ↓seqQ_exit, ↓seqQ_ret, ↓blkQ_normal, ↓blkQ_exit, ↓blkQ_ret, ↓runOps_nil, ↓runOps_cons, ↓runD_nil, ↓runD_cons, ↓grdO_true, ↓grdO_false, ↓grdD_true, ↓grdD_false, ↓ifC_true, ↓ifC_false, ↓opS_val, ↓opS_call, ↓opS_two, ↓opK_app, ↓dS_val, ↓dS_call, ↓dS_two, ↓dK_app, rechks_nil, rechks_cons, rechk, gcase_true, gcase_false, ex_val, ex_val0, gd_none, gd_some, nth_zero, nth_succ, upd_zero, upd_succ, put_some, put_none, ev_t, ev_c, evs_nil, evs_cons, evo_some, evo_none, hget_at, hget_first, hsetB_at, hsetB_first, hsetL_at, hsetL_first, ofOpt_some, aop, aload, astore, aslice, aappend, aiaddr, aiaddrA, afaddr, alen, alenS, acopy, amm, acall, apick, binV, binVB, binVS, isSh, intOp, strOp, boolOp, shOp, eqC, eqF, and2, cellsOf, setFrom, fillA, fillS, rd, rdI, elems, mk, bounds, AV.cell, List.all_cons, List.all_nil, Bool.and_true, Bool.true_and, Bool.and_self, List.length_cons, List.length_nil, List.length_append, Nat.reduceAdd, Nat.reduceSub, Nat.reduceMul, Nat.zero_add, Nat.add_zero, List.replicate_succ, List.replicate_zero, List.cons_append, List.nil_append, List.append_assoc, List.append_nil, List.getElem?_cons_zero, List.getElem?_cons_succ, List.getElem?_nil, List.set_cons_zero, List.set_cons_succ, List.drop_zero, List.drop_succ_cons, List.take_zero, List.take_succ_cons, List.take_nil, List.drop_nil, List.map_cons, List.map_nil, Option.map_some, if_true, if_false, Bool.false_eq_true, and_self, true_and, and_true, Nat.reduceLeDiff, Nat.reduceLT, Nat.le_refl, Nat.reduceEqDiff, ite_true, ite_false, beq_self_eq_true, beq_true, beq_false, Bool.not_true, Bool.not_false, Bool.true_beq, Bool.false_beq]) (y := .agg [.v (eT pairT)]) (l' := []) ?_ hB ⟨rfl, by simp, by simp⟩
  refine (Weak.freezeAll (i := 1) (rows := [[.int .i64 2, .int .i64 1, .int .i64 5, .int .i64 0, .zsl]]) rfl).trans ?_
  refine (Weak.freezeAll (i := 2) (ver := 0) (sz := 5) (rows := [[.int .i64 3, .int .i64 0, .int .i64 5, .int .i64 0, .zsl]]) rfl).trans ?_
  have e1 : ∀ (i : Nat) (r : List (List IV)), i < 3 → List.map (frz (B.length + i) 0 5 r) [one [.agg [.sl (B.length + 3) 0 0 2]]] = [.agg [.sl (B.length + 3) 0 0 2]] := by
    intro i r hi
    have : ¬ (3 = i) := by omega
    simp [one, frz, frz0, this]
  have e2 : ∀ (i : Nat) (r : List (List IV)), i < 3 → List.map (frz (B.length + i) 0 5 r) [.agg [.sl (B.length + 3) 0 0 2]] = [.agg [.sl (B.length + 3) 0 0 2]] := by
    intro i r hi
    have : ¬ (3 = i) := by omega
    simp [frz, frz0, this]
  rw [e1 1 _ (by omega), e2 2 _ (by omega)]
  refine (Weak.freeze (i := 3) (ver := 0) (sz := 3) (rows := pairR) ?_).trans ?_
  · simp [rowMap, frz0, pairR]
  · have e3 : List.map (frz (B.length + 3) 0 3 pairR) [.agg [.sl (B.length + 3) 0 0 2]] = [.agg [.v (.isl 3 pairR)]] := by
      simp [frz, frz0, pairR]
    rw [e3]
    refine (Weak.trim (l1 := []) rfl ?_ (by simpa using hR) RowsLt_nil).trans (Weak.le rfl ?_)
    · intro x hx; simp at hx; subst hx; exact .agg _ (by intro c hc; simp at hc; subst hc; exact .v _)
    · intro i x y h1 h2
      cases i with
      | zero =>
        simp at h1 h2; subst h1; subst h2
        refine .agg _ _ rfl (fun i a c ha hc => ?_)
        cases i with
        | zero => simp at ha hc; subst ha; subst hc; exact .v _ _ (.rows pair_le)
        | succ i => simp at ha
      | succ i => simp at h2
end Go.Proofs.Ytfdekchpckdeiaa

/- awake of chapter 12, as a run; what Prefix answers is a premise here. -/
namespace Go.Proofs.Ytfdekchpckdeiaa
set_option linter.unusedVariables false
set_option linter.unusedSimpArgs false
def a_awake : AFunc := ⟨0, 54, [.tmp 0],
  (.seq (.region [⟨(some 0), .mv (.c (.v (.bool false))), none⟩])
  (.seq (.region [⟨(some 8), .call (.c (.fn 66 [])) [], none⟩, ⟨(some 1), .alloc [(.v .zsl)], none⟩, ⟨none, .store 1 (.t 1) (.t 8), none⟩])
  (.seq (.region [⟨(some 10), .load (some 1) (.t 1), none⟩, ⟨(some 11), .bslice 1 [(.v (.int .i64 0))] 2 [(0, (.c (.v (.int .i64 0)))), (1, (.c (.v (.int .i64 1))))], none⟩, ⟨(some 12), .call (.c (.fn 20 [])) [(.t 10), (.t 11)], none⟩, ⟨(some 9), .mv (.t 12), none⟩, ⟨(some 13), .extract 0 (.t 9), none⟩, ⟨(some 14), .extract 1 (.t 9), none⟩, ⟨(some 2), .alloc [(.v .zsl)], none⟩, ⟨none, .store 1 (.t 2) (.t 13), none⟩, ⟨(some 3), .mv (.t 14), none⟩])
  (.seq (.region [⟨(some 16), .load (some 1) (.t 1), none⟩, ⟨(some 17), .bslice 1 [(.v (.int .i64 0))] 2 [(0, (.c (.v (.int .i64 1)))), (1, (.c (.v (.int .i64 0))))], none⟩, ⟨(some 18), .call (.c (.fn 20 [])) [(.t 16), (.t 17)], none⟩, ⟨(some 15), .mv (.t 18), none⟩, ⟨(some 19), .extract 0 (.t 15), none⟩, ⟨(some 20), .extract 1 (.t 15), none⟩, ⟨(some 4), .alloc [(.v .zsl)], none⟩, ⟨none, .store 1 (.t 4) (.t 19), none⟩, ⟨(some 5), .mv (.t 20), none⟩])
  (.seq (.region [⟨(some 22), .load (some 1) (.t 1), none⟩, ⟨(some 23), .call (.c (.fn 27 [])) [(.t 22), (.c (.v (.int .i64 5)))], none⟩, ⟨(some 21), .mv (.t 23), none⟩, ⟨(some 24), .extract 0 (.t 21), none⟩, ⟨(some 25), .extract 1 (.t 21), none⟩, ⟨(some 6), .alloc [(.v (.int .i64 0)), (.v (.int .i64 0))], none⟩, ⟨none, .store 2 (.t 6) (.t 24), none⟩, ⟨(some 7), .mv (.t 25), none⟩])
  (.seq (.region [⟨(some 26), .load (some 1) (.t 1), none⟩, ⟨(some 27), .call (.c (.fn 19 [])) [(.t 26)], none⟩, ⟨(some 28), .mv (.t 27), none⟩, ⟨(some 29), .mv (.t 3), some (28, true)⟩, ⟨(some 30), .bin .eql (.t 29) (.c (.v (.int .i64 18))), some (28, true)⟩, ⟨(some 31), .pick (.t 28) (.t 30) (.c (.v (.bool false))), none⟩, ⟨(some 32), .mv (.t 31), none⟩, ⟨(some 33), .mv (.t 5), some (32, true)⟩, ⟨(some 34), .bin .eql (.t 33) (.c (.v (.int .i64 0))), some (32, true)⟩, ⟨(some 35), .pick (.t 32) (.t 34) (.c (.v (.bool false))), none⟩, ⟨(some 36), .mv (.t 35), none⟩, ⟨(some 37), .load (some 1) (.t 4), some (36, true)⟩, ⟨(some 38), .call (.c (.fn 31 [])) [(.t 37)], some (36, true)⟩, ⟨(some 39), .bin .eql (.t 38) (.c (.v (.int .i64 1))), some (36, true)⟩, ⟨(some 40), .pick (.t 36) (.t 39) (.c (.v (.bool false))), none⟩, ⟨(some 41), .mv (.t 40), none⟩, ⟨(some 42), .mv (.t 7), some (41, true)⟩, ⟨(some 43), .pick (.t 41) (.t 42) (.c (.v (.bool false))), none⟩, ⟨(some 44), .mv (.t 43), none⟩, ⟨(some 45), .load (some 2) (.t 6), some (44, true)⟩, ⟨(some 46), .build [(.v (.int .i64 0)), (.v (.int .i64 0))] [(0, 1, (.c (.v (.int .i64 0)))), (1, 1, (.c (.v (.int .i64 1))))], some (44, true)⟩, ⟨(some 47), .eqs false [.i, .i] (.t 45) (.t 46), some (44, true)⟩, ⟨(some 48), .pick (.t 44) (.t 47) (.c (.v (.bool false))), none⟩, ⟨(some 49), .mv (.t 48), none⟩, ⟨(some 50), .build [(.v .zsl)] [], some (49, true)⟩, ⟨(some 51), .call (.c (.fn 19 [])) [(.t 50)], some (49, true)⟩, ⟨(some 52), .not (.t 51), some (49, true)⟩, ⟨(some 53), .pick (.t 49) (.t 52) (.c (.v (.bool false))), none⟩, ⟨(some 0), .mv (.t 53), none⟩])
  .ret))))))⟩
theorem a_awake_ok : cFunc Try.prog 15 = some a_awake := by kernel_rfl

theorem pair_small : Small pairT := ⟨by decide, by decide, by decide, by decide⟩
theorem awake_run (p : Tr) (hp : Small p ∧ Nm p ∧ (ids p).length ≤ 1000000) (hN : Nm pairT) (hv : validL pairT = true) (hv0 : validL [] = false) (hs : findR pairT 2 5 = (0, 1)) (hc : countR p = 1)
    (h1 : ∀ b l, ACalls Try.prog 20 [.agg [.v (eT pairT)], .v (.isl 1 [[.int .i64 0], [.int .i64 1]])] b l (fun r b' l' => r = .tup [.agg [.v .zsl], .v (.int .i64 18)] ∧ b' = b ∧ l' = l))
    (h2 : ∀ b l, ACalls Try.prog 20 [.agg [.v (eT pairT)], .v (.isl 1 [[.int .i64 1], [.int .i64 0]])] b l (fun r b' l' => r = .tup [.agg [.v (eT p)], .v (.int .i64 0)] ∧ b' = b ∧ l' = l)) (b l : List Row) :
    ACalls Try.prog 15 [] b l (fun r b' l' => r = .v (.bool true) ∧ b' = b ∧ l' = l) := by
  refine calls_of a_awake_ok rfl ?_
  intro B hB hR _
  simp only [a_awake, ↓run_skip, ↓run_region, ↓run_draw, ↓run_seq, ↓run_block, ↓run_exit, ↓run_ret, ↓run_cond, ↓atN_app, ↓seqC_normal, ↓seqC_exit, ↓seqC_ret, ↓seqQ_normal, ↓seqQ_exit, ↓seqQ_ret, ↓blkQ_normal, ↓blkQ_exit, ↓blkQ_ret, ↓runOps_nil, ↓runOps_cons, ↓runD_nil, ↓runD_cons, ↓grdO_true, ↓grdO_false, ↓grdD_true, ↓grdD_false, ↓ifC_true, ↓ifC_false, ↓opS_val, ↓opS_call, ↓opS_two, ↓opK_app, ↓dS_val, ↓dS_call, ↓dS_two, ↓dK_app, rechks_nil, rechks_cons, rechk, gcase_true, gcase_false, ex_val, ex_val0, gd_none, gd_some, nth_zero, nth_succ, upd_zero, upd_succ, put_some, put_none, ev_t, ev_c, evs_nil, evs_cons, evo_some, evo_none, hget_at, hget_first, hsetB_at, hsetB_first, hsetL_at, hsetL_first, ofOpt_some, aop, aload, astore, aslice, aappend, aiaddr, aiaddrA, afaddr, alen, alenS, acopy, amm, acall, apick, binV, binVB, binVS, isSh, intOp, strOp, boolOp, shOp, eqC, eqF, and2, cellsOf, setFrom, fillA, fillS, rd, rdI, elems, mk, bounds, AV.cell, List.all_cons, List.all_nil, Bool.and_true, Bool.true_and, Bool.and_self, List.length_cons, List.length_nil, List.length_append, Nat.reduceAdd, Nat.reduceSub, Nat.reduceMul, Nat.zero_add, Nat.add_zero, List.replicate_succ, List.replicate_zero, List.cons_append, List.nil_append, List.append_assoc, List.append_nil, List.getElem?_cons_zero, List.getElem?_cons_succ, List.getElem?_nil, List.set_cons_zero, List.set_cons_succ, List.drop_zero, List.drop_succ_cons, List.take_zero, List.take_succ_cons, List.take_nil, List.drop_nil, List.map_cons, List.map_nil, Option.map_some, if_true, if_false, Bool.false_eq_true, and_self, true_and, and_true, Nat.reduceLeDiff, Nat.reduceLT, Nat.le_refl, Nat.reduceEqDiff, ite_true, ite_false, beq_self_eq_true, beq_true, beq_false, Bool.not_true, Bool.not_false, Bool.true_beq, Bool.false_beq]
  refine ACalls_mono _ _ _ _ _ _ (pair_spec _ _) ?_
  rintro r b' l' ⟨rfl, rfl, rfl⟩
  obtain ⟨T, hT⟩ : ∃ T, eT pairT = T := ⟨_, rfl⟩
  rw [hT] at h1 h2
  simp only [hT, ↓run_skip, ↓run_region, ↓run_draw, ↓run_seq, ↓run_block, ↓run_exit, ↓run_ret, ↓run_cond, ↓atN_app, ↓seqC_normal, ↓seqC_exit, ↓seqC_ret, ↓seqQ_normal, ↓seqQ_exit, ↓seqQ_ret, ↓blkQ_normal, ↓blkQ_exit, ↓blkQ_ret, ↓runOps_nil, ↓runOps_cons, ↓runD_nil, ↓runD_cons, ↓grdO_true, ↓grdO_false, ↓grdD_true, ↓grdD_false, ↓ifC_true, ↓ifC_false, ↓opS_val, ↓opS_call, ↓opS_two, ↓opK_app, ↓dS_val, ↓dS_call, ↓dS_two, ↓dK_app, rechks_nil, rechks_cons, rechk, gcase_true, gcase_false, ex_val, ex_val0, gd_none, gd_some, nth_zero, nth_succ, upd_zero, upd_succ, put_some, put_none, ev_t, ev_c, evs_nil, evs_cons, evo_some, evo_none, hget_at, hget_first, hsetB_at, hsetB_first, hsetL_at, hsetL_first, ofOpt_some, aop, aload, astore, aslice, aappend, aiaddr, aiaddrA, afaddr, alen, alenS, acopy, amm, acall, apick, binV, binVB, binVS, isSh, intOp, strOp, boolOp, shOp, eqC, eqF, and2, cellsOf, setFrom, fillA, fillS, rd, rdI, elems, mk, bounds, AV.cell, List.all_cons, List.all_nil, Bool.and_true, Bool.true_and, Bool.and_self, List.length_cons, List.length_nil, List.length_append, Nat.reduceAdd, Nat.reduceSub, Nat.reduceMul, Nat.zero_add, Nat.add_zero, List.replicate_succ, List.replicate_zero, List.cons_append, List.nil_append, List.append_assoc, List.append_nil, List.getElem?_cons_zero, List.getElem?_cons_succ, List.getElem?_nil, List.set_cons_zero, List.set_cons_succ, List.drop_zero, List.drop_succ_cons, List.take_zero, List.take_succ_cons, List.take_nil, List.drop_nil, List.map_cons, List.map_nil, Option.map_some, if_true, if_false, Bool.false_eq_true, and_self, true_and, and_true, Nat.reduceLeDiff, Nat.reduceLT, Nat.le_refl, Nat.reduceEqDiff, ite_true, ite_false, beq_self_eq_true, beq_true, beq_false, Bool.not_true, Bool.not_false, Bool.true_beq, Bool.false_beq]
  refine ACalls.frz (i := 1) (ver := 0) (sz := 1) (rows := [[.int .i64 0], [.int .i64 1]]) rfl ?_
  have ea : ∀ (n : Nat) (x y : Int), List.map (frz n 0 1 [[.int .i64 x], [.int .i64 y]]) [AV.agg [AV.v T], AV.sl n 0 0 2] = [.agg [.v T], .v (.isl 1 [[.int .i64 x], [.int .i64 y]])] := by
    intro n x y; simp [frz, frz0]
  rw [ea]
  refine ACalls_mono _ _ _ _ _ _ (h1 _ _) ?_
  rintro r b' l' ⟨rfl, rfl, rfl⟩
  simp only [↓run_skip, ↓run_region, ↓run_draw, ↓run_seq, ↓run_block, ↓run_exit, ↓run_ret, ↓run_cond, ↓atN_app, ↓seqC_normal, ↓seqC_exit, ↓seqC_ret, ↓seqQ_normal, ↓seqQ_exit, ↓seqQ_ret, ↓blkQ_normal, ↓blkQ_exit, ↓blkQ_ret, ↓runOps_nil, ↓runOps_cons, ↓runD_nil, ↓runD_cons, ↓grdO_true, ↓grdO_false, ↓grdD_true, ↓grdD_false, ↓ifC_true, ↓ifC_false, ↓opS_val, ↓opS_call, ↓opS_two, ↓opK_app, ↓dS_val, ↓dS_call, ↓dS_two, ↓dK_app, rechks_nil, rechks_cons, rechk, gcase_true, gcase_false, ex_val, ex_val0, gd_none, gd_some, nth_zero, nth_succ, upd_zero, upd_succ, put_some, put_none, ev_t, ev_c, evs_nil, evs_cons, evo_some, evo_none, hget_at, hget_first, hsetB_at, hsetB_first, hsetL_at, hsetL_first, ofOpt_some, aop, aload, astore, aslice, aappend, aiaddr, aiaddrA, afaddr, alen, alenS, acopy, amm, acall, apick, binV, binVB, binVS, isSh, intOp, strOp, boolOp, shOp, eqC, eqF, and2, cellsOf, setFrom, fillA, fillS, rd, rdI, elems, mk, bounds, AV.cell, List.all_cons, List.all_nil, Bool.and_true, Bool.true_and, Bool.and_self, List.length_cons, List.length_nil, List.length_append, Nat.reduceAdd, Nat.reduceSub, Nat.reduceMul, Nat.zero_add, Nat.add_zero, List.replicate_succ, List.replicate_zero, List.cons_append, List.nil_append, List.append_assoc, List.append_nil, List.getElem?_cons_zero, List.getElem?_cons_succ, List.getElem?_nil, List.set_cons_zero, List.set_cons_succ, List.drop_zero, List.drop_succ_cons, List.take_zero, List.take_succ_cons, List.take_nil, List.drop_nil, List.map_cons, List.map_nil, Option.map_some, if_true, if_false, Bool.false_eq_true, and_self, true_and, and_true, Nat.reduceLeDiff, Nat.reduceLT, Nat.le_refl, Nat.reduceEqDiff, ite_true, ite_false, beq_self_eq_true, beq_true, beq_false, Bool.not_true, Bool.not_false, Bool.true_beq, Bool.false_beq]
  refine ACalls.frz (i := 3) (ver := 0) (sz := 1) (rows := [[.int .i64 1], [.int .i64 0]]) rfl ?_
  rw [ea]
  refine ACalls_mono _ _ _ _ _ _ (h2 _ _) ?_
  rintro r b' l' ⟨rfl, rfl, rfl⟩
  simp only [↓run_skip, ↓run_region, ↓run_draw, ↓run_seq, ↓run_block, ↓run_exit, ↓run_ret, ↓run_cond, ↓atN_app, ↓seqC_normal, ↓seqC_exit, ↓seqC_ret, ↓seqQ_normal, ↓seqQ_exit, ↓seqQ_ret, ↓blkQ_normal, ↓blkQ_exit, ↓blkQ_ret, ↓runOps_nil, ↓runOps_cons, ↓runD_nil, ↓runD_cons, ↓grdO_true, ↓grdO_false, ↓grdD_true, ↓grdD_false, ↓ifC_true, ↓ifC_false, ↓opS_val, ↓opS_call, ↓opS_two, ↓opK_app, ↓dS_val, ↓dS_call, ↓dS_two, ↓dK_app, rechks_nil, rechks_cons, rechk, gcase_true, gcase_false, ex_val, ex_val0, gd_none, gd_some, nth_zero, nth_succ, upd_zero, upd_succ, put_some, put_none, ev_t, ev_c, evs_nil, evs_cons, evo_some, evo_none, hget_at, hget_first, hsetB_at, hsetB_first, hsetL_at, hsetL_first, ofOpt_some, aop, aload, astore, aslice, aappend, aiaddr, aiaddrA, afaddr, alen, alenS, acopy, amm, acall, apick, binV, binVB, binVS, isSh, intOp, strOp, boolOp, shOp, eqC, eqF, and2, cellsOf, setFrom, fillA, fillS, rd, rdI, elems, mk, bounds, AV.cell, List.all_cons, List.all_nil, Bool.and_true, Bool.true_and, Bool.and_self, List.length_cons, List.length_nil, List.length_append, Nat.reduceAdd, Nat.reduceSub, Nat.reduceMul, Nat.zero_add, Nat.add_zero, List.replicate_succ, List.replicate_zero, List.cons_append, List.nil_append, List.append_assoc, List.append_nil, List.getElem?_cons_zero, List.getElem?_cons_succ, List.getElem?_nil, List.set_cons_zero, List.set_cons_succ, List.drop_zero, List.drop_succ_cons, List.take_zero, List.take_succ_cons, List.take_nil, List.drop_nil, List.map_cons, List.map_nil, Option.map_some, if_true, if_false, Bool.false_eq_true, and_self, true_and, and_true, Nat.reduceLeDiff, Nat.reduceLT, Nat.le_refl, Nat.reduceEqDiff, ite_true, ite_false, beq_self_eq_true, beq_true, beq_false, Bool.not_true, Bool.not_false, Bool.true_beq, Bool.false_beq]
  refine ACalls_mono _ _ _ _ _ _ (hT ▸ sender_spec pairT pair_small hN _ _ 5) ?_
  rintro r b' l' ⟨rfl, rfl, rfl⟩
  simp only [idA, hs, (show ((0 : Nat) : Int) = 0 from rfl), (show ((1 : Nat) : Int) = 1 from rfl), Nat.zero_lt_one, decide_true, ↓run_skip, ↓run_region, ↓run_draw, ↓run_seq, ↓run_block, ↓run_exit, ↓run_ret, ↓run_cond, ↓atN_app, ↓seqC_normal, ↓seqC_exit, ↓seqC_ret, ↓seqQ_normal, ↓seqQ_exit, ↓seqQ_ret, ↓blkQ_normal, ↓blkQ_exit, ↓blkQ_ret, ↓runOps_nil, ↓runOps_cons, ↓runD_nil, ↓runD_cons, ↓grdO_true, ↓grdO_false, ↓grdD_true, ↓grdD_false, ↓ifC_true, ↓ifC_false, ↓opS_val, ↓opS_call, ↓opS_two, ↓opK_app, ↓dS_val, ↓dS_call, ↓dS_two, ↓dK_app, rechks_nil, rechks_cons, rechk, gcase_true, gcase_false, ex_val, ex_val0, gd_none, gd_some, nth_zero, nth_succ, upd_zero, upd_succ, put_some, put_none, ev_t, ev_c, evs_nil, evs_cons, evo_some, evo_none, hget_at, hget_first, hsetB_at, hsetB_first, hsetL_at, hsetL_first, ofOpt_some, aop, aload, astore, aslice, aappend, aiaddr, aiaddrA, afaddr, alen, alenS, acopy, amm, acall, apick, binV, binVB, binVS, isSh, intOp, strOp, boolOp, shOp, eqC, eqF, and2, cellsOf, setFrom, fillA, fillS, rd, rdI, elems, mk, bounds, AV.cell, List.all_cons, List.all_nil, Bool.and_true, Bool.true_and, Bool.and_self, List.length_cons, List.length_nil, List.length_append, Nat.reduceAdd, Nat.reduceSub, Nat.reduceMul, Nat.zero_add, Nat.add_zero, List.replicate_succ, List.replicate_zero, List.cons_append, List.nil_append, List.append_assoc, List.append_nil, List.getElem?_cons_zero, List.getElem?_cons_succ, List.getElem?_nil, List.set_cons_zero, List.set_cons_succ, List.drop_zero, List.drop_succ_cons, List.take_zero, List.take_succ_cons, List.take_nil, List.drop_nil, List.map_cons, List.map_nil, Option.map_some, if_true, if_false, Bool.false_eq_true, and_self, true_and, and_true, Nat.reduceLeDiff, Nat.reduceLT, Nat.le_refl, Nat.reduceEqDiff, ite_true, ite_false, beq_self_eq_true, beq_true, beq_false, Bool.not_true, Bool.not_false, Bool.true_beq, Bool.false_beq]
  refine ACalls_mono _ _ _ _ _ _ (hT ▸ valid_spec pairT pair_small hN _ _) ?_
  rintro r b' l' ⟨rfl, rfl, rfl⟩
  obtain ⟨U, hU⟩ : ∃ U, eT p = U := ⟨_, rfl⟩
  simp only [hv, hU, ↓run_skip, ↓run_region, ↓run_draw, ↓run_seq, ↓run_block, ↓run_exit, ↓run_ret, ↓run_cond, ↓atN_app, ↓seqC_normal, ↓seqC_exit, ↓seqC_ret, ↓seqQ_normal, ↓seqQ_exit, ↓seqQ_ret, ↓blkQ_normal, ↓blkQ_exit, ↓blkQ_ret, ↓runOps_nil, ↓runOps_cons, ↓runD_nil, ↓runD_cons, ↓grdO_true, ↓grdO_false, ↓grdD_true, ↓grdD_false, ↓ifC_true, ↓ifC_false, ↓opS_val, ↓opS_call, ↓opS_two, ↓opK_app, ↓dS_val, ↓dS_call, ↓dS_two, ↓dK_app, rechks_nil, rechks_cons, rechk, gcase_true, gcase_false, ex_val, ex_val0, gd_none, gd_some, nth_zero, nth_succ, upd_zero, upd_succ, put_some, put_none, ev_t, ev_c, evs_nil, evs_cons, evo_some, evo_none, hget_at, hget_first, hsetB_at, hsetB_first, hsetL_at, hsetL_first, ofOpt_some, aop, aload, astore, aslice, aappend, aiaddr, aiaddrA, afaddr, alen, alenS, acopy, amm, acall, apick, binV, binVB, binVS, isSh, intOp, strOp, boolOp, shOp, eqC, eqF, and2, cellsOf, setFrom, fillA, fillS, rd, rdI, elems, mk, bounds, AV.cell, List.all_cons, List.all_nil, Bool.and_true, Bool.true_and, Bool.and_self, List.length_cons, List.length_nil, List.length_append, Nat.reduceAdd, Nat.reduceSub, Nat.reduceMul, Nat.zero_add, Nat.add_zero, List.replicate_succ, List.replicate_zero, List.cons_append, List.nil_append, List.append_assoc, List.append_nil, List.getElem?_cons_zero, List.getElem?_cons_succ, List.getElem?_nil, List.set_cons_zero, List.set_cons_succ, List.drop_zero, List.drop_succ_cons, List.take_zero, List.take_succ_cons, List.take_nil, List.drop_nil, List.map_cons, List.map_nil, Option.map_some, if_true, if_false, Bool.false_eq_true, and_self, true_and, and_true, Nat.reduceLeDiff, Nat.reduceLT, Nat.le_refl, Nat.reduceEqDiff, ite_true, ite_false, beq_self_eq_true, beq_true, beq_false, Bool.not_true, Bool.not_false, Bool.true_beq, Bool.false_beq]
  refine ACalls_mono _ _ _ _ _ _ (hU ▸ count_spec p hp.1 hp.2.1 _ _ hp.2.2) ?_
  rintro r b' l' ⟨rfl, rfl, rfl⟩
  simp only [hc, (show ((1 : Nat) : Int) = 1 from rfl), ↓run_skip, ↓run_region, ↓run_draw, ↓run_seq, ↓run_block, ↓run_exit, ↓run_ret, ↓run_cond, ↓atN_app, ↓seqC_normal, ↓seqC_exit, ↓seqC_ret, ↓seqQ_normal, ↓seqQ_exit, ↓seqQ_ret, ↓blkQ_normal, ↓blkQ_exit, ↓blkQ_ret, ↓runOps_nil, ↓runOps_cons, ↓runD_nil, ↓runD_cons, ↓grdO_true, ↓grdO_false, ↓grdD_true, ↓grdD_false, ↓ifC_true, ↓ifC_false, ↓opS_val, ↓opS_call, ↓opS_two, ↓opK_app, ↓dS_val, ↓dS_call, ↓dS_two, ↓dK_app, rechks_nil, rechks_cons, rechk, gcase_true, gcase_false, ex_val, ex_val0, gd_none, gd_some, nth_zero, nth_succ, upd_zero, upd_succ, put_some, put_none, ev_t, ev_c, evs_nil, evs_cons, evo_some, evo_none, hget_at, hget_first, hsetB_at, hsetB_first, hsetL_at, hsetL_first, ofOpt_some, aop, aload, astore, aslice, aappend, aiaddr, aiaddrA, afaddr, alen, alenS, acopy, amm, acall, apick, binV, binVB, binVS, isSh, intOp, strOp, boolOp, shOp, eqC, eqF, and2, cellsOf, setFrom, fillA, fillS, rd, rdI, elems, mk, bounds, AV.cell, List.all_cons, List.all_nil, Bool.and_true, Bool.true_and, Bool.and_self, List.length_cons, List.length_nil, List.length_append, Nat.reduceAdd, Nat.reduceSub, Nat.reduceMul, Nat.zero_add, Nat.add_zero, List.replicate_succ, List.replicate_zero, List.cons_append, List.nil_append, List.append_assoc, List.append_nil, List.getElem?_cons_zero, List.getElem?_cons_succ, List.getElem?_nil, List.set_cons_zero, List.set_cons_succ, List.drop_zero, List.drop_succ_cons, List.take_zero, List.take_succ_cons, List.take_nil, List.drop_nil, List.map_cons, List.map_nil, Option.map_some, if_true, if_false, Bool.false_eq_true, and_self, true_and, and_true, Nat.reduceLeDiff, Nat.reduceLT, Nat.le_refl, Nat.reduceEqDiff, ite_true, ite_false, beq_self_eq_true, beq_true, beq_false, Bool.not_true, Bool.not_false, Bool.true_beq, Bool.false_beq]
  have hnil : Small [] := ⟨by decide, by simp, by simp, by simp⟩
  refine ACalls_mono _ _ _ _ _ _ (ACalls.le (valid_spec [] hnil (by intro p hp; simp at hp) _ _) rfl ?_) ?_
  · intro i a c ha hc
    cases i with
    | zero =>
      simp at ha hc; subst ha; subst hc
      refine .agg _ _ rfl (fun i a c ha hc => ?_)
      cases i with
      | zero => simp at ha hc; subst ha; subst hc; exact .v _ _ (.zsl 3)
      | succ i => simp at ha
    | succ i => simp at ha
  rintro r b' l' ⟨rfl, rfl, rfl⟩
  simp only [hv0, ↓run_skip, ↓run_region, ↓run_draw, ↓run_seq, ↓run_block, ↓run_exit, ↓run_ret, ↓run_cond, ↓atN_app, ↓seqC_normal, ↓seqC_exit, ↓seqC_ret, ↓seqQ_normal, ↓seqQ_exit, ↓seqQ_ret, ↓blkQ_normal, ↓blkQ_exit, ↓blkQ_ret, ↓runOps_nil, ↓runOps_cons, ↓runD_nil, ↓runD_cons, ↓grdO_true, ↓grdO_false, ↓grdD_true, ↓grdD_false, ↓ifC_true, ↓ifC_false, ↓opS_val, ↓opS_call, ↓opS_two, ↓opK_app, ↓dS_val, ↓dS_call, ↓dS_two, ↓dK_app, rechks_nil, rechks_cons, rechk, gcase_true, gcase_false, ex_val, ex_val0, gd_none, gd_some, nth_zero, nth_succ, upd_zero, upd_succ, put_some, put_none, ev_t, ev_c, evs_nil, evs_cons, evo_some, evo_none, hget_at, hget_first, hsetB_at, hsetB_first, hsetL_at, hsetL_first, ofOpt_some, aop, aload, astore, aslice, aappend, aiaddr, aiaddrA, afaddr, alen, alenS, acopy, amm, acall, apick, binV, binVB, binVS, isSh, intOp, strOp, boolOp, shOp, eqC, eqF, and2, cellsOf, setFrom, fillA, fillS, rd, rdI, elems, mk, bounds, AV.cell, List.all_cons, List.all_nil, Bool.and_true, Bool.true_and, Bool.and_self, List.length_cons, List.length_nil, List.length_append, Nat.reduceAdd, Nat.reduceSub, Nat.reduceMul, Nat.zero_add, Nat.add_zero, List.replicate_succ, List.replicate_zero, List.cons_append, List.nil_append, List.append_assoc, List.append_nil, List.getElem?_cons_zero, List.getElem?_cons_succ, List.getElem?_nil, List.set_cons_zero, List.set_cons_succ, List.drop_zero, List.drop_succ_cons, List.take_zero, List.take_succ_cons, List.take_nil, List.drop_nil, List.map_cons, List.map_nil, Option.map_some, if_true, if_false, Bool.false_eq_true, and_self, true_and, and_true, Nat.reduceLeDiff, Nat.reduceLT, Nat.le_refl, Nat.reduceEqDiff, ite_true, ite_false, beq_self_eq_true, beq_true, beq_false, Bool.not_true, Bool.not_false, Bool.true_beq, Bool.false_beq]
  exact leave_pure (.inr rfl) rfl (.v _) hR hB ⟨rfl, rfl, rfl⟩
end Go.Proofs.Ytfdekchpckdeiaa

/- Facts of the concrete trace. -/
namespace Go.Proofs.Ytfdekchpckdeiaa
set_option linter.unusedVariables false
theorem pair_nm : Nm pairT := by
  intro p hp
  simp [pairT] at hp
  rcases hp with rfl | rfl <;> exact ⟨by decide, by simp⟩
theorem valid_nil : validL [] = false := by simp [validL, faultL]
theorem pair_dir {x y : Nat × Nat} (h : Dir pairT x y) (hx : 1 ≤ x.2) : y = (1, 1) ∧ x ≠ (1, 1) := by
  have hlen : ∀ p, (evsOf pairT p).length ≤ 1 := by
    intro p
    match p with
    | 0 => decide
    | 1 => decide
    | p + 2 => simp [evsOf, pairT, dfPr]
  rcases h with ⟨_, h⟩ | ⟨h1, h2⟩
  · have := hlen x.1; omega
  · unfold findL at h2
    have h3 := List.mem_of_find?_eq_some h2
    have h4 := List.find?_some h2
    have hid : ids pairT = [(0, 1), (1, 1)] := by kernel_rfl
    rw [hid] at h3
    refine ⟨?_, fun hx1 => ?_⟩
    · simp at h3
      rcases h3 with rfl | rfl
      · simp [evAt, evsOf, pairT] at h4
      · rfl
    · subst hx1
      simp [evAt, evsOf, pairT] at h1
theorem pair_hb {x y : Nat × Nat} (h : Hb pairT x y) (hx : 1 ≤ x.2) : y = (1, 1) ∧ x ≠ (1, 1) := by
  induction h with
  | one h => exact pair_dir h hx
  | more h k ih => exact absurd ih.1 (pair_dir k (by rw [ih.1]; exact Nat.le_refl 1)).2
theorem pair_fault : faultL pairT = ((0, 0), 0) := by
  unfold faultL
  rw [if_neg (by decide)]
  have h1 : (List.range pairT.length).find? (fun p => headF pairT p != 0) = none := by kernel_rfl
  have h2 : (ids pairT).find? (fun x => formF pairT x != 0) = none := by kernel_rfl
  have h3 : (ids pairT).find? (fun x => pairF pairT x != 0) = none := by kernel_rfl
  rw [h1]; simp only
  rw [h2]; simp only
  rw [h3]; simp only
  have hid : ids pairT = [(0, 1), (1, 1)] := by kernel_rfl
  have h4 : (ids pairT).find? (fun x => @decide (Hb pairT x x) (Classical.propDecidable _)) = none := by
    rw [List.find?_eq_none]
    intro x hx
    rw [hid] at hx
    simp at hx
    simp only [decide_eq_true_eq]
    intro h
    rcases hx with rfl | rfl
    · have := (pair_hb h (Nat.le_refl 1)).1; cases this
    · exact (pair_hb h (Nat.le_refl 1)).2 rfl
  rw [h4]
theorem pair_valid : validL pairT = true := by simp [validL, pair_fault]
theorem pair_find : findR pairT 2 5 = (0, 1) := by
  unfold findR
  rw [if_pos pair_valid]
  kernel_rfl

/-! Its prefix. -/
def preT : Tr := [⟨⟨#[97]⟩, [], [⟨2, 1, 5, 0, []⟩]⟩, ⟨⟨#[98]⟩, [], []⟩]
theorem pre_ids : ids preT = [(0, 1)] := by kernel_rfl
theorem pre_dir {x y : Nat × Nat} (h : Dir preT x y) (hx : 1 ≤ x.2) : False := by
  have hlen : ∀ p, (evsOf preT p).length ≤ 1 := by
    intro p
    match p with
    | 0 => decide
    | 1 => decide
    | p + 2 => simp [evsOf, preT, dfPr]
  rcases h with ⟨_, h⟩ | ⟨h1, h2⟩
  · have := hlen x.1; omega
  · unfold findL at h2
    have h3 := List.mem_of_find?_eq_some h2
    have h4 := List.find?_some h2
    rw [pre_ids] at h3
    simp at h3
    subst h3
    simp [evAt, evsOf, preT] at h4
theorem pre_hb {x y : Nat × Nat} (h : Hb preT x y) (hx : 1 ≤ x.2) : False := by
  induction h with
  | one h => exact pre_dir h hx
  | more h k ih => exact ih
theorem pre_fault : faultL preT = ((0, 0), 0) := by
  unfold faultL
  rw [if_neg (by decide)]
  have h1 : (List.range preT.length).find? (fun p => headF preT p != 0) = none := by kernel_rfl
  have h2 : (ids preT).find? (fun x => formF preT x != 0) = none := by kernel_rfl
  have h3 : (ids preT).find? (fun x => pairF preT x != 0) = none := by kernel_rfl
  rw [h1]; simp only
  rw [h2]; simp only
  rw [h3]; simp only
  have h4 : (ids preT).find? (fun x => @decide (Hb preT x x) (Classical.propDecidable _)) = none := by
    rw [List.find?_eq_none]
    intro x hx
    rw [pre_ids] at hx
    simp at hx
    simp only [decide_eq_true_eq]
    intro h
    subst hx
    exact pre_hb h (Nat.le_refl 1)
  rw [h4]
theorem pre_count : countR preT = 1 := by
  unfold countR
  rw [if_pos (by simp [validL, pre_fault]), pre_ids]
  rfl
theorem pre_ok : Small preT ∧ Nm preT ∧ (ids preT).length ≤ 1000000 := by
  refine ⟨⟨by decide, by decide, by decide, by decide⟩, ?_, by rw [pre_ids]; decide⟩
  intro p hp
  simp [preT] at hp
  rcases hp with rfl | rfl <;> exact ⟨by decide, by simp⟩
/-- awake, but for what Prefix answers. -/
theorem awake_of
    (h1 : ∀ b l, ACalls Try.prog 20 [.agg [.v (eT pairT)], .v (.isl 1 [[.int .i64 0], [.int .i64 1]])] b l (fun r b' l' => r = .tup [.agg [.v .zsl], .v (.int .i64 18)] ∧ b' = b ∧ l' = l))
    (h2 : ∀ b l, ACalls Try.prog 20 [.agg [.v (eT pairT)], .v (.isl 1 [[.int .i64 1], [.int .i64 0]])] b l (fun r b' l' => r = .tup [.agg [.v (eT preT)], .v (.int .i64 0)] ∧ b' = b ∧ l' = l)) (b l : List Row) :
    ACalls Try.prog 15 [] b l (fun r b' l' => r = .v (.bool true) ∧ b' = b ∧ l' = l) :=
  awake_run preT pre_ok pair_nm pair_valid valid_nil pair_find pre_count h1 h2 b l
end Go.Proofs.Ytfdekchpckdeiaa

/- The contract of Prefix in the words of runs; awake of chapter 12. No condition but on lengths. -/
namespace Go.Proofs.Ytfdekchpckdeiaa
set_option linter.unusedVariables false

/-- A contract whose result may lie in new memory. -/
theorem ACalls.of_new {P : Program} {f : Nat} {args : List AV} {b l : List Row} {Q : AV → List Row → List Row → Prop} (hf : ∃ fn, P.funcs[f]? = some fn ∧ (fn.name == "runtime.NumGoroutine") = false ∧ fn.body.isSome = true)
    (h : ∀ F L w (vs : Array Value), (∀ b, F b → b < w.heap.size) → RepL w F L args vs.toList → Calls P f vs w fun en w' => Ext w w' ∧ ∃ v x F', en = .returned v ∧ (∀ b, F b → F' b) ∧ (∀ b, b < w.heap.size → F' b → F b) ∧ (∀ b, F' b → b < w'.heap.size) ∧ RepA w' F' (fun _ _ => none) x v ∧ Q x b l) : ACalls P f args b l Q := by
  refine ⟨hf, fun F L w vs s hr => Calls.mono (h F L w vs (fun b hb => (s.imm b hb).1) hr) ?_⟩
  rintro en w' ⟨he, v, x, F', h1, h2, h3, h4, h5, h6⟩
  have hblk : ∀ k, k < w.heap.size → w'.heap[k]? = w.heap[k]? := he.block
  have hown : ∀ k, Owned L (b ++ l) k → k < w.heap.size := by
    rintro k ⟨id, ver, sz, els, o, z, cap, k1, k2⟩
    obtain ⟨q, q1, q2⟩ := s.row id ver sz els k1
    rw [k2] at q1; cases q1
    obtain ⟨_, _, _, cur, T, k4, _⟩ := q2
    exact (Array.getElem?_eq_some_iff.1 k4).1
  refine ⟨v, x, b, l, F', L, h1, h5.mono (fun _ h => h) (fun _ _ => rfl) (fun _ _ _ h => by cases h), ⟨fun i v z els hi => ?_, s.born, s.apart, fun k hk => ⟨h4 k hk, fun ho => (s.imm k (h3 k (hown k ho) hk)).2 ho⟩⟩,
    ⟨h2, fun _ _ _ _ h => h, he.os, he.tape, he.output, he.size, fun k hk _ => hblk k hk, fun _ _ h => h, fun _ _ _ h => h, fun k hk hf => .inl (h3 k hk hf)⟩, rfl, h6⟩
  obtain ⟨q, g1, g2⟩ := s.row i v z els hi
  refine ⟨q, g1, ?_⟩
  cases q with
  | nil => exact g2
  | pl blk o z1 c =>
    obtain ⟨k1, k2, k3, cur, T, k4, k5, k6, k7⟩ := g2
    refine ⟨k1, k2, k3, cur, T, by rw [hblk blk (Array.getElem?_eq_some_iff.1 k4).1]; exact k4, k5, k6, fun k row j a hk hj => ?_⟩
    obtain ⟨k8, u, k9, k10⟩ := k7 k row j a hk hj
    exact ⟨k8, u, k9, k10.mono h2 (fun k hk => hblk k (s.imm k hk).1) (fun _ _ _ h => h)⟩

noncomputable def prefV (t : Tr) (cs : List Int) : AV := if prefC t cs = 0 then .agg [.v (eT (firstL t cs))] else .agg [.v .zsl]
theorem prefix_spec (t : Tr) (hS : Small t) (hN : Nm t) (cs : List Int) (hc : cs.length ≤ 1000000) (b l : List Row) :
    ACalls Try.prog 20 [.agg [.v (eT t)], .v (.isl 1 (cs.map eI))] b l (fun r b' l' => r = .tup [prefV t cs, .v (.int .i64 (prefC t cs))] ∧ b' = b ∧ l' = l) := by
  refine ACalls.of_new ⟨_, Try.func20, by kernel_rfl, by kernel_rfl⟩ (fun F L w vs hF hr => ?_)
  obtain ⟨v, us, h1, h2, h3⟩ := repL_cons hr
  obtain ⟨v2, us2, rfl, h4, h5⟩ := repL_cons h3
  obtain rfl := repL_nil h5
  obtain ⟨vs1, rfl, hl⟩ := h2.aggL
  obtain ⟨u, us3, h6, h7, h8⟩ := repL_cons hl
  obtain rfl := repL_nil h8
  have hvs1 : vs1 = #[u] := Array.toList_inj.1 (by rw [h6])
  subst hvs1
  have hvs : vs = #[.agg #[u], v2] := Array.toList_inj.1 (by rw [h1])
  subst hvs
  refine (Prefix_any u v2 t cs F w hS hc hN hF h7.vI h4.vI).mono ?_
  rintro e w' ⟨he, v, rfl, hcase⟩
  refine ⟨he, ?_⟩
  rcases hcase with ⟨hne, s, rfl⟩ | ⟨h0, F', g1, g2, g3, g4⟩
  · refine ⟨_, _, F, rfl, fun _ h => h, fun _ _ h => h, fun b hb => Nat.lt_of_lt_of_le (hF b hb) he.size, RepL.tup (RepL.cons (RepL.agg (vs := #[.slice s 0 0]) (RepL.cons (.v _ _ (.zsl s)) RepL.nil)) (RepL.cons (.v _ _ (.int _ _)) RepL.nil)), ?_, rfl, rfl⟩
    unfold prefV; rw [if_neg hne]
  · refine ⟨_, _, F', rfl, g1, g2, g3, RepL.tup (RepL.cons g4 (RepL.cons (.v _ _ (.int _ _)) RepL.nil)), ?_, rfl, rfl⟩
    unfold prefV; rw [if_pos h0]

theorem pref_18 : prefC pairT [0, 1] = 18 := by
  unfold prefC
  rw [if_neg (by rw [pair_valid]; decide), if_neg (by decide), if_pos]
  kernel_rfl
theorem pref_0 : prefC pairT [1, 0] = 0 := by
  unfold prefC
  rw [if_neg (by rw [pair_valid]; decide), if_neg (by decide), if_neg]
  rw [Bool.not_eq_true]
  kernel_rfl
/-- The example of chapter 12. -/
theorem awake_spec (b l : List Row) : ACalls Try.prog 15 [] b l (fun r b' l' => r = .v (.bool true) ∧ b' = b ∧ l' = l) := by
  refine awake_of (fun b l => ?_) (fun b l => ?_) b l
  · refine ACalls_mono _ _ _ _ _ _ (prefix_spec pairT pair_small pair_nm [0, 1] (by decide) b l) ?_
    rintro r b' l' ⟨rfl, rfl, rfl⟩
    refine ⟨?_, rfl, rfl⟩
    unfold prefV; rw [pref_18]; rfl
  · refine ACalls_mono _ _ _ _ _ _ (prefix_spec pairT pair_small pair_nm [1, 0] (by decide) b l) ?_
    rintro r b' l' ⟨rfl, rfl, rfl⟩
    refine ⟨?_, rfl, rfl⟩
    unfold prefV; rw [pref_0]; rfl
end Go.Proofs.Ytfdekchpckdeiaa

/- What is known of a trace that comes in, for chapter 12. No condition. -/
namespace Go.Proofs.Ytfdekchpckdeiaa
set_option linter.unusedVariables false
theorem OkTr.fits {t : Tr} (h : OkTr t) : Fits t := by
  have e := maxLen_eq
  refine ⟨by have := h.1; omega, fun x hx => ?_, fun x hx => ?_, fun x hx => ?_⟩
  · have := (h.2 x hx).2.1; omega
  · have := (h.2 x hx).2.2; omega
  · have := (h.2 x hx).1.1; omega
end Go.Proofs.Ytfdekchpckdeiaa
