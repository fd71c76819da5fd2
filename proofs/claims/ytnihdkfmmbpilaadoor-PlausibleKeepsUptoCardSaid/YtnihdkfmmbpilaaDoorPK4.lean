/- Texts of one proof, laid together: RG, RF. No condition. -/
import Derived.Test.YtnihdkfmmbpilaaDoorPK3
namespace Go.Proofs.YtnihdkfmmbpilaaDoor
open Go.RowKit
set_option linter.unusedVariables false

theorem form_ways (np p : Nat) (e : Ev) : (formedB np p e = false ∧ (((e.kind == 1) = true ∧ (e.peer != 0) = true) ∨ ((e.kind == 1) = true ∧ (e.peer != 0) = false ∧ (e.msg != 0) = true) ∨ ((e.kind == 1) = false ∧ (e.kind != 2) = true ∧ (e.kind != 3) = true) ∨ ((e.kind == 1) = false ∧ (e.kind != 2) = false ∧ (decide (e.peer < 0)) = true) ∨ ((e.kind == 1) = false ∧ (e.kind != 2) = true ∧ (e.kind != 3) = false ∧ (decide (e.peer < 0)) = true) ∨ ((e.kind == 1) = false ∧ (e.kind != 2) = false ∧ (decide (e.peer < 0)) = false ∧ (decide ((np : Int) ≤ e.peer)) = true) ∨ ((e.kind == 1) = false ∧ (e.kind != 2) = true ∧ (e.kind != 3) = false ∧ (decide (e.peer < 0)) = false ∧ (decide ((np : Int) ≤ e.peer)) = true) ∨ ((e.kind == 1) = false ∧ (e.kind != 2) = false ∧ (decide (e.peer < 0)) = false ∧ (decide ((np : Int) ≤ e.peer)) = false ∧ (e.peer == (p : Int)) = true) ∨ ((e.kind == 1) = false ∧ (e.kind != 2) = true ∧ (e.kind != 3) = false ∧ (decide (e.peer < 0)) = false ∧ (decide ((np : Int) ≤ e.peer)) = false ∧ (e.peer == (p : Int)) = true) ∨ ((e.kind == 1) = false ∧ (e.kind != 2) = false ∧ (decide (e.peer < 0)) = false ∧ (decide ((np : Int) ≤ e.peer)) = false ∧ (e.peer == (p : Int)) = false ∧ (decide (e.msg < 0)) = true) ∨ ((e.kind == 1) = false ∧ (e.kind != 2) = true ∧ (e.kind != 3) = false ∧ (decide (e.peer < 0)) = false ∧ (decide ((np : Int) ≤ e.peer)) = false ∧ (e.peer == (p : Int)) = false ∧ (decide (e.msg < 0)) = true) ∨ ((e.kind == 1) = false ∧ (e.kind != 2) = false ∧ (decide (e.peer < 0)) = false ∧ (decide ((np : Int) ≤ e.peer)) = false ∧ (e.peer == (p : Int)) = false ∧ (decide (e.msg < 0)) = false ∧ (decide (199 < e.msg)) = true) ∨ ((e.kind == 1) = false ∧ (e.kind != 2) = true ∧ (e.kind != 3) = false ∧ (decide (e.peer < 0)) = false ∧ (decide ((np : Int) ≤ e.peer)) = false ∧ (e.peer == (p : Int)) = false ∧ (decide (e.msg < 0)) = false ∧ (decide (199 < e.msg)) = true))) ∨ (formedB np p e = true ∧ (((e.kind == 1) = true ∧ (e.peer != 0) = false ∧ (e.msg != 0) = false) ∨ ((e.kind == 1) = false ∧ (e.kind != 2) = false ∧ (decide (e.peer < 0)) = false ∧ (decide ((np : Int) ≤ e.peer)) = false ∧ (e.peer == (p : Int)) = false ∧ (decide (e.msg < 0)) = false ∧ (decide (199 < e.msg)) = false) ∨ ((e.kind == 1) = false ∧ (e.kind != 2) = true ∧ (e.kind != 3) = false ∧ (decide (e.peer < 0)) = false ∧ (decide ((np : Int) ≤ e.peer)) = false ∧ (e.peer == (p : Int)) = false ∧ (decide (e.msg < 0)) = false ∧ (decide (199 < e.msg)) = false))) := by
 have h : formedB np p e = if e.kind == 1 then !((e.peer != 0) || (e.msg != 0)) else !(((e.kind != 2) && (e.kind != 3)) || decide (e.peer < 0) || decide ((np : Int) ≤ e.peer) || (e.peer == (p : Int)) || decide (e.msg < 0) || decide (199 < e.msg)) := by
  unfold formedB inB
  have d1 : decide (0 ≤ e.peer) = !decide (e.peer < 0) := by rw [Bool.eq_iff_iff]; simp
  have d2 : decide (e.peer ≤ (np : Int) - 1) = !decide ((np : Int) ≤ e.peer) := by rw [Bool.eq_iff_iff]; simp; omega
  have d3 : decide (0 ≤ e.msg) = !decide (e.msg < 0) := by rw [Bool.eq_iff_iff]; simp
  have d4 : decide (e.msg ≤ 199) = !decide (199 < e.msg) := by rw [Bool.eq_iff_iff]; simp
  have d5 : (e.kind == 2) = !(e.kind != 2) := by simp [bne]
  have d6 : (e.kind == 3) = !(e.kind != 3) := by simp [bne]
  have d7 : (e.peer != (p : Int)) = !(e.peer == (p : Int)) := by simp [bne]
  have d8 : (e.peer == 0) = !(e.peer != 0) := by simp [bne]
  have d9 : (e.msg == 0) = !(e.msg != 0) := by simp [bne]
  rw [d1, d2, d3, d4, d5, d6, d7, d8, d9]
  cases e.kind == 1 <;> cases e.kind != 2 <;> cases e.kind != 3 <;> cases decide (e.peer < 0) <;> cases decide ((np : Int) ≤ e.peer) <;> cases (e.peer == (p : Int)) <;> cases decide (e.msg < 0) <;> cases decide (199 < e.msg) <;> simp
 rw [h]
 clear h
 cases (e.kind == 1) <;> cases (e.peer != 0) <;> cases (e.msg != 0) <;> cases (e.kind != 2) <;> cases (e.kind != 3) <;> cases (decide (e.peer < 0)) <;> cases (decide ((np : Int) ≤ e.peer)) <;> cases (e.peer == (p : Int)) <;> cases (decide (e.msg < 0)) <;> cases (decide (199 < e.msg)) <;> simp
end Go.Proofs.YtnihdkfmmbpilaaDoor
namespace Go.Proofs.YtnihdkfmmbpilaaDoor
open Go.RowKit
set_option linter.unusedVariables false

theorem formF_evs (t : Tr) (p i : Nat) (hp : p < t.length) (hi : i < t[p].evs.length) (L : Int) (hL : lastT t (p, i + 1) = L) : formF t (p, i + 1) = if !formedB t.length p t[p].evs[i] then 3
 else if !(inB t[p].evs[i].time 0 1099511627776) || decide (t[p].evs[i].time < L) then 11
 else if 8 < t[p].evs[i].asg.length then 5
 else firstNZ (asgF t[p].vars.length t[p].evs[i].asg) t[p].evs[i].asg.length := by
 unfold formF; rw [evAt_eq hp hi, hL]; simp only [getD_lt dfPr t hp]
theorem inB_time (x : Int) : inB x 0 1099511627776 = (!decide (x < 0) && !decide (1099511627776 < x)) := by
 unfold inB
 rw [Bool.eq_iff_iff]; simp
theorem inB_var (x : Int) (n : Nat) : inB x 0 ((n : Int) - 1) = (!decide (x < 0) && !decide ((n : Int) ≤ x)) := by
 unfold inB
 rw [Bool.eq_iff_iff]; simp; omega
theorem lastT_pos (t : Tr) (p i : Nat) (hp : p < t.length) (hi : i < t[p].evs.length) : lastT t (p, i + 1 + 1) = t[p].evs[i].time := lastT_two t p i hp hi
theorem lastT_zero (t : Tr) (p : Nat) : lastT t (p, 0 + 1) = 0 := by unfold lastT; simp
set_option maxRecDepth 100000 in
set_option maxHeartbeats 40000000 in
theorem rform_any (u : Value) (t : Tr) (p i : Nat) (w : World) (hp : p < t.length) (hi : i < t[p].evs.length) (hS : Small t) (hs : SlR 3 RPr w u t) :
  Calls Tryd.prog 105 #[.agg #[u], .int .i64 p, .int .i64 i] w fun e w' => e = .returned (.int .i64 (formF t (p, i + 1))) ∧ Ext w w' := by
 obtain ⟨A, c, rfl, h1, h2, hc⟩ := hs.at_
 obtain ⟨b, off, rfl, hel⟩ := hc oM
 obtain ⟨⟨c0, hm⟩, ⟨v1, c1, hs1⟩, v2, c2, hs2⟩ := hel p hp
 have hb := lt_of_cell c0
 obtain ⟨A1, k1, rfl, _, _, _⟩ := hs1.at_
 obtain ⟨A2, k2, rfl, _, _, hc2⟩ := hs2.at_
 obtain ⟨b2, off2, rfl, hel2⟩ := hc2 oM
 obtain ⟨g0, g1, g2, g3, va, g4, hs4⟩ := hel2 i hi
 obtain ⟨A4, k4, rfl, _, _, hc4⟩ := hs4.at_
 have hb2 := lt_of_cell g0
 have HEL2 := hide hel2
 have HC4 := hide hc4
 have hnp := hS.np
 have hnv := hS.nv _ (List.getElem_mem hp)
 have hne := hS.ne _ (List.getElem_mem hp)
 have hna := hS.na _ (List.getElem_mem hp) _ (List.getElem_mem hi)
 have HW := hide (form_ways t.length p t[p].evs[i])
 have HFE := hide (formF_evs t p i hp hi)
 have hL : (i = 0 ∧ lastT t (p, i + 1) = 0) ∨ ∃ (j : Nat) (hj : j < t[p].evs.length), i = j + 1 ∧ lastT t (p, i + 1) = t[p].evs[j].time := by
  rcases i with _ | j
  ·exact .inl ⟨rfl, lastT_zero t p⟩
  ·exact .inr ⟨j, by omega, rfl, lastT_pos t p j hp oM⟩
 have HL := hide hL
 clear hs hs1 hs2 hel hc hel2 hc2 hs4 hc4 hL
 generalize t[p].evs[i] = e at *
 go_enter Tryd.func105, Tryd.ntmps105
 rcases HW.out with ⟨hf, hw⟩ | ⟨hf, hw⟩
 ·have HF := hide (show formF t (p, i + 1) = 3 by rw [HFE.out _ rfl, hf]; rfl)
  clear hf
  rcases hw with ⟨b0, b1⟩ | ⟨b0, b1, b2⟩ | ⟨b0, b1, b2⟩ | ⟨b0, b1, b2⟩ | ⟨b0, b1, b2, b3⟩ | ⟨b0, b1, b2, b3⟩ | ⟨b0, b1, b2, b3, b4⟩ | ⟨b0, b1, b2, b3, b4⟩ | ⟨b0, b1, b2, b3, b4, b5⟩ | ⟨b0, b1, b2, b3, b4, b5⟩ | ⟨b0, b1, b2, b3, b4, b5, b6⟩ | ⟨b0, b1, b2, b3, b4, b5, b6⟩ | ⟨b0, b1, b2, b3, b4, b5, b6, b7⟩
  all_goals
   go_wp2_with fail
   go_ret
   exact ⟨by rw [HF.out]; rfl, ((Ext.refl _).alloc _).alloc _⟩
 ·have HF1 := hide hf
  clear hf
  have bt : BoxN ((w.alloc (.cells #[.slice (some ⟨b, off, none⟩) t.length c] 24)).alloc (.cells #[.int .i64 e.kind, .int .i64 e.peer, .int .i64 e.msg, .int .i64 e.time, .slice A4 e.asg.length k4] 74)) w.heap.size 24 _ := (BoxN.new w _ _).alloc _
  have be : BoxN ((w.alloc (.cells #[.slice (some ⟨b, off, none⟩) t.length c] 24)).alloc (.cells #[.int .i64 e.kind, .int .i64 e.peer, .int .i64 e.msg, .int .i64 e.time, .slice A4 e.asg.length k4] 74)) (w.heap.size + 1) 74 _ := BoxN.newAt _ _ (by simp)
  have hx1 : Ext w ((w.alloc (.cells #[.slice (some ⟨b, off, none⟩) t.length c] 24)).alloc (.cells #[.int .i64 e.kind, .int .i64 e.peer, .int .i64 e.msg, .int .i64 e.time, .slice A4 e.asg.length k4] 74)) := ((Ext.refl _).alloc _).alloc _
  rcases hw with ⟨b0, b1, b2⟩ | ⟨b0, b1, b2, b3, b4, b5, b6⟩ | ⟨b0, b1, b2, b3, b4, b5, b6, b7⟩
  all_goals
   go_wp2_with fail
   generalize (w.alloc (.cells #[.slice (some ⟨b, off, none⟩) t.length c] 24)).alloc (.cells #[.int .i64 e.kind, .int .i64 e.peer, .int .i64 e.msg, .int .i64 e.time, .slice A4 e.asg.length k4] 74) = W1 at *
   have hasg : SlR 2 RAsg W1 (.slice A4 e.asg.length k4) e.asg → True := fun _ => trivial
   clear hasg
   have ht := (bt.cell (j := 0) rfl)
   have e3 := be.cell (j := 3) rfl
   have e4 := be.cell (j := 4) rfl
   have HE := hide (fun L (hL : lastT t (p, i + 1) = L) => show formF t (p, i + 1) = if !(!decide (e.time < 0) && !decide (1099511627776 < e.time)) || decide (e.time < L) then 11 else if 8 < e.asg.length then 5 else firstNZ (asgF t[p].vars.length e.asg) e.asg.length by rw [HFE.out _ hL, HF1.out, inB_time]; simp)
   cases dtl : decide (e.time < 0)
   ·cases dtg : decide (1099511627776 < e.time)
    ·rcases HL.out with ⟨rfl, hl0⟩ | ⟨j, hj, rfl, hl0⟩
     ·have HE1 := hide (show formF t (p, 0 + 1) = if 8 < e.asg.length then 5 else firstNZ (asgF t[p].vars.length e.asg) e.asg.length by rw [HE.out _ hl0, dtg, dtl]; simp)
      clear hl0
      by_cases h8 : 8 < e.asg.length
      ·go_quiet (fail)
       revert nq; intro n1
       go_wp2_with fail
       go_ret
       exact ⟨by rw [HE1.out]; simp [h8], hx1.drewN _⟩
      ·go_quiet (fail)
       revert nq; intro n1
       go_wp2_with fail
       clear ht e3 e4 dtl dtg
       have bt2 := bt.drewN n1
       have be2 := be.drewN n1
       have hx2 := hx1.drewN n1
       clear bt be hx1
       generalize W1.drewN n1 = W2 at *
       go_loopw [8] (fun v wr => ∃ k : Nat, k ≤ e.asg.length ∧ v = .int .i64 k ∧ firstNZ (asgF t[p].vars.length e.asg) k = 0 ∧ Ext W2 wr) (fun v _ => e.asg.length - (intOf v).toNat)
       case atStart => exact ⟨0, Nat.zero_le _, rfl, rfl, Ext.refl _⟩
       case round =>
        obtain ⟨k, hk, rfl, hz, hx⟩ := hrel
        have HZ := hide hz
        clear hz
        have ht := (bt2.ext hx).cell (j := 0) rfl
        have e4 := (be2.ext hx).cell (j := 4) rfl
        have hxx := hx2.trans hx
        have lt1 := (bt2.ext hx).lt
        have lt2 := (be2.ext hx).lt
        by_cases hlt : k < e.asg.length
        ·obtain ⟨b4, off4, rfl, hel4⟩ := HC4.out oM
         have HEL4 := hide hel4
         obtain ⟨s0, s1⟩ := hel4 k hlt
         have a0 := hxx.cellAt s0
         have a1 := hxx.cellAt s1
         have HV := hide (asgF_eq t[p].vars.length e.asg k hlt)
         have HI := hide (fun w => value_any e.asg[k].val w)
         have cv := hxx.cellAt c1
         have hlb := lt_of_cell cv
         have hb4 := lt_of_cell a0
         clear hel4 s0 s1
         go_wp2_with fail
         cases dvl : decide (e.asg[k].v < 0)
         ·cases dvg : decide ((t[p].vars.length : Int) ≤ e.asg[k].v)
          ·cases dvv : valB e.asg[k].val
           ·rw [dvv] at HI
            have HF2 := hide (show asgF t[p].vars.length e.asg k = 2 by rw [HV.out, inB_var, dvl, dvg, dvv]; simp)
            have HR := hide (firstNZ_hit (n := e.asg.length) HZ.out (by rw [HF2.out]; decide) hlt)
            go_quiet ((go_at_call 123; go_must (exact quiet_r (HI.out _))))
            revert nq; intro n2
            go_wp2_with fail
            go_ret
            exact ⟨by rw [HE1.out, HR.out, HF2.out]; simp [h8], (hxx.alloc _).drewN _⟩
           ·rw [dvv] at HI
            go_quiet ((go_at_call 123; go_must (exact quiet_r (HI.out _))))
            revert nq; intro n2
            go_wp2_with fail
            have ba : BoxN (wr.alloc (.cells #[.int .i64 e.asg[k].v, .int .i64 e.asg[k].val] 196)) wr.heap.size 196 _ := BoxN.new _ _ _
            have be3 := ((be2.ext hx).alloc (.cells #[.int .i64 e.asg[k].v, .int .i64 e.asg[k].val] 196)).drewN n2
            have ba3 := ba.drewN n2
            have hx3 := (hx.alloc (.cells #[.int .i64 e.asg[k].v, .int .i64 e.asg[k].val] 196)).drewN n2
            clear e4 a0 a1 cv ht
            generalize hba : wr.heap.size = ba0 at *
            clear hba
            generalize (wr.alloc (.cells #[.int .i64 e.asg[k].v, .int .i64 e.asg[k].val] 196)).drewN n2 = W3 at *
            go_loopw [10] (fun v wr => ∃ q : Nat, q ≤ k ∧ v = .int .i64 q ∧ ((e.asg.take q).any fun b => b.v == e.asg[k].v) = false ∧ Ext W3 wr) (fun v _ => k - (intOf v).toNat)
            case atStart => exact ⟨0, Nat.zero_le _, rfl, rfl, Ext.refl _⟩
            case round =>
             obtain ⟨q, hq, rfl, hany, hxq⟩ := hrel
             have HANY := hide hany
             clear hany
             have e4 := (be3.ext hxq).cell (j := 4) rfl
             have a0 := (ba3.ext hxq).cell (j := 0) rfl
             have hxw := hx2.trans (hx3.trans hxq)
             by_cases hlq : q < k
             ·have r0 := hxw.cellAt (HEL4.out q oM).1
              have hlq2 : (q : Int) < (e.asg.length : Int) := by omega
              cases heq : e.asg[q].v == e.asg[k].v
              ·go_wp2_with fail
               go_quiet (fail)
               revert nq; intro n3
               go_wp2_with fail
               go_roundw
               case rel => exact ⟨q + 1, hlq, by go_num, any_take_step oM HANY.out heq, hxq.drewN _⟩
               case measure => simp [intOf]; omega
              ·have HF8 := hide (show asgF t[p].vars.length e.asg k = 8 by rw [HV.out, inB_var, dvl, dvg, dvv, any_take_hit (f := fun b : Asg => b.v == e.asg[k].v) (n := k) oM hlq heq]; rfl)
               have HR := hide (firstNZ_hit (n := e.asg.length) HZ.out (by rw [HF8.out]; decide) hlt)
               go_wp2_with fail
               go_quiet (fail)
               revert nq; intro n3
               go_wp2_with fail
               go_ret
               exact ⟨by rw [HE1.out, HR.out, HF8.out]; simp [h8], hxw.drewN _⟩
             ·obtain rfl : q = k := by omega
              have HF0 := hide (show asgF t[p].vars.length e.asg q = 0 by rw [HV.out, inB_var, dvl, dvg, dvv, HANY.out]; rfl)
              go_wp2_with fail
              go_roundw
              case rel => exact ⟨q + 1, hlt, by go_num, firstNZ_step HZ.out HF0.out, hx3.trans hxq⟩
              case measure => simp [intOf]; omega
          ·have HF2 := hide (show asgF t[p].vars.length e.asg k = 2 by rw [HV.out, inB_var, dvl, dvg]; simp)
           have HR := hide (firstNZ_hit (n := e.asg.length) HZ.out (by rw [HF2.out]; decide) hlt)
           go_quiet (fail)
           revert nq; intro n2
           go_wp2_with fail
           go_ret
           exact ⟨by rw [HE1.out, HR.out, HF2.out]; simp [h8], (hxx.alloc _).drewN _⟩
         ·have HF2 := hide (show asgF t[p].vars.length e.asg k = 2 by rw [HV.out, inB_var, dvl]; simp)
          have HR := hide (firstNZ_hit (n := e.asg.length) HZ.out (by rw [HF2.out]; decide) hlt)
          go_quiet (fail)
          revert nq; intro n2
          go_wp2_with fail
          go_ret
          exact ⟨by rw [HE1.out, HR.out, HF2.out]; simp [h8], (hxx.alloc _).drewN _⟩
        ·obtain rfl : k = e.asg.length := by omega
         go_wp2_with fail
         go_ret
         exact ⟨by rw [HE1.out]; simp [h8, HZ.out], hxx⟩
     ·have hdj : decide ((0 : Int) < ((j + 1 : Nat) : Int)) = true := decide_eq_true oM
      have hdj2 : decide ((0 : Int) < (j : Int) + 1) = true := decide_eq_true oM
      obtain ⟨_, _, _, q3, _⟩ := HEL2.out j hj
      have q3' := hx1.cellAt q3
      have hjl : (j : Int) < (t[p].evs.length : Int) := by omega
      have c2' := hx1.cellAt c2
      cases dtp : decide (e.time < t[p].evs[j].time)
      ·have HE1 := hide (show formF t (p, j + 1 + 1) = if 8 < e.asg.length then 5 else firstNZ (asgF t[p].vars.length e.asg) e.asg.length by rw [HE.out _ hl0, dtg, dtl, dtp]; simp)
       clear hl0 q3
       by_cases h8 : 8 < e.asg.length
       ·go_quiet (fail)
        revert nq; intro n1
        go_wp2_with fail
        go_ret
        exact ⟨by rw [HE1.out]; simp [h8], hx1.drewN _⟩
       ·go_quiet (fail)
        revert nq; intro n1
        go_wp2_with fail
        clear ht e3 e4 dtl dtg
        have bt2 := bt.drewN n1
        have be2 := be.drewN n1
        have hx2 := hx1.drewN n1
        clear bt be hx1
        generalize W1.drewN n1 = W2 at *
        go_loopw [8] (fun v wr => ∃ k : Nat, k ≤ e.asg.length ∧ v = .int .i64 k ∧ firstNZ (asgF t[p].vars.length e.asg) k = 0 ∧ Ext W2 wr) (fun v _ => e.asg.length - (intOf v).toNat)
        case atStart => exact ⟨0, Nat.zero_le _, rfl, rfl, Ext.refl _⟩
        case round =>
         obtain ⟨k, hk, rfl, hz, hx⟩ := hrel
         have HZ := hide hz
         clear hz
         have ht := (bt2.ext hx).cell (j := 0) rfl
         have e4 := (be2.ext hx).cell (j := 4) rfl
         have hxx := hx2.trans hx
         have lt1 := (bt2.ext hx).lt
         have lt2 := (be2.ext hx).lt
         by_cases hlt : k < e.asg.length
         ·obtain ⟨b4, off4, rfl, hel4⟩ := HC4.out oM
          have HEL4 := hide hel4
          obtain ⟨s0, s1⟩ := hel4 k hlt
          have a0 := hxx.cellAt s0
          have a1 := hxx.cellAt s1
          have HV := hide (asgF_eq t[p].vars.length e.asg k hlt)
          have HI := hide (fun w => value_any e.asg[k].val w)
          have cv := hxx.cellAt c1
          have hlb := lt_of_cell cv
          have hb4 := lt_of_cell a0
          clear hel4 s0 s1
          go_wp2_with fail
          cases dvl : decide (e.asg[k].v < 0)
          ·cases dvg : decide ((t[p].vars.length : Int) ≤ e.asg[k].v)
           ·cases dvv : valB e.asg[k].val
            ·rw [dvv] at HI
             have HF2 := hide (show asgF t[p].vars.length e.asg k = 2 by rw [HV.out, inB_var, dvl, dvg, dvv]; simp)
             have HR := hide (firstNZ_hit (n := e.asg.length) HZ.out (by rw [HF2.out]; decide) hlt)
             go_quiet ((go_at_call 123; go_must (exact quiet_r (HI.out _))))
             revert nq; intro n2
             go_wp2_with fail
             go_ret
             exact ⟨by rw [HE1.out, HR.out, HF2.out]; simp [h8], (hxx.alloc _).drewN _⟩
            ·rw [dvv] at HI
             go_quiet ((go_at_call 123; go_must (exact quiet_r (HI.out _))))
             revert nq; intro n2
             go_wp2_with fail
             have ba : BoxN (wr.alloc (.cells #[.int .i64 e.asg[k].v, .int .i64 e.asg[k].val] 196)) wr.heap.size 196 _ := BoxN.new _ _ _
             have be3 := ((be2.ext hx).alloc (.cells #[.int .i64 e.asg[k].v, .int .i64 e.asg[k].val] 196)).drewN n2
             have ba3 := ba.drewN n2
             have hx3 := (hx.alloc (.cells #[.int .i64 e.asg[k].v, .int .i64 e.asg[k].val] 196)).drewN n2
             clear e4 a0 a1 cv ht
             generalize hba : wr.heap.size = ba0 at *
             clear hba
             generalize (wr.alloc (.cells #[.int .i64 e.asg[k].v, .int .i64 e.asg[k].val] 196)).drewN n2 = W3 at *
             go_loopw [10] (fun v wr => ∃ q : Nat, q ≤ k ∧ v = .int .i64 q ∧ ((e.asg.take q).any fun b => b.v == e.asg[k].v) = false ∧ Ext W3 wr) (fun v _ => k - (intOf v).toNat)
             case atStart => exact ⟨0, Nat.zero_le _, rfl, rfl, Ext.refl _⟩
             case round =>
              obtain ⟨q, hq, rfl, hany, hxq⟩ := hrel
              have HANY := hide hany
              clear hany
              have e4 := (be3.ext hxq).cell (j := 4) rfl
              have a0 := (ba3.ext hxq).cell (j := 0) rfl
              have hxw := hx2.trans (hx3.trans hxq)
              by_cases hlq : q < k
              ·have r0 := hxw.cellAt (HEL4.out q oM).1
               have hlq2 : (q : Int) < (e.asg.length : Int) := by omega
               cases heq : e.asg[q].v == e.asg[k].v
               ·go_wp2_with fail
                go_quiet (fail)
                revert nq; intro n3
                go_wp2_with fail
                go_roundw
                case rel => exact ⟨q + 1, hlq, by go_num, any_take_step oM HANY.out heq, hxq.drewN _⟩
                case measure => simp [intOf]; omega
               ·have HF8 := hide (show asgF t[p].vars.length e.asg k = 8 by rw [HV.out, inB_var, dvl, dvg, dvv, any_take_hit (f := fun b : Asg => b.v == e.asg[k].v) (n := k) oM hlq heq]; rfl)
                have HR := hide (firstNZ_hit (n := e.asg.length) HZ.out (by rw [HF8.out]; decide) hlt)
                go_wp2_with fail
                go_quiet (fail)
                revert nq; intro n3
                go_wp2_with fail
                go_ret
                exact ⟨by rw [HE1.out, HR.out, HF8.out]; simp [h8], hxw.drewN _⟩
              ·obtain rfl : q = k := by omega
               have HF0 := hide (show asgF t[p].vars.length e.asg q = 0 by rw [HV.out, inB_var, dvl, dvg, dvv, HANY.out]; rfl)
               go_wp2_with fail
               go_roundw
               case rel => exact ⟨q + 1, hlt, by go_num, firstNZ_step HZ.out HF0.out, hx3.trans hxq⟩
               case measure => simp [intOf]; omega
           ·have HF2 := hide (show asgF t[p].vars.length e.asg k = 2 by rw [HV.out, inB_var, dvl, dvg]; simp)
            have HR := hide (firstNZ_hit (n := e.asg.length) HZ.out (by rw [HF2.out]; decide) hlt)
            go_quiet (fail)
            revert nq; intro n2
            go_wp2_with fail
            go_ret
            exact ⟨by rw [HE1.out, HR.out, HF2.out]; simp [h8], (hxx.alloc _).drewN _⟩
          ·have HF2 := hide (show asgF t[p].vars.length e.asg k = 2 by rw [HV.out, inB_var, dvl]; simp)
           have HR := hide (firstNZ_hit (n := e.asg.length) HZ.out (by rw [HF2.out]; decide) hlt)
           go_quiet (fail)
           revert nq; intro n2
           go_wp2_with fail
           go_ret
           exact ⟨by rw [HE1.out, HR.out, HF2.out]; simp [h8], (hxx.alloc _).drewN _⟩
         ·obtain rfl : k = e.asg.length := by omega
          go_wp2_with fail
          go_ret
          exact ⟨by rw [HE1.out]; simp [h8, HZ.out], hxx⟩
      ·have HF := hide (show formF t (p, j + 1 + 1) = 11 by rw [HE.out _ hl0, dtp]; simp)
       clear hl0 q3
       go_quiet (fail)
       revert nq; intro n1
       go_wp2_with fail
       go_ret
       exact ⟨by rw [HF.out]; rfl, hx1.drewN _⟩
    ·have HF := hide (show formF t (p, i + 1) = 11 by rw [HE.out _ rfl, dtg]; simp)
     go_quiet (fail)
     revert nq; intro n1
     go_wp2_with fail
     go_ret
     exact ⟨by rw [HF.out]; rfl, hx1.drewN _⟩
   ·have HF := hide (show formF t (p, i + 1) = 11 by rw [HE.out _ rfl, dtl]; simp)
    go_quiet (fail)
    revert nq; intro n1
    go_wp2_with fail
    go_ret
    exact ⟨by rw [HF.out]; rfl, hx1.drewN _⟩
end Go.Proofs.YtnihdkfmmbpilaaDoor
