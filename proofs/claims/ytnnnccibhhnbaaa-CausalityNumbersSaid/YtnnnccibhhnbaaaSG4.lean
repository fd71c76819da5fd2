/- Texts of one proof, laid together: V, RH. No condition. -/
import Derived.Test.YtnnnccibhhnbaaaSG3
import Derived.Deep.RegionLaw
namespace Go.Proofs.Ytnnnccibhhnbaaa
open Go.RowKit
set_option linter.unusedVariables false
attribute [local go_sem] Oper.semAt_some

structure Small (t : Tr) : Prop where
  np : t.length ≤ 1000000
  nv : ∀ x ∈ t, x.vars.length ≤ 1000000
  ne : ∀ x ∈ t, x.evs.length ≤ 1000000
  na : ∀ x ∈ t, ∀ e ∈ x.evs, e.asg.length ≤ 1000000
/-- The same, with lists of events of any length. -/
structure Sm (t : Tr) : Prop where
  np : t.length ≤ 1000000
  nv : ∀ x ∈ t, x.vars.length ≤ 1000000
  ne : ∀ x ∈ t, x.evs.length ≤ 9223372036854775807
  na : ∀ x ∈ t, ∀ e ∈ x.evs, e.asg.length ≤ 1000000
theorem Small.sm {t : Tr} (h : Small t) : Sm t := ⟨h.np, h.nv, fun x hx => Nat.le_trans (h.ne x hx) (by decide), h.na⟩
theorem head_evs {t : Tr} {p : Nat} (hp : p < t.length) (h : headF t p = 0) : t[p].evs.length ≤ 64 := by
  rw [headF_eq t p hp] at h
  split at h
  · cases h
  split at h
  · cases h
  split at h
  · rename_i h2; exact absurd h h2
  split at h
  · cases h
  · omega
theorem Sm.small {t : Tr} (h : Sm t) (hz : ∀ q, q < t.length → headF t q = 0) : Small t :=
  ⟨h.np, h.nv, fun x hx => by
    obtain ⟨p, hp, rfl⟩ := List.getElem_of_mem hx
    have := head_evs hp (hz p hp)
    omega, h.na⟩
def FPost (t : Tr) (w : World) (e : Ending) (w' : World) : Prop := e = .returned (.tuple #[idVal (faultL t).1, .int .i64 (faultL t).2]) ∧ Ext w w'
theorem fault_len {t : Tr} (h : inB t.length 1 8 = false) : faultL t = ((0, 0), 1) := by
  unfold faultL
  rw [if_pos (by simp [inB] at h; omega)]
theorem fault_head {t : Tr} {p : Nat} (h : inB t.length 1 8 = true) (hp : p < t.length) (h0 : ∀ q, q < p → headF t q = 0) (hne : headF t p ≠ 0) : faultL t = ((p, 0), headF t p) := by
  have hf : (List.range t.length).find? (fun p => headF t p != 0) = some p := by
    rw [show t.length = p + (1 + (t.length - p - 1)) by omega, List.range_add, List.find?_append]
    have : (List.range p).find? (fun p => headF t p != 0) = none := by
      rw [List.find?_eq_none]; intro q hq; simp [h0 q (List.mem_range.1 hq)]
    rw [this, Nat.add_comm 1, List.range_succ_eq_map]
    simp [hne]
  unfold faultL
  rw [if_neg (by simp [inB] at h; omega), hf]
theorem head_none {t : Tr} (h0 : ∀ q, q < t.length → headF t q = 0) : (List.range t.length).find? (fun p => headF t p != 0) = none := by
  rw [List.find?_eq_none]; intro q hq; simp [h0 q (List.mem_range.1 hq)]
theorem fault_form {t : Tr} {x : Nat × Nat} (h : inB t.length 1 8 = true) (h0 : ∀ q, q < t.length → headF t q = 0) (hx : (ids t).find? (fun x => formF t x != 0) = some x) : faultL t = (x, formF t x) := by
  unfold faultL
  rw [if_neg (by simp [inB] at h; omega), head_none h0]
  simp only [hx]
theorem fault_pair {t : Tr} {x : Nat × Nat} (h : inB t.length 1 8 = true) (h0 : ∀ q, q < t.length → headF t q = 0) (hf : (ids t).find? (fun x => formF t x != 0) = none) (hx : (ids t).find? (fun x => pairF t x != 0) = some x) : faultL t = (x, pairF t x) := by
  unfold faultL
  rw [if_neg (by simp [inB] at h; omega), head_none h0]
  simp only [hf, hx]
theorem fault_hb {t : Tr} {x : Nat × Nat} (h : inB t.length 1 8 = true) (h0 : ∀ q, q < t.length → headF t q = 0) (hf : (ids t).find? (fun x => formF t x != 0) = none) (hp : (ids t).find? (fun x => pairF t x != 0) = none) (hx : hbFirst t = some x) : faultL t = (x, 10) := by
  unfold hbFirst at hx
  unfold faultL
  rw [if_neg (by simp [inB] at h; omega), head_none h0]
  simp only [hf, hp, hx]
theorem fault_ok {t : Tr} (h : inB t.length 1 8 = true) (h0 : ∀ q, q < t.length → headF t q = 0) (hf : (ids t).find? (fun x => formF t x != 0) = none) (hp : (ids t).find? (fun x => pairF t x != 0) = none) (hx : hbFirst t = none) : faultL t = ((0, 0), 0) := by
  unfold hbFirst at hx
  unfold faultL
  rw [if_neg (by simp [inB] at h; omega), head_none h0]
  simp only [hf, hp, hx]
theorem formF_formed {t : Tr} {x : Nat × Nat} (h : formF t x = 0) : formedB t.length x.1 (evAt t x) = true := by
  unfold formF at h
  cases hb : formedB t.length x.1 (evAt t x) with
  | true => rfl
  | false => rw [hb] at h; simp at h
def GI (t : Tr) (w : World) (u : Value) (l : List (Nat × Nat)) (W : World) : Prop :=
  (((BoxN W w.heap.size 24 #[u] ∧ BoxN W (w.heap.size + 1) 36 #[.int .i64 0, .int .i64 0]) ∧ BoxN W (w.heap.size + 1 + 1) 31 #[.int .i64 0]) ∧ Ext w W) ∧ ∀ x ∈ l, formF t x = 0
def GX (t : Tr) (w : World) (l : List (Nat × Nat)) (W : World) : Prop :=
  ∃ a x, (((l = a ++ [x] ∧ (∀ y ∈ a, formF t y = 0) ∧ formF t x ≠ 0) ∧ BoxN W (w.heap.size + 1) 36 #[.int .i64 x.1, .int .i64 x.2]) ∧ BoxN W (w.heap.size + 1 + 1) 31 #[.int .i64 (formF t x)]) ∧ Ext w W
theorem gi_from (t : Tr) (w : World) (u : Value) {n : Nat} (hn : w.heap.size ≤ n) : OwnFrom n (fun (pre : List (Idt t)) W => GI t w u (pre.map (·.1)) W) :=
  OwnFrom.and (OwnFrom.and (OwnFrom.and (OwnFrom.and (boxN1_from _ _ _ _) (boxN1_from _ _ _ _)) (boxN1_from _ _ _ _)) (ext_from hn)) (ownFrom_pure _ _)
theorem gx_from (t : Tr) (w : World) {n : Nat} (hn : w.heap.size ≤ n) : OwnFrom n (fun (pre : List (Idt t)) W => GX t w (pre.map (·.1)) W) := by
  rintro s X Y row ⟨a, x, h⟩ hg hr
  refine ⟨a, x, ⟨⟨h.1.1.1, ?_⟩, ?_⟩, ext_from hn () X Y row h.2 hg hr⟩
  · exact boxN1_from _ n _ (fun (_ : Unit) => _) () X Y row h.1.1.2 hg hr
  · exact boxN1_from _ n _ (fun (_ : Unit) => _) () X Y row h.1.2 hg hr
theorem len_flat {f : Nat → List (Nat × Nat)} {b : Nat} : ∀ n : Nat, (∀ p, p < n → (f p).length ≤ b) → ((List.range n).flatMap f).length ≤ n * b
  | 0, _ => by simp
  | n + 1, h => by
    rw [List.range_succ, List.flatMap_append, List.length_append]
    have h1 := len_flat n fun p hp => h p (by omega)
    have h2 := h n (by omega)
    have h3 : ([n].flatMap f).length = (f n).length := by simp
    rw [h3, Nat.add_mul]
    omega
theorem ids_few {t : Tr} (h1 : t.length ≤ 1000000) (h2 : ∀ x ∈ t, x.evs.length ≤ 1000000) (h : inB t.length 1 8 = true) (h0 : ∀ q, q < t.length → headF t q = 0) : (ids t).length ≤ 1000000 := by
  have := len_flat (f := idsOf t) (b := 64) t.length fun p hp => by
    unfold idsOf evsOf
    rw [List.length_map, List.length_range, getD_lt dfPr t hp]
    exact head_evs hp (h0 p hp)
  simp [inB] at h
  unfold ids
  have h3 : t.length * 64 ≤ 8 * 64 := Nat.mul_le_mul_right _ (by omega)
  omega
theorem form_done {t : Tr} (h : ∀ x ∈ ids t, formF t x = 0) : (ids t).find? (fun x => formF t x != 0) = none := by
  rw [List.find?_eq_none]; intro x hx; simp [h x hx]
theorem form_stop {t : Tr} {a : List (Nat × Nat)} {x : Nat × Nat} (hp : a ++ [x] <+: ids t) (ha : ∀ y ∈ a, formF t y = 0) (hx : formF t x ≠ 0) : (ids t).find? (fun x => formF t x != 0) = some x := by
  obtain ⟨c, hc⟩ := hp
  rw [← hc, List.append_assoc, List.find?_append]
  have : a.find? (fun x => formF t x != 0) = none := by
    rw [List.find?_eq_none]; intro y hy; simp [ha y hy]
  rw [this]
  simp [hx]
set_option maxRecDepth 100000 in
set_option maxHeartbeats 4000000 in
theorem Fault_any (u : Value) (t : Tr) (w : World) (hS : Sm t) (hs : SlR 3 RPr w u t) :
    Calls Try.prog 97 #[.agg #[u]] w fun e w' => FPost t w e w' := by
  refine callsIn_wide (n := 9).1 ?_
  refine callsIn_of_wp_marks Try.func97 rfl trivial ?_ rfl
  simp only [Try.ntmps97, List.size_toArray, List.length_cons, List.length_nil, Nat.reduceAdd, Nat.reduceSub, Array.replicate_succ, Array.replicate_zero, List.push_toArray, List.append_toArray, List.nil_append, List.cons_append]
  obtain ⟨A, c, rfl, _, hcm, _⟩ := hs.at_
  have HI := hide (fun w => callsIn_wide (n := 8).2 (in_any t.length 1 8 w))
  cases hin : inB t.length 1 8
  · rw [hin] at HI
    have HF := hide (fault_len hin)
    clear hin
    gi_wp2_with (refine ⟨trivial, ?_⟩; gi_at_call 98; refine (HI.out _).mono ?_; rintro e w' ⟨rfl, rfl⟩)
    refine ⟨.tuple #[idVal (0, 0), .int .i64 1], by simp [results, Try.f97, go_sem, idVal], by rw [HF.out]; rfl, (((Ext.refl w).alloc _).alloc _).alloc _⟩
  · have HIN := hide hin
    rw [hin] at HI
    clear hin
    gi_wp2_with (refine ⟨trivial, ?_⟩; gi_at_call 98; refine (HI.out _).mono ?_; rintro e w' ⟨rfl, rfl⟩)
    have tb0 := ((BoxN.new w 24 #[.slice A t.length c]).alloc (.cells #[.int .i64 0, .int .i64 0] 36)).alloc (.cells #[.int .i64 0] 31)
    obtain ⟨W1, hW1⟩ : ∃ W1, ((w.alloc (Obj.cells #[Value.slice A t.length c] 24)).alloc (Obj.cells #[Value.int .i64 0, Value.int .i64 0] 36)).alloc (Obj.cells #[Value.int .i64 0] 31) = W1 := ⟨_, rfl⟩
    rw [hW1] at tb0 ⊢
    have hx1 : Ext w W1 := by rw [← hW1]; exact (((Ext.refl w).alloc _).alloc _).alloc _
    have rb1 : BoxN W1 (w.heap.size + 1) 36 #[.int .i64 0, .int .i64 0] := by rw [← hW1]; exact (BoxN.newAt _ _ (by simp)).alloc _
    have rb2 : BoxN W1 (w.heap.size + 1 + 1) 31 #[.int .i64 0] := by rw [← hW1]; exact BoxN.newAt _ _ (by simp)
    have hsz1 : Hx (W1.heap.size = w.heap.size + 1 + 1 + 1) := hide (by rw [← hW1]; simp)
    clear hW1
    have hnp := hS.np
    gi_loopw [23] (fun i wr => ∃ k : Nat, k ≤ t.length ∧ i = .int .i64 k ∧ (∀ q, q < k → headF t q = 0) ∧ Ext W1 wr) (fun i _ => t.length - (intOf i).toNat)
    case atStart => exact ⟨0, Nat.zero_le _, rfl, fun q hq => absurd hq (Nat.not_lt_zero _), Ext.refl _⟩
    case round =>
      obtain ⟨k, hk, rfl, h0, hx⟩ := hrel
      have H0 := hide h0
      clear h0
      have tb := tb0.ext hx
      have r1 := rb1.ext hx
      have r2 := rb2.ext hx
      have t0 := tb.cell (j := 0) rfl
      by_cases hlt : k < t.length
      · have HP := hide (fun w' (he : Ext w w') => callsIn_wide (n := 8).2 (processFault_any (.slice A t.length c) t k w' hlt hnp (hS.nv _ (List.getElem_mem hlt)) (hS.ne _ (List.getElem_mem hlt)) (hs.ext RPr.keeps he)))
        gi_wp2_with fail
        refine ⟨trivial, ?_⟩
        refine (HP.out _ (hx1.trans hx)).mono ?_
        rintro e w2 ⟨rfl, he2⟩
        by_cases hz : headF t k = 0
        · have HZ := hide hz
          rw [hz]
          clear hz
          gi_wp2
          go_roundw
          case rel => exact ⟨k + 1, hlt, by go_num, fun q hq => (Nat.lt_succ_iff_lt_or_eq.1 hq).elim (H0.out q) (fun e => e ▸ HZ.out), hx.trans he2⟩
          case measure => simp [intOf]; omega
        · have HF := hide (fault_head HIN.out hlt H0.out hz)
          have hne : ((headF t k : Int) != 0) = true := by simp; omega
          have r12 := r1.ext he2
          have r22 := r2.ext he2
          have f1 := r12.frozen 0
          have f2 := r12.frozen 1
          have f3 := r22.frozen 0
          have p1 := r12.cell (j := 0) rfl
          have p2 := r12.cell (j := 1) rfl
          have p3 := r22.cell (j := 0) rfl
          gi_wp2
          obtain ⟨Wr, hWr⟩ : ∃ Wr, ((w2.setCell ⟨w.heap.size + 1, 0, none⟩ (Value.int .i64 k)).setCell ⟨w.heap.size + 1, 1, none⟩ (Value.int .i64 0)).setCell ⟨w.heap.size + 1 + 1, 0, none⟩ (Value.int .i64 (headF t k)) = Wr := ⟨_, rfl⟩
          rw [hWr]
          have hEX2 : Ext w w2 := hx1.trans (hx.trans he2)
          have s1 : BoxN Wr (w.heap.size + 1) 36 #[.int .i64 k, .int .i64 0] := by rw [← hWr]; ((repeat (first | with_reducible assumption | with_reducible exact KeepsFrom.refl _ _ | with_reducible refine KF.set ?_ _ _ | with_reducible refine KF.alloc ?_ _ | with_reducible refine KF.drew ?_ | with_reducible refine KF.drewN ?_ _ | with_reducible refine KF.ext ?_ (by assumption) | with_reducible exact Below.refl _ _ | with_reducible refine BL.set ?_ _ _ _ (by omega) | with_reducible refine BL.alloc ?_ _ (by omega) | with_reducible refine BL.drew ?_ | with_reducible refine BL.drewN ?_ _ | with_reducible refine BL.ext ?_ (by assumption) (by omega) | with_reducible exact Ext.refl _ | with_reducible refine Ext.set ?_ (by omega) _ | with_reducible refine Ext.alloc ?_ _ | with_reducible refine Ext.drew ?_ | with_reducible refine Ext.drewN ?_ _ | with_reducible refine Ext.trans ?_ (by assumption) | with_reducible refine BoxN.alloc ?_ _ | with_reducible refine BoxN.drew ?_ | with_reducible refine BoxN.drewN ?_ _ | with_reducible refine BoxN.other ?_ (by omega) _ | with_reducible refine BoxN.set ?_ _ _ | with_reducible apply BoxN.set1 | with_reducible apply BoxN.set2_1 | with_reducible apply BoxN.set2_0 | with_reducible refine BoxN.ext ?_ (by assumption))); done)
          have s2 : BoxN Wr (w.heap.size + 1 + 1) 31 #[.int .i64 (headF t k)] := by rw [← hWr]; ((repeat (first | with_reducible assumption | with_reducible exact KeepsFrom.refl _ _ | with_reducible refine KF.set ?_ _ _ | with_reducible refine KF.alloc ?_ _ | with_reducible refine KF.drew ?_ | with_reducible refine KF.drewN ?_ _ | with_reducible refine KF.ext ?_ (by assumption) | with_reducible exact Below.refl _ _ | with_reducible refine BL.set ?_ _ _ _ (by omega) | with_reducible refine BL.alloc ?_ _ (by omega) | with_reducible refine BL.drew ?_ | with_reducible refine BL.drewN ?_ _ | with_reducible refine BL.ext ?_ (by assumption) (by omega) | with_reducible exact Ext.refl _ | with_reducible refine Ext.set ?_ (by omega) _ | with_reducible refine Ext.alloc ?_ _ | with_reducible refine Ext.drew ?_ | with_reducible refine Ext.drewN ?_ _ | with_reducible refine Ext.trans ?_ (by assumption) | with_reducible refine BoxN.alloc ?_ _ | with_reducible refine BoxN.drew ?_ | with_reducible refine BoxN.drewN ?_ _ | with_reducible refine BoxN.other ?_ (by omega) _ | with_reducible refine BoxN.set ?_ _ _ | with_reducible apply BoxN.set1 | with_reducible apply BoxN.set2_1 | with_reducible apply BoxN.set2_0 | with_reducible refine BoxN.ext ?_ (by assumption))); done)
          have sx : Ext w Wr := by rw [← hWr]; ((repeat (first | with_reducible assumption | with_reducible exact KeepsFrom.refl _ _ | with_reducible refine KF.set ?_ _ _ | with_reducible refine KF.alloc ?_ _ | with_reducible refine KF.drew ?_ | with_reducible refine KF.drewN ?_ _ | with_reducible refine KF.ext ?_ (by assumption) | with_reducible exact Below.refl _ _ | with_reducible refine BL.set ?_ _ _ _ (by omega) | with_reducible refine BL.alloc ?_ _ (by omega) | with_reducible refine BL.drew ?_ | with_reducible refine BL.drewN ?_ _ | with_reducible refine BL.ext ?_ (by assumption) (by omega) | with_reducible exact Ext.refl _ | with_reducible refine Ext.set ?_ (by omega) _ | with_reducible refine Ext.alloc ?_ _ | with_reducible refine Ext.drew ?_ | with_reducible refine Ext.drewN ?_ _ | with_reducible refine Ext.trans ?_ (by assumption) | with_reducible refine BoxN.alloc ?_ _ | with_reducible refine BoxN.drew ?_ | with_reducible refine BoxN.drewN ?_ _ | with_reducible refine BoxN.other ?_ (by omega) _ | with_reducible refine BoxN.set ?_ _ _ | with_reducible apply BoxN.set1 | with_reducible apply BoxN.set2_1 | with_reducible apply BoxN.set2_0 | with_reducible refine BoxN.ext ?_ (by assumption))); done)
          clear hWr
          exact ⟨.tuple #[idVal (k, 0), .int .i64 (headF t k)], by simp [results, Try.f97, go_sem, idVal, s1.cell (j := 0) rfl, s1.cell (j := 1) rfl, s2.cell (j := 0) rfl], by rw [HF.out], sx⟩
      · obtain rfl : k = t.length := by omega
        have hS := hS.small H0.out
        have hEXr : Ext w wr := hx1.trans hx
        gi_wp2_with (refine ⟨trivial, ?_⟩; gi_at_call 100; refine (callsIn_wide.2 (events_any _ _)).mono ?_; rintro e w' ⟨rfl, rfl⟩)
        have bt := BoxN.new wr 24 #[.slice A t.length c]
        have hM0 : GI t w (.slice A t.length c) [] (wr.alloc (.cells #[.slice A t.length c] 24)) := ⟨⟨⟨⟨tb.alloc _, r1.alloc _⟩, r2.alloc _⟩, hEXr.alloc _⟩, fun x hx => by cases hx⟩
        obtain ⟨W0, hW0⟩ : ∃ W0, wr.alloc (.cells #[.slice A t.length c] 24) = W0 := ⟨_, rfl⟩
        have hsz0 : W0.heap.size = wr.heap.size + 1 := by rw [← hW0]; simp
        have hwr : w.heap.size ≤ wr.heap.size := hEXr.size
        rw [hW0] at bt hM0 ⊢
        clear hW0
        have hext0 : Ext w W0 := hM0.1.2
        have HSZ0 := hide hsz0
        have hw0 : w.heap.size ≤ W0.heap.size := by omega
        clear hsz0
        refine wpIn_rangeFunc_ownH rfl (by omega) (gf := 141) (lb := #[.pointer (some ⟨wr.heap.size, 0, none⟩)]) rfl trivial (callFunc_enter Try.func141 (by decide) rfl)
          (events_stops 8 (by omega) w (.slice A t.length c) t wr.heap.size W0 hnp hS.ne hs hext0 (bt.cell rfl) hwr) belowK_t (belowK_b hw0) (Below.refl _ _) (fun _ => rfl)
          (fun pre W => GI t w (.slice A t.length c) (pre.map (·.1)) W) (fun c pre W => c = .ret ∧ GX t w (pre.map (·.1)) W) (gi_from t w _ hw0) (fun c => OwnFrom.and (ownFrom_pure _ _) (gx_from t w hw0)) hM0
          (fun x a' W => ∃ B6 B7 A4 n4 c4 v37 v38, (w.heap.size + 1 + 1 < B6 ∧ w.heap.size + 1 + 1 < B7 ∧ SlR 2 RAsg w (.slice A4 n4 c4) (evAt t x.1).asg) ∧ BoxN W B6 36 #[.int .i64 x.1.1, .int .i64 x.1.2] ∧ BoxN W B7 103 #[.int .i64 (evAt t x.1).kind, .int .i64 (evAt t x.1).peer, .int .i64 (evAt t x.1).msg, .int .i64 (evAt t x.1).time, .slice A4 n4 c4] ∧
            a' = { tmps := #[.agg #[.slice A t.length c], .pointer (some ⟨w.heap.size, 0, none⟩), .pointer (some ⟨w.heap.size + 1, 0, none⟩), .pointer (some ⟨w.heap.size + 1 + 1, 0, none⟩), u4, u5, .pointer (some ⟨B6, 0, none⟩), .pointer (some ⟨B7, 0, none⟩), undef, undef, undef, undef, undef, undef, .pointer (some ⟨w.heap.size, 0, none⟩), .slice A t.length c, .int .i64 t.length, .bool true, .bool false, undef, .pointer (some ⟨w.heap.size, 0, none⟩), .slice A t.length c, .int .i64 t.length, .int .i64 t.length, .bool false, u25, u26, u27, u28, u29, u30, u31, u32, u33, u34, .agg #[.slice A t.length c], .func (.func 141) #[] #[.pointer (some ⟨wr.heap.size, 0, none⟩)], v37, v38, undef, undef, undef, undef, undef, undef, undef, undef, undef, undef, undef, undef, undef, undef, undef, undef, undef, undef, undef, undef, undef, undef, undef, undef, undef, undef, undef], defers := [] })
          ?hax ?assign ?body ?done ?stop
        case hax =>
          rintro x a' _ X Y row ⟨B6, B7, A4, n4, c4, v37, v38, hB, b6, b7, ha⟩ hg hr
          exact ⟨B6, B7, A4, n4, c4, v37, v38, hB, boxN1_from B6 _ _ (fun (_ : Unit) => _) () X Y row b6 hg hr, boxN1_from B7 _ _ (fun (_ : Unit) => _) () X Y row b7 hg hr, ha⟩
        case assign =>
          rintro l pre x W K hI hK
          obtain ⟨a, hv, hsa⟩ := evVal_ok hs x.2
          obtain ⟨A4, c4, rfl, _, _, _⟩ := hsa.at_
          simp only [hv]
          have hsW := hI.1.2.size
          have h5 := hI.1.1.2.lt
          unfold idVal
          gi_wp2
          exact hK _ _ (((KeepsOthers.alloc _ _).trans (KeepsOthers.alloc _ _)).from _) (((Below.refl _ W).alloc hsW _).alloc (by simp; omega) _) ((gi_from t w _ (Nat.le_refl _)).alloc _ ((gi_from t w _ (Nat.le_refl _)).alloc _ hI))
            ⟨W.heap.size, W.heap.size + 1, A4, _, c4, _, _, ⟨h5, by omega, hsa⟩, (BoxN.new _ _ _).alloc _, BoxN.newAt _ _ (by simp), rfl⟩
        case body =>
          rintro l pre x a' W hlW ⟨r, hr⟩ hI ⟨B6, B7, A4, n4, c4, v37, v38, ⟨hB6, hB7, hsa⟩, b6, b7, rfl⟩ hlen
          obtain ⟨⟨⟨⟨tbW, r1W⟩, r2W⟩, hxW⟩, hg⟩ := hI
          have hsW := hxW.size
          have HG := hide hg
          have HSA := hide hsa
          clear hg hsa
          have k0 := b7.cell (j := 0) rfl
          have k1 := b7.cell (j := 1) rfl
          have k2 := b7.cell (j := 2) rfl
          have k3 := b7.cell (j := 3) rfl
          have k4 := b7.cell (j := 4) rfl
          have i0 := b6.cell (j := 0) rfl
          have i1 := b6.cell (j := 1) rfl
          have t0 := tbW.cell (j := 0) rfl
          obtain ⟨hp, hi1, hi2⟩ := mem_ids.1 x.2
          have hee : t[x.1.1].evs[x.1.2 - 1] = evAt t x.1 := by
            unfold evAt evsOf; rw [getD_lt dfPr t hp, getD_lt dfEv _ (by omega)]
          have HE := hide (fun w' (he : Ext w w') => CallsIn.inRound l (callsIn_wide (n := 6).2 (eventFault_any (.slice A t.length c) (.slice A4 n4 c4) t x.1.1 x.1.2 (evAt t x.1) w' hp hi1 hi2 hee hnp (hS.nv _ (List.getElem_mem hp)) (hS.ne _ (List.getElem_mem hp)) (by rw [← hee]; exact hS.na _ (List.getElem_mem hp) _ (List.getElem_mem _)) (hs.ext RPr.keeps he) (HSA.out.ext RAsg.keeps he))))
          clear hee
          gi_wp2_with fail
          refine ⟨trivial, ?_⟩
          refine (HE.out _ hxW).mono ?_
          rintro e w2 ⟨rfl, he2⟩
          by_cases hz : formF t x.1 = 0
          · have HZ := hide hz
            rw [show formF t (x.1.1, x.1.2) = 0 from hz]
            clear hz
            gi_wp2
            refine ⟨KF.ext (KeepsFrom.refl _ _) he2, BL.ext (Below.refl _ _) he2 hsW, ?_⟩
            show GI t w (.slice A t.length c) ((pre ++ [x]).map (·.1)) _
            rw [map_snoc]
            refine ⟨⟨⟨⟨tbW.ext he2, r1W.ext he2⟩, r2W.ext he2⟩, hxW.trans he2⟩, fun z hz => ?_⟩
            rcases List.mem_append.1 hz with h1 | h1
            · exact HG.out z h1
            · rw [show z = x.1 by simpa using h1]; exact HZ.out
          · have hne : ((formF t (x.1.1, x.1.2) : Int) != 0) = true := by
              have : ¬ formF t (x.1.1, x.1.2) = 0 := hz
              simp; omega
            have HZ := hide hz
            clear hz
            have r12 := r1W.ext he2
            have r22 := r2W.ext he2
            have b62 := b6.ext he2
            have f1 := r12.frozen 0
            have f2 := r12.frozen 1
            have f3 := r22.frozen 0
            have p1 := r12.cell (j := 0) rfl
            have p2 := r12.cell (j := 1) rfl
            have p3 := r22.cell (j := 0) rfl
            have i02 := b62.cell (j := 0) rfl
            have i12 := b62.cell (j := 1) rfl
            have hKF3 : KeepsFrom W0.heap.size W w2 := KF.ext (KeepsFrom.refl _ _) he2
            have hEX3 : Ext w w2 := hxW.trans he2
            gi_wp2
            refine ⟨?_, rfl, pre.map (·.1), x.1, ⟨⟨⟨map_snoc pre x, HG.out, HZ.out⟩, ?_⟩, ?_⟩, ?_⟩
            all_goals ((repeat (first | with_reducible assumption | with_reducible exact KeepsFrom.refl _ _ | with_reducible refine KF.set ?_ _ _ | with_reducible refine KF.alloc ?_ _ | with_reducible refine KF.drew ?_ | with_reducible refine KF.drewN ?_ _ | with_reducible refine KF.ext ?_ (by assumption) | with_reducible exact Below.refl _ _ | with_reducible refine BL.set ?_ _ _ _ (by omega) | with_reducible refine BL.alloc ?_ _ (by omega) | with_reducible refine BL.drew ?_ | with_reducible refine BL.drewN ?_ _ | with_reducible refine BL.ext ?_ (by assumption) (by omega) | with_reducible exact Ext.refl _ | with_reducible refine Ext.set ?_ (by omega) _ | with_reducible refine Ext.alloc ?_ _ | with_reducible refine Ext.drew ?_ | with_reducible refine Ext.drewN ?_ _ | with_reducible refine Ext.trans ?_ (by assumption) | with_reducible refine BoxN.alloc ?_ _ | with_reducible refine BoxN.drew ?_ | with_reducible refine BoxN.drewN ?_ _ | with_reducible refine BoxN.other ?_ (by omega) _ | with_reducible refine BoxN.set ?_ _ _ | with_reducible apply BoxN.set1 | with_reducible apply BoxN.set2_1 | with_reducible apply BoxN.set2_0 | with_reducible refine BoxN.ext ?_ (by assumption))); done)
        case done =>
          rintro D ys W hD hys ⟨⟨⟨⟨tbW, r1W⟩, r2W⟩, hxW⟩, hg⟩ hK
          rw [hys] at hg
          have HG := hide hg
          clear hg
          have hform : ∀ x ∈ ids t, formedB t.length x.1 (evAt t x) = true := fun x hx => formF_formed (HG.out x hx)
          have hfn := hide (form_done HG.out)
          have t0 := tbW.cell (j := 0) rfl
          have HMF := hide (fun w' (he : Ext w w') => callsIn_wide (n := 8).2 (messageFault_any (.slice A t.length c) t w' hnp hS.ne (hs.ext RPr.keeps he) hform))
          have hform' := hide hform
          clear hform
          gi_wp2_with fail
          refine ⟨trivial, ?_⟩
          refine (HMF.out _ hxW).mono ?_
          rintro e w2 ⟨he2, hm⟩
          have hKF2 : KeepsFrom W0.heap.size W w2 := KF.ext (KeepsFrom.refl _ _) he2
          have hEX2 : Ext w w2 := hxW.trans he2
          have r12 := r1W.ext he2
          have r22 := r2W.ext he2
          have tb2 := tbW.ext he2
          have t02 := tb2.cell (j := 0) rfl
          have lt1 := tb2.lt
          have lt2 := r12.lt
          have lt3 := r22.lt
          clear t0
          rcases hm with ⟨x, hx, rfl⟩ | ⟨hpn, b, cs, hb, hbox, hlet, rfl⟩
          · have HP := hide (fault_pair HIN.out H0.out hfn.out hx)
            have hne0 : ((pairF t x : Int) != 0) = true := by
              have := List.find?_some hx
              simp at this ⊢; omega
            clear hx
            unfold idVal
            have f1 := r12.frozen 0
            have f2 := r12.frozen 1
            have f3 := r22.frozen 0
            have p1 := r12.cell (j := 0) rfl
            have p2 := r12.cell (j := 1) rfl
            have p3 := r22.cell (j := 0) rfl
            gi_wp2
            obtain ⟨Wr, hWr⟩ : ∃ Wr, (((w2.setCell ⟨w.heap.size + 1, 0, none⟩ (Value.int .i64 x.1)).setCell ⟨w.heap.size + 1, 1, none⟩ (Value.int .i64 x.2)).setCell ⟨w.heap.size + 1 + 1, 0, none⟩ (Value.int .i64 (pairF t x))).alloc (Obj.cells #[Value.int .i64 x.1, Value.int .i64 x.2] 36) = Wr := ⟨_, rfl⟩
            rw [hWr]
            have s1 : BoxN Wr (w.heap.size + 1) 36 #[.int .i64 x.1, .int .i64 x.2] := by rw [← hWr]; ((repeat (first | with_reducible assumption | with_reducible exact KeepsFrom.refl _ _ | with_reducible refine KF.set ?_ _ _ | with_reducible refine KF.alloc ?_ _ | with_reducible refine KF.drew ?_ | with_reducible refine KF.drewN ?_ _ | with_reducible refine KF.ext ?_ (by assumption) | with_reducible exact Below.refl _ _ | with_reducible refine BL.set ?_ _ _ _ (by omega) | with_reducible refine BL.alloc ?_ _ (by omega) | with_reducible refine BL.drew ?_ | with_reducible refine BL.drewN ?_ _ | with_reducible refine BL.ext ?_ (by assumption) (by omega) | with_reducible exact Ext.refl _ | with_reducible refine Ext.set ?_ (by omega) _ | with_reducible refine Ext.alloc ?_ _ | with_reducible refine Ext.drew ?_ | with_reducible refine Ext.drewN ?_ _ | with_reducible refine Ext.trans ?_ (by assumption) | with_reducible refine BoxN.alloc ?_ _ | with_reducible refine BoxN.drew ?_ | with_reducible refine BoxN.drewN ?_ _ | with_reducible refine BoxN.other ?_ (by omega) _ | with_reducible refine BoxN.set ?_ _ _ | with_reducible apply BoxN.set1 | with_reducible apply BoxN.set2_1 | with_reducible apply BoxN.set2_0 | with_reducible refine BoxN.ext ?_ (by assumption))); done)
            have s2 : BoxN Wr (w.heap.size + 1 + 1) 31 #[.int .i64 (pairF t x)] := by rw [← hWr]; ((repeat (first | with_reducible assumption | with_reducible exact KeepsFrom.refl _ _ | with_reducible refine KF.set ?_ _ _ | with_reducible refine KF.alloc ?_ _ | with_reducible refine KF.drew ?_ | with_reducible refine KF.drewN ?_ _ | with_reducible refine KF.ext ?_ (by assumption) | with_reducible exact Below.refl _ _ | with_reducible refine BL.set ?_ _ _ _ (by omega) | with_reducible refine BL.alloc ?_ _ (by omega) | with_reducible refine BL.drew ?_ | with_reducible refine BL.drewN ?_ _ | with_reducible refine BL.ext ?_ (by assumption) (by omega) | with_reducible exact Ext.refl _ | with_reducible refine Ext.set ?_ (by omega) _ | with_reducible refine Ext.alloc ?_ _ | with_reducible refine Ext.drew ?_ | with_reducible refine Ext.drewN ?_ _ | with_reducible refine Ext.trans ?_ (by assumption) | with_reducible refine BoxN.alloc ?_ _ | with_reducible refine BoxN.drew ?_ | with_reducible refine BoxN.drewN ?_ _ | with_reducible refine BoxN.other ?_ (by omega) _ | with_reducible refine BoxN.set ?_ _ _ | with_reducible apply BoxN.set1 | with_reducible apply BoxN.set2_1 | with_reducible apply BoxN.set2_0 | with_reducible refine BoxN.ext ?_ (by assumption))); done)
            have sx : Ext w Wr := by rw [← hWr]; ((repeat (first | with_reducible assumption | with_reducible exact KeepsFrom.refl _ _ | with_reducible refine KF.set ?_ _ _ | with_reducible refine KF.alloc ?_ _ | with_reducible refine KF.drew ?_ | with_reducible refine KF.drewN ?_ _ | with_reducible refine KF.ext ?_ (by assumption) | with_reducible exact Below.refl _ _ | with_reducible refine BL.set ?_ _ _ _ (by omega) | with_reducible refine BL.alloc ?_ _ (by omega) | with_reducible refine BL.drew ?_ | with_reducible refine BL.drewN ?_ _ | with_reducible refine BL.ext ?_ (by assumption) (by omega) | with_reducible exact Ext.refl _ | with_reducible refine Ext.set ?_ (by omega) _ | with_reducible refine Ext.alloc ?_ _ | with_reducible refine Ext.drew ?_ | with_reducible refine Ext.drewN ?_ _ | with_reducible refine Ext.trans ?_ (by assumption) | with_reducible refine BoxN.alloc ?_ _ | with_reducible refine BoxN.drew ?_ | with_reducible refine BoxN.drewN ?_ _ | with_reducible refine BoxN.other ?_ (by omega) _ | with_reducible refine BoxN.set ?_ _ _ | with_reducible apply BoxN.set1 | with_reducible apply BoxN.set2_1 | with_reducible apply BoxN.set2_0 | with_reducible refine BoxN.ext ?_ (by assumption))); done)
            have hkf : KeepsFrom W0.heap.size W Wr := by rw [← hWr]; ((repeat (first | with_reducible assumption | with_reducible exact KeepsFrom.refl _ _ | with_reducible refine KF.set ?_ _ _ | with_reducible refine KF.alloc ?_ _ | with_reducible refine KF.drew ?_ | with_reducible refine KF.drewN ?_ _ | with_reducible refine KF.ext ?_ (by assumption) | with_reducible exact Below.refl _ _ | with_reducible refine BL.set ?_ _ _ _ (by omega) | with_reducible refine BL.alloc ?_ _ (by omega) | with_reducible refine BL.drew ?_ | with_reducible refine BL.drewN ?_ _ | with_reducible refine BL.ext ?_ (by assumption) (by omega) | with_reducible exact Ext.refl _ | with_reducible refine Ext.set ?_ (by omega) _ | with_reducible refine Ext.alloc ?_ _ | with_reducible refine Ext.drew ?_ | with_reducible refine Ext.drewN ?_ _ | with_reducible refine Ext.trans ?_ (by assumption) | with_reducible refine BoxN.alloc ?_ _ | with_reducible refine BoxN.drew ?_ | with_reducible refine BoxN.drewN ?_ _ | with_reducible refine BoxN.other ?_ (by omega) _ | with_reducible refine BoxN.set ?_ _ _ | with_reducible apply BoxN.set1 | with_reducible apply BoxN.set2_1 | with_reducible apply BoxN.set2_0 | with_reducible refine BoxN.ext ?_ (by assumption))); done)
            have hKW : Wr.heap[D]? = some (.deferred (some [])) := hkf.same D _ hD hK rfl
            clear hWr
            have e2 := (s1.putObj hKW rfl (.deferred none)).cell (j := 0) rfl
            have e3 := (s1.putObj hKW rfl (.deferred none)).cell (j := 1) rfl
            have e4 := (s2.putObj hKW rfl (.deferred none)).cell (j := 0) rfl
            refine ⟨by simp, .inl ⟨_, _, rfl, run_takeDeferred hKW, ?_⟩⟩
            refine ⟨.tuple #[idVal x, .int .i64 (pairF t x)], ?_, by first | (rw [HP.out]; done) | (rw [HP.out]; rfl), sx.putObj (by omega) hKW _⟩
            simp [results, Try.f97, go_sem, e2, e3, e4, idVal]
          · have HPN := hide hpn
            clear hpn
            have HC := hide (fun w' (he : Ext w w') (hb' : BoxN w' b 174 cs) => callsIn_wide (n := 8).2 (cyclic_any (.slice A t.length c) t b cs w' hnp hS.ne (ids_few hnp (fun x hx => hS.ne x hx) HIN.out H0.out) (hs.ext RPr.keeps he) hform'.out hb' hlet))
            unfold idVal
            gi_wp2_with fail
            refine ⟨trivial, ?_⟩
            refine (HC.out _ (hEX2.alloc _) (hbox.alloc _)).mono ?_
            rintro e w3 ⟨he3, hm3⟩
            have he23 : Ext w2 w3 := Ext.trans ((Ext.refl w2).alloc _) he3
            have hKF3 : KeepsFrom W0.heap.size W w3 := KF.ext hKF2 he23
            have hEX3 : Ext w w3 := hEX2.trans he23
            have r13 := r12.ext he23
            have r23 := r22.ext he23
            have lt13 := r13.lt
            have lt23 := r23.lt
            have f1 := r13.frozen 0
            have f2 := r13.frozen 1
            have f3 := r23.frozen 0
            have p1 := r13.cell (j := 0) rfl
            have p2 := r13.cell (j := 1) rfl
            have p3 := r23.cell (j := 0) rfl
            rcases hm3 with ⟨x, hx, rfl⟩ | ⟨hx, rfl⟩
            · have HP := hide (fault_hb HIN.out H0.out hfn.out HPN.out hx)
              clear hx
              unfold idVal
              gi_wp2
              obtain ⟨Wr, hWr⟩ : ∃ Wr, (((w3.setCell ⟨w.heap.size + 1, 0, none⟩ (Value.int .i64 x.1)).setCell ⟨w.heap.size + 1, 1, none⟩ (Value.int .i64 x.2)).setCell ⟨w.heap.size + 1 + 1, 0, none⟩ (Value.int .i64 10)).alloc (Obj.cells #[Value.int .i64 x.1, Value.int .i64 x.2] 36) = Wr := ⟨_, rfl⟩
              rw [hWr]
              have s1 : BoxN Wr (w.heap.size + 1) 36 #[.int .i64 x.1, .int .i64 x.2] := by rw [← hWr]; ((repeat (first | with_reducible assumption | with_reducible exact KeepsFrom.refl _ _ | with_reducible refine KF.set ?_ _ _ | with_reducible refine KF.alloc ?_ _ | with_reducible refine KF.drew ?_ | with_reducible refine KF.drewN ?_ _ | with_reducible refine KF.ext ?_ (by assumption) | with_reducible exact Below.refl _ _ | with_reducible refine BL.set ?_ _ _ _ (by omega) | with_reducible refine BL.alloc ?_ _ (by omega) | with_reducible refine BL.drew ?_ | with_reducible refine BL.drewN ?_ _ | with_reducible refine BL.ext ?_ (by assumption) (by omega) | with_reducible exact Ext.refl _ | with_reducible refine Ext.set ?_ (by omega) _ | with_reducible refine Ext.alloc ?_ _ | with_reducible refine Ext.drew ?_ | with_reducible refine Ext.drewN ?_ _ | with_reducible refine Ext.trans ?_ (by assumption) | with_reducible refine BoxN.alloc ?_ _ | with_reducible refine BoxN.drew ?_ | with_reducible refine BoxN.drewN ?_ _ | with_reducible refine BoxN.other ?_ (by omega) _ | with_reducible refine BoxN.set ?_ _ _ | with_reducible apply BoxN.set1 | with_reducible apply BoxN.set2_1 | with_reducible apply BoxN.set2_0 | with_reducible refine BoxN.ext ?_ (by assumption))); done)
              have s2 : BoxN Wr (w.heap.size + 1 + 1) 31 #[.int .i64 10] := by rw [← hWr]; ((repeat (first | with_reducible assumption | with_reducible exact KeepsFrom.refl _ _ | with_reducible refine KF.set ?_ _ _ | with_reducible refine KF.alloc ?_ _ | with_reducible refine KF.drew ?_ | with_reducible refine KF.drewN ?_ _ | with_reducible refine KF.ext ?_ (by assumption) | with_reducible exact Below.refl _ _ | with_reducible refine BL.set ?_ _ _ _ (by omega) | with_reducible refine BL.alloc ?_ _ (by omega) | with_reducible refine BL.drew ?_ | with_reducible refine BL.drewN ?_ _ | with_reducible refine BL.ext ?_ (by assumption) (by omega) | with_reducible exact Ext.refl _ | with_reducible refine Ext.set ?_ (by omega) _ | with_reducible refine Ext.alloc ?_ _ | with_reducible refine Ext.drew ?_ | with_reducible refine Ext.drewN ?_ _ | with_reducible refine Ext.trans ?_ (by assumption) | with_reducible refine BoxN.alloc ?_ _ | with_reducible refine BoxN.drew ?_ | with_reducible refine BoxN.drewN ?_ _ | with_reducible refine BoxN.other ?_ (by omega) _ | with_reducible refine BoxN.set ?_ _ _ | with_reducible apply BoxN.set1 | with_reducible apply BoxN.set2_1 | with_reducible apply BoxN.set2_0 | with_reducible refine BoxN.ext ?_ (by assumption))); done)
              have sx : Ext w Wr := by rw [← hWr]; ((repeat (first | with_reducible assumption | with_reducible exact KeepsFrom.refl _ _ | with_reducible refine KF.set ?_ _ _ | with_reducible refine KF.alloc ?_ _ | with_reducible refine KF.drew ?_ | with_reducible refine KF.drewN ?_ _ | with_reducible refine KF.ext ?_ (by assumption) | with_reducible exact Below.refl _ _ | with_reducible refine BL.set ?_ _ _ _ (by omega) | with_reducible refine BL.alloc ?_ _ (by omega) | with_reducible refine BL.drew ?_ | with_reducible refine BL.drewN ?_ _ | with_reducible refine BL.ext ?_ (by assumption) (by omega) | with_reducible exact Ext.refl _ | with_reducible refine Ext.set ?_ (by omega) _ | with_reducible refine Ext.alloc ?_ _ | with_reducible refine Ext.drew ?_ | with_reducible refine Ext.drewN ?_ _ | with_reducible refine Ext.trans ?_ (by assumption) | with_reducible refine BoxN.alloc ?_ _ | with_reducible refine BoxN.drew ?_ | with_reducible refine BoxN.drewN ?_ _ | with_reducible refine BoxN.other ?_ (by omega) _ | with_reducible refine BoxN.set ?_ _ _ | with_reducible apply BoxN.set1 | with_reducible apply BoxN.set2_1 | with_reducible apply BoxN.set2_0 | with_reducible refine BoxN.ext ?_ (by assumption))); done)
              have hkf : KeepsFrom W0.heap.size W Wr := by rw [← hWr]; ((repeat (first | with_reducible assumption | with_reducible exact KeepsFrom.refl _ _ | with_reducible refine KF.set ?_ _ _ | with_reducible refine KF.alloc ?_ _ | with_reducible refine KF.drew ?_ | with_reducible refine KF.drewN ?_ _ | with_reducible refine KF.ext ?_ (by assumption) | with_reducible exact Below.refl _ _ | with_reducible refine BL.set ?_ _ _ _ (by omega) | with_reducible refine BL.alloc ?_ _ (by omega) | with_reducible refine BL.drew ?_ | with_reducible refine BL.drewN ?_ _ | with_reducible refine BL.ext ?_ (by assumption) (by omega) | with_reducible exact Ext.refl _ | with_reducible refine Ext.set ?_ (by omega) _ | with_reducible refine Ext.alloc ?_ _ | with_reducible refine Ext.drew ?_ | with_reducible refine Ext.drewN ?_ _ | with_reducible refine Ext.trans ?_ (by assumption) | with_reducible refine BoxN.alloc ?_ _ | with_reducible refine BoxN.drew ?_ | with_reducible refine BoxN.drewN ?_ _ | with_reducible refine BoxN.other ?_ (by omega) _ | with_reducible refine BoxN.set ?_ _ _ | with_reducible apply BoxN.set1 | with_reducible apply BoxN.set2_1 | with_reducible apply BoxN.set2_0 | with_reducible refine BoxN.ext ?_ (by assumption))); done)
              have hKW : Wr.heap[D]? = some (.deferred (some [])) := hkf.same D _ hD hK rfl
              clear hWr
              have e2 := (s1.putObj hKW rfl (.deferred none)).cell (j := 0) rfl
              have e3 := (s1.putObj hKW rfl (.deferred none)).cell (j := 1) rfl
              have e4 := (s2.putObj hKW rfl (.deferred none)).cell (j := 0) rfl
              refine ⟨by simp, .inl ⟨_, _, rfl, run_takeDeferred hKW, ?_⟩⟩
              refine ⟨.tuple #[idVal x, .int .i64 10], ?_, by first | (rw [HP.out]; done) | (rw [HP.out]; rfl), sx.putObj (by omega) hKW _⟩
              simp [results, Try.f97, go_sem, e2, e3, e4, idVal]
            · have HP := hide (fault_ok HIN.out H0.out hfn.out HPN.out hx)
              clear hx
              unfold idVal
              gi_wp2
              obtain ⟨Wr, hWr⟩ : ∃ Wr, (((w3.setCell ⟨w.heap.size + 1, 0, none⟩ (Value.int .i64 0)).setCell ⟨w.heap.size + 1, 1, none⟩ (Value.int .i64 0)).setCell ⟨w.heap.size + 1 + 1, 0, none⟩ (Value.int .i64 0)).alloc (Obj.cells #[Value.int .i64 0, Value.int .i64 0] 36) = Wr := ⟨_, rfl⟩
              rw [hWr]
              have s1 : BoxN Wr (w.heap.size + 1) 36 #[.int .i64 0, .int .i64 0] := by rw [← hWr]; ((repeat (first | with_reducible assumption | with_reducible exact KeepsFrom.refl _ _ | with_reducible refine KF.set ?_ _ _ | with_reducible refine KF.alloc ?_ _ | with_reducible refine KF.drew ?_ | with_reducible refine KF.drewN ?_ _ | with_reducible refine KF.ext ?_ (by assumption) | with_reducible exact Below.refl _ _ | with_reducible refine BL.set ?_ _ _ _ (by omega) | with_reducible refine BL.alloc ?_ _ (by omega) | with_reducible refine BL.drew ?_ | with_reducible refine BL.drewN ?_ _ | with_reducible refine BL.ext ?_ (by assumption) (by omega) | with_reducible exact Ext.refl _ | with_reducible refine Ext.set ?_ (by omega) _ | with_reducible refine Ext.alloc ?_ _ | with_reducible refine Ext.drew ?_ | with_reducible refine Ext.drewN ?_ _ | with_reducible refine Ext.trans ?_ (by assumption) | with_reducible refine BoxN.alloc ?_ _ | with_reducible refine BoxN.drew ?_ | with_reducible refine BoxN.drewN ?_ _ | with_reducible refine BoxN.other ?_ (by omega) _ | with_reducible refine BoxN.set ?_ _ _ | with_reducible apply BoxN.set1 | with_reducible apply BoxN.set2_1 | with_reducible apply BoxN.set2_0 | with_reducible refine BoxN.ext ?_ (by assumption))); done)
              have s2 : BoxN Wr (w.heap.size + 1 + 1) 31 #[.int .i64 0] := by rw [← hWr]; ((repeat (first | with_reducible assumption | with_reducible exact KeepsFrom.refl _ _ | with_reducible refine KF.set ?_ _ _ | with_reducible refine KF.alloc ?_ _ | with_reducible refine KF.drew ?_ | with_reducible refine KF.drewN ?_ _ | with_reducible refine KF.ext ?_ (by assumption) | with_reducible exact Below.refl _ _ | with_reducible refine BL.set ?_ _ _ _ (by omega) | with_reducible refine BL.alloc ?_ _ (by omega) | with_reducible refine BL.drew ?_ | with_reducible refine BL.drewN ?_ _ | with_reducible refine BL.ext ?_ (by assumption) (by omega) | with_reducible exact Ext.refl _ | with_reducible refine Ext.set ?_ (by omega) _ | with_reducible refine Ext.alloc ?_ _ | with_reducible refine Ext.drew ?_ | with_reducible refine Ext.drewN ?_ _ | with_reducible refine Ext.trans ?_ (by assumption) | with_reducible refine BoxN.alloc ?_ _ | with_reducible refine BoxN.drew ?_ | with_reducible refine BoxN.drewN ?_ _ | with_reducible refine BoxN.other ?_ (by omega) _ | with_reducible refine BoxN.set ?_ _ _ | with_reducible apply BoxN.set1 | with_reducible apply BoxN.set2_1 | with_reducible apply BoxN.set2_0 | with_reducible refine BoxN.ext ?_ (by assumption))); done)
              have sx : Ext w Wr := by rw [← hWr]; ((repeat (first | with_reducible assumption | with_reducible exact KeepsFrom.refl _ _ | with_reducible refine KF.set ?_ _ _ | with_reducible refine KF.alloc ?_ _ | with_reducible refine KF.drew ?_ | with_reducible refine KF.drewN ?_ _ | with_reducible refine KF.ext ?_ (by assumption) | with_reducible exact Below.refl _ _ | with_reducible refine BL.set ?_ _ _ _ (by omega) | with_reducible refine BL.alloc ?_ _ (by omega) | with_reducible refine BL.drew ?_ | with_reducible refine BL.drewN ?_ _ | with_reducible refine BL.ext ?_ (by assumption) (by omega) | with_reducible exact Ext.refl _ | with_reducible refine Ext.set ?_ (by omega) _ | with_reducible refine Ext.alloc ?_ _ | with_reducible refine Ext.drew ?_ | with_reducible refine Ext.drewN ?_ _ | with_reducible refine Ext.trans ?_ (by assumption) | with_reducible refine BoxN.alloc ?_ _ | with_reducible refine BoxN.drew ?_ | with_reducible refine BoxN.drewN ?_ _ | with_reducible refine BoxN.other ?_ (by omega) _ | with_reducible refine BoxN.set ?_ _ _ | with_reducible apply BoxN.set1 | with_reducible apply BoxN.set2_1 | with_reducible apply BoxN.set2_0 | with_reducible refine BoxN.ext ?_ (by assumption))); done)
              have hkf : KeepsFrom W0.heap.size W Wr := by rw [← hWr]; ((repeat (first | with_reducible assumption | with_reducible exact KeepsFrom.refl _ _ | with_reducible refine KF.set ?_ _ _ | with_reducible refine KF.alloc ?_ _ | with_reducible refine KF.drew ?_ | with_reducible refine KF.drewN ?_ _ | with_reducible refine KF.ext ?_ (by assumption) | with_reducible exact Below.refl _ _ | with_reducible refine BL.set ?_ _ _ _ (by omega) | with_reducible refine BL.alloc ?_ _ (by omega) | with_reducible refine BL.drew ?_ | with_reducible refine BL.drewN ?_ _ | with_reducible refine BL.ext ?_ (by assumption) (by omega) | with_reducible exact Ext.refl _ | with_reducible refine Ext.set ?_ (by omega) _ | with_reducible refine Ext.alloc ?_ _ | with_reducible refine Ext.drew ?_ | with_reducible refine Ext.drewN ?_ _ | with_reducible refine Ext.trans ?_ (by assumption) | with_reducible refine BoxN.alloc ?_ _ | with_reducible refine BoxN.drew ?_ | with_reducible refine BoxN.drewN ?_ _ | with_reducible refine BoxN.other ?_ (by omega) _ | with_reducible refine BoxN.set ?_ _ _ | with_reducible apply BoxN.set1 | with_reducible apply BoxN.set2_1 | with_reducible apply BoxN.set2_0 | with_reducible refine BoxN.ext ?_ (by assumption))); done)
              have hKW : Wr.heap[D]? = some (.deferred (some [])) := hkf.same D _ hD hK rfl
              clear hWr
              have e2 := (s1.putObj hKW rfl (.deferred none)).cell (j := 0) rfl
              have e3 := (s1.putObj hKW rfl (.deferred none)).cell (j := 1) rfl
              have e4 := (s2.putObj hKW rfl (.deferred none)).cell (j := 0) rfl
              refine ⟨by simp, .inl ⟨_, _, rfl, run_takeDeferred hKW, ?_⟩⟩
              refine ⟨.tuple #[idVal (0, 0), .int .i64 0], ?_, by first | (rw [HP.out]; done) | (rw [HP.out]; rfl), sx.putObj (by omega) hKW _⟩
              simp [results, Try.f97, go_sem, e2, e3, e4, idVal]
        case stop =>
          rintro D c' pre W hD hpre ⟨rfl, a, x, ⟨⟨⟨hp, hg, hne⟩, r1W⟩, r2W⟩, hxW⟩ hK
          rw [hp] at hpre
          have HST := hide (fault_form HIN.out H0.out (form_stop hpre hg hne))
          clear hg
          gi_wp2
          have e2 := (r1W.putObj hK rfl (.deferred none)).cell (j := 0) rfl
          have e3 := (r1W.putObj hK rfl (.deferred none)).cell (j := 1) rfl
          have e4 := (r2W.putObj hK rfl (.deferred none)).cell (j := 0) rfl
          refine ⟨by simp, .inl ⟨_, _, rfl, run_takeDeferred hK, ?_⟩⟩
          refine ⟨.tuple #[idVal x, .int .i64 (formF t x)], ?_, by rw [HST.out], hxW.putObj (by omega) hK _⟩
          simp [results, Try.f97, go_sem, e2, e3, e4, idVal]

theorem Valid_any (u : Value) (t : Tr) (w : World) (hS : Sm t) (hs : SlR 3 RPr w u t) :
    Calls Try.prog 45 #[.agg #[u]] w fun e w' => e = .returned (.bool (validL t)) ∧ Ext w w' := by
  have HF := hide (fun w' (he : Ext w w') => Fault_any u t w' hS (hs.ext RPr.keeps he))
  obtain ⟨A, c, rfl, _, hcm, _⟩ := hs.at_
  go_enter Try.func45, Try.ntmps45
  go_wp2_with fail
  refine (HF.out _ ((Ext.refl w).alloc _)).mono ?_
  rintro e w2 ⟨rfl, he2⟩
  unfold idVal
  go_wp2
  go_ret
  refine ⟨ret_bool ?_, Ext.alloc (Ext.trans ((Ext.refl w).alloc _) he2) _⟩
  unfold validL
  rw [Bool.eq_iff_iff]; simp
end Go.Proofs.Ytnnnccibhhnbaaa

namespace Go.Proofs.Ytnnnccibhhnbaaa
open Go.RowKit
set_option linter.unusedVariables false

theorem quiet_r {P : Program} {f : FuncId} {args : Array Value} {w : World} {n : Nat} {v : Value}
    (h : Calls P f args (w.drewN n) fun e w' => e = .returned v ∧ w.drewN n = w') : Calls P f args (w.drewN n) fun e w'' => e = .returned v ∧ ∃ m, w'' = w.drewN m :=
  h.mono fun _ _ ⟨he, hm⟩ => ⟨he, n, hm.symm⟩
theorem any_take_step {α : Type} {f : α → Bool} {l : List α} {k : Nat} (hk : k < l.length) (h : (l.take k).any f = false) (h2 : f l[k] = false) : (l.take (k + 1)).any f = false := by
  rw [List.take_succ_eq_append_getElem hk, List.any_append, h]; simp [h2]
theorem any_take_hit {α : Type} {f : α → Bool} {l : List α} {k n : Nat} (hk : k < l.length) (hkn : k < n) (h2 : f l[k] = true) : (l.take n).any f = true := by
  rw [List.any_eq_true]
  exact ⟨l[k], List.mem_take_iff_getElem.2 ⟨k, by omega, rfl⟩, h2⟩

set_option maxRecDepth 100000 in
set_option maxHeartbeats 4000000 in
theorem rhead_any (u : Value) (t : Tr) (p : Nat) (w : World) (hp : p < t.length) (hS : Sm t) (hs : SlR 3 RPr w u t) :
    Calls Try.prog 124 #[.agg #[u], .int .i64 p] w fun e w' => e = .returned (.int .i64 (headF t p)) ∧ Ext w w' := by
  obtain ⟨A, c, rfl, h1, h2, hc⟩ := hs.at_
  obtain ⟨b, off, rfl, hel⟩ := hc (by omega)
  obtain ⟨⟨c0, hm⟩, ⟨v1, c1, hs1⟩, v2, c2, hs2⟩ := hel p hp
  have hb := lt_of_cell c0
  have HS1 := hide hs1
  obtain ⟨A1, k1, rfl, _, _, hc1⟩ := hs1.at_
  obtain ⟨A2, k2, rfl, _, _, _⟩ := hs2.at_
  have HEL := hide hel
  have HC1 := hide hc1
  have hnp := hS.np
  have hnv := hS.nv _ (List.getElem_mem hp)
  have hne := hS.ne _ (List.getElem_mem hp)
  clear hs hs1 hs2 hel hc hc1
  have HN := hide (fun w => rName_any t[p].name w hm)
  have HE := hide (headF_eq t p hp)
  go_enter Try.func124, Try.ntmps124
  go_wp2_with fail
  refine (HN.out _).mono ?_
  rintro e w1 ⟨rfl, rfl⟩
  cases hn : nameB t[p].name
  · go_wp2_with fail
    go_ret
    exact ⟨by rw [HE.out, hn]; rfl, ((Ext.refl _).alloc _).alloc _⟩
  · have bt : BoxN ((w.alloc (.cells #[.slice (some ⟨b, off, none⟩) t.length c] 24)).alloc (.cells #[.string t[p].name, .slice A1 t[p].vars.length k1, .slice A2 t[p].evs.length k2] 99)) w.heap.size 24 _ := (BoxN.new w _ _).alloc _
    have bp : BoxN ((w.alloc (.cells #[.slice (some ⟨b, off, none⟩) t.length c] 24)).alloc (.cells #[.string t[p].name, .slice A1 t[p].vars.length k1, .slice A2 t[p].evs.length k2] 99)) (w.heap.size + 1) 99 _ := BoxN.newAt _ _ (by simp)
    have hx1 : Ext w ((w.alloc (.cells #[.slice (some ⟨b, off, none⟩) t.length c] 24)).alloc (.cells #[.string t[p].name, .slice A1 t[p].vars.length k1, .slice A2 t[p].evs.length k2] 99)) := ((Ext.refl _).alloc _).alloc _
    go_wp2_with fail
    generalize (w.alloc (.cells #[.slice (some ⟨b, off, none⟩) t.length c] 24)).alloc (.cells #[.string t[p].name, .slice A1 t[p].vars.length k1, .slice A2 t[p].evs.length k2] 99) = W1 at *
    go_loopw [6] (fun i wr => ∃ k : Nat, k ≤ p ∧ i = .int .i64 k ∧ ((t.take k).any fun y => y.name.toList == t[p].name.toList) = false ∧ Ext W1 wr) (fun i _ => p - (intOf i).toNat)
    case atStart => exact ⟨0, Nat.zero_le _, rfl, rfl, Ext.refl _⟩
    case round =>
      obtain ⟨k, hk, rfl, hany, hx⟩ := hrel
      have HANY := hide hany
      clear hany
      have t0 := (bt.ext hx).cell (j := 0) rfl
      have p0 := (bp.ext hx).cell (j := 0) rfl
      by_cases hlt : k < p
      · obtain ⟨⟨d0, dm⟩, _, _⟩ := HEL.out k (by omega)
        have e0 := (hx1.trans hx).cellAt d0
        clear d0
        cases heq : t[k].name.toList == t[p].name.toList
        · go_wp2_with fail
          go_quiet (fail)
          revert nq; intro n1
          go_wp2_with fail
          go_roundw
          case rel => exact ⟨k + 1, hlt, by go_num, any_take_step (by omega) HANY.out heq, hx.drewN _⟩
          case measure => simp [intOf]; omega
        · have HA := hide (any_take_hit (f := fun y : Pr => y.name.toList == t[p].name.toList) (n := p) (show k < t.length by omega) hlt heq)
          go_wp2_with fail
          go_quiet (fail)
          revert nq; intro n1
          go_wp2_with fail
          go_ret
          exact ⟨by rw [HE.out, hn, HA.out]; rfl, (hx1.trans hx).drewN _⟩
      · obtain rfl : k = p := by omega
        have p1 := (bp.ext hx).cell (j := 1) rfl
        have p2 := (bp.ext hx).cell (j := 2) rfl
        by_cases h8 : 8 < t[k].vars.length
        · go_wp2_with fail
          go_ret
          exact ⟨by rw [HE.out, hn, HANY.out]; simp [h8], hx1.trans hx⟩
        · go_wp2_with fail
          clear p0 p1 p2 t0
          have bt2 := bt.ext hx
          have bp2 := bp.ext hx
          have hx2 := hx1.trans hx
          clear bt bp hx1 hx
          obtain ⟨W2, hW2⟩ : ∃ W2 : World, wr = W2 := ⟨_, rfl⟩
          rw [hW2] at bt2 bp2 hx2 ⊢
          clear hW2
          go_loopw [7] (fun i wr => ∃ j : Nat, j ≤ t[k].vars.length ∧ i = .int .i64 j ∧ firstNZ (varF t[k].vars) j = 0 ∧ Ext W2 wr) (fun i _ => t[k].vars.length - (intOf i).toNat)
          case atStart => exact ⟨0, Nat.zero_le _, rfl, rfl, Ext.refl _⟩
          case round =>
            obtain ⟨j, hj, rfl, hz, hx⟩ := hrel
            have HZ := hide hz
            clear hz
            have p1 := (bp2.ext hx).cell (j := 1) rfl
            have p2 := (bp2.ext hx).cell (j := 2) rfl
            by_cases hlj : j < t[k].vars.length
            · obtain ⟨b1, off1, rfl, hel1⟩ := HC1.out (by omega)
              have HEL1 := hide hel1
              obtain ⟨f0, f1, fm⟩ := hel1 j hlj
              have g0 := (hx2.trans hx).cellAt f0
              have HV := hide (varF_eq t[k].vars j hlj)
              have HN2 := hide (fun w => rName_any t[k].vars[j].name w fm)
              clear hel1 f0 fm
              go_wp2_with fail
              refine (HN2.out _).mono ?_
              rintro e w2 ⟨rfl, rfl⟩
              cases hn2 : nameB t[k].vars[j].name
              · have HF13 := hide (show varF t[k].vars j = 13 by rw [HV.out, hn2]; rfl)
                have HR := hide (firstNZ_hit (n := t[k].vars.length) HZ.out (by rw [HF13.out]; decide) hlj)
                go_wp2_with fail
                go_ret
                exact ⟨by rw [HE.out, hn, HANY.out, HR.out, HF13.out]; simp [h8], hx2.trans hx⟩
              · go_wp2_with fail
                clear p1 p2 g0
                have bp3 := bp2.ext hx
                obtain ⟨W3, hW3⟩ : ∃ W3 : World, wr = W3 := ⟨_, rfl⟩
                rw [hW3] at hx bp3 ⊢
                clear hW3
                go_loopw [8] (fun i wr => ∃ q : Nat, q ≤ j ∧ i = .int .i64 q ∧ ((t[k].vars.take q).any fun y => y.name.toList == t[k].vars[j].name.toList) = false ∧ Ext W3 wr) (fun i _ => j - (intOf i).toNat)
                case atStart => exact ⟨0, Nat.zero_le _, rfl, rfl, Ext.refl _⟩
                case round =>
                  obtain ⟨q, hq, rfl, hany, hx3⟩ := hrel
                  have HANY2 := hide hany
                  clear hany
                  have p1 := (bp3.ext hx3).cell (j := 1) rfl
                  have p2 := (bp3.ext hx3).cell (j := 2) rfl
                  obtain ⟨f0, f1, fm⟩ := HEL1.out j hlj
                  have hx4 := (hx2.trans hx).trans hx3
                  have g0 := hx4.cellAt f0
                  have g1 := hx4.cellAt f1
                  clear f0 f1
                  by_cases hlq : q < j
                  · obtain ⟨f0, _, _⟩ := HEL1.out q (by omega)
                    have g2 := hx4.cellAt f0
                    clear f0
                    have hlq2 : (q : Int) < (t[k].vars.length : Int) := by omega
                    cases heq : t[k].vars[q].name.toList == t[k].vars[j].name.toList
                    · go_wp2_with fail
                      go_quiet (fail)
                      revert nq; intro n1
                      go_wp2_with fail
                      go_roundw
                      case rel => exact ⟨q + 1, hlq, by go_num, any_take_step (by omega) HANY2.out heq, hx3.drewN _⟩
                      case measure => simp [intOf]; omega
                    · have HF13 := hide (show varF t[k].vars j = 13 by rw [HV.out, hn2, any_take_hit (f := fun y : Vr => y.name.toList == t[k].vars[j].name.toList) (n := j) (by omega) hlq heq]; rfl)
                      have HR := hide (firstNZ_hit (n := t[k].vars.length) HZ.out (by rw [HF13.out]; decide) hlj)
                      go_wp2_with fail
                      go_quiet (fail)
                      revert nq; intro n1
                      go_wp2_with fail
                      go_ret
                      exact ⟨by rw [HE.out, hn, HANY.out, HR.out, HF13.out]; simp [h8], hx4.drewN _⟩
                  · obtain rfl : q = j := by omega
                    have HI := hide (fun w => value_any t[k].vars[q].init w)
                    go_wp2_with fail
                    refine (HI.out _).mono ?_
                    rintro e w4 ⟨rfl, rfl⟩
                    cases hv2 : valB t[k].vars[q].init
                    · have HF2 := hide (show varF t[k].vars q = 2 by rw [HV.out, hn2, HANY2.out, hv2]; rfl)
                      have HR := hide (firstNZ_hit (n := t[k].vars.length) HZ.out (by rw [HF2.out]; decide) hlj)
                      go_wp2_with fail
                      go_ret
                      exact ⟨by rw [HE.out, hn, HANY.out, HR.out, HF2.out]; simp [h8], hx4⟩
                    · have HF0 := hide (show varF t[k].vars q = 0 by rw [HV.out, hn2, HANY2.out, hv2]; rfl)
                      go_wp2_with fail
                      go_roundw
                      case rel => exact ⟨q + 1, hlj, by go_num, firstNZ_step HZ.out HF0.out, hx.trans hx3⟩
                      case measure => simp [intOf]; omega
            · obtain rfl : j = t[k].vars.length := by omega
              by_cases h64 : 64 < t[k].evs.length
              · go_wp2_with fail
                go_ret
                exact ⟨by rw [HE.out, hn, HANY.out]; simp [h8, h64, HZ.out], hx2.trans hx⟩
              · go_wp2_with fail
                go_ret
                exact ⟨by rw [HE.out, hn, HANY.out]; simp [h8, h64, HZ.out], hx2.trans hx⟩
end Go.Proofs.Ytnnnccibhhnbaaa
