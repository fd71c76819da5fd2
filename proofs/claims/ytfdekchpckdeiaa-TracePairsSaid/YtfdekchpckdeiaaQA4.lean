/- Texts of one proof, laid together: V, RH, RI, FD, PB, WH, WL. No condition. -/
import Derived.Test.YtfdekchpckdeiaaQA3
import Derived.Deep.RegionLaw
import Derived.Test.YtfdekchpckdeiaaProg
import Derived.KernelRfl
/- Walks: Fault and Valid. No condition but on lengths. -/
namespace Go.Proofs.Ytfdekchpckdeiaa
open Go.RowKit
set_option linter.unusedVariables false
attribute [local go_sem] Oper.semAt_some

structure Small (t : Tr) : Prop where
  np : t.length ≤ 1000000
  nv : ∀ x ∈ t, x.vars.length ≤ 1000000
  ne : ∀ x ∈ t, x.evs.length ≤ 1000000
  na : ∀ x ∈ t, ∀ e ∈ x.evs, e.asg.length ≤ 1000000
def FPost (t : Tr) (w : World) (e : Ending) (w' : World) : Prop := e = .returned (.tuple #[idVal (faultL t).1, .int .i64 (faultL t).2]) ∧ Ext w w'
theorem fault_len {t : Tr} (h : inB t.length 1 8 = false) : faultL t = ((0, 0), 1) := by
  unfold faultL
  rw [if_pos (by simp [inB] at h; omega)]
theorem fault_head {t : Tr} {p : Nat} (h : inB t.length 1 8 = true) (hp : p < t.length) (h0 : ∀ q, q < p → headF t q = 0) (hne : headF t p ≠ 0) : faultL t = ((p, 0), headF t p) := by
  have hf : (List.range t.length).find? (fun p => headF t p != 0) = some p := by
    rw [show t.length = p + (1 + (t.length - p - 1)) by omega, List.range_add, List.find?_append]
    have : (List.range p).find? (fun p => headF t p != 0) = none := by
      rw [List.find?_eq_none]; intro q hq; simp [h0 q (List.mem_range.1 hq)]
    rw [this, Nat.add_comm 1, List.range_succ_eq_map]
    simp [hne]
  unfold faultL
  rw [if_neg (by simp [inB] at h; omega), hf]
theorem head_none {t : Tr} (h0 : ∀ q, q < t.length → headF t q = 0) : (List.range t.length).find? (fun p => headF t p != 0) = none := by
  rw [List.find?_eq_none]; intro q hq; simp [h0 q (List.mem_range.1 hq)]
theorem fault_form {t : Tr} {x : Nat × Nat} (h : inB t.length 1 8 = true) (h0 : ∀ q, q < t.length → headF t q = 0) (hx : (ids t).find? (fun x => formF t x != 0) = some x) : faultL t = (x, formF t x) := by
  unfold faultL
  rw [if_neg (by simp [inB] at h; omega), head_none h0]
  simp only [hx]
theorem fault_pair {t : Tr} {x : Nat × Nat} (h : inB t.length 1 8 = true) (h0 : ∀ q, q < t.length → headF t q = 0) (hf : (ids t).find? (fun x => formF t x != 0) = none) (hx : (ids t).find? (fun x => pairF t x != 0) = some x) : faultL t = (x, pairF t x) := by
  unfold faultL
  rw [if_neg (by simp [inB] at h; omega), head_none h0]
  simp only [hf, hx]
theorem fault_hb {t : Tr} {x : Nat × Nat} (h : inB t.length 1 8 = true) (h0 : ∀ q, q < t.length → headF t q = 0) (hf : (ids t).find? (fun x => formF t x != 0) = none) (hp : (ids t).find? (fun x => pairF t x != 0) = none) (hx : hbFirst t = some x) : faultL t = (x, 10) := by
  unfold hbFirst at hx
  unfold faultL
  rw [if_neg (by simp [inB] at h; omega), head_none h0]
  simp only [hf, hp, hx]
theorem fault_ok {t : Tr} (h : inB t.length 1 8 = true) (h0 : ∀ q, q < t.length → headF t q = 0) (hf : (ids t).find? (fun x => formF t x != 0) = none) (hp : (ids t).find? (fun x => pairF t x != 0) = none) (hx : hbFirst t = none) : faultL t = ((0, 0), 0) := by
  unfold hbFirst at hx
  unfold faultL
  rw [if_neg (by simp [inB] at h; omega), head_none h0]
  simp only [hf, hp, hx]
theorem formF_formed {t : Tr} {x : Nat × Nat} (h : formF t x = 0) : formedB t.length x.1 (evAt t x) = true := by
  unfold formF at h
  cases hb : formedB t.length x.1 (evAt t x) with
  | true => rfl
  | false => rw [hb] at h; simp at h
def GI (t : Tr) (w : World) (u : Value) (l : List (Nat × Nat)) (W : World) : Prop :=
  (((BoxN W w.heap.size 24 #[u] ∧ BoxN W (w.heap.size + 1) 28 #[.int .i64 0, .int .i64 0]) ∧ BoxN W (w.heap.size + 1 + 1) 29 #[.int .i64 0]) ∧ Ext w W) ∧ ∀ x ∈ l, formF t x = 0
def GX (t : Tr) (w : World) (l : List (Nat × Nat)) (W : World) : Prop :=
  ∃ a x, (((l = a ++ [x] ∧ (∀ y ∈ a, formF t y = 0) ∧ formF t x ≠ 0) ∧ BoxN W (w.heap.size + 1) 28 #[.int .i64 x.1, .int .i64 x.2]) ∧ BoxN W (w.heap.size + 1 + 1) 29 #[.int .i64 (formF t x)]) ∧ Ext w W
theorem gi_from (t : Tr) (w : World) (u : Value) {n : Nat} (hn : w.heap.size ≤ n) : OwnFrom n (fun (pre : List (Idt t)) W => GI t w u (pre.map (·.1)) W) :=
  OwnFrom.and (OwnFrom.and (OwnFrom.and (OwnFrom.and (boxN1_from _ _ _ _) (boxN1_from _ _ _ _)) (boxN1_from _ _ _ _)) (ext_from hn)) (ownFrom_pure _ _)
theorem gx_from (t : Tr) (w : World) {n : Nat} (hn : w.heap.size ≤ n) : OwnFrom n (fun (pre : List (Idt t)) W => GX t w (pre.map (·.1)) W) := by
  rintro s X Y row ⟨a, x, h⟩ hg hr
  refine ⟨a, x, ⟨⟨h.1.1.1, ?_⟩, ?_⟩, ext_from hn () X Y row h.2 hg hr⟩
  · exact boxN1_from _ n _ (fun (_ : Unit) => _) () X Y row h.1.1.2 hg hr
  · exact boxN1_from _ n _ (fun (_ : Unit) => _) () X Y row h.1.2 hg hr
theorem len_flat {f : Nat → List (Nat × Nat)} {b : Nat} : ∀ n : Nat, (∀ p, p < n → (f p).length ≤ b) → ((List.range n).flatMap f).length ≤ n * b
  | 0, _ => by simp
  | n + 1, h => by
    rw [List.range_succ, List.flatMap_append, List.length_append]
    have h1 := len_flat n fun p hp => h p (by omega)
    have h2 := h n (by omega)
    have h3 : ([n].flatMap f).length = (f n).length := by simp
    rw [h3, Nat.add_mul]
    omega
theorem head_evs {t : Tr} {p : Nat} (hp : p < t.length) (h : headF t p = 0) : t[p].evs.length ≤ 64 := by
  rw [headF_eq t p hp] at h
  split at h
  · cases h
  · split at h
    · cases h
    · split at h
      · rename_i hne
        exact absurd h hne
      · split at h
        · cases h
        · omega
theorem ids_few {t : Tr} (h1 : t.length ≤ 1000000) (h2 : ∀ x ∈ t, x.evs.length ≤ 1000000) (h : inB t.length 1 8 = true) (h0 : ∀ q, q < t.length → headF t q = 0) : (ids t).length ≤ 1000000 := by
  have := len_flat (f := idsOf t) (b := 64) t.length fun p hp => by
    unfold idsOf evsOf
    rw [List.length_map, List.length_range, getD_lt dfPr t hp]
    exact head_evs hp (h0 p hp)
  simp [inB] at h
  unfold ids
  have h3 : t.length * 64 ≤ 8 * 64 := Nat.mul_le_mul_right _ (by omega)
  omega
theorem form_done {t : Tr} (h : ∀ x ∈ ids t, formF t x = 0) : (ids t).find? (fun x => formF t x != 0) = none := by
  rw [List.find?_eq_none]; intro x hx; simp [h x hx]
theorem form_stop {t : Tr} {a : List (Nat × Nat)} {x : Nat × Nat} (hp : a ++ [x] <+: ids t) (ha : ∀ y ∈ a, formF t y = 0) (hx : formF t x ≠ 0) : (ids t).find? (fun x => formF t x != 0) = some x := by
  obtain ⟨c, hc⟩ := hp
  rw [← hc, List.append_assoc, List.find?_append]
  have : a.find? (fun x => formF t x != 0) = none := by
    rw [List.find?_eq_none]; intro y hy; simp [ha y hy]
  rw [this]
  simp [hx]
set_option maxRecDepth 100000 in
set_option maxHeartbeats 4000000 in
theorem Fault_any (u : Value) (t : Tr) (w : World) (hS : Small t) (hs : SlR 3 RPr w u t) :
    Calls Try.prog 17 #[.agg #[u]] w fun e w' => FPost t w e w' := by
  refine callsIn_wide (n := 9).1 ?_
  refine callsIn_of_wp_marks Try.func17 rfl trivial ?_ rfl
  simp only [Try.ntmps17, List.size_toArray, List.length_cons, List.length_nil, Nat.reduceAdd, Nat.reduceSub, Array.replicate_succ, Array.replicate_zero, List.push_toArray, List.append_toArray, List.nil_append, List.cons_append]
  obtain ⟨A, c, rfl, _, hcm, _⟩ := hs.at_
  have HI := hide (fun w => callsIn_wide (n := 8).2 (in_any t.length 1 8 w))
  cases hin : inB t.length 1 8
  · rw [hin] at HI
    have HF := hide (fault_len hin)
    clear hin
    gi_wp2_with (refine ⟨trivial, ?_⟩; gi_at_call 71; refine (HI.out _).mono ?_; rintro e w' ⟨rfl, rfl⟩)
    refine ⟨.tuple #[idVal (0, 0), .int .i64 1], by simp [results, Try.f17, go_sem, idVal], by rw [HF.out]; rfl, (((Ext.refl w).alloc _).alloc _).alloc _⟩
  · have HIN := hide hin
    rw [hin] at HI
    clear hin
    gi_wp2_with (refine ⟨trivial, ?_⟩; gi_at_call 71; refine (HI.out _).mono ?_; rintro e w' ⟨rfl, rfl⟩)
    have tb0 := ((BoxN.new w 24 #[.slice A t.length c]).alloc (.cells #[.int .i64 0, .int .i64 0] 28)).alloc (.cells #[.int .i64 0] 29)
    obtain ⟨W1, hW1⟩ : ∃ W1, ((w.alloc (Obj.cells #[Value.slice A t.length c] 24)).alloc (Obj.cells #[Value.int .i64 0, Value.int .i64 0] 28)).alloc (Obj.cells #[Value.int .i64 0] 29) = W1 := ⟨_, rfl⟩
    rw [hW1] at tb0 ⊢
    have hx1 : Ext w W1 := by rw [← hW1]; exact (((Ext.refl w).alloc _).alloc _).alloc _
    have rb1 : BoxN W1 (w.heap.size + 1) 28 #[.int .i64 0, .int .i64 0] := by rw [← hW1]; exact (BoxN.newAt _ _ (by simp)).alloc _
    have rb2 : BoxN W1 (w.heap.size + 1 + 1) 29 #[.int .i64 0] := by rw [← hW1]; exact BoxN.newAt _ _ (by simp)
    have hsz1 : Hx (W1.heap.size = w.heap.size + 1 + 1 + 1) := hide (by rw [← hW1]; simp)
    clear hW1
    have hnp := hS.np
    gi_loopw [23] (fun i wr => ∃ k : Nat, k ≤ t.length ∧ i = .int .i64 k ∧ (∀ q, q < k → headF t q = 0) ∧ Ext W1 wr) (fun i _ => t.length - (intOf i).toNat)
    case atStart => exact ⟨0, Nat.zero_le _, rfl, fun q hq => absurd hq (Nat.not_lt_zero _), Ext.refl _⟩
    case round =>
      obtain ⟨k, hk, rfl, h0, hx⟩ := hrel
      have H0 := hide h0
      clear h0
      have tb := tb0.ext hx
      have r1 := rb1.ext hx
      have r2 := rb2.ext hx
      have t0 := tb.cell (j := 0) rfl
      by_cases hlt : k < t.length
      · have HP := hide (fun w' (he : Ext w w') => callsIn_wide (n := 8).2 (processFault_any (.slice A t.length c) t k w' hlt hnp (hS.nv _ (List.getElem_mem hlt)) (hS.ne _ (List.getElem_mem hlt)) (hs.ext RPr.keeps he)))
        gi_wp2_with fail
        refine ⟨trivial, ?_⟩
        refine (HP.out _ (hx1.trans hx)).mono ?_
        rintro e w2 ⟨rfl, he2⟩
        by_cases hz : headF t k = 0
        · have HZ := hide hz
          rw [hz]
          clear hz
          gi_wp2
          go_roundw
          case rel => exact ⟨k + 1, hlt, by go_num, fun q hq => (Nat.lt_succ_iff_lt_or_eq.1 hq).elim (H0.out q) (fun e => e ▸ HZ.out), hx.trans he2⟩
          case measure => simp [intOf]; omega
        · have HF := hide (fault_head HIN.out hlt H0.out hz)
          have hne : ((headF t k : Int) != 0) = true := by simp; omega
          have r12 := r1.ext he2
          have r22 := r2.ext he2
          have f1 := r12.frozen 0
          have f2 := r12.frozen 1
          have f3 := r22.frozen 0
          have p1 := r12.cell (j := 0) rfl
          have p2 := r12.cell (j := 1) rfl
          have p3 := r22.cell (j := 0) rfl
          gi_wp2
          obtain ⟨Wr, hWr⟩ : ∃ Wr, ((w2.setCell ⟨w.heap.size + 1, 0, none⟩ (Value.int .i64 k)).setCell ⟨w.heap.size + 1, 1, none⟩ (Value.int .i64 0)).setCell ⟨w.heap.size + 1 + 1, 0, none⟩ (Value.int .i64 (headF t k)) = Wr := ⟨_, rfl⟩
          rw [hWr]
          have hEX2 : Ext w w2 := hx1.trans (hx.trans he2)
          have s1 : BoxN Wr (w.heap.size + 1) 28 #[.int .i64 k, .int .i64 0] := by rw [← hWr]; ((repeat (first | with_reducible assumption | with_reducible exact KeepsFrom.refl _ _ | with_reducible refine KF.set ?_ _ _ | with_reducible refine KF.alloc ?_ _ | with_reducible refine KF.drew ?_ | with_reducible refine KF.drewN ?_ _ | with_reducible refine KF.ext ?_ (by assumption) | with_reducible exact Below.refl _ _ | with_reducible refine BL.set ?_ _ _ _ (by omega) | with_reducible refine BL.alloc ?_ _ (by omega) | with_reducible refine BL.drew ?_ | with_reducible refine BL.drewN ?_ _ | with_reducible refine BL.ext ?_ (by assumption) (by omega) | with_reducible exact Ext.refl _ | with_reducible refine Ext.set ?_ (by omega) _ | with_reducible refine Ext.alloc ?_ _ | with_reducible refine Ext.drew ?_ | with_reducible refine Ext.drewN ?_ _ | with_reducible refine Ext.trans ?_ (by assumption) | with_reducible refine BoxN.alloc ?_ _ | with_reducible refine BoxN.drew ?_ | with_reducible refine BoxN.drewN ?_ _ | with_reducible refine BoxN.other ?_ (by omega) _ | with_reducible refine BoxN.set ?_ _ _ | with_reducible apply BoxN.set1 | with_reducible apply BoxN.set2_1 | with_reducible apply BoxN.set2_0 | with_reducible refine BoxN.ext ?_ (by assumption))); done)
          have s2 : BoxN Wr (w.heap.size + 1 + 1) 29 #[.int .i64 (headF t k)] := by rw [← hWr]; ((repeat (first | with_reducible assumption | with_reducible exact KeepsFrom.refl _ _ | with_reducible refine KF.set ?_ _ _ | with_reducible refine KF.alloc ?_ _ | with_reducible refine KF.drew ?_ | with_reducible refine KF.drewN ?_ _ | with_reducible refine KF.ext ?_ (by assumption) | with_reducible exact Below.refl _ _ | with_reducible refine BL.set ?_ _ _ _ (by omega) | with_reducible refine BL.alloc ?_ _ (by omega) | with_reducible refine BL.drew ?_ | with_reducible refine BL.drewN ?_ _ | with_reducible refine BL.ext ?_ (by assumption) (by omega) | with_reducible exact Ext.refl _ | with_reducible refine Ext.set ?_ (by omega) _ | with_reducible refine Ext.alloc ?_ _ | with_reducible refine Ext.drew ?_ | with_reducible refine Ext.drewN ?_ _ | with_reducible refine Ext.trans ?_ (by assumption) | with_reducible refine BoxN.alloc ?_ _ | with_reducible refine BoxN.drew ?_ | with_reducible refine BoxN.drewN ?_ _ | with_reducible refine BoxN.other ?_ (by omega) _ | with_reducible refine BoxN.set ?_ _ _ | with_reducible apply BoxN.set1 | with_reducible apply BoxN.set2_1 | with_reducible apply BoxN.set2_0 | with_reducible refine BoxN.ext ?_ (by assumption))); done)
          have sx : Ext w Wr := by rw [← hWr]; ((repeat (first | with_reducible assumption | with_reducible exact KeepsFrom.refl _ _ | with_reducible refine KF.set ?_ _ _ | with_reducible refine KF.alloc ?_ _ | with_reducible refine KF.drew ?_ | with_reducible refine KF.drewN ?_ _ | with_reducible refine KF.ext ?_ (by assumption) | with_reducible exact Below.refl _ _ | with_reducible refine BL.set ?_ _ _ _ (by omega) | with_reducible refine BL.alloc ?_ _ (by omega) | with_reducible refine BL.drew ?_ | with_reducible refine BL.drewN ?_ _ | with_reducible refine BL.ext ?_ (by assumption) (by omega) | with_reducible exact Ext.refl _ | with_reducible refine Ext.set ?_ (by omega) _ | with_reducible refine Ext.alloc ?_ _ | with_reducible refine Ext.drew ?_ | with_reducible refine Ext.drewN ?_ _ | with_reducible refine Ext.trans ?_ (by assumption) | with_reducible refine BoxN.alloc ?_ _ | with_reducible refine BoxN.drew ?_ | with_reducible refine BoxN.drewN ?_ _ | with_reducible refine BoxN.other ?_ (by omega) _ | with_reducible refine BoxN.set ?_ _ _ | with_reducible apply BoxN.set1 | with_reducible apply BoxN.set2_1 | with_reducible apply BoxN.set2_0 | with_reducible refine BoxN.ext ?_ (by assumption))); done)
          clear hWr
          exact ⟨.tuple #[idVal (k, 0), .int .i64 (headF t k)], by simp [results, Try.f17, go_sem, idVal, s1.cell (j := 0) rfl, s1.cell (j := 1) rfl, s2.cell (j := 0) rfl], by rw [HF.out], sx⟩
      · obtain rfl : k = t.length := by omega
        have hEXr : Ext w wr := hx1.trans hx
        gi_wp2_with (refine ⟨trivial, ?_⟩; gi_at_call 73; refine (callsIn_wide.2 (events_any _ _)).mono ?_; rintro e w' ⟨rfl, rfl⟩)
        have bt := BoxN.new wr 24 #[.slice A t.length c]
        have hM0 : GI t w (.slice A t.length c) [] (wr.alloc (.cells #[.slice A t.length c] 24)) := ⟨⟨⟨⟨tb.alloc _, r1.alloc _⟩, r2.alloc _⟩, hEXr.alloc _⟩, fun x hx => by cases hx⟩
        obtain ⟨W0, hW0⟩ : ∃ W0, wr.alloc (.cells #[.slice A t.length c] 24) = W0 := ⟨_, rfl⟩
        have hsz0 : W0.heap.size = wr.heap.size + 1 := by rw [← hW0]; simp
        have hwr : w.heap.size ≤ wr.heap.size := hEXr.size
        rw [hW0] at bt hM0 ⊢
        clear hW0
        have hext0 : Ext w W0 := hM0.1.2
        have HSZ0 := hide hsz0
        have hw0 : w.heap.size ≤ W0.heap.size := by omega
        clear hsz0
        refine wpIn_rangeFunc_ownH rfl (by omega) (gf := 115) (lb := #[.pointer (some ⟨wr.heap.size, 0, none⟩)]) rfl trivial (callFunc_enter Try.func115 (by decide) rfl)
          (events_stops 8 (by omega) w (.slice A t.length c) t wr.heap.size W0 hnp hS.ne hs hext0 (bt.cell rfl) hwr) belowK_t (belowK_b hw0) (Below.refl _ _) (fun _ => rfl)
          (fun pre W => GI t w (.slice A t.length c) (pre.map (·.1)) W) (fun c pre W => c = .ret ∧ GX t w (pre.map (·.1)) W) (gi_from t w _ hw0) (fun c => OwnFrom.and (ownFrom_pure _ _) (gx_from t w hw0)) hM0
          (fun x a' W => ∃ B6 B7 A4 n4 c4 v37 v38, (w.heap.size + 1 + 1 < B6 ∧ w.heap.size + 1 + 1 < B7 ∧ SlR 2 RAsg w (.slice A4 n4 c4) (evAt t x.1).asg) ∧ BoxN W B6 28 #[.int .i64 x.1.1, .int .i64 x.1.2] ∧ BoxN W B7 49 #[.int .i64 (evAt t x.1).kind, .int .i64 (evAt t x.1).peer, .int .i64 (evAt t x.1).msg, .int .i64 (evAt t x.1).time, .slice A4 n4 c4] ∧
            a' = { tmps := #[.agg #[.slice A t.length c], .pointer (some ⟨w.heap.size, 0, none⟩), .pointer (some ⟨w.heap.size + 1, 0, none⟩), .pointer (some ⟨w.heap.size + 1 + 1, 0, none⟩), u4, u5, .pointer (some ⟨B6, 0, none⟩), .pointer (some ⟨B7, 0, none⟩), undef, undef, undef, undef, undef, undef, .pointer (some ⟨w.heap.size, 0, none⟩), .slice A t.length c, .int .i64 t.length, .bool true, .bool false, undef, .pointer (some ⟨w.heap.size, 0, none⟩), .slice A t.length c, .int .i64 t.length, .int .i64 t.length, .bool false, u25, u26, u27, u28, u29, u30, u31, u32, u33, u34, .agg #[.slice A t.length c], .func (.func 115) #[] #[.pointer (some ⟨wr.heap.size, 0, none⟩)], v37, v38, undef, undef, undef, undef, undef, undef, undef, undef, undef, undef, undef, undef, undef, undef, undef, undef, undef, undef, undef, undef, undef, undef, undef, undef, undef, undef, undef], defers := [] })
          ?hax ?assign ?body ?done ?stop
        case hax =>
          rintro x a' _ X Y row ⟨B6, B7, A4, n4, c4, v37, v38, hB, b6, b7, ha⟩ hg hr
          exact ⟨B6, B7, A4, n4, c4, v37, v38, hB, boxN1_from B6 _ _ (fun (_ : Unit) => _) () X Y row b6 hg hr, boxN1_from B7 _ _ (fun (_ : Unit) => _) () X Y row b7 hg hr, ha⟩
        case assign =>
          rintro l pre x W K hI hK
          obtain ⟨a, hv, hsa⟩ := evVal_ok hs x.2
          obtain ⟨A4, c4, rfl, _, _, _⟩ := hsa.at_
          simp only [hv]
          have hsW := hI.1.2.size
          have h5 := hI.1.1.2.lt
          unfold idVal
          gi_wp2
          exact hK _ _ (((KeepsOthers.alloc _ _).trans (KeepsOthers.alloc _ _)).from _) (((Below.refl _ W).alloc hsW _).alloc (by simp; omega) _) ((gi_from t w _ (Nat.le_refl _)).alloc _ ((gi_from t w _ (Nat.le_refl _)).alloc _ hI))
            ⟨W.heap.size, W.heap.size + 1, A4, _, c4, _, _, ⟨h5, by omega, hsa⟩, (BoxN.new _ _ _).alloc _, BoxN.newAt _ _ (by simp), rfl⟩
        case body =>
          rintro l pre x a' W hlW ⟨r, hr⟩ hI ⟨B6, B7, A4, n4, c4, v37, v38, ⟨hB6, hB7, hsa⟩, b6, b7, rfl⟩ hlen
          obtain ⟨⟨⟨⟨tbW, r1W⟩, r2W⟩, hxW⟩, hg⟩ := hI
          have hsW := hxW.size
          have HG := hide hg
          have HSA := hide hsa
          clear hg hsa
          have k0 := b7.cell (j := 0) rfl
          have k1 := b7.cell (j := 1) rfl
          have k2 := b7.cell (j := 2) rfl
          have k3 := b7.cell (j := 3) rfl
          have k4 := b7.cell (j := 4) rfl
          have i0 := b6.cell (j := 0) rfl
          have i1 := b6.cell (j := 1) rfl
          have t0 := tbW.cell (j := 0) rfl
          obtain ⟨hp, hi1, hi2⟩ := mem_ids.1 x.2
          have hee : t[x.1.1].evs[x.1.2 - 1] = evAt t x.1 := by
            unfold evAt evsOf; rw [getD_lt dfPr t hp, getD_lt dfEv _ (by omega)]
          have HE := hide (fun w' (he : Ext w w') => CallsIn.inRound l (callsIn_wide (n := 6).2 (eventFault_any (.slice A t.length c) (.slice A4 n4 c4) t x.1.1 x.1.2 (evAt t x.1) w' hp hi1 hi2 hee hnp (hS.nv _ (List.getElem_mem hp)) (hS.ne _ (List.getElem_mem hp)) (by rw [← hee]; exact hS.na _ (List.getElem_mem hp) _ (List.getElem_mem _)) (hs.ext RPr.keeps he) (HSA.out.ext RAsg.keeps he))))
          clear hee
          gi_wp2_with fail
          refine ⟨trivial, ?_⟩
          refine (HE.out _ hxW).mono ?_
          rintro e w2 ⟨rfl, he2⟩
          by_cases hz : formF t x.1 = 0
          · have HZ := hide hz
            rw [show formF t (x.1.1, x.1.2) = 0 from hz]
            clear hz
            gi_wp2
            refine ⟨KF.ext (KeepsFrom.refl _ _) he2, BL.ext (Below.refl _ _) he2 hsW, ?_⟩
            show GI t w (.slice A t.length c) ((pre ++ [x]).map (·.1)) _
            rw [map_snoc]
            refine ⟨⟨⟨⟨tbW.ext he2, r1W.ext he2⟩, r2W.ext he2⟩, hxW.trans he2⟩, fun z hz => ?_⟩
            rcases List.mem_append.1 hz with h1 | h1
            · exact HG.out z h1
            · rw [show z = x.1 by simpa using h1]; exact HZ.out
          · have hne : ((formF t (x.1.1, x.1.2) : Int) != 0) = true := by
              have : ¬ formF t (x.1.1, x.1.2) = 0 := hz
              simp; omega
            have HZ := hide hz
            clear hz
            have r12 := r1W.ext he2
            have r22 := r2W.ext he2
            have b62 := b6.ext he2
            have f1 := r12.frozen 0
            have f2 := r12.frozen 1
            have f3 := r22.frozen 0
            have p1 := r12.cell (j := 0) rfl
            have p2 := r12.cell (j := 1) rfl
            have p3 := r22.cell (j := 0) rfl
            have i02 := b62.cell (j := 0) rfl
            have i12 := b62.cell (j := 1) rfl
            have hKF3 : KeepsFrom W0.heap.size W w2 := KF.ext (KeepsFrom.refl _ _) he2
            have hEX3 : Ext w w2 := hxW.trans he2
            gi_wp2
            refine ⟨?_, rfl, pre.map (·.1), x.1, ⟨⟨⟨map_snoc pre x, HG.out, HZ.out⟩, ?_⟩, ?_⟩, ?_⟩
            all_goals ((repeat (first | with_reducible assumption | with_reducible exact KeepsFrom.refl _ _ | with_reducible refine KF.set ?_ _ _ | with_reducible refine KF.alloc ?_ _ | with_reducible refine KF.drew ?_ | with_reducible refine KF.drewN ?_ _ | with_reducible refine KF.ext ?_ (by assumption) | with_reducible exact Below.refl _ _ | with_reducible refine BL.set ?_ _ _ _ (by omega) | with_reducible refine BL.alloc ?_ _ (by omega) | with_reducible refine BL.drew ?_ | with_reducible refine BL.drewN ?_ _ | with_reducible refine BL.ext ?_ (by assumption) (by omega) | with_reducible exact Ext.refl _ | with_reducible refine Ext.set ?_ (by omega) _ | with_reducible refine Ext.alloc ?_ _ | with_reducible refine Ext.drew ?_ | with_reducible refine Ext.drewN ?_ _ | with_reducible refine Ext.trans ?_ (by assumption) | with_reducible refine BoxN.alloc ?_ _ | with_reducible refine BoxN.drew ?_ | with_reducible refine BoxN.drewN ?_ _ | with_reducible refine BoxN.other ?_ (by omega) _ | with_reducible refine BoxN.set ?_ _ _ | with_reducible apply BoxN.set1 | with_reducible apply BoxN.set2_1 | with_reducible apply BoxN.set2_0 | with_reducible refine BoxN.ext ?_ (by assumption))); done)
        case done =>
          rintro D ys W hD hys ⟨⟨⟨⟨tbW, r1W⟩, r2W⟩, hxW⟩, hg⟩ hK
          rw [hys] at hg
          have HG := hide hg
          clear hg
          have hform : ∀ x ∈ ids t, formedB t.length x.1 (evAt t x) = true := fun x hx => formF_formed (HG.out x hx)
          have hfn := hide (form_done HG.out)
          have t0 := tbW.cell (j := 0) rfl
          have HMF := hide (fun w' (he : Ext w w') => callsIn_wide (n := 8).2 (messageFault_any (.slice A t.length c) t w' hnp hS.ne (hs.ext RPr.keeps he) hform))
          have hform' := hide hform
          clear hform
          gi_wp2_with fail
          refine ⟨trivial, ?_⟩
          refine (HMF.out _ hxW).mono ?_
          rintro e w2 ⟨he2, hm⟩
          have hKF2 : KeepsFrom W0.heap.size W w2 := KF.ext (KeepsFrom.refl _ _) he2
          have hEX2 : Ext w w2 := hxW.trans he2
          have r12 := r1W.ext he2
          have r22 := r2W.ext he2
          have tb2 := tbW.ext he2
          have t02 := tb2.cell (j := 0) rfl
          have lt1 := tb2.lt
          have lt2 := r12.lt
          have lt3 := r22.lt
          clear t0
          rcases hm with ⟨x, hx, rfl⟩ | ⟨hpn, b, cs, hb, hbox, hlet, rfl⟩
          · have HP := hide (fault_pair HIN.out H0.out hfn.out hx)
            have hne0 : ((pairF t x : Int) != 0) = true := by
              have := List.find?_some hx
              simp at this ⊢; omega
            clear hx
            unfold idVal
            have f1 := r12.frozen 0
            have f2 := r12.frozen 1
            have f3 := r22.frozen 0
            have p1 := r12.cell (j := 0) rfl
            have p2 := r12.cell (j := 1) rfl
            have p3 := r22.cell (j := 0) rfl
            gi_wp2
            obtain ⟨Wr, hWr⟩ : ∃ Wr, (((w2.setCell ⟨w.heap.size + 1, 0, none⟩ (Value.int .i64 x.1)).setCell ⟨w.heap.size + 1, 1, none⟩ (Value.int .i64 x.2)).setCell ⟨w.heap.size + 1 + 1, 0, none⟩ (Value.int .i64 (pairF t x))).alloc (Obj.cells #[Value.int .i64 x.1, Value.int .i64 x.2] 28) = Wr := ⟨_, rfl⟩
            rw [hWr]
            have s1 : BoxN Wr (w.heap.size + 1) 28 #[.int .i64 x.1, .int .i64 x.2] := by rw [← hWr]; ((repeat (first | with_reducible assumption | with_reducible exact KeepsFrom.refl _ _ | with_reducible refine KF.set ?_ _ _ | with_reducible refine KF.alloc ?_ _ | with_reducible refine KF.drew ?_ | with_reducible refine KF.drewN ?_ _ | with_reducible refine KF.ext ?_ (by assumption) | with_reducible exact Below.refl _ _ | with_reducible refine BL.set ?_ _ _ _ (by omega) | with_reducible refine BL.alloc ?_ _ (by omega) | with_reducible refine BL.drew ?_ | with_reducible refine BL.drewN ?_ _ | with_reducible refine BL.ext ?_ (by assumption) (by omega) | with_reducible exact Ext.refl _ | with_reducible refine Ext.set ?_ (by omega) _ | with_reducible refine Ext.alloc ?_ _ | with_reducible refine Ext.drew ?_ | with_reducible refine Ext.drewN ?_ _ | with_reducible refine Ext.trans ?_ (by assumption) | with_reducible refine BoxN.alloc ?_ _ | with_reducible refine BoxN.drew ?_ | with_reducible refine BoxN.drewN ?_ _ | with_reducible refine BoxN.other ?_ (by omega) _ | with_reducible refine BoxN.set ?_ _ _ | with_reducible apply BoxN.set1 | with_reducible apply BoxN.set2_1 | with_reducible apply BoxN.set2_0 | with_reducible refine BoxN.ext ?_ (by assumption))); done)
            have s2 : BoxN Wr (w.heap.size + 1 + 1) 29 #[.int .i64 (pairF t x)] := by rw [← hWr]; ((repeat (first | with_reducible assumption | with_reducible exact KeepsFrom.refl _ _ | with_reducible refine KF.set ?_ _ _ | with_reducible refine KF.alloc ?_ _ | with_reducible refine KF.drew ?_ | with_reducible refine KF.drewN ?_ _ | with_reducible refine KF.ext ?_ (by assumption) | with_reducible exact Below.refl _ _ | with_reducible refine BL.set ?_ _ _ _ (by omega) | with_reducible refine BL.alloc ?_ _ (by omega) | with_reducible refine BL.drew ?_ | with_reducible refine BL.drewN ?_ _ | with_reducible refine BL.ext ?_ (by assumption) (by omega) | with_reducible exact Ext.refl _ | with_reducible refine Ext.set ?_ (by omega) _ | with_reducible refine Ext.alloc ?_ _ | with_reducible refine Ext.drew ?_ | with_reducible refine Ext.drewN ?_ _ | with_reducible refine Ext.trans ?_ (by assumption) | with_reducible refine BoxN.alloc ?_ _ | with_reducible refine BoxN.drew ?_ | with_reducible refine BoxN.drewN ?_ _ | with_reducible refine BoxN.other ?_ (by omega) _ | with_reducible refine BoxN.set ?_ _ _ | with_reducible apply BoxN.set1 | with_reducible apply BoxN.set2_1 | with_reducible apply BoxN.set2_0 | with_reducible refine BoxN.ext ?_ (by assumption))); done)
            have sx : Ext w Wr := by rw [← hWr]; ((repeat (first | with_reducible assumption | with_reducible exact KeepsFrom.refl _ _ | with_reducible refine KF.set ?_ _ _ | with_reducible refine KF.alloc ?_ _ | with_reducible refine KF.drew ?_ | with_reducible refine KF.drewN ?_ _ | with_reducible refine KF.ext ?_ (by assumption) | with_reducible exact Below.refl _ _ | with_reducible refine BL.set ?_ _ _ _ (by omega) | with_reducible refine BL.alloc ?_ _ (by omega) | with_reducible refine BL.drew ?_ | with_reducible refine BL.drewN ?_ _ | with_reducible refine BL.ext ?_ (by assumption) (by omega) | with_reducible exact Ext.refl _ | with_reducible refine Ext.set ?_ (by omega) _ | with_reducible refine Ext.alloc ?_ _ | with_reducible refine Ext.drew ?_ | with_reducible refine Ext.drewN ?_ _ | with_reducible refine Ext.trans ?_ (by assumption) | with_reducible refine BoxN.alloc ?_ _ | with_reducible refine BoxN.drew ?_ | with_reducible refine BoxN.drewN ?_ _ | with_reducible refine BoxN.other ?_ (by omega) _ | with_reducible refine BoxN.set ?_ _ _ | with_reducible apply BoxN.set1 | with_reducible apply BoxN.set2_1 | with_reducible apply BoxN.set2_0 | with_reducible refine BoxN.ext ?_ (by assumption))); done)
            have hkf : KeepsFrom W0.heap.size W Wr := by rw [← hWr]; ((repeat (first | with_reducible assumption | with_reducible exact KeepsFrom.refl _ _ | with_reducible refine KF.set ?_ _ _ | with_reducible refine KF.alloc ?_ _ | with_reducible refine KF.drew ?_ | with_reducible refine KF.drewN ?_ _ | with_reducible refine KF.ext ?_ (by assumption) | with_reducible exact Below.refl _ _ | with_reducible refine BL.set ?_ _ _ _ (by omega) | with_reducible refine BL.alloc ?_ _ (by omega) | with_reducible refine BL.drew ?_ | with_reducible refine BL.drewN ?_ _ | with_reducible refine BL.ext ?_ (by assumption) (by omega) | with_reducible exact Ext.refl _ | with_reducible refine Ext.set ?_ (by omega) _ | with_reducible refine Ext.alloc ?_ _ | with_reducible refine Ext.drew ?_ | with_reducible refine Ext.drewN ?_ _ | with_reducible refine Ext.trans ?_ (by assumption) | with_reducible refine BoxN.alloc ?_ _ | with_reducible refine BoxN.drew ?_ | with_reducible refine BoxN.drewN ?_ _ | with_reducible refine BoxN.other ?_ (by omega) _ | with_reducible refine BoxN.set ?_ _ _ | with_reducible apply BoxN.set1 | with_reducible apply BoxN.set2_1 | with_reducible apply BoxN.set2_0 | with_reducible refine BoxN.ext ?_ (by assumption))); done)
            have hKW : Wr.heap[D]? = some (.deferred (some [])) := hkf.same D _ hD hK rfl
            clear hWr
            have e2 := (s1.putObj hKW rfl (.deferred none)).cell (j := 0) rfl
            have e3 := (s1.putObj hKW rfl (.deferred none)).cell (j := 1) rfl
            have e4 := (s2.putObj hKW rfl (.deferred none)).cell (j := 0) rfl
            refine ⟨by simp, .inl ⟨_, _, rfl, run_takeDeferred hKW, ?_⟩⟩
            refine ⟨.tuple #[idVal x, .int .i64 (pairF t x)], ?_, by first | (rw [HP.out]; done) | (rw [HP.out]; rfl), sx.putObj (by omega) hKW _⟩
            simp [results, Try.f17, go_sem, e2, e3, e4, idVal]
          · have HPN := hide hpn
            clear hpn
            have HC := hide (fun w' (he : Ext w w') (hb' : BoxN w' b 155 cs) => callsIn_wide (n := 8).2 (cyclic_any (.slice A t.length c) t b cs w' hnp hS.ne (ids_few hnp (fun x hx => hS.ne x hx) HIN.out H0.out) (hs.ext RPr.keeps he) hform'.out hb' hlet))
            unfold idVal
            gi_wp2_with fail
            refine ⟨trivial, ?_⟩
            refine (HC.out _ (hEX2.alloc _) (hbox.alloc _)).mono ?_
            rintro e w3 ⟨he3, hm3⟩
            have he23 : Ext w2 w3 := Ext.trans ((Ext.refl w2).alloc _) he3
            have hKF3 : KeepsFrom W0.heap.size W w3 := KF.ext hKF2 he23
            have hEX3 : Ext w w3 := hEX2.trans he23
            have r13 := r12.ext he23
            have r23 := r22.ext he23
            have lt13 := r13.lt
            have lt23 := r23.lt
            have f1 := r13.frozen 0
            have f2 := r13.frozen 1
            have f3 := r23.frozen 0
            have p1 := r13.cell (j := 0) rfl
            have p2 := r13.cell (j := 1) rfl
            have p3 := r23.cell (j := 0) rfl
            rcases hm3 with ⟨x, hx, rfl⟩ | ⟨hx, rfl⟩
            · have HP := hide (fault_hb HIN.out H0.out hfn.out HPN.out hx)
              clear hx
              unfold idVal
              gi_wp2
              obtain ⟨Wr, hWr⟩ : ∃ Wr, (((w3.setCell ⟨w.heap.size + 1, 0, none⟩ (Value.int .i64 x.1)).setCell ⟨w.heap.size + 1, 1, none⟩ (Value.int .i64 x.2)).setCell ⟨w.heap.size + 1 + 1, 0, none⟩ (Value.int .i64 10)).alloc (Obj.cells #[Value.int .i64 x.1, Value.int .i64 x.2] 28) = Wr := ⟨_, rfl⟩
              rw [hWr]
              have s1 : BoxN Wr (w.heap.size + 1) 28 #[.int .i64 x.1, .int .i64 x.2] := by rw [← hWr]; ((repeat (first | with_reducible assumption | with_reducible exact KeepsFrom.refl _ _ | with_reducible refine KF.set ?_ _ _ | with_reducible refine KF.alloc ?_ _ | with_reducible refine KF.drew ?_ | with_reducible refine KF.drewN ?_ _ | with_reducible refine KF.ext ?_ (by assumption) | with_reducible exact Below.refl _ _ | with_reducible refine BL.set ?_ _ _ _ (by omega) | with_reducible refine BL.alloc ?_ _ (by omega) | with_reducible refine BL.drew ?_ | with_reducible refine BL.drewN ?_ _ | with_reducible refine BL.ext ?_ (by assumption) (by omega) | with_reducible exact Ext.refl _ | with_reducible refine Ext.set ?_ (by omega) _ | with_reducible refine Ext.alloc ?_ _ | with_reducible refine Ext.drew ?_ | with_reducible refine Ext.drewN ?_ _ | with_reducible refine Ext.trans ?_ (by assumption) | with_reducible refine BoxN.alloc ?_ _ | with_reducible refine BoxN.drew ?_ | with_reducible refine BoxN.drewN ?_ _ | with_reducible refine BoxN.other ?_ (by omega) _ | with_reducible refine BoxN.set ?_ _ _ | with_reducible apply BoxN.set1 | with_reducible apply BoxN.set2_1 | with_reducible apply BoxN.set2_0 | with_reducible refine BoxN.ext ?_ (by assumption))); done)
              have s2 : BoxN Wr (w.heap.size + 1 + 1) 29 #[.int .i64 10] := by rw [← hWr]; ((repeat (first | with_reducible assumption | with_reducible exact KeepsFrom.refl _ _ | with_reducible refine KF.set ?_ _ _ | with_reducible refine KF.alloc ?_ _ | with_reducible refine KF.drew ?_ | with_reducible refine KF.drewN ?_ _ | with_reducible refine KF.ext ?_ (by assumption) | with_reducible exact Below.refl _ _ | with_reducible refine BL.set ?_ _ _ _ (by omega) | with_reducible refine BL.alloc ?_ _ (by omega) | with_reducible refine BL.drew ?_ | with_reducible refine BL.drewN ?_ _ | with_reducible refine BL.ext ?_ (by assumption) (by omega) | with_reducible exact Ext.refl _ | with_reducible refine Ext.set ?_ (by omega) _ | with_reducible refine Ext.alloc ?_ _ | with_reducible refine Ext.drew ?_ | with_reducible refine Ext.drewN ?_ _ | with_reducible refine Ext.trans ?_ (by assumption) | with_reducible refine BoxN.alloc ?_ _ | with_reducible refine BoxN.drew ?_ | with_reducible refine BoxN.drewN ?_ _ | with_reducible refine BoxN.other ?_ (by omega) _ | with_reducible refine BoxN.set ?_ _ _ | with_reducible apply BoxN.set1 | with_reducible apply BoxN.set2_1 | with_reducible apply BoxN.set2_0 | with_reducible refine BoxN.ext ?_ (by assumption))); done)
              have sx : Ext w Wr := by rw [← hWr]; ((repeat (first | with_reducible assumption | with_reducible exact KeepsFrom.refl _ _ | with_reducible refine KF.set ?_ _ _ | with_reducible refine KF.alloc ?_ _ | with_reducible refine KF.drew ?_ | with_reducible refine KF.drewN ?_ _ | with_reducible refine KF.ext ?_ (by assumption) | with_reducible exact Below.refl _ _ | with_reducible refine BL.set ?_ _ _ _ (by omega) | with_reducible refine BL.alloc ?_ _ (by omega) | with_reducible refine BL.drew ?_ | with_reducible refine BL.drewN ?_ _ | with_reducible refine BL.ext ?_ (by assumption) (by omega) | with_reducible exact Ext.refl _ | with_reducible refine Ext.set ?_ (by omega) _ | with_reducible refine Ext.alloc ?_ _ | with_reducible refine Ext.drew ?_ | with_reducible refine Ext.drewN ?_ _ | with_reducible refine Ext.trans ?_ (by assumption) | with_reducible refine BoxN.alloc ?_ _ | with_reducible refine BoxN.drew ?_ | with_reducible refine BoxN.drewN ?_ _ | with_reducible refine BoxN.other ?_ (by omega) _ | with_reducible refine BoxN.set ?_ _ _ | with_reducible apply BoxN.set1 | with_reducible apply BoxN.set2_1 | with_reducible apply BoxN.set2_0 | with_reducible refine BoxN.ext ?_ (by assumption))); done)
              have hkf : KeepsFrom W0.heap.size W Wr := by rw [← hWr]; ((repeat (first | with_reducible assumption | with_reducible exact KeepsFrom.refl _ _ | with_reducible refine KF.set ?_ _ _ | with_reducible refine KF.alloc ?_ _ | with_reducible refine KF.drew ?_ | with_reducible refine KF.drewN ?_ _ | with_reducible refine KF.ext ?_ (by assumption) | with_reducible exact Below.refl _ _ | with_reducible refine BL.set ?_ _ _ _ (by omega) | with_reducible refine BL.alloc ?_ _ (by omega) | with_reducible refine BL.drew ?_ | with_reducible refine BL.drewN ?_ _ | with_reducible refine BL.ext ?_ (by assumption) (by omega) | with_reducible exact Ext.refl _ | with_reducible refine Ext.set ?_ (by omega) _ | with_reducible refine Ext.alloc ?_ _ | with_reducible refine Ext.drew ?_ | with_reducible refine Ext.drewN ?_ _ | with_reducible refine Ext.trans ?_ (by assumption) | with_reducible refine BoxN.alloc ?_ _ | with_reducible refine BoxN.drew ?_ | with_reducible refine BoxN.drewN ?_ _ | with_reducible refine BoxN.other ?_ (by omega) _ | with_reducible refine BoxN.set ?_ _ _ | with_reducible apply BoxN.set1 | with_reducible apply BoxN.set2_1 | with_reducible apply BoxN.set2_0 | with_reducible refine BoxN.ext ?_ (by assumption))); done)
              have hKW : Wr.heap[D]? = some (.deferred (some [])) := hkf.same D _ hD hK rfl
              clear hWr
              have e2 := (s1.putObj hKW rfl (.deferred none)).cell (j := 0) rfl
              have e3 := (s1.putObj hKW rfl (.deferred none)).cell (j := 1) rfl
              have e4 := (s2.putObj hKW rfl (.deferred none)).cell (j := 0) rfl
              refine ⟨by simp, .inl ⟨_, _, rfl, run_takeDeferred hKW, ?_⟩⟩
              refine ⟨.tuple #[idVal x, .int .i64 10], ?_, by first | (rw [HP.out]; done) | (rw [HP.out]; rfl), sx.putObj (by omega) hKW _⟩
              simp [results, Try.f17, go_sem, e2, e3, e4, idVal]
            · have HP := hide (fault_ok HIN.out H0.out hfn.out HPN.out hx)
              clear hx
              unfold idVal
              gi_wp2
              obtain ⟨Wr, hWr⟩ : ∃ Wr, (((w3.setCell ⟨w.heap.size + 1, 0, none⟩ (Value.int .i64 0)).setCell ⟨w.heap.size + 1, 1, none⟩ (Value.int .i64 0)).setCell ⟨w.heap.size + 1 + 1, 0, none⟩ (Value.int .i64 0)).alloc (Obj.cells #[Value.int .i64 0, Value.int .i64 0] 28) = Wr := ⟨_, rfl⟩
              rw [hWr]
              have s1 : BoxN Wr (w.heap.size + 1) 28 #[.int .i64 0, .int .i64 0] := by rw [← hWr]; ((repeat (first | with_reducible assumption | with_reducible exact KeepsFrom.refl _ _ | with_reducible refine KF.set ?_ _ _ | with_reducible refine KF.alloc ?_ _ | with_reducible refine KF.drew ?_ | with_reducible refine KF.drewN ?_ _ | with_reducible refine KF.ext ?_ (by assumption) | with_reducible exact Below.refl _ _ | with_reducible refine BL.set ?_ _ _ _ (by omega) | with_reducible refine BL.alloc ?_ _ (by omega) | with_reducible refine BL.drew ?_ | with_reducible refine BL.drewN ?_ _ | with_reducible refine BL.ext ?_ (by assumption) (by omega) | with_reducible exact Ext.refl _ | with_reducible refine Ext.set ?_ (by omega) _ | with_reducible refine Ext.alloc ?_ _ | with_reducible refine Ext.drew ?_ | with_reducible refine Ext.drewN ?_ _ | with_reducible refine Ext.trans ?_ (by assumption) | with_reducible refine BoxN.alloc ?_ _ | with_reducible refine BoxN.drew ?_ | with_reducible refine BoxN.drewN ?_ _ | with_reducible refine BoxN.other ?_ (by omega) _ | with_reducible refine BoxN.set ?_ _ _ | with_reducible apply BoxN.set1 | with_reducible apply BoxN.set2_1 | with_reducible apply BoxN.set2_0 | with_reducible refine BoxN.ext ?_ (by assumption))); done)
              have s2 : BoxN Wr (w.heap.size + 1 + 1) 29 #[.int .i64 0] := by rw [← hWr]; ((repeat (first | with_reducible assumption | with_reducible exact KeepsFrom.refl _ _ | with_reducible refine KF.set ?_ _ _ | with_reducible refine KF.alloc ?_ _ | with_reducible refine KF.drew ?_ | with_reducible refine KF.drewN ?_ _ | with_reducible refine KF.ext ?_ (by assumption) | with_reducible exact Below.refl _ _ | with_reducible refine BL.set ?_ _ _ _ (by omega) | with_reducible refine BL.alloc ?_ _ (by omega) | with_reducible refine BL.drew ?_ | with_reducible refine BL.drewN ?_ _ | with_reducible refine BL.ext ?_ (by assumption) (by omega) | with_reducible exact Ext.refl _ | with_reducible refine Ext.set ?_ (by omega) _ | with_reducible refine Ext.alloc ?_ _ | with_reducible refine Ext.drew ?_ | with_reducible refine Ext.drewN ?_ _ | with_reducible refine Ext.trans ?_ (by assumption) | with_reducible refine BoxN.alloc ?_ _ | with_reducible refine BoxN.drew ?_ | with_reducible refine BoxN.drewN ?_ _ | with_reducible refine BoxN.other ?_ (by omega) _ | with_reducible refine BoxN.set ?_ _ _ | with_reducible apply BoxN.set1 | with_reducible apply BoxN.set2_1 | with_reducible apply BoxN.set2_0 | with_reducible refine BoxN.ext ?_ (by assumption))); done)
              have sx : Ext w Wr := by rw [← hWr]; ((repeat (first | with_reducible assumption | with_reducible exact KeepsFrom.refl _ _ | with_reducible refine KF.set ?_ _ _ | with_reducible refine KF.alloc ?_ _ | with_reducible refine KF.drew ?_ | with_reducible refine KF.drewN ?_ _ | with_reducible refine KF.ext ?_ (by assumption) | with_reducible exact Below.refl _ _ | with_reducible refine BL.set ?_ _ _ _ (by omega) | with_reducible refine BL.alloc ?_ _ (by omega) | with_reducible refine BL.drew ?_ | with_reducible refine BL.drewN ?_ _ | with_reducible refine BL.ext ?_ (by assumption) (by omega) | with_reducible exact Ext.refl _ | with_reducible refine Ext.set ?_ (by omega) _ | with_reducible refine Ext.alloc ?_ _ | with_reducible refine Ext.drew ?_ | with_reducible refine Ext.drewN ?_ _ | with_reducible refine Ext.trans ?_ (by assumption) | with_reducible refine BoxN.alloc ?_ _ | with_reducible refine BoxN.drew ?_ | with_reducible refine BoxN.drewN ?_ _ | with_reducible refine BoxN.other ?_ (by omega) _ | with_reducible refine BoxN.set ?_ _ _ | with_reducible apply BoxN.set1 | with_reducible apply BoxN.set2_1 | with_reducible apply BoxN.set2_0 | with_reducible refine BoxN.ext ?_ (by assumption))); done)
              have hkf : KeepsFrom W0.heap.size W Wr := by rw [← hWr]; ((repeat (first | with_reducible assumption | with_reducible exact KeepsFrom.refl _ _ | with_reducible refine KF.set ?_ _ _ | with_reducible refine KF.alloc ?_ _ | with_reducible refine KF.drew ?_ | with_reducible refine KF.drewN ?_ _ | with_reducible refine KF.ext ?_ (by assumption) | with_reducible exact Below.refl _ _ | with_reducible refine BL.set ?_ _ _ _ (by omega) | with_reducible refine BL.alloc ?_ _ (by omega) | with_reducible refine BL.drew ?_ | with_reducible refine BL.drewN ?_ _ | with_reducible refine BL.ext ?_ (by assumption) (by omega) | with_reducible exact Ext.refl _ | with_reducible refine Ext.set ?_ (by omega) _ | with_reducible refine Ext.alloc ?_ _ | with_reducible refine Ext.drew ?_ | with_reducible refine Ext.drewN ?_ _ | with_reducible refine Ext.trans ?_ (by assumption) | with_reducible refine BoxN.alloc ?_ _ | with_reducible refine BoxN.drew ?_ | with_reducible refine BoxN.drewN ?_ _ | with_reducible refine BoxN.other ?_ (by omega) _ | with_reducible refine BoxN.set ?_ _ _ | with_reducible apply BoxN.set1 | with_reducible apply BoxN.set2_1 | with_reducible apply BoxN.set2_0 | with_reducible refine BoxN.ext ?_ (by assumption))); done)
              have hKW : Wr.heap[D]? = some (.deferred (some [])) := hkf.same D _ hD hK rfl
              clear hWr
              have e2 := (s1.putObj hKW rfl (.deferred none)).cell (j := 0) rfl
              have e3 := (s1.putObj hKW rfl (.deferred none)).cell (j := 1) rfl
              have e4 := (s2.putObj hKW rfl (.deferred none)).cell (j := 0) rfl
              refine ⟨by simp, .inl ⟨_, _, rfl, run_takeDeferred hKW, ?_⟩⟩
              refine ⟨.tuple #[idVal (0, 0), .int .i64 0], ?_, by first | (rw [HP.out]; done) | (rw [HP.out]; rfl), sx.putObj (by omega) hKW _⟩
              simp [results, Try.f17, go_sem, e2, e3, e4, idVal]
        case stop =>
          rintro D c' pre W hD hpre ⟨rfl, a, x, ⟨⟨⟨hp, hg, hne⟩, r1W⟩, r2W⟩, hxW⟩ hK
          rw [hp] at hpre
          have HST := hide (fault_form HIN.out H0.out (form_stop hpre hg hne))
          clear hg
          gi_wp2
          have e2 := (r1W.putObj hK rfl (.deferred none)).cell (j := 0) rfl
          have e3 := (r1W.putObj hK rfl (.deferred none)).cell (j := 1) rfl
          have e4 := (r2W.putObj hK rfl (.deferred none)).cell (j := 0) rfl
          refine ⟨by simp, .inl ⟨_, _, rfl, run_takeDeferred hK, ?_⟩⟩
          refine ⟨.tuple #[idVal x, .int .i64 (formF t x)], ?_, by rw [HST.out], hxW.putObj (by omega) hK _⟩
          simp [results, Try.f17, go_sem, e2, e3, e4, idVal]

theorem Valid_any (u : Value) (t : Tr) (w : World) (hS : Small t) (hs : SlR 3 RPr w u t) :
    Calls Try.prog 19 #[.agg #[u]] w fun e w' => e = .returned (.bool (validL t)) ∧ Ext w w' := by
  have HF := hide (fun w' (he : Ext w w') => Fault_any u t w' hS (hs.ext RPr.keeps he))
  obtain ⟨A, c, rfl, _, hcm, _⟩ := hs.at_
  go_enter Try.func19, Try.ntmps19
  go_wp2_with fail
  refine (HF.out _ ((Ext.refl w).alloc _)).mono ?_
  rintro e w2 ⟨rfl, he2⟩
  unfold idVal
  go_wp2
  go_ret
  refine ⟨ret_bool ?_, Ext.alloc (Ext.trans ((Ext.refl w).alloc _) he2) _⟩
  unfold validL
  rw [Bool.eq_iff_iff]; simp
end Go.Proofs.Ytfdekchpckdeiaa

/- Walks of the reference: the head of a process. No condition but on lengths. -/
namespace Go.Proofs.Ytfdekchpckdeiaa
open Go.RowKit
set_option linter.unusedVariables false

theorem quiet_r {P : Program} {f : FuncId} {args : Array Value} {w : World} {n : Nat} {v : Value}
    (h : Calls P f args (w.drewN n) fun e w' => e = .returned v ∧ w.drewN n = w') : Calls P f args (w.drewN n) fun e w'' => e = .returned v ∧ ∃ m, w'' = w.drewN m :=
  h.mono fun _ _ ⟨he, hm⟩ => ⟨he, n, hm.symm⟩
theorem any_take_step {α : Type} {f : α → Bool} {l : List α} {k : Nat} (hk : k < l.length) (h : (l.take k).any f = false) (h2 : f l[k] = false) : (l.take (k + 1)).any f = false := by
  rw [List.take_succ_eq_append_getElem hk, List.any_append, h]; simp [h2]
theorem any_take_hit {α : Type} {f : α → Bool} {l : List α} {k n : Nat} (hk : k < l.length) (hkn : k < n) (h2 : f l[k] = true) : (l.take n).any f = true := by
  rw [List.any_eq_true]
  exact ⟨l[k], List.mem_take_iff_getElem.2 ⟨k, by omega, rfl⟩, h2⟩

set_option maxRecDepth 100000 in
set_option maxHeartbeats 4000000 in
theorem rhead_any (u : Value) (t : Tr) (p : Nat) (w : World) (hp : p < t.length) (hS : Small t) (hs : SlR 3 RPr w u t) :
    Calls Try.prog 77 #[.agg #[u], .int .i64 p] w fun e w' => e = .returned (.int .i64 (headF t p)) ∧ Ext w w' := by
  obtain ⟨A, c, rfl, h1, h2, hc⟩ := hs.at_
  obtain ⟨b, off, rfl, hel⟩ := hc (by omega)
  obtain ⟨⟨c0, hm⟩, ⟨v1, c1, hs1⟩, v2, c2, hs2⟩ := hel p hp
  have hb := lt_of_cell c0
  have HS1 := hide hs1
  obtain ⟨A1, k1, rfl, _, _, hc1⟩ := hs1.at_
  obtain ⟨A2, k2, rfl, _, _, _⟩ := hs2.at_
  have HEL := hide hel
  have HC1 := hide hc1
  have hnp := hS.np
  have hnv := hS.nv _ (List.getElem_mem hp)
  have hne := hS.ne _ (List.getElem_mem hp)
  clear hs hs1 hs2 hel hc hc1
  have HN := hide (fun w => rName_any t[p].name w hm)
  have HE := hide (headF_eq t p hp)
  go_enter Try.func77, Try.ntmps77
  go_wp2_with fail
  refine (HN.out _).mono ?_
  rintro e w1 ⟨rfl, rfl⟩
  cases hn : nameB t[p].name
  · go_wp2_with fail
    go_ret
    exact ⟨by rw [HE.out, hn]; rfl, ((Ext.refl _).alloc _).alloc _⟩
  · have bt : BoxN ((w.alloc (.cells #[.slice (some ⟨b, off, none⟩) t.length c] 24)).alloc (.cells #[.string t[p].name, .slice A1 t[p].vars.length k1, .slice A2 t[p].evs.length k2] 44)) w.heap.size 24 _ := (BoxN.new w _ _).alloc _
    have bp : BoxN ((w.alloc (.cells #[.slice (some ⟨b, off, none⟩) t.length c] 24)).alloc (.cells #[.string t[p].name, .slice A1 t[p].vars.length k1, .slice A2 t[p].evs.length k2] 44)) (w.heap.size + 1) 44 _ := BoxN.newAt _ _ (by simp)
    have hx1 : Ext w ((w.alloc (.cells #[.slice (some ⟨b, off, none⟩) t.length c] 24)).alloc (.cells #[.string t[p].name, .slice A1 t[p].vars.length k1, .slice A2 t[p].evs.length k2] 44)) := ((Ext.refl _).alloc _).alloc _
    go_wp2_with fail
    generalize (w.alloc (.cells #[.slice (some ⟨b, off, none⟩) t.length c] 24)).alloc (.cells #[.string t[p].name, .slice A1 t[p].vars.length k1, .slice A2 t[p].evs.length k2] 44) = W1 at *
    go_loopw [6] (fun i wr => ∃ k : Nat, k ≤ p ∧ i = .int .i64 k ∧ ((t.take k).any fun y => y.name.toList == t[p].name.toList) = false ∧ Ext W1 wr) (fun i _ => p - (intOf i).toNat)
    case atStart => exact ⟨0, Nat.zero_le _, rfl, rfl, Ext.refl _⟩
    case round =>
      obtain ⟨k, hk, rfl, hany, hx⟩ := hrel
      have HANY := hide hany
      clear hany
      have t0 := (bt.ext hx).cell (j := 0) rfl
      have p0 := (bp.ext hx).cell (j := 0) rfl
      by_cases hlt : k < p
      · obtain ⟨⟨d0, dm⟩, _, _⟩ := HEL.out k (by omega)
        have e0 := (hx1.trans hx).cellAt d0
        clear d0
        cases heq : t[k].name.toList == t[p].name.toList
        · go_wp2_with fail
          go_quiet (fail)
          revert nq; intro n1
          go_wp2_with fail
          go_roundw
          case rel => exact ⟨k + 1, hlt, by go_num, any_take_step (by omega) HANY.out heq, hx.drewN _⟩
          case measure => simp [intOf]; omega
        · have HA := hide (any_take_hit (f := fun y : Pr => y.name.toList == t[p].name.toList) (n := p) (show k < t.length by omega) hlt heq)
          go_wp2_with fail
          go_quiet (fail)
          revert nq; intro n1
          go_wp2_with fail
          go_ret
          exact ⟨by rw [HE.out, hn, HA.out]; rfl, (hx1.trans hx).drewN _⟩
      · obtain rfl : k = p := by omega
        have p1 := (bp.ext hx).cell (j := 1) rfl
        have p2 := (bp.ext hx).cell (j := 2) rfl
        by_cases h8 : 8 < t[k].vars.length
        · go_wp2_with fail
          go_ret
          exact ⟨by rw [HE.out, hn, HANY.out]; simp [h8], hx1.trans hx⟩
        · go_wp2_with fail
          clear p0 p1 p2 t0
          have bt2 := bt.ext hx
          have bp2 := bp.ext hx
          have hx2 := hx1.trans hx
          clear bt bp hx1 hx
          obtain ⟨W2, hW2⟩ : ∃ W2 : World, wr = W2 := ⟨_, rfl⟩
          rw [hW2] at bt2 bp2 hx2 ⊢
          clear hW2
          go_loopw [7] (fun i wr => ∃ j : Nat, j ≤ t[k].vars.length ∧ i = .int .i64 j ∧ firstNZ (varF t[k].vars) j = 0 ∧ Ext W2 wr) (fun i _ => t[k].vars.length - (intOf i).toNat)
          case atStart => exact ⟨0, Nat.zero_le _, rfl, rfl, Ext.refl _⟩
          case round =>
            obtain ⟨j, hj, rfl, hz, hx⟩ := hrel
            have HZ := hide hz
            clear hz
            have p1 := (bp2.ext hx).cell (j := 1) rfl
            have p2 := (bp2.ext hx).cell (j := 2) rfl
            by_cases hlj : j < t[k].vars.length
            · obtain ⟨b1, off1, rfl, hel1⟩ := HC1.out (by omega)
              have HEL1 := hide hel1
              obtain ⟨f0, f1, fm⟩ := hel1 j hlj
              have g0 := (hx2.trans hx).cellAt f0
              have HV := hide (varF_eq t[k].vars j hlj)
              have HN2 := hide (fun w => rName_any t[k].vars[j].name w fm)
              clear hel1 f0 fm
              go_wp2_with fail
              refine (HN2.out _).mono ?_
              rintro e w2 ⟨rfl, rfl⟩
              cases hn2 : nameB t[k].vars[j].name
              · have HF13 := hide (show varF t[k].vars j = 13 by rw [HV.out, hn2]; rfl)
                have HR := hide (firstNZ_hit (n := t[k].vars.length) HZ.out (by rw [HF13.out]; decide) hlj)
                go_wp2_with fail
                go_ret
                exact ⟨by rw [HE.out, hn, HANY.out, HR.out, HF13.out]; simp [h8], hx2.trans hx⟩
              · go_wp2_with fail
                clear p1 p2 g0
                have bp3 := bp2.ext hx
                obtain ⟨W3, hW3⟩ : ∃ W3 : World, wr = W3 := ⟨_, rfl⟩
                rw [hW3] at hx bp3 ⊢
                clear hW3
                go_loopw [8] (fun i wr => ∃ q : Nat, q ≤ j ∧ i = .int .i64 q ∧ ((t[k].vars.take q).any fun y => y.name.toList == t[k].vars[j].name.toList) = false ∧ Ext W3 wr) (fun i _ => j - (intOf i).toNat)
                case atStart => exact ⟨0, Nat.zero_le _, rfl, rfl, Ext.refl _⟩
                case round =>
                  obtain ⟨q, hq, rfl, hany, hx3⟩ := hrel
                  have HANY2 := hide hany
                  clear hany
                  have p1 := (bp3.ext hx3).cell (j := 1) rfl
                  have p2 := (bp3.ext hx3).cell (j := 2) rfl
                  obtain ⟨f0, f1, fm⟩ := HEL1.out j hlj
                  have hx4 := (hx2.trans hx).trans hx3
                  have g0 := hx4.cellAt f0
                  have g1 := hx4.cellAt f1
                  clear f0 f1
                  by_cases hlq : q < j
                  · obtain ⟨f0, _, _⟩ := HEL1.out q (by omega)
                    have g2 := hx4.cellAt f0
                    clear f0
                    have hlq2 : (q : Int) < (t[k].vars.length : Int) := by omega
                    cases heq : t[k].vars[q].name.toList == t[k].vars[j].name.toList
                    · go_wp2_with fail
                      go_quiet (fail)
                      revert nq; intro n1
                      go_wp2_with fail
                      go_roundw
                      case rel => exact ⟨q + 1, hlq, by go_num, any_take_step (by omega) HANY2.out heq, hx3.drewN _⟩
                      case measure => simp [intOf]; omega
                    · have HF13 := hide (show varF t[k].vars j = 13 by rw [HV.out, hn2, any_take_hit (f := fun y : Vr => y.name.toList == t[k].vars[j].name.toList) (n := j) (by omega) hlq heq]; rfl)
                      have HR := hide (firstNZ_hit (n := t[k].vars.length) HZ.out (by rw [HF13.out]; decide) hlj)
                      go_wp2_with fail
                      go_quiet (fail)
                      revert nq; intro n1
                      go_wp2_with fail
                      go_ret
                      exact ⟨by rw [HE.out, hn, HANY.out, HR.out, HF13.out]; simp [h8], hx4.drewN _⟩
                  · obtain rfl : q = j := by omega
                    have HI := hide (fun w => value_any t[k].vars[q].init w)
                    go_wp2_with fail
                    refine (HI.out _).mono ?_
                    rintro e w4 ⟨rfl, rfl⟩
                    cases hv2 : valB t[k].vars[q].init
                    · have HF2 := hide (show varF t[k].vars q = 2 by rw [HV.out, hn2, HANY2.out, hv2]; rfl)
                      have HR := hide (firstNZ_hit (n := t[k].vars.length) HZ.out (by rw [HF2.out]; decide) hlj)
                      go_wp2_with fail
                      go_ret
                      exact ⟨by rw [HE.out, hn, HANY.out, HR.out, HF2.out]; simp [h8], hx4⟩
                    · have HF0 := hide (show varF t[k].vars q = 0 by rw [HV.out, hn2, HANY2.out, hv2]; rfl)
                      go_wp2_with fail
                      go_roundw
                      case rel => exact ⟨q + 1, hlj, by go_num, firstNZ_step HZ.out HF0.out, hx.trans hx3⟩
                      case measure => simp [intOf]; omega
            · obtain rfl : j = t[k].vars.length := by omega
              by_cases h64 : 64 < t[k].evs.length
              · go_wp2_with fail
                go_ret
                exact ⟨by rw [HE.out, hn, HANY.out]; simp [h8, h64, HZ.out], hx2.trans hx⟩
              · go_wp2_with fail
                go_ret
                exact ⟨by rw [HE.out, hn, HANY.out]; simp [h8, h64, HZ.out], hx2.trans hx⟩
end Go.Proofs.Ytfdekchpckdeiaa

/- Walks of the reference: Find, At, Directly. No condition but on lengths. -/
namespace Go.Proofs.Ytfdekchpckdeiaa
open Go.RowKit
set_option linter.unusedVariables false

/-- The first event of a kind with a number, the zero name if there is none. -/
def findV (t : Tr) (k m : Int) : Nat × Nat := firstOf t (ids t) k m

theorem findV_stop {t : Tr} {k m : Int} {p i : Nat} (hp : p < t.length) (hi : i < t[p].evs.length) (h0 : (idsTo t p i).find? (keyB t k m) = none) (h1 : keyB t k m (p, i + 1) = true) : findV t k m = (p, i + 1) := by
  obtain ⟨c, hc⟩ := idsTo_prefix t p (i + 1) hp hi
  unfold findV firstOf
  rw [← hc, idsTo_succ, List.append_assoc, List.find?_append, h0]
  simp [h1]
theorem find_next {t : Tr} {k m : Int} {p i : Nat} (h0 : (idsTo t p i).find? (keyB t k m) = none) (h1 : keyB t k m (p, i + 1) = false) : (idsTo t p (i + 1)).find? (keyB t k m) = none := by
  rw [idsTo_succ, List.find?_append, h0]; simp [h1]

set_option maxRecDepth 100000 in
set_option maxHeartbeats 4000000 in
theorem Find_any (u : Value) (t : Tr) (kd m : Int) (w : World) (hS : Small t) (hs : SlR 3 RPr w u t) :
    Calls Try.prog 25 #[.agg #[u], .int .i64 kd, .int .i64 m] w fun e w' => e = .returned (idVal (findV t kd m)) ∧ Ext w w' := by
  obtain ⟨A, c, rfl, h1, h2, hc⟩ := hs.at_
  have hnp := hS.np
  have HC := hide hc
  clear hs hc
  have bt : BoxN ((w.alloc (.cells #[.slice A t.length c] 24)).alloc (.cells #[.int .i64 0, .int .i64 0] 28)) w.heap.size 24 _ := (BoxN.new w _ _).alloc _
  have br : BoxN ((w.alloc (.cells #[.slice A t.length c] 24)).alloc (.cells #[.int .i64 0, .int .i64 0] 28)) (w.heap.size + 1) 28 _ := BoxN.newAt _ _ (by simp)
  have hx1 : Ext w ((w.alloc (.cells #[.slice A t.length c] 24)).alloc (.cells #[.int .i64 0, .int .i64 0] 28)) := ((Ext.refl _).alloc _).alloc _
  go_enter Try.func25, Try.ntmps25
  go_wp2_with fail
  generalize (w.alloc (.cells #[.slice A t.length c] 24)).alloc (.cells #[.int .i64 0, .int .i64 0] 28) = W1 at *
  go_loopw [7] (fun i wr => ∃ k : Nat, k ≤ t.length ∧ i = .int .i64 k ∧ (idsTo t k 0).find? (keyB t kd m) = none ∧ Ext W1 wr) (fun i _ => t.length - (intOf i).toNat)
  case atStart => exact ⟨0, Nat.zero_le _, rfl, rfl, Ext.refl _⟩
  case round =>
    obtain ⟨k, hk, rfl, hno, hx⟩ := hrel
    have HNO := hide hno
    clear hno
    have bt2 := bt.ext hx
    have br2 := br.ext hx
    have hxx := hx1.trans hx
    have t0 := bt2.cell (j := 0) rfl
    by_cases hlt : k < t.length
    · obtain ⟨b, off, rfl, hel⟩ := HC.out (by omega)
      obtain ⟨_, _, v2, c2, hs2⟩ := hel k hlt
      obtain ⟨A2, k2, rfl, _, _, hc2⟩ := hs2.at_
      have HC2 := hide hc2
      have hne := hS.ne _ (List.getElem_mem hlt)
      clear hel hs2 hc2
      go_wp2_with fail
      obtain ⟨W2, hW2⟩ : ∃ W2 : World, wr = W2 := ⟨_, rfl⟩
      rw [hW2] at hx bt2 br2 hxx ⊢
      clear t0
      rw [hW2] at *
      clear hW2
      go_loopw [8] (fun i wr => ∃ j : Nat, j ≤ t[k].evs.length ∧ i = .int .i64 j ∧ (idsTo t k j).find? (keyB t kd m) = none ∧ Ext W2 wr) (fun i _ => t[k].evs.length - (intOf i).toNat)
      case atStart => exact ⟨0, Nat.zero_le _, rfl, HNO.out, Ext.refl _⟩
      case round =>
        obtain ⟨j, hj, rfl, hno2, hx3⟩ := hrel
        have HNO2 := hide hno2
        clear hno2
        have t0 := (bt2.ext hx3).cell (j := 0) rfl
        have br3 := br2.ext hx3
        have f0 := br3.frozen 0
        have f1 := br3.frozen 1
        have r0 := br3.cell (j := 0) rfl
        have r1 := br3.cell (j := 1) rfl
        have lt1 := (bt2.ext hx3).lt
        have lt2 := br3.lt
        have hx4 := hxx.trans hx3
        have c2' := hx4.cellAt c2
        by_cases hlj : j < t[k].evs.length
        · obtain ⟨b2, off2, rfl, hel2⟩ := HC2.out (by omega)
          obtain ⟨g0, g1, g2, g3, va, g4, hs4⟩ := hel2 j hlj
          obtain ⟨A4, k4, rfl, _, _, _⟩ := hs4.at_
          have e0 := hx4.cellAt g0
          have e1 := hx4.cellAt g1
          have e2 := hx4.cellAt g2
          have e3 := hx4.cellAt g3
          have e4 := hx4.cellAt g4
          have HK := hide (show keyB t kd m (k, j + 1) = ((t[k].evs[j].kind == kd) && (t[k].evs[j].msg == m)) by unfold keyB; rw [evAt_eq hlt hlj])
          clear hel2 hs4 g0 g1 g2 g3 g4
          cases q1 : t[k].evs[j].kind == kd
          · have HN := hide (find_next HNO2.out (by rw [HK.out, q1]; rfl))
            go_wp2_with fail
            go_roundw
            case rel => exact ⟨j + 1, hlj, by go_num, HN.out, hx3.alloc _⟩
            case measure => simp [intOf]; omega
          · cases q2 : t[k].evs[j].msg == m
            · have HN := hide (find_next HNO2.out (by rw [HK.out, q1, q2]; rfl))
              go_wp2_with fail
              go_roundw
              case rel => exact ⟨j + 1, hlj, by go_num, HN.out, hx3.alloc _⟩
              case measure => simp [intOf]; omega
            · have HF := hide (findV_stop hlt hlj HNO2.out (by rw [HK.out, q1, q2]; rfl))
              go_wp2_with fail
              obtain ⟨Wr, hWr⟩ : ∃ Wr, (((wr.setCell ⟨w.heap.size + 1, 0, none⟩ (Value.int .i64 k)).setCell ⟨w.heap.size + 1, 1, none⟩ (Value.int .i64 ((j : Int) + 1))).alloc (Obj.cells #[.int .i64 t[k].evs[j].kind, .int .i64 t[k].evs[j].peer, .int .i64 t[k].evs[j].msg, .int .i64 t[k].evs[j].time, .slice A4 t[k].evs[j].asg.length k4] 49)) = Wr := ⟨_, rfl⟩
              rw [hWr]
              have s1 : BoxN Wr (w.heap.size + 1) 28 #[.int .i64 k, .int .i64 ((j : Int) + 1)] := by rw [← hWr]; ((repeat (first | with_reducible assumption | with_reducible exact KeepsFrom.refl _ _ | with_reducible refine KF.set ?_ _ _ | with_reducible refine KF.alloc ?_ _ | with_reducible refine KF.drew ?_ | with_reducible refine KF.drewN ?_ _ | with_reducible refine KF.ext ?_ (by assumption) | with_reducible exact Below.refl _ _ | with_reducible refine BL.set ?_ _ _ _ (by omega) | with_reducible refine BL.alloc ?_ _ (by omega) | with_reducible refine BL.drew ?_ | with_reducible refine BL.drewN ?_ _ | with_reducible refine BL.ext ?_ (by assumption) (by omega) | with_reducible exact Ext.refl _ | with_reducible refine Ext.set ?_ (by omega) _ | with_reducible refine Ext.alloc ?_ _ | with_reducible refine Ext.drew ?_ | with_reducible refine Ext.drewN ?_ _ | with_reducible refine Ext.trans ?_ (by assumption) | with_reducible refine BoxN.alloc ?_ _ | with_reducible refine BoxN.drew ?_ | with_reducible refine BoxN.drewN ?_ _ | with_reducible refine BoxN.other ?_ (by omega) _ | with_reducible refine BoxN.set ?_ _ _ | with_reducible apply BoxN.set1 | with_reducible apply BoxN.set2_1 | with_reducible apply BoxN.set2_0 | with_reducible refine BoxN.ext ?_ (by assumption))); done)
              have sx : Ext w Wr := by rw [← hWr]; ((repeat (first | with_reducible assumption | with_reducible exact KeepsFrom.refl _ _ | with_reducible refine KF.set ?_ _ _ | with_reducible refine KF.alloc ?_ _ | with_reducible refine KF.drew ?_ | with_reducible refine KF.drewN ?_ _ | with_reducible refine KF.ext ?_ (by assumption) | with_reducible exact Below.refl _ _ | with_reducible refine BL.set ?_ _ _ _ (by omega) | with_reducible refine BL.alloc ?_ _ (by omega) | with_reducible refine BL.drew ?_ | with_reducible refine BL.drewN ?_ _ | with_reducible refine BL.ext ?_ (by assumption) (by omega) | with_reducible exact Ext.refl _ | with_reducible refine Ext.set ?_ (by omega) _ | with_reducible refine Ext.alloc ?_ _ | with_reducible refine Ext.drew ?_ | with_reducible refine Ext.drewN ?_ _ | with_reducible refine Ext.trans ?_ (by assumption) | with_reducible refine BoxN.alloc ?_ _ | with_reducible refine BoxN.drew ?_ | with_reducible refine BoxN.drewN ?_ _ | with_reducible refine BoxN.other ?_ (by omega) _ | with_reducible refine BoxN.set ?_ _ _ | with_reducible apply BoxN.set1 | with_reducible apply BoxN.set2_1 | with_reducible apply BoxN.set2_0 | with_reducible refine BoxN.ext ?_ (by assumption))); done)
              clear hWr
              refine bodyPost_ret (v := idVal (k, j + 1)) ?_ rfl ⟨by rw [HF.out], sx⟩
              simp [results, Try.f25, go_sem, idVal, s1.cell (j := 0) rfl, s1.cell (j := 1) rfl]
        · obtain rfl : j = t[k].evs.length := by omega
          go_wp2_with fail
          go_roundw
          case rel => exact ⟨k + 1, hlt, by go_num, by rw [← idsTo_next t k hlt]; exact HNO2.out, hx.trans hx3⟩
          case measure => simp [intOf]; omega
    · obtain rfl : k = t.length := by omega
      have f0 := br2.frozen 0
      have f1 := br2.frozen 1
      have r0 := br2.cell (j := 0) rfl
      have r1 := br2.cell (j := 1) rfl
      have HF := hide (show findV t kd m = (0, 0) by have := HNO.out; rw [idsTo_all] at this; unfold findV firstOf; rw [this]; rfl)
      go_wp2_with fail
      have hxr := hx1.trans hx
      obtain ⟨Wr, hWr⟩ : ∃ Wr, ((wr.setCell ⟨w.heap.size + 1, 0, none⟩ (Value.int .i64 0)).setCell ⟨w.heap.size + 1, 1, none⟩ (Value.int .i64 0)) = Wr := ⟨_, rfl⟩
      rw [hWr]
      have s1 : BoxN Wr (w.heap.size + 1) 28 #[.int .i64 0, .int .i64 0] := by rw [← hWr]; ((repeat (first | with_reducible assumption | with_reducible exact KeepsFrom.refl _ _ | with_reducible refine KF.set ?_ _ _ | with_reducible refine KF.alloc ?_ _ | with_reducible refine KF.drew ?_ | with_reducible refine KF.drewN ?_ _ | with_reducible refine KF.ext ?_ (by assumption) | with_reducible exact Below.refl _ _ | with_reducible refine BL.set ?_ _ _ _ (by omega) | with_reducible refine BL.alloc ?_ _ (by omega) | with_reducible refine BL.drew ?_ | with_reducible refine BL.drewN ?_ _ | with_reducible refine BL.ext ?_ (by assumption) (by omega) | with_reducible exact Ext.refl _ | with_reducible refine Ext.set ?_ (by omega) _ | with_reducible refine Ext.alloc ?_ _ | with_reducible refine Ext.drew ?_ | with_reducible refine Ext.drewN ?_ _ | with_reducible refine Ext.trans ?_ (by assumption) | with_reducible refine BoxN.alloc ?_ _ | with_reducible refine BoxN.drew ?_ | with_reducible refine BoxN.drewN ?_ _ | with_reducible refine BoxN.other ?_ (by omega) _ | with_reducible refine BoxN.set ?_ _ _ | with_reducible apply BoxN.set1 | with_reducible apply BoxN.set2_1 | with_reducible apply BoxN.set2_0 | with_reducible refine BoxN.ext ?_ (by assumption))); done)
      have sx : Ext w Wr := by rw [← hWr]; ((repeat (first | with_reducible assumption | with_reducible exact KeepsFrom.refl _ _ | with_reducible refine KF.set ?_ _ _ | with_reducible refine KF.alloc ?_ _ | with_reducible refine KF.drew ?_ | with_reducible refine KF.drewN ?_ _ | with_reducible refine KF.ext ?_ (by assumption) | with_reducible exact Below.refl _ _ | with_reducible refine BL.set ?_ _ _ _ (by omega) | with_reducible refine BL.alloc ?_ _ (by omega) | with_reducible refine BL.drew ?_ | with_reducible refine BL.drewN ?_ _ | with_reducible refine BL.ext ?_ (by assumption) (by omega) | with_reducible exact Ext.refl _ | with_reducible refine Ext.set ?_ (by omega) _ | with_reducible refine Ext.alloc ?_ _ | with_reducible refine Ext.drew ?_ | with_reducible refine Ext.drewN ?_ _ | with_reducible refine Ext.trans ?_ (by assumption) | with_reducible refine BoxN.alloc ?_ _ | with_reducible refine BoxN.drew ?_ | with_reducible refine BoxN.drewN ?_ _ | with_reducible refine BoxN.other ?_ (by omega) _ | with_reducible refine BoxN.set ?_ _ _ | with_reducible apply BoxN.set1 | with_reducible apply BoxN.set2_1 | with_reducible apply BoxN.set2_0 | with_reducible refine BoxN.ext ?_ (by assumption))); done)
      clear hWr
      refine bodyPost_ret (v := idVal (0, 0)) ?_ rfl ⟨by rw [HF.out], sx⟩
      simp [results, Try.f25, go_sem, idVal, s1.cell (j := 0) rfl, s1.cell (j := 1) rfl]
end Go.Proofs.Ytfdekchpckdeiaa

/- Walks: find, Sender, Receiver, Count. No condition but on lengths. -/
namespace Go.Proofs.Ytfdekchpckdeiaa
open Go.RowKit
set_option linter.unusedVariables false
attribute [local go_sem] Oper.semAt_some

noncomputable def findR (t : Tr) (kd m : Int) : Nat × Nat := if validL t then findV t kd m else (0, 0)
noncomputable def countR (t : Tr) : Nat := if validL t then (ids t).length else 0
def FdPost (t : Tr) (kd m : Int) (w : World) (e : Ending) (w' : World) : Prop := e = .returned (.tuple #[idVal (findR t kd m), .bool (decide (0 < (findR t kd m).2))]) ∧ Ext w w'
def FdI (t : Tr) (w : World) (kd m : Int) (l : List (Nat × Nat)) (W : World) : Prop :=
  (((((BoxN W (w.heap.size + 1) 3 #[.int .i64 kd] ∧ BoxN W (w.heap.size + 1 + 1) 3 #[.int .i64 m]) ∧ BoxN W (w.heap.size + 1 + 1 + 1) 28 #[.int .i64 0, .int .i64 0]) ∧ BoxN W (w.heap.size + 1 + 1 + 1 + 1) 4 #[.bool false]) ∧ Ext w W) ∧ l.find? (keyB t kd m) = none)
def FdX (t : Tr) (w : World) (kd m : Int) (l : List (Nat × Nat)) (W : World) : Prop :=
  ∃ a x, (((l = a ++ [x] ∧ a.find? (keyB t kd m) = none ∧ keyB t kd m x = true) ∧ BoxN W (w.heap.size + 1 + 1 + 1) 28 #[.int .i64 x.1, .int .i64 x.2]) ∧ BoxN W (w.heap.size + 1 + 1 + 1 + 1) 4 #[.bool true]) ∧ Ext w W
theorem fdi_from (t : Tr) (w : World) (kd m : Int) {n : Nat} (hn : w.heap.size ≤ n) : OwnFrom n (fun (pre : List (Idt t)) W => FdI t w kd m (pre.map (·.1)) W) :=
  OwnFrom.and (OwnFrom.and (OwnFrom.and (OwnFrom.and (OwnFrom.and (boxN1_from _ _ _ _) (boxN1_from _ _ _ _)) (boxN1_from _ _ _ _)) (boxN1_from _ _ _ _)) (ext_from hn)) (ownFrom_pure _ _)
theorem fdx_from (t : Tr) (w : World) (kd m : Int) {n : Nat} (hn : w.heap.size ≤ n) : OwnFrom n (fun (pre : List (Idt t)) W => FdX t w kd m (pre.map (·.1)) W) := by
  rintro s X Y row ⟨a, x, h⟩ hg hr
  refine ⟨a, x, ⟨⟨h.1.1.1, ?_⟩, ?_⟩, ext_from hn () X Y row h.2 hg hr⟩
  · exact boxN1_from _ n _ (fun (_ : Unit) => _) () X Y row h.1.1.2 hg hr
  · exact boxN1_from _ n _ (fun (_ : Unit) => _) () X Y row h.1.2 hg hr
theorem findR_stop {t : Tr} {kd m : Int} {a : List (Nat × Nat)} {x : Nat × Nat} (hv : validL t = true) (hp : a ++ [x] <+: ids t) (h0 : a.find? (keyB t kd m) = none) (hx : keyB t kd m x = true) : findR t kd m = x ∧ 0 < x.2 := by
  obtain ⟨c, hc⟩ := hp
  have hf : (ids t).find? (keyB t kd m) = some x := by
    rw [← hc, List.append_assoc, List.find?_append, h0]; simp [hx]
  refine ⟨?_, mem_pos (t := t) (by rw [← hc]; simp)⟩
  unfold findR findV firstOf
  rw [if_pos hv, hf]; rfl
theorem findR_none {t : Tr} {kd m : Int} (h : (ids t).find? (keyB t kd m) = none) : findR t kd m = (0, 0) := by
  unfold findR findV firstOf
  rw [h]; simp

set_option maxRecDepth 100000 in
set_option maxHeartbeats 4000000 in
theorem find_any (u : Value) (t : Tr) (kd m : Int) (w : World) (hS : Small t) (hs : SlR 3 RPr w u t) :
    Calls Try.prog 86 #[.agg #[u], .int .i64 kd, .int .i64 m] w fun e w' => FdPost t kd m w e w' := by
  have HV := hide (fun w' (he : Ext w w') => callsIn_wide (n := 8).2 (Valid_any u t w' hS (hs.ext RPr.keeps he)))
  refine callsIn_wide (n := 9).1 ?_
  refine callsIn_of_wp_marks Try.func86 rfl trivial ?_ rfl
  simp only [Try.ntmps86, List.size_toArray, List.length_cons, List.length_nil, Nat.reduceAdd, Nat.reduceSub, Array.replicate_succ, Array.replicate_zero, List.push_toArray, List.append_toArray, List.nil_append, List.cons_append]
  obtain ⟨A, c, rfl, _, hcm, _⟩ := hs.at_
  gi_wp2_with fail
  refine ⟨trivial, ?_⟩
  have hx1 : Ext w ((((((w).alloc (.cells #[.slice A t.length c] 24)).alloc (.cells #[.int .i64 kd] 3)).alloc (.cells #[.int .i64 m] 3)).alloc (.cells #[.int .i64 0, .int .i64 0] 28)).alloc (.cells #[.bool false] 4)) := (((((Ext.refl w).alloc _).alloc _).alloc _).alloc _).alloc _
  have b1 : BoxN ((((((w).alloc (.cells #[.slice A t.length c] 24)).alloc (.cells #[.int .i64 kd] 3)).alloc (.cells #[.int .i64 m] 3)).alloc (.cells #[.int .i64 0, .int .i64 0] 28)).alloc (.cells #[.bool false] 4)) (w.heap.size + 1) 3 #[.int .i64 kd] := (((BoxN.newAt _ _ (by simp)).alloc _).alloc _).alloc _
  have b2 : BoxN ((((((w).alloc (.cells #[.slice A t.length c] 24)).alloc (.cells #[.int .i64 kd] 3)).alloc (.cells #[.int .i64 m] 3)).alloc (.cells #[.int .i64 0, .int .i64 0] 28)).alloc (.cells #[.bool false] 4)) (w.heap.size + 1 + 1) 3 #[.int .i64 m] := ((BoxN.newAt _ _ (by simp)).alloc _).alloc _
  have b3 : BoxN ((((((w).alloc (.cells #[.slice A t.length c] 24)).alloc (.cells #[.int .i64 kd] 3)).alloc (.cells #[.int .i64 m] 3)).alloc (.cells #[.int .i64 0, .int .i64 0] 28)).alloc (.cells #[.bool false] 4)) (w.heap.size + 1 + 1 + 1) 28 #[.int .i64 0, .int .i64 0] := (BoxN.newAt _ _ (by simp)).alloc _
  have b4 : BoxN ((((((w).alloc (.cells #[.slice A t.length c] 24)).alloc (.cells #[.int .i64 kd] 3)).alloc (.cells #[.int .i64 m] 3)).alloc (.cells #[.int .i64 0, .int .i64 0] 28)).alloc (.cells #[.bool false] 4)) (w.heap.size + 1 + 1 + 1 + 1) 4 #[.bool false] := BoxN.newAt _ _ (by simp)
  have bT : BoxN ((((((w).alloc (.cells #[.slice A t.length c] 24)).alloc (.cells #[.int .i64 kd] 3)).alloc (.cells #[.int .i64 m] 3)).alloc (.cells #[.int .i64 0, .int .i64 0] 28)).alloc (.cells #[.bool false] 4)) (w.heap.size) 24 #[.slice A t.length c] := ((((BoxN.new _ _ _).alloc _).alloc _).alloc _).alloc _
  generalize (((((w).alloc (.cells #[.slice A t.length c] 24)).alloc (.cells #[.int .i64 kd] 3)).alloc (.cells #[.int .i64 m] 3)).alloc (.cells #[.int .i64 0, .int .i64 0] 28)).alloc (.cells #[.bool false] 4) = W1 at *
  refine (HV.out _ hx1).mono ?_
  rintro e w2 ⟨rfl, he2⟩
  replace hx1 := hx1.trans he2
  replace b1 := b1.ext he2
  replace b2 := b2.ext he2
  replace b3 := b3.ext he2
  replace b4 := b4.ext he2
  replace bT := bT.ext he2
  clear he2
  have f0 := b3.frozen 0
  have f1 := b3.frozen 1
  have f2 := b4.frozen 0
  have r0 : w2.cell? ⟨w.heap.size + 1 + 1 + 1, 0, none⟩ = some (.int .i64 0) := b3.cell (j := 0) rfl
  have r1 : w2.cell? ⟨w.heap.size + 1 + 1 + 1, 1, none⟩ = some (.int .i64 0) := b3.cell (j := 1) rfl
  have r2 : w2.cell? ⟨w.heap.size + 1 + 1 + 1 + 1, 0, none⟩ = some (.bool false) := b4.cell (j := 0) rfl
  have t0 : w2.cell? ⟨w.heap.size, 0, none⟩ = some (.slice A t.length c) := bT.cell (j := 0) rfl
  cases hv : validL t
  · have HF := hide (show findR t kd m = (0, 0) by unfold findR; rw [hv]; rfl)
    clear hv
    gi_wp2_with fail
    obtain ⟨Wr, hWr⟩ : ∃ Wr, ((w2.setCell ⟨w.heap.size + 1 + 1 + 1, 0, none⟩ (Value.int .i64 0)).setCell ⟨w.heap.size + 1 + 1 + 1, 1, none⟩ (Value.int .i64 0)).setCell ⟨w.heap.size + 1 + 1 + 1 + 1, 0, none⟩ (Value.bool false) = Wr := ⟨_, rfl⟩
    rw [hWr]
    have s1 : BoxN Wr (w.heap.size + 1 + 1 + 1) 28 #[.int .i64 0, .int .i64 0] := by rw [← hWr]; ((repeat (first | with_reducible assumption | with_reducible exact KeepsFrom.refl _ _ | with_reducible refine KF.set ?_ _ _ | with_reducible refine KF.alloc ?_ _ | with_reducible refine KF.drew ?_ | with_reducible refine KF.drewN ?_ _ | with_reducible refine KF.ext ?_ (by assumption) | with_reducible exact Below.refl _ _ | with_reducible refine BL.set ?_ _ _ _ (by omega) | with_reducible refine BL.alloc ?_ _ (by omega) | with_reducible refine BL.drew ?_ | with_reducible refine BL.drewN ?_ _ | with_reducible refine BL.ext ?_ (by assumption) (by omega) | with_reducible exact Ext.refl _ | with_reducible refine Ext.set ?_ (by omega) _ | with_reducible refine Ext.alloc ?_ _ | with_reducible refine Ext.drew ?_ | with_reducible refine Ext.drewN ?_ _ | with_reducible refine Ext.trans ?_ (by assumption) | with_reducible refine BoxN.alloc ?_ _ | with_reducible refine BoxN.drew ?_ | with_reducible refine BoxN.drewN ?_ _ | with_reducible refine BoxN.other ?_ (by omega) _ | with_reducible refine BoxN.set ?_ _ _ | with_reducible apply BoxN.set1 | with_reducible apply BoxN.set2_1 | with_reducible apply BoxN.set2_0 | with_reducible apply BoxN.set5_4 | with_reducible apply BoxN.set5_3 | with_reducible apply BoxN.set5_2 | with_reducible apply BoxN.set5_1 | with_reducible apply BoxN.set5_0 | with_reducible apply BoxN.set3_2 | with_reducible apply BoxN.set3_1 | with_reducible apply BoxN.set3_0 | with_reducible apply BoxN.set4_3 | with_reducible apply BoxN.set4_2 | with_reducible apply BoxN.set4_1 | with_reducible apply BoxN.set4_0 | with_reducible refine BoxN.ext ?_ (by assumption))); done)
    have s2 : BoxN Wr (w.heap.size + 1 + 1 + 1 + 1) 4 #[.bool false] := by rw [← hWr]; ((repeat (first | with_reducible assumption | with_reducible exact KeepsFrom.refl _ _ | with_reducible refine KF.set ?_ _ _ | with_reducible refine KF.alloc ?_ _ | with_reducible refine KF.drew ?_ | with_reducible refine KF.drewN ?_ _ | with_reducible refine KF.ext ?_ (by assumption) | with_reducible exact Below.refl _ _ | with_reducible refine BL.set ?_ _ _ _ (by omega) | with_reducible refine BL.alloc ?_ _ (by omega) | with_reducible refine BL.drew ?_ | with_reducible refine BL.drewN ?_ _ | with_reducible refine BL.ext ?_ (by assumption) (by omega) | with_reducible exact Ext.refl _ | with_reducible refine Ext.set ?_ (by omega) _ | with_reducible refine Ext.alloc ?_ _ | with_reducible refine Ext.drew ?_ | with_reducible refine Ext.drewN ?_ _ | with_reducible refine Ext.trans ?_ (by assumption) | with_reducible refine BoxN.alloc ?_ _ | with_reducible refine BoxN.drew ?_ | with_reducible refine BoxN.drewN ?_ _ | with_reducible refine BoxN.other ?_ (by omega) _ | with_reducible refine BoxN.set ?_ _ _ | with_reducible apply BoxN.set1 | with_reducible apply BoxN.set2_1 | with_reducible apply BoxN.set2_0 | with_reducible apply BoxN.set5_4 | with_reducible apply BoxN.set5_3 | with_reducible apply BoxN.set5_2 | with_reducible apply BoxN.set5_1 | with_reducible apply BoxN.set5_0 | with_reducible apply BoxN.set3_2 | with_reducible apply BoxN.set3_1 | with_reducible apply BoxN.set3_0 | with_reducible apply BoxN.set4_3 | with_reducible apply BoxN.set4_2 | with_reducible apply BoxN.set4_1 | with_reducible apply BoxN.set4_0 | with_reducible refine BoxN.ext ?_ (by assumption))); done)
    have sx : Ext w Wr := by rw [← hWr]; ((repeat (first | with_reducible assumption | with_reducible exact KeepsFrom.refl _ _ | with_reducible refine KF.set ?_ _ _ | with_reducible refine KF.alloc ?_ _ | with_reducible refine KF.drew ?_ | with_reducible refine KF.drewN ?_ _ | with_reducible refine KF.ext ?_ (by assumption) | with_reducible exact Below.refl _ _ | with_reducible refine BL.set ?_ _ _ _ (by omega) | with_reducible refine BL.alloc ?_ _ (by omega) | with_reducible refine BL.drew ?_ | with_reducible refine BL.drewN ?_ _ | with_reducible refine BL.ext ?_ (by assumption) (by omega) | with_reducible exact Ext.refl _ | with_reducible refine Ext.set ?_ (by omega) _ | with_reducible refine Ext.alloc ?_ _ | with_reducible refine Ext.drew ?_ | with_reducible refine Ext.drewN ?_ _ | with_reducible refine Ext.trans ?_ (by assumption) | with_reducible refine BoxN.alloc ?_ _ | with_reducible refine BoxN.drew ?_ | with_reducible refine BoxN.drewN ?_ _ | with_reducible refine BoxN.other ?_ (by omega) _ | with_reducible refine BoxN.set ?_ _ _ | with_reducible apply BoxN.set1 | with_reducible apply BoxN.set2_1 | with_reducible apply BoxN.set2_0 | with_reducible apply BoxN.set5_4 | with_reducible apply BoxN.set5_3 | with_reducible apply BoxN.set5_2 | with_reducible apply BoxN.set5_1 | with_reducible apply BoxN.set5_0 | with_reducible apply BoxN.set3_2 | with_reducible apply BoxN.set3_1 | with_reducible apply BoxN.set3_0 | with_reducible apply BoxN.set4_3 | with_reducible apply BoxN.set4_2 | with_reducible apply BoxN.set4_1 | with_reducible apply BoxN.set4_0 | with_reducible refine BoxN.ext ?_ (by assumption))); done)
    clear hWr
    refine ⟨.tuple #[idVal (0, 0), .bool false], by simp [results, Try.f86, go_sem, idVal, s1.cell (j := 0) rfl, s1.cell (j := 1) rfl, s2.cell (j := 0) rfl], by rw [HF.out]; rfl, sx⟩
  · have HVL := hide hv
    clear hv
    have hnp := hS.np
    gi_wp2_with (refine ⟨trivial, ?_⟩; gi_at_call 73; refine (callsIn_wide.2 (events_any _ _)).mono ?_; rintro e w' ⟨rfl, rfl⟩)
    have bt := BoxN.new w2 24 #[.slice A t.length c]
    have hM0 : FdI t w kd m [] (w2.alloc (.cells #[.slice A t.length c] 24)) := ⟨⟨⟨⟨⟨b1.alloc _, b2.alloc _⟩, b3.alloc _⟩, b4.alloc _⟩, hx1.alloc _⟩, rfl⟩
    have hwr : w.heap.size ≤ w2.heap.size := hx1.size
    have hsz0 : (w2.alloc (.cells #[.slice A t.length c] 24)).heap.size = w2.heap.size + 1 := by simp
    generalize (w2.alloc (.cells #[.slice A t.length c] 24)) = W0 at *
    have hext0 : Ext w W0 := hM0.1.2
    have hw0 : w.heap.size ≤ W0.heap.size := by omega
    clear hsz0 f0 f1 f2 r0 r1 r2 t0
    refine wpIn_rangeFunc_ownH rfl (by omega) (gf := 115) (lb := #[.pointer (some ⟨w2.heap.size, 0, none⟩)]) rfl trivial (callFunc_enter Try.func115 (by decide) rfl)
      (events_stops 8 (by omega) w (.slice A t.length c) t w2.heap.size W0 hnp hS.ne hs hext0 (bt.cell rfl) hwr) belowK_t (belowK_b hw0) (Below.refl _ _) (fun _ => rfl)
      (fun pre W => FdI t w kd m (pre.map (·.1)) W) (fun c pre W => c = .ret ∧ FdX t w kd m (pre.map (·.1)) W) (fdi_from t w kd m hw0) (fun c => OwnFrom.and (ownFrom_pure _ _) (fdx_from t w kd m hw0)) hM0
      (fun x a' W => ∃ B6 B7 A4 n4 c4 v13 v14, (w.heap.size + 1 + 1 + 1 + 1 < B6 ∧ w.heap.size + 1 + 1 + 1 + 1 < B7) ∧ BoxN W B6 28 #[.int .i64 x.1.1, .int .i64 x.1.2] ∧ BoxN W B7 49 #[.int .i64 (evAt t x.1).kind, .int .i64 (evAt t x.1).peer, .int .i64 (evAt t x.1).msg, .int .i64 (evAt t x.1).time, .slice A4 n4 c4] ∧
        a' = { tmps := #[.agg #[.slice A t.length c], .int .i64 kd, .int .i64 m, .pointer (some ⟨w.heap.size, 0, none⟩), .pointer (some ⟨w.heap.size + 1, 0, none⟩), .pointer (some ⟨w.heap.size + 1 + 1, 0, none⟩), .pointer (some ⟨w.heap.size + 1 + 1 + 1, 0, none⟩), .pointer (some ⟨w.heap.size + 1 + 1 + 1 + 1, 0, none⟩), .pointer (some ⟨B6, 0, none⟩), .pointer (some ⟨B7, 0, none⟩), .agg #[.slice A t.length c], .bool true, .bool false, undef, .agg #[.slice A t.length c], .func (.func 115) #[] #[.pointer (some ⟨w2.heap.size, 0, none⟩)], v13, v14, undef, undef, undef, undef, undef, undef, undef, undef, undef, undef, undef, undef], defers := [] })
      ?hax ?assign ?body ?done ?stop
    case hax =>
      rintro x a' _ X Y row ⟨B6, B7, A4, n4, c4, v13, v14, hB, b6, b7, ha⟩ hg hr
      exact ⟨B6, B7, A4, n4, c4, v13, v14, hB, boxN1_from B6 _ _ (fun (_ : Unit) => _) () X Y row b6 hg hr, boxN1_from B7 _ _ (fun (_ : Unit) => _) () X Y row b7 hg hr, ha⟩
    case assign =>
      rintro l pre x W K hI hK
      obtain ⟨a, hv, hsa⟩ := evVal_ok hs x.2
      obtain ⟨A4, c4, rfl, _, _, _⟩ := hsa.at_
      clear hsa
      simp only [hv]
      have hsW := hI.1.2.size
      have h5 := hI.1.1.2.lt
      unfold idVal
      gi_wp2
      exact hK _ _ (((KeepsOthers.alloc _ _).trans (KeepsOthers.alloc _ _)).from _) (((Below.refl _ W).alloc hsW _).alloc (by simp; omega) _) ((fdi_from t w kd m (Nat.le_refl _)).alloc _ ((fdi_from t w kd m (Nat.le_refl _)).alloc _ hI))
        ⟨W.heap.size, W.heap.size + 1, A4, _, c4, _, _, ⟨h5, by omega⟩, (BoxN.new _ _ _).alloc _, BoxN.newAt _ _ (by simp), rfl⟩
    case body =>
      rintro l pre x a' W hlW ⟨r, hr⟩ hI ⟨B6, B7, A4, n4, c4, v13, v14, ⟨hB6, hB7⟩, b6, b7, rfl⟩ hlen
      obtain ⟨⟨⟨⟨⟨c1, c2⟩, c3⟩, c4'⟩, hxW⟩, hno⟩ := hI
      have hsW := hxW.size
      have HNO := hide hno
      have HKEY := hide (show keyB t kd m x.1 = (((evAt t x.1).kind == kd) && ((evAt t x.1).msg == m)) from rfl)
      clear hno
      have k0 := b7.cell (j := 0) rfl
      have k1 := b7.cell (j := 1) rfl
      have k2 := b7.cell (j := 2) rfl
      have k3 := b7.cell (j := 3) rfl
      have k4 := b7.cell (j := 4) rfl
      have i0 := b6.cell (j := 0) rfl
      have i1 := b6.cell (j := 1) rfl
      have d1 := c1.cell (j := 0) rfl
      have d2 := c2.cell (j := 0) rfl
      have f0 := c3.frozen 0
      have f1 := c3.frozen 1
      have f2 := c4'.frozen 0
      have r0 := c3.cell (j := 0) rfl
      have r1 := c3.cell (j := 1) rfl
      have r2 := c4'.cell (j := 0) rfl
      have hkk : ∀ b1 b2, ((evAt t x.1).kind == kd) = b1 → ((evAt t x.1).msg == m) = b2 → keyB t kd m x.1 = (b1 && b2) := fun b1 b2 h1 h2 => by rw [HKEY.out, h1, h2]
      have HKK := hide hkk
      clear hkk
      have hIok : ∀ y : Nat × Nat, y = x.1 → keyB t kd m x.1 = false → (pre.map (·.1) ++ [y]).find? (keyB t kd m) = none := fun y hy h => by
        rw [List.find?_append, HNO.out, hy]; simp [h]
      have HIOK := hide hIok
      clear hIok
      cases q1 : (evAt t x.1).kind == kd
      · have HN := hide (HIOK.out x.1 rfl (HKK.out _ _ q1 rfl))
        gi_wp2
        refine ⟨KeepsFrom.refl _ _, Below.refl _ _, ?_⟩
        show FdI t w kd m ((pre ++ [x]).map (·.1)) _
        rw [map_snoc]
        exact ⟨⟨⟨⟨⟨c1, c2⟩, c3⟩, c4'⟩, hxW⟩, HN.out⟩
      · cases q2 : (evAt t x.1).msg == m
        · have HN := hide (HIOK.out x.1 rfl (by rw [HKK.out _ _ q1 q2]; rfl))
          gi_wp2
          refine ⟨KeepsFrom.refl _ _, Below.refl _ _, ?_⟩
          show FdI t w kd m ((pre ++ [x]).map (·.1)) _
          rw [map_snoc]
          exact ⟨⟨⟨⟨⟨c1, c2⟩, c3⟩, c4'⟩, hxW⟩, HN.out⟩
        · have HN := hide (HKK.out _ _ q1 q2)
          gi_wp2
          refine ⟨?_, rfl, pre.map (·.1), x.1, ⟨⟨⟨map_snoc pre x, HNO.out, HN.out⟩, ?_⟩, ?_⟩, ?_⟩
          all_goals ((repeat (first | with_reducible assumption | with_reducible exact KeepsFrom.refl _ _ | with_reducible refine KF.set ?_ _ _ | with_reducible refine KF.alloc ?_ _ | with_reducible refine KF.drew ?_ | with_reducible refine KF.drewN ?_ _ | with_reducible refine KF.ext ?_ (by assumption) | with_reducible exact Below.refl _ _ | with_reducible refine BL.set ?_ _ _ _ (by omega) | with_reducible refine BL.alloc ?_ _ (by omega) | with_reducible refine BL.drew ?_ | with_reducible refine BL.drewN ?_ _ | with_reducible refine BL.ext ?_ (by assumption) (by omega) | with_reducible exact Ext.refl _ | with_reducible refine Ext.set ?_ (by omega) _ | with_reducible refine Ext.alloc ?_ _ | with_reducible refine Ext.drew ?_ | with_reducible refine Ext.drewN ?_ _ | with_reducible refine Ext.trans ?_ (by assumption) | with_reducible refine BoxN.alloc ?_ _ | with_reducible refine BoxN.drew ?_ | with_reducible refine BoxN.drewN ?_ _ | with_reducible refine BoxN.other ?_ (by omega) _ | with_reducible refine BoxN.set ?_ _ _ | with_reducible apply BoxN.set1 | with_reducible apply BoxN.set2_1 | with_reducible apply BoxN.set2_0 | with_reducible apply BoxN.set5_4 | with_reducible apply BoxN.set5_3 | with_reducible apply BoxN.set5_2 | with_reducible apply BoxN.set5_1 | with_reducible apply BoxN.set5_0 | with_reducible apply BoxN.set3_2 | with_reducible apply BoxN.set3_1 | with_reducible apply BoxN.set3_0 | with_reducible apply BoxN.set4_3 | with_reducible apply BoxN.set4_2 | with_reducible apply BoxN.set4_1 | with_reducible apply BoxN.set4_0 | with_reducible refine BoxN.ext ?_ (by assumption))); done)
    case done =>
      rintro D ys W hD hys ⟨⟨⟨⟨⟨c1, c2⟩, c3⟩, c4⟩, hxW⟩, hno⟩ hK
      rw [hys] at hno
      have HF := hide (findR_none hno)
      clear hno
      have f0 := c3.frozen 0
      have f1 := c3.frozen 1
      have f2 := c4.frozen 0
      have r0 := c3.cell (j := 0) rfl
      have r1 := c3.cell (j := 1) rfl
      have r2 := c4.cell (j := 0) rfl
      gi_wp2
      obtain ⟨Wr, hWr⟩ : ∃ Wr, ((W.setCell ⟨w.heap.size + 1 + 1 + 1, 0, none⟩ (Value.int .i64 0)).setCell ⟨w.heap.size + 1 + 1 + 1, 1, none⟩ (Value.int .i64 0)).setCell ⟨w.heap.size + 1 + 1 + 1 + 1, 0, none⟩ (Value.bool false) = Wr := ⟨_, rfl⟩
      rw [hWr]
      have s1 : BoxN Wr (w.heap.size + 1 + 1 + 1) 28 #[.int .i64 0, .int .i64 0] := by rw [← hWr]; ((repeat (first | with_reducible assumption | with_reducible exact KeepsFrom.refl _ _ | with_reducible refine KF.set ?_ _ _ | with_reducible refine KF.alloc ?_ _ | with_reducible refine KF.drew ?_ | with_reducible refine KF.drewN ?_ _ | with_reducible refine KF.ext ?_ (by assumption) | with_reducible exact Below.refl _ _ | with_reducible refine BL.set ?_ _ _ _ (by omega) | with_reducible refine BL.alloc ?_ _ (by omega) | with_reducible refine BL.drew ?_ | with_reducible refine BL.drewN ?_ _ | with_reducible refine BL.ext ?_ (by assumption) (by omega) | with_reducible exact Ext.refl _ | with_reducible refine Ext.set ?_ (by omega) _ | with_reducible refine Ext.alloc ?_ _ | with_reducible refine Ext.drew ?_ | with_reducible refine Ext.drewN ?_ _ | with_reducible refine Ext.trans ?_ (by assumption) | with_reducible refine BoxN.alloc ?_ _ | with_reducible refine BoxN.drew ?_ | with_reducible refine BoxN.drewN ?_ _ | with_reducible refine BoxN.other ?_ (by omega) _ | with_reducible refine BoxN.set ?_ _ _ | with_reducible apply BoxN.set1 | with_reducible apply BoxN.set2_1 | with_reducible apply BoxN.set2_0 | with_reducible apply BoxN.set5_4 | with_reducible apply BoxN.set5_3 | with_reducible apply BoxN.set5_2 | with_reducible apply BoxN.set5_1 | with_reducible apply BoxN.set5_0 | with_reducible apply BoxN.set3_2 | with_reducible apply BoxN.set3_1 | with_reducible apply BoxN.set3_0 | with_reducible apply BoxN.set4_3 | with_reducible apply BoxN.set4_2 | with_reducible apply BoxN.set4_1 | with_reducible apply BoxN.set4_0 | with_reducible refine BoxN.ext ?_ (by assumption))); done)
      have s2 : BoxN Wr (w.heap.size + 1 + 1 + 1 + 1) 4 #[.bool false] := by rw [← hWr]; ((repeat (first | with_reducible assumption | with_reducible exact KeepsFrom.refl _ _ | with_reducible refine KF.set ?_ _ _ | with_reducible refine KF.alloc ?_ _ | with_reducible refine KF.drew ?_ | with_reducible refine KF.drewN ?_ _ | with_reducible refine KF.ext ?_ (by assumption) | with_reducible exact Below.refl _ _ | with_reducible refine BL.set ?_ _ _ _ (by omega) | with_reducible refine BL.alloc ?_ _ (by omega) | with_reducible refine BL.drew ?_ | with_reducible refine BL.drewN ?_ _ | with_reducible refine BL.ext ?_ (by assumption) (by omega) | with_reducible exact Ext.refl _ | with_reducible refine Ext.set ?_ (by omega) _ | with_reducible refine Ext.alloc ?_ _ | with_reducible refine Ext.drew ?_ | with_reducible refine Ext.drewN ?_ _ | with_reducible refine Ext.trans ?_ (by assumption) | with_reducible refine BoxN.alloc ?_ _ | with_reducible refine BoxN.drew ?_ | with_reducible refine BoxN.drewN ?_ _ | with_reducible refine BoxN.other ?_ (by omega) _ | with_reducible refine BoxN.set ?_ _ _ | with_reducible apply BoxN.set1 | with_reducible apply BoxN.set2_1 | with_reducible apply BoxN.set2_0 | with_reducible apply BoxN.set5_4 | with_reducible apply BoxN.set5_3 | with_reducible apply BoxN.set5_2 | with_reducible apply BoxN.set5_1 | with_reducible apply BoxN.set5_0 | with_reducible apply BoxN.set3_2 | with_reducible apply BoxN.set3_1 | with_reducible apply BoxN.set3_0 | with_reducible apply BoxN.set4_3 | with_reducible apply BoxN.set4_2 | with_reducible apply BoxN.set4_1 | with_reducible apply BoxN.set4_0 | with_reducible refine BoxN.ext ?_ (by assumption))); done)
      have sx : Ext w Wr := by rw [← hWr]; ((repeat (first | with_reducible assumption | with_reducible exact KeepsFrom.refl _ _ | with_reducible refine KF.set ?_ _ _ | with_reducible refine KF.alloc ?_ _ | with_reducible refine KF.drew ?_ | with_reducible refine KF.drewN ?_ _ | with_reducible refine KF.ext ?_ (by assumption) | with_reducible exact Below.refl _ _ | with_reducible refine BL.set ?_ _ _ _ (by omega) | with_reducible refine BL.alloc ?_ _ (by omega) | with_reducible refine BL.drew ?_ | with_reducible refine BL.drewN ?_ _ | with_reducible refine BL.ext ?_ (by assumption) (by omega) | with_reducible exact Ext.refl _ | with_reducible refine Ext.set ?_ (by omega) _ | with_reducible refine Ext.alloc ?_ _ | with_reducible refine Ext.drew ?_ | with_reducible refine Ext.drewN ?_ _ | with_reducible refine Ext.trans ?_ (by assumption) | with_reducible refine BoxN.alloc ?_ _ | with_reducible refine BoxN.drew ?_ | with_reducible refine BoxN.drewN ?_ _ | with_reducible refine BoxN.other ?_ (by omega) _ | with_reducible refine BoxN.set ?_ _ _ | with_reducible apply BoxN.set1 | with_reducible apply BoxN.set2_1 | with_reducible apply BoxN.set2_0 | with_reducible apply BoxN.set5_4 | with_reducible apply BoxN.set5_3 | with_reducible apply BoxN.set5_2 | with_reducible apply BoxN.set5_1 | with_reducible apply BoxN.set5_0 | with_reducible apply BoxN.set3_2 | with_reducible apply BoxN.set3_1 | with_reducible apply BoxN.set3_0 | with_reducible apply BoxN.set4_3 | with_reducible apply BoxN.set4_2 | with_reducible apply BoxN.set4_1 | with_reducible apply BoxN.set4_0 | with_reducible refine BoxN.ext ?_ (by assumption))); done)
      have hkf : KeepsFrom W0.heap.size W Wr := by rw [← hWr]; ((repeat (first | with_reducible assumption | with_reducible exact KeepsFrom.refl _ _ | with_reducible refine KF.set ?_ _ _ | with_reducible refine KF.alloc ?_ _ | with_reducible refine KF.drew ?_ | with_reducible refine KF.drewN ?_ _ | with_reducible refine KF.ext ?_ (by assumption) | with_reducible exact Below.refl _ _ | with_reducible refine BL.set ?_ _ _ _ (by omega) | with_reducible refine BL.alloc ?_ _ (by omega) | with_reducible refine BL.drew ?_ | with_reducible refine BL.drewN ?_ _ | with_reducible refine BL.ext ?_ (by assumption) (by omega) | with_reducible exact Ext.refl _ | with_reducible refine Ext.set ?_ (by omega) _ | with_reducible refine Ext.alloc ?_ _ | with_reducible refine Ext.drew ?_ | with_reducible refine Ext.drewN ?_ _ | with_reducible refine Ext.trans ?_ (by assumption) | with_reducible refine BoxN.alloc ?_ _ | with_reducible refine BoxN.drew ?_ | with_reducible refine BoxN.drewN ?_ _ | with_reducible refine BoxN.other ?_ (by omega) _ | with_reducible refine BoxN.set ?_ _ _ | with_reducible apply BoxN.set1 | with_reducible apply BoxN.set2_1 | with_reducible apply BoxN.set2_0 | with_reducible apply BoxN.set5_4 | with_reducible apply BoxN.set5_3 | with_reducible apply BoxN.set5_2 | with_reducible apply BoxN.set5_1 | with_reducible apply BoxN.set5_0 | with_reducible apply BoxN.set3_2 | with_reducible apply BoxN.set3_1 | with_reducible apply BoxN.set3_0 | with_reducible apply BoxN.set4_3 | with_reducible apply BoxN.set4_2 | with_reducible apply BoxN.set4_1 | with_reducible apply BoxN.set4_0 | with_reducible refine BoxN.ext ?_ (by assumption))); done)
      have hKW : Wr.heap[D]? = some (.deferred (some [])) := hkf.same D _ hD hK rfl
      clear hWr
      have e2 := (s1.putObj hKW rfl (.deferred none)).cell (j := 0) rfl
      have e3 := (s1.putObj hKW rfl (.deferred none)).cell (j := 1) rfl
      have e4 := (s2.putObj hKW rfl (.deferred none)).cell (j := 0) rfl
      refine ⟨by simp, .inl ⟨_, _, rfl, run_takeDeferred hKW, ?_⟩⟩
      refine ⟨.tuple #[idVal (0, 0), .bool false], ?_, by rw [HF.out]; rfl, sx.putObj (by omega) hKW _⟩
      simp [results, Try.f86, go_sem, e2, e3, e4, idVal]
    case stop =>
      rintro D c' pre W hD hpre ⟨rfl, a, x, ⟨⟨⟨hp, h0, hx⟩, r1W⟩, r2W⟩, hxW⟩ hK
      rw [hp] at hpre
      have HST := hide (findR_stop HVL.out hpre h0 hx)
      clear h0 hx
      gi_wp2
      have e2 := (r1W.putObj hK rfl (.deferred none)).cell (j := 0) rfl
      have e3 := (r1W.putObj hK rfl (.deferred none)).cell (j := 1) rfl
      have e4 := (r2W.putObj hK rfl (.deferred none)).cell (j := 0) rfl
      refine ⟨by simp, .inl ⟨_, _, rfl, run_takeDeferred hK, ?_⟩⟩
      refine ⟨.tuple #[idVal x, .bool true], ?_, by rw [HST.out.1, decide_eq_true HST.out.2], hxW.putObj (by omega) hK _⟩
      simp [results, Try.f86, go_sem, e2, e3, e4, idVal]
theorem Sender_any (u : Value) (t : Tr) (m : Int) (w : World) (hS : Small t) (hs : SlR 3 RPr w u t) :
    Calls Try.prog 27 #[.agg #[u], .int .i64 m] w fun e w' => FdPost t 2 m w e w' := by
  have HF := hide (fun w' (he : Ext w w') => find_any u t 2 m w' hS (hs.ext RPr.keeps he))
  obtain ⟨A, c, rfl, _, hcm, _⟩ := hs.at_
  go_enter Try.func27, Try.ntmps27
  go_wp2_with fail
  have hx1 := ((Ext.refl w).alloc (.cells #[.slice A t.length c] 24)).alloc (.cells #[.int .i64 0, .int .i64 0] 28)
  have b3 : BoxN ((w.alloc (.cells #[.slice A t.length c] 24)).alloc (.cells #[.int .i64 0, .int .i64 0] 28)) (w.heap.size + 1) 28 #[.int .i64 0, .int .i64 0] := BoxN.newAt _ _ (by simp)
  generalize (w.alloc (.cells #[.slice A t.length c] 24)).alloc (.cells #[.int .i64 0, .int .i64 0] 28) = W1 at *
  refine (HF.out _ hx1).mono ?_
  rintro e w2 ⟨rfl, he2⟩
  have hx2 := hx1.trans he2
  have b4 := b3.ext he2
  have f0 := b4.frozen 0
  have f1 := b4.frozen 1
  have r0 := b4.cell (j := 0) rfl
  have r1 := b4.cell (j := 1) rfl
  unfold idVal
  go_wp2
  obtain ⟨Wr, hWr⟩ : ∃ Wr, (w2.setCell ⟨w.heap.size + 1, 0, none⟩ (Value.int .i64 (findR t 2 m).1)).setCell ⟨w.heap.size + 1, 1, none⟩ (Value.int .i64 (findR t 2 m).2) = Wr := ⟨_, rfl⟩
  rw [hWr]
  have s1 : BoxN Wr (w.heap.size + 1) 28 #[.int .i64 (findR t 2 m).1, .int .i64 (findR t 2 m).2] := by rw [← hWr]; ((repeat (first | with_reducible assumption | with_reducible exact KeepsFrom.refl _ _ | with_reducible refine KF.set ?_ _ _ | with_reducible refine KF.alloc ?_ _ | with_reducible refine KF.drew ?_ | with_reducible refine KF.drewN ?_ _ | with_reducible refine KF.ext ?_ (by assumption) | with_reducible exact Below.refl _ _ | with_reducible refine BL.set ?_ _ _ _ (by omega) | with_reducible refine BL.alloc ?_ _ (by omega) | with_reducible refine BL.drew ?_ | with_reducible refine BL.drewN ?_ _ | with_reducible refine BL.ext ?_ (by assumption) (by omega) | with_reducible exact Ext.refl _ | with_reducible refine Ext.set ?_ (by omega) _ | with_reducible refine Ext.alloc ?_ _ | with_reducible refine Ext.drew ?_ | with_reducible refine Ext.drewN ?_ _ | with_reducible refine Ext.trans ?_ (by assumption) | with_reducible refine BoxN.alloc ?_ _ | with_reducible refine BoxN.drew ?_ | with_reducible refine BoxN.drewN ?_ _ | with_reducible refine BoxN.other ?_ (by omega) _ | with_reducible refine BoxN.set ?_ _ _ | with_reducible apply BoxN.set1 | with_reducible apply BoxN.set2_1 | with_reducible apply BoxN.set2_0 | with_reducible apply BoxN.set5_4 | with_reducible apply BoxN.set5_3 | with_reducible apply BoxN.set5_2 | with_reducible apply BoxN.set5_1 | with_reducible apply BoxN.set5_0 | with_reducible apply BoxN.set3_2 | with_reducible apply BoxN.set3_1 | with_reducible apply BoxN.set3_0 | with_reducible apply BoxN.set4_3 | with_reducible apply BoxN.set4_2 | with_reducible apply BoxN.set4_1 | with_reducible apply BoxN.set4_0 | with_reducible refine BoxN.ext ?_ (by assumption))); done)
  have sx : Ext w Wr := by rw [← hWr]; ((repeat (first | with_reducible assumption | with_reducible exact KeepsFrom.refl _ _ | with_reducible refine KF.set ?_ _ _ | with_reducible refine KF.alloc ?_ _ | with_reducible refine KF.drew ?_ | with_reducible refine KF.drewN ?_ _ | with_reducible refine KF.ext ?_ (by assumption) | with_reducible exact Below.refl _ _ | with_reducible refine BL.set ?_ _ _ _ (by omega) | with_reducible refine BL.alloc ?_ _ (by omega) | with_reducible refine BL.drew ?_ | with_reducible refine BL.drewN ?_ _ | with_reducible refine BL.ext ?_ (by assumption) (by omega) | with_reducible exact Ext.refl _ | with_reducible refine Ext.set ?_ (by omega) _ | with_reducible refine Ext.alloc ?_ _ | with_reducible refine Ext.drew ?_ | with_reducible refine Ext.drewN ?_ _ | with_reducible refine Ext.trans ?_ (by assumption) | with_reducible refine BoxN.alloc ?_ _ | with_reducible refine BoxN.drew ?_ | with_reducible refine BoxN.drewN ?_ _ | with_reducible refine BoxN.other ?_ (by omega) _ | with_reducible refine BoxN.set ?_ _ _ | with_reducible apply BoxN.set1 | with_reducible apply BoxN.set2_1 | with_reducible apply BoxN.set2_0 | with_reducible apply BoxN.set5_4 | with_reducible apply BoxN.set5_3 | with_reducible apply BoxN.set5_2 | with_reducible apply BoxN.set5_1 | with_reducible apply BoxN.set5_0 | with_reducible apply BoxN.set3_2 | with_reducible apply BoxN.set3_1 | with_reducible apply BoxN.set3_0 | with_reducible apply BoxN.set4_3 | with_reducible apply BoxN.set4_2 | with_reducible apply BoxN.set4_1 | with_reducible apply BoxN.set4_0 | with_reducible refine BoxN.ext ?_ (by assumption))); done)
  clear hWr
  refine bodyPost_ret (v := .tuple #[idVal (findR t 2 m), .bool (decide (0 < (findR t 2 m).2))]) ?_ rfl ⟨rfl, sx⟩
  simp [results, Try.f27, go_sem, idVal, s1.cell (j := 0) rfl, s1.cell (j := 1) rfl]
theorem Receiver_any (u : Value) (t : Tr) (m : Int) (w : World) (hS : Small t) (hs : SlR 3 RPr w u t) :
    Calls Try.prog 28 #[.agg #[u], .int .i64 m] w fun e w' => FdPost t 3 m w e w' := by
  have HF := hide (fun w' (he : Ext w w') => find_any u t 3 m w' hS (hs.ext RPr.keeps he))
  obtain ⟨A, c, rfl, _, hcm, _⟩ := hs.at_
  go_enter Try.func28, Try.ntmps28
  go_wp2_with fail
  have hx1 := ((Ext.refl w).alloc (.cells #[.slice A t.length c] 24)).alloc (.cells #[.int .i64 0, .int .i64 0] 28)
  have b3 : BoxN ((w.alloc (.cells #[.slice A t.length c] 24)).alloc (.cells #[.int .i64 0, .int .i64 0] 28)) (w.heap.size + 1) 28 #[.int .i64 0, .int .i64 0] := BoxN.newAt _ _ (by simp)
  generalize (w.alloc (.cells #[.slice A t.length c] 24)).alloc (.cells #[.int .i64 0, .int .i64 0] 28) = W1 at *
  refine (HF.out _ hx1).mono ?_
  rintro e w2 ⟨rfl, he2⟩
  have hx2 := hx1.trans he2
  have b4 := b3.ext he2
  have f0 := b4.frozen 0
  have f1 := b4.frozen 1
  have r0 := b4.cell (j := 0) rfl
  have r1 := b4.cell (j := 1) rfl
  unfold idVal
  go_wp2
  obtain ⟨Wr, hWr⟩ : ∃ Wr, (w2.setCell ⟨w.heap.size + 1, 0, none⟩ (Value.int .i64 (findR t 3 m).1)).setCell ⟨w.heap.size + 1, 1, none⟩ (Value.int .i64 (findR t 3 m).2) = Wr := ⟨_, rfl⟩
  rw [hWr]
  have s1 : BoxN Wr (w.heap.size + 1) 28 #[.int .i64 (findR t 3 m).1, .int .i64 (findR t 3 m).2] := by rw [← hWr]; ((repeat (first | with_reducible assumption | with_reducible exact KeepsFrom.refl _ _ | with_reducible refine KF.set ?_ _ _ | with_reducible refine KF.alloc ?_ _ | with_reducible refine KF.drew ?_ | with_reducible refine KF.drewN ?_ _ | with_reducible refine KF.ext ?_ (by assumption) | with_reducible exact Below.refl _ _ | with_reducible refine BL.set ?_ _ _ _ (by omega) | with_reducible refine BL.alloc ?_ _ (by omega) | with_reducible refine BL.drew ?_ | with_reducible refine BL.drewN ?_ _ | with_reducible refine BL.ext ?_ (by assumption) (by omega) | with_reducible exact Ext.refl _ | with_reducible refine Ext.set ?_ (by omega) _ | with_reducible refine Ext.alloc ?_ _ | with_reducible refine Ext.drew ?_ | with_reducible refine Ext.drewN ?_ _ | with_reducible refine Ext.trans ?_ (by assumption) | with_reducible refine BoxN.alloc ?_ _ | with_reducible refine BoxN.drew ?_ | with_reducible refine BoxN.drewN ?_ _ | with_reducible refine BoxN.other ?_ (by omega) _ | with_reducible refine BoxN.set ?_ _ _ | with_reducible apply BoxN.set1 | with_reducible apply BoxN.set2_1 | with_reducible apply BoxN.set2_0 | with_reducible apply BoxN.set5_4 | with_reducible apply BoxN.set5_3 | with_reducible apply BoxN.set5_2 | with_reducible apply BoxN.set5_1 | with_reducible apply BoxN.set5_0 | with_reducible apply BoxN.set3_2 | with_reducible apply BoxN.set3_1 | with_reducible apply BoxN.set3_0 | with_reducible apply BoxN.set4_3 | with_reducible apply BoxN.set4_2 | with_reducible apply BoxN.set4_1 | with_reducible apply BoxN.set4_0 | with_reducible refine BoxN.ext ?_ (by assumption))); done)
  have sx : Ext w Wr := by rw [← hWr]; ((repeat (first | with_reducible assumption | with_reducible exact KeepsFrom.refl _ _ | with_reducible refine KF.set ?_ _ _ | with_reducible refine KF.alloc ?_ _ | with_reducible refine KF.drew ?_ | with_reducible refine KF.drewN ?_ _ | with_reducible refine KF.ext ?_ (by assumption) | with_reducible exact Below.refl _ _ | with_reducible refine BL.set ?_ _ _ _ (by omega) | with_reducible refine BL.alloc ?_ _ (by omega) | with_reducible refine BL.drew ?_ | with_reducible refine BL.drewN ?_ _ | with_reducible refine BL.ext ?_ (by assumption) (by omega) | with_reducible exact Ext.refl _ | with_reducible refine Ext.set ?_ (by omega) _ | with_reducible refine Ext.alloc ?_ _ | with_reducible refine Ext.drew ?_ | with_reducible refine Ext.drewN ?_ _ | with_reducible refine Ext.trans ?_ (by assumption) | with_reducible refine BoxN.alloc ?_ _ | with_reducible refine BoxN.drew ?_ | with_reducible refine BoxN.drewN ?_ _ | with_reducible refine BoxN.other ?_ (by omega) _ | with_reducible refine BoxN.set ?_ _ _ | with_reducible apply BoxN.set1 | with_reducible apply BoxN.set2_1 | with_reducible apply BoxN.set2_0 | with_reducible apply BoxN.set5_4 | with_reducible apply BoxN.set5_3 | with_reducible apply BoxN.set5_2 | with_reducible apply BoxN.set5_1 | with_reducible apply BoxN.set5_0 | with_reducible apply BoxN.set3_2 | with_reducible apply BoxN.set3_1 | with_reducible apply BoxN.set3_0 | with_reducible apply BoxN.set4_3 | with_reducible apply BoxN.set4_2 | with_reducible apply BoxN.set4_1 | with_reducible apply BoxN.set4_0 | with_reducible refine BoxN.ext ?_ (by assumption))); done)
  clear hWr
  refine bodyPost_ret (v := .tuple #[idVal (findR t 3 m), .bool (decide (0 < (findR t 3 m).2))]) ?_ rfl ⟨rfl, sx⟩
  simp [results, Try.f28, go_sem, idVal, s1.cell (j := 0) rfl, s1.cell (j := 1) rfl]

def CtI (t : Tr) (w : World) (gc : Nat) (l : List (Nat × Nat)) (W : World) : Prop := (BoxN W gc 3 #[.int .i64 l.length] ∧ Ext w W)
theorem cti_from (t : Tr) (w : World) (gc : Nat) {n : Nat} (hn : w.heap.size ≤ n) : OwnFrom n (fun (pre : List (Idt t)) W => CtI t w gc (pre.map (·.1)) W) :=
  OwnFrom.and (boxN1_from _ _ _ _) (ext_from hn)
set_option maxRecDepth 100000 in
set_option maxHeartbeats 4000000 in
theorem Count_any (u : Value) (t : Tr) (w : World) (hS : Small t) (hN : (ids t).length ≤ 1000000) (hs : SlR 3 RPr w u t) :
    Calls Try.prog 31 #[.agg #[u]] w fun e w' => e = .returned (.int .i64 (countR t)) ∧ Ext w w' := by
  have HV := hide (fun w' (he : Ext w w') => callsIn_wide (n := 8).2 (Valid_any u t w' hS (hs.ext RPr.keeps he)))
  refine callsIn_wide (n := 9).1 ?_
  refine callsIn_of_wp_marks Try.func31 rfl trivial ?_ rfl
  simp only [Try.ntmps31, List.size_toArray, List.length_cons, List.length_nil, Nat.reduceAdd, Nat.reduceSub, Array.replicate_succ, Array.replicate_zero, List.push_toArray, List.append_toArray, List.nil_append, List.cons_append]
  obtain ⟨A, c, rfl, _, hcm, _⟩ := hs.at_
  gi_wp2_with fail
  refine ⟨trivial, ?_⟩
  have hx1 : Ext w (w.alloc (.cells #[.slice A t.length c] 24)) := (Ext.refl w).alloc _
  have bT : BoxN (w.alloc (.cells #[.slice A t.length c] 24)) (w.heap.size) 24 #[.slice A t.length c] := BoxN.new _ _ _
  generalize w.alloc (.cells #[.slice A t.length c] 24) = W1 at *
  refine (HV.out _ hx1).mono ?_
  rintro e w2 ⟨rfl, he2⟩
  replace hx1 := hx1.trans he2
  replace bT := bT.ext he2
  clear he2
  have t0 : w2.cell? ⟨w.heap.size, 0, none⟩ = some (.slice A t.length c) := bT.cell (j := 0) rfl
  have lt0 := bT.lt
  cases hv : validL t
  · have HF := hide (show countR t = 0 by unfold countR; rw [hv]; rfl)
    clear hv
    gi_wp2_with fail
    exact ⟨.int .i64 0, by simp [results, Try.f31, go_sem], by rw [HF.out]; rfl, hx1⟩
  · have HVL := hide (show countR t = (ids t).length by unfold countR; rw [hv]; rfl)
    clear hv
    have hnp := hS.np
    gi_wp2_with (refine ⟨trivial, ?_⟩; gi_at_call 73; refine (callsIn_wide.2 (events_any _ _)).mono ?_; rintro e w' ⟨rfl, rfl⟩)
    have bt : BoxN ((w2.alloc (.cells #[.int .i64 0] 3)).alloc (.cells #[.slice A t.length c] 24)) (w2.heap.size + 1) 24 #[.slice A t.length c] := BoxN.newAt _ _ (by simp)
    have hM0 : CtI t w w2.heap.size [] ((w2.alloc (.cells #[.int .i64 0] 3)).alloc (.cells #[.slice A t.length c] 24)) := ⟨(BoxN.new _ _ _).alloc _, (hx1.alloc _).alloc _⟩
    have hwr : w.heap.size ≤ w2.heap.size := hx1.size
    have hsz0 : ((w2.alloc (.cells #[.int .i64 0] 3)).alloc (.cells #[.slice A t.length c] 24)).heap.size = w2.heap.size + 1 + 1 := by simp
    generalize ((w2.alloc (.cells #[.int .i64 0] 3)).alloc (.cells #[.slice A t.length c] 24)) = W0 at *
    have hext0 : Ext w W0 := hM0.2
    have hw0 : w.heap.size ≤ W0.heap.size := by omega
    clear hsz0 t0 lt0 hx1 bT
    generalize w2.heap.size = gc at *
    refine wpIn_rangeFunc_ownH rfl (by omega) (gf := 115) (lb := #[.pointer (some ⟨gc + 1, 0, none⟩)]) rfl trivial (callFunc_enter Try.func115 (by decide) rfl)
      (events_stops 8 (by omega) w (.slice A t.length c) t (gc + 1) W0 hnp hS.ne hs hext0 (bt.cell rfl) (by omega)) belowK_t (belowK_b hw0) (Below.refl _ _) (fun _ => rfl)
      (fun pre W => CtI t w gc (pre.map (·.1)) W) (fun c pre W => False) (cti_from t w gc hw0) (fun c => ownFrom_pure _ _) hM0
      (fun x a' W => ∃ v13 v14,
        a' = { tmps := #[.agg #[.slice A t.length c], .pointer (some ⟨w.heap.size, 0, none⟩), .int .i64 0, .pointer (some ⟨gc, 0, none⟩), .agg #[.slice A t.length c], .bool true, .bool false, .agg #[.slice A t.length c], .func (.func 115) #[] #[.pointer (some ⟨gc + 1, 0, none⟩)], v13, v14, undef, undef, undef], defers := [] })
      ?hax ?assign ?body ?done ?stop
    case hax =>
      rintro x a' _ X Y row ⟨v13, v14, ha⟩ hg hr
      exact ⟨v13, v14, ha⟩
    case assign =>
      rintro l pre x W K hI hK
      gi_wp2
      exact hK _ _ (KeepsFrom.refl _ _) (Below.refl _ _) hI ⟨idVal x.1, evVal w (.slice A t.length c) x.1, by simp⟩
    case body =>
      rintro l pre x a' W hlW ⟨r, hr⟩ hI ⟨v13, v14, rfl⟩ hlen
      obtain ⟨c1, hxW⟩ := hI
      have hsW := hxW.size
      have d0 : W.cell? ⟨gc, 0, none⟩ = some (.int .i64 ((pre.length : Nat) : Int)) := by rw [c1.cell (j := 0) rfl]; simp
      have f0 := c1.frozen 0
      have hl2 : pre.length < 1000000 := by omega
      have hwrap := (wrap_addI pre.length 1 1 rfl (by omega)).1
      have HGC := hide hwr
      gi_wp2
      refine ⟨KF.set (KeepsFrom.refl _ _) _ _, BL.set (Below.refl _ _) _ _ _ hwr, ?_⟩
      show CtI t w gc ((pre ++ [x]).map (·.1)) _
      refine ⟨?_, Ext.set hxW hwr _⟩
      rw [show (((pre ++ [x]).map (·.1)).length : Int) = (pre.length : Int) + 1 by simp]
      exact BoxN.set1 c1
    case done =>
      rintro D ys W hD hys ⟨c1, hxW⟩ hK
      rw [hys] at c1
      have d0 : W.cell? ⟨gc, 0, none⟩ = some (.int .i64 ((ids t).length : Nat)) := c1.cell (j := 0) rfl
      gi_wp2
      refine ⟨by simp, .inl ⟨_, _, rfl, run_takeDeferred hK, ?_⟩⟩
      refine ⟨.int .i64 ((ids t).length : Nat), ?_, by rw [HVL.out], hxW.putObj (by omega) hK _⟩
      simp [results, Try.f31, go_sem]
    case stop => rintro D c' pre W hD hpre h; exact h.elim
end Go.Proofs.Ytfdekchpckdeiaa

/- The body of the loop of Prefix, as a run. No condition. -/
namespace Go.Proofs.Ytfdekchpckdeiaa
set_option linter.unusedVariables false
set_option linter.unusedSimpArgs false
def a_pfBody : ACode := (.block 3 (.seq (.seq (.draw [⟨0, ⟨(some 55), .faddr 0 (.t 12), none⟩, []⟩, ⟨1, ⟨(some 56), .load none (.t 55), none⟩, []⟩, ⟨2, ⟨(some 57), .bin .neq (.t 56) (.c (.v (.int .i64 3))), none⟩, []⟩, ⟨3, ⟨(some 58), .mv (.t 57), none⟩, []⟩, ⟨4, ⟨(some 59), .faddr 1 (.t 11), some (58, false)⟩, []⟩, ⟨5, ⟨(some 60), .load none (.t 59), some (58, false)⟩, []⟩, ⟨6, ⟨(some 61), .load none (.t 3), some (58, false)⟩, []⟩, ⟨7, ⟨(some 62), .faddr 0 (.t 11), some (58, false)⟩, []⟩, ⟨8, ⟨(some 63), .load none (.t 62), some (58, false)⟩, []⟩, ⟨9, ⟨(some 64), .iaddr 1 (.t 61) (.t 63), some (58, false)⟩, []⟩, ⟨10, ⟨(some 65), .load none (.t 64), some (58, false)⟩, []⟩, ⟨11, ⟨(some 66), .bin .gtr (.t 60) (.t 65), some (58, false)⟩, []⟩, ⟨12, ⟨(some 67), .pick (.t 58) (.c (.v (.bool true))) (.t 66), none⟩, []⟩])
  (.cond (.t 67) (.exit 3)
  .skip))
  (.seq (.draw [⟨0, ⟨(some 68), .load none (.t 8), none⟩, []⟩, ⟨1, ⟨(some 69), .faddr 2 (.t 12), none⟩, []⟩, ⟨2, ⟨(some 70), .load none (.t 69), none⟩, []⟩, ⟨3, ⟨(some 71), .nilck (.t 68), none⟩, []⟩, ⟨4, ⟨(some 72), .iaddrA 200 4 (.t 71) (.t 70), none⟩, []⟩, ⟨5, ⟨(some 73), .faddr 0 (.t 72), none⟩, []⟩, ⟨6, ⟨(some 74), .load (some 2) (.t 73), none⟩, []⟩, ⟨7, ⟨(some 13), .alloc [(.v (.int .i64 0)), (.v (.int .i64 0))], none⟩, [⟨(some 68), .load none (.t 8), none⟩, ⟨(some 69), .faddr 2 (.t 12), none⟩, ⟨(some 70), .load none (.t 69), none⟩, ⟨(some 71), .nilck (.t 68), none⟩, ⟨(some 72), .iaddrA 200 4 (.t 71) (.t 70), none⟩, ⟨(some 73), .faddr 0 (.t 72), none⟩, ⟨(some 74), .load (some 2) (.t 73), none⟩]⟩, ⟨8, ⟨none, .store 2 (.t 13) (.t 74), none⟩, []⟩])
  (.seq (.draw [⟨0, ⟨(some 75), .faddr 1 (.t 13), none⟩, []⟩, ⟨1, ⟨(some 76), .load none (.t 75), none⟩, []⟩, ⟨2, ⟨(some 77), .load none (.t 3), none⟩, []⟩, ⟨3, ⟨(some 78), .faddr 0 (.t 13), none⟩, []⟩, ⟨4, ⟨(some 79), .load none (.t 78), none⟩, []⟩, ⟨5, ⟨(some 80), .iaddr 1 (.t 77) (.t 79), none⟩, []⟩, ⟨6, ⟨(some 81), .load none (.t 80), none⟩, []⟩, ⟨7, ⟨(some 82), .bin .gtr (.t 76) (.t 81), none⟩, []⟩])
  (.cond (.t 82) (.seq (.region [⟨(some 83), .build [(.v .zsl)] [], none⟩, ⟨none, .store 1 (.t 4) (.t 83), none⟩, ⟨none, .store 1 (.t 5) (.c (.v (.int .i64 18))), none⟩])
  .ret)
  .skip)))))
def envP (cs : List Int) (lr : List IV) (p i : Nat) (kd pr mg : Int) (x4 x5 : AV) : List AV := [.any, .any, .any, .v (.iptr [.isl 1 (cs.map eI)] 0), x4, x5, .any, .any, .v (.iptr [.iptr lr 0] 0), .any, .any, .v (.iptr [.int .i64 (p : Int), .int .i64 (i : Int)] 0), .v (.iptr [.int .i64 kd, .int .i64 pr, .int .i64 mg] 0), .any, .any, .any, .any, .any, .any, .any, .any, .any, .any, .any, .any, .any, .any, .any, .any, .any, .any, .any, .any, .any, .any, .any, .any, .any, .any, .any, .any, .any, .any, .any, .any, .any, .any, .any, .any, .any, .any, .any, .any, .any, .any, .any, .any, .any, .any, .any, .any, .any, .any, .any, .any, .any, .any, .any, .any, .any, .any, .any, .any, .any, .any, .any, .any, .any, .any, .any, .any, .any, .any, .any, .any, .any, .any]

theorem gtI_T {a b : Int} (h : a > b) : decide (a > b) = true := decide_eq_true h
theorem gtI_F {a b : Int} (h : ¬ a > b) : decide (a > b) = false := decide_eq_false h

section
variable (cs : List Int) (lr : List IV) (p i : Nat) (kd pr mg : Int) (x4 x5 : AV) (B l : List Row)
theorem pfBody_kind (hk : (kd != 3) = true) : run (ACalls Try.prog) Weak a_pfBody (envP cs lr p i kd pr mg x4 x5) B l (fun ax e b l' => ax = .normal ∧ b = B ∧ l' = l) := by
  simp only [a_pfBody, envP, hk, ↓run_skip, ↓run_region, ↓run_draw, ↓run_seq, ↓run_block, ↓run_exit, ↓run_ret, ↓run_cond, ↓atN_app, ↓seqC_normal, ↓seqC_exit, ↓seqC_ret, ↓seqQ_normal, ↓seqQ_exit, ↓seqQ_ret, ↓blkQ_normal, ↓blkQ_exit, ↓blkQ_ret, ↓runOps_nil, ↓runOps_cons, ↓runD_nil, ↓runD_cons, ↓grdO_true, ↓grdO_false, ↓grdD_true, ↓grdD_false, ↓ifC_true, ↓ifC_false, ↓opS_val, ↓opS_call, ↓opS_two, ↓opK_app, ↓dS_val, ↓dS_call, ↓dS_two, ↓dK_app, rechks_nil, rechks_cons, rechk, gcase_true, gcase_false, ex_val, ex_val0, gd_none, gd_some, nth_zero, nth_succ, upd_zero, upd_succ, put_some, put_none, ev_t, ev_c, evs_nil, evs_cons, evo_some, evo_none, hget_at, hget_first, hsetB_at, hsetB_first, hsetL_at, hsetL_first, ofOpt_some, aop, aload, astore, aslice, aappend, aiaddr, aiaddrA, afaddr, alen, alenS, acopy, amm, acall, apick, binV, binVB, binVS, isSh, intOp, strOp, boolOp, shOp, eqC, eqF, and2, cellsOf, setFrom, fillA, fillS, rd, rdI, elems, mk, bounds, AV.cell, List.all_cons, List.all_nil, Bool.and_true, Bool.true_and, Bool.and_self, List.length_cons, List.length_nil, List.length_append, Nat.reduceAdd, Nat.reduceSub, Nat.reduceMul, Nat.zero_add, Nat.add_zero, List.replicate_succ, List.replicate_zero, List.cons_append, List.nil_append, List.append_assoc, List.append_nil, List.getElem?_cons_zero, List.getElem?_cons_succ, List.getElem?_nil, List.set_cons_zero, List.set_cons_succ, List.drop_zero, List.drop_succ_cons, List.take_zero, List.take_succ_cons, List.take_nil, List.drop_nil, List.map_cons, List.map_nil, Option.map_some, if_true, if_false, Bool.false_eq_true, and_self, true_and, and_true, Nat.reduceLeDiff, Nat.reduceLT, Nat.le_refl, Nat.reduceEqDiff, ite_true, ite_false, beq_self_eq_true, beq_true, beq_false, Bool.not_true, Bool.not_false, Bool.true_beq, Bool.false_beq]
theorem pfBody_out (hk : (kd != 3) = false) (hp : p < cs.length) (hi : (i : Int) > cs[p]) : run (ACalls Try.prog) Weak a_pfBody (envP cs lr p i kd pr mg x4 x5) B l (fun ax e b l' => ax = .normal ∧ b = B ∧ l' = l) := by
  have hd := gtI_T hi
  simp (disch := omega) only [a_pfBody, envP, hk, eI, hd, ↓run_skip, ↓run_region, ↓run_draw, ↓run_seq, ↓run_block, ↓run_exit, ↓run_ret, ↓run_cond, ↓atN_app, ↓seqC_normal, ↓seqC_exit, ↓seqC_ret, ↓seqQ_normal, ↓seqQ_exit, ↓seqQ_ret, ↓blkQ_normal, ↓blkQ_exit, ↓blkQ_ret, ↓runOps_nil, ↓runOps_cons, ↓runD_nil, ↓runD_cons, ↓grdO_true, ↓grdO_false, ↓grdD_true, ↓grdD_false, ↓ifC_true, ↓ifC_false, ↓opS_val, ↓opS_call, ↓opS_two, ↓opK_app, ↓dS_val, ↓dS_call, ↓dS_two, ↓dK_app, rechks_nil, rechks_cons, rechk, gcase_true, gcase_false, ex_val, ex_val0, gd_none, gd_some, nth_zero, nth_succ, upd_zero, upd_succ, put_some, put_none, ev_t, ev_c, evs_nil, evs_cons, evo_some, evo_none, hget_at, hget_first, hsetB_at, hsetB_first, hsetL_at, hsetL_first, ofOpt_some, aop, aload, astore, aslice, aappend, aiaddr, aiaddrA, afaddr, alen, alenS, acopy, amm, acall, apick, binV, binVB, binVS, isSh, intOp, strOp, boolOp, shOp, eqC, eqF, and2, cellsOf, setFrom, fillA, fillS, rd, rdI, elems, mk, bounds, AV.cell, List.all_cons, List.all_nil, Bool.and_true, Bool.true_and, Bool.and_self, List.length_cons, List.length_nil, List.length_append, Nat.reduceAdd, Nat.reduceSub, Nat.reduceMul, Nat.zero_add, Nat.add_zero, List.replicate_succ, List.replicate_zero, List.cons_append, List.nil_append, List.append_assoc, List.append_nil, List.getElem?_cons_zero, List.getElem?_cons_succ, List.getElem?_nil, List.set_cons_zero, List.set_cons_succ, List.drop_zero, List.drop_succ_cons, List.take_zero, List.take_succ_cons, List.take_nil, List.drop_nil, List.map_cons, List.map_nil, Option.map_some, if_true, if_false, Bool.false_eq_true, and_self, true_and, and_true, Nat.reduceLeDiff, Nat.reduceLT, Nat.le_refl, Nat.reduceEqDiff, ite_true, ite_false, beq_self_eq_true, beq_true, beq_false, Bool.not_true, Bool.not_false, Bool.true_beq, Bool.false_beq, map_vs, vs_len, vs_get, vs_take, vs_drop, vs_snoc1, vs_snoc2, vs_snoc3, vs_snoc5, vs_set1, vs_set2, vs_rep, wrap_id, le_T, lt_T, le_F, lt_F, leI_T, ltI_T, leI_F, ltI_F, geI, gtI, get_T, decide_true, decide_false, room, List.getElem?_map, List.length_map, List.length_take, Int.toNat_natCast, Nat.min_def, Nat.min_self]
theorem pfBody_in (m f g : Nat) (hk : (kd != 3) = false) (hp : p < cs.length) (hi : ¬ (i : Int) > cs[p]) (hm : mg = m) (hm2 : m < 200) (hl : lr.length = 800) (hdr : (lr.drop (m * 4)).take 2 = [.int .i64 f, .int .i64 g]) (hf : f < cs.length) (hg : ¬ (g : Int) > cs[f]) (hlt : RowsLt B.length B) (hll : l = []) :
    run (ACalls Try.prog) Weak a_pfBody (envP cs lr p i kd pr mg x4 x5) B l (fun ax e b l' => ax = .normal ∧ b = B) := by
  subst hm; subst hll
  have hd := gtI_F hi
  have hd2 := gtI_F hg
  simp (disch := omega) only [a_pfBody, envP, hk, eI, hd, hd2, hl, hdr, ↓run_skip, ↓run_region, ↓run_draw, ↓run_seq, ↓run_block, ↓run_exit, ↓run_ret, ↓run_cond, ↓atN_app, ↓seqC_normal, ↓seqC_exit, ↓seqC_ret, ↓seqQ_normal, ↓seqQ_exit, ↓seqQ_ret, ↓blkQ_normal, ↓blkQ_exit, ↓blkQ_ret, ↓runOps_nil, ↓runOps_cons, ↓runD_nil, ↓runD_cons, ↓grdO_true, ↓grdO_false, ↓grdD_true, ↓grdD_false, ↓ifC_true, ↓ifC_false, ↓opS_val, ↓opS_call, ↓opS_two, ↓opK_app, ↓dS_val, ↓dS_call, ↓dS_two, ↓dK_app, rechks_nil, rechks_cons, rechk, gcase_true, gcase_false, ex_val, ex_val0, gd_none, gd_some, nth_zero, nth_succ, upd_zero, upd_succ, put_some, put_none, ev_t, ev_c, evs_nil, evs_cons, evo_some, evo_none, hget_at, hget_first, hsetB_at, hsetB_first, hsetL_at, hsetL_first, ofOpt_some, aop, aload, astore, aslice, aappend, aiaddr, aiaddrA, afaddr, alen, alenS, acopy, amm, acall, apick, binV, binVB, binVS, isSh, intOp, strOp, boolOp, shOp, eqC, eqF, and2, cellsOf, setFrom, fillA, fillS, rd, rdI, elems, mk, bounds, AV.cell, List.all_cons, List.all_nil, Bool.and_true, Bool.true_and, Bool.and_self, List.length_cons, List.length_nil, List.length_append, Nat.reduceAdd, Nat.reduceSub, Nat.reduceMul, Nat.zero_add, Nat.add_zero, List.replicate_succ, List.replicate_zero, List.cons_append, List.nil_append, List.append_assoc, List.append_nil, List.getElem?_cons_zero, List.getElem?_cons_succ, List.getElem?_nil, List.set_cons_zero, List.set_cons_succ, List.drop_zero, List.drop_succ_cons, List.take_zero, List.take_succ_cons, List.take_nil, List.drop_nil, List.map_cons, List.map_nil, Option.map_some, if_true, if_false, Bool.false_eq_true, and_self, true_and, and_true, Nat.reduceLeDiff, Nat.reduceLT, Nat.le_refl, Nat.reduceEqDiff, ite_true, ite_false, beq_self_eq_true, beq_true, beq_false, Bool.not_true, Bool.not_false, Bool.true_beq, Bool.false_beq, map_vs, vs_len, vs_get, vs_take, vs_drop, vs_snoc1, vs_snoc2, vs_snoc3, vs_snoc5, vs_set1, vs_set2, vs_rep, wrap_id, le_T, lt_T, le_F, lt_F, leI_T, ltI_T, leI_F, ltI_F, geI, gtI, get_T, decide_true, decide_false, room, List.getElem?_map, List.length_map, List.length_take, Int.toNat_natCast, Nat.min_def, Nat.min_self]
theorem two_g0 {r0 r1 : Row} {l : List Row} : hget [r0, r1] l 0 = some r0 := rfl
theorem two_g1 {r0 r1 : Row} {l : List Row} : hget [r0, r1] l 1 = some r1 := rfl
theorem two_g2 {r0 r1 x : Row} {l : List Row} : hget [r0, r1] (x :: l) 2 = some x := rfl
theorem two_b0 {r0 r1 r : Row} : hsetB [r0, r1] 0 r = [r, r1] := rfl
theorem two_b1 {r0 r1 r : Row} : hsetB [r0, r1] 1 r = [r0, r] := rfl
theorem two_b2 {r0 r1 r : Row} : hsetB [r0, r1] 2 r = [r0, r1] := rfl
theorem two_l0 {r0 r1 r : Row} {l : List Row} : hsetL [r0, r1] l 0 r = l := rfl
theorem two_l1 {r0 r1 r : Row} {l : List Row} : hsetL [r0, r1] l 1 r = l := rfl
theorem two_l2 {r0 r1 r x : Row} {l : List Row} : hsetL [r0, r1] (x :: l) 2 r = r :: l := rfl
set_option maxRecDepth 20000 in
theorem pfBody_bad (m f g : Nat) (hk : (kd != 3) = false) (hp : p < cs.length) (hi : ¬ (i : Int) > cs[p]) (hm : mg = m) (hm2 : m < 200) (hl : lr.length = 800) (hdr : (lr.drop (m * 4)).take 2 = [.int .i64 f, .int .i64 g]) (hf : f < cs.length) (hg : (g : Int) > cs[f]) :
    run (ACalls Try.prog) Weak a_pfBody (envP cs lr p i kd pr mg (.ptr 0 0 0 0) (.ptr 1 0 0 0)) [.live 0 1 [[.v .zsl]], .live 0 1 [[.v (.int .i64 0)]]] [] (fun ax e b l' => ax = .ret ∧ b = [.live 0 1 [[.v .zsl]], .live 0 1 [[.v (.int .i64 18)]]]) := by
  subst hm
  have hd := gtI_F hi
  have hd2 := gtI_T hg
  simp (disch := omega) only [a_pfBody, envP, hk, eI, hd, hd2, hl, hdr, two_g0, two_g1, two_g2, two_b0, two_b1, two_b2, two_l0, two_l1, two_l2, ↓run_skip, ↓run_region, ↓run_draw, ↓run_seq, ↓run_block, ↓run_exit, ↓run_ret, ↓run_cond, ↓atN_app, ↓seqC_normal, ↓seqC_exit, ↓seqC_ret, ↓seqQ_normal, ↓seqQ_exit, ↓seqQ_ret, ↓blkQ_normal, ↓blkQ_exit, ↓blkQ_ret, ↓runOps_nil, ↓runOps_cons, ↓runD_nil, ↓runD_cons, ↓grdO_true, ↓grdO_false, ↓grdD_true, ↓grdD_false, ↓ifC_true, ↓ifC_false, ↓opS_val, ↓opS_call, ↓opS_two, ↓opK_app, ↓dS_val, ↓dS_call, ↓dS_two, ↓dK_app, rechks_nil, rechks_cons, rechk, gcase_true, gcase_false, ex_val, ex_val0, gd_none, gd_some, nth_zero, nth_succ, upd_zero, upd_succ, put_some, put_none, ev_t, ev_c, evs_nil, evs_cons, evo_some, evo_none, hget_at, hget_first, hsetB_at, hsetB_first, hsetL_at, hsetL_first, ofOpt_some, aop, aload, astore, aslice, aappend, aiaddr, aiaddrA, afaddr, alen, alenS, acopy, amm, acall, apick, binV, binVB, binVS, isSh, intOp, strOp, boolOp, shOp, eqC, eqF, and2, cellsOf, setFrom, fillA, fillS, rd, rdI, elems, mk, bounds, AV.cell, List.all_cons, List.all_nil, Bool.and_true, Bool.true_and, Bool.and_self, List.length_cons, List.length_nil, List.length_append, Nat.reduceAdd, Nat.reduceSub, Nat.reduceMul, Nat.zero_add, Nat.add_zero, List.replicate_succ, List.replicate_zero, List.cons_append, List.nil_append, List.append_assoc, List.append_nil, List.getElem?_cons_zero, List.getElem?_cons_succ, List.getElem?_nil, List.set_cons_zero, List.set_cons_succ, List.drop_zero, List.drop_succ_cons, List.take_zero, List.take_succ_cons, List.take_nil, List.drop_nil, List.map_cons, List.map_nil, Option.map_some, if_true, if_false, Bool.false_eq_true, and_self, true_and, and_true, Nat.reduceLeDiff, Nat.reduceLT, Nat.le_refl, Nat.reduceEqDiff, ite_true, ite_false, beq_self_eq_true, beq_true, beq_false, Bool.not_true, Bool.not_false, Bool.true_beq, Bool.false_beq, map_vs, vs_len, vs_get, vs_take, vs_drop, vs_snoc1, vs_snoc2, vs_snoc3, vs_snoc5, vs_set1, vs_set2, vs_rep, wrap_id, le_T, lt_T, le_F, lt_F, leI_T, ltI_T, leI_F, ltI_F, geI, gtI, get_T, decide_true, decide_false, room, List.getElem?_map, List.length_map, List.length_take, Int.toNat_natCast, Nat.min_def, Nat.min_self, -hget_at, -hget_first, -hsetB_at, -hsetB_first, -hsetL_at, -hsetL_first]
end

/-! From boxes to values. -/
theorem box_rep {W : World} {F : Nat → Prop} {b : Nat} {T : TypeId} {cells : Array Value} {row : List IV} (h : BoxN W b T cells) (hF : F b) (hr : ∀ (j : Nat) (a : IV), row[j]? = some a → ∃ v, cells[j]? = some v ∧ RepI W F a v) :
    RepI W F (.iptr row 0) (.pointer (some ⟨b, 0, none⟩)) := by
  refine .iptr row 0 b 0 (fun j => (cells[j]?).getD undef) hF (fun j a hj => ?_) (fun j a hj => ?_)
  · obtain ⟨v, h1, _⟩ := hr j a hj
    rw [Nat.zero_add, h1]
    exact h.cell h1
  · obtain ⟨v, h1, h2⟩ := hr j a hj
    rw [h1]; exact h2
theorem envR_of {W : World} {F : Nat → Prop} {L : LMap} {e : List AV} {vs : Array Value} (h : RepL W F L e vs.toList) : EnvR W F L e { tmps := vs, defers := [] } :=
  ⟨rfl, by have := h.1; simpa using this.symm, fun i x v hx hv => h.2 i x v hx (by simpa using hv)⟩
def letV (t : Tr) (j : Nat) : Int := match j % 4 with
  | 0 => (firstOf t (ids t) 2 (j / 4 : Nat)).1
  | 1 => (firstOf t (ids t) 2 (j / 4 : Nat)).2
  | 2 => (firstOf t (ids t) 3 (j / 4 : Nat)).1
  | _ => (firstOf t (ids t) 3 (j / 4 : Nat)).2
def letRow (t : Tr) : List IV := (List.range 800).map fun j => .int .i64 (letV t j)
theorem letRow_len (t : Tr) : (letRow t).length = 800 := by simp [letRow]
theorem letRow_get {t : Tr} {j : Nat} (h : j < 800) : (letRow t)[j]? = some (.int .i64 (letV t j)) := by simp [letRow, h]
theorem letRow_from {t : Tr} {m : Nat} (h : m < 200) : ((letRow t).drop (m * 4)).take 2 = [.int .i64 ((firstOf t (ids t) 2 m).1 : Int), .int .i64 ((firstOf t (ids t) 2 m).2 : Int)] := by
  have h0 : letV t (m * 4) = (firstOf t (ids t) 2 m).1 := by
    unfold letV; rw [show m * 4 % 4 = 0 by omega, show m * 4 / 4 = m by omega]; rfl
  have h1 : letV t (m * 4 + 1) = (firstOf t (ids t) 2 m).2 := by
    unfold letV; rw [show (m * 4 + 1) % 4 = 1 by omega, show (m * 4 + 1) / 4 = m by omega]; rfl
  apply List.ext_getElem?
  intro i
  match i with
  | 0 => rw [List.getElem?_take, if_pos (by omega), List.getElem?_drop, letRow_get (by omega), Nat.add_zero, h0]; rfl
  | 1 => rw [List.getElem?_take, if_pos (by omega), List.getElem?_drop, letRow_get (by omega), h1]; rfl
  | i + 2 => rw [List.getElem?_take, if_neg (by omega)]; rfl
theorem letRow_rep {t : Tr} {W : World} {F : Nat → Prop} {b : Nat} {T : TypeId} {ls : Array Value} (h : BoxN W b T ls) (hA : LetA t (ids t) ls) (hF : F b) : RepI W F (.iptr (letRow t) 0) (.pointer (some ⟨b, 0, none⟩)) := by
  refine box_rep h hF (fun j a hj => ?_)
  have hj8 : j < 800 := by have := (List.getElem?_eq_some_iff.1 hj).1; rwa [letRow_len] at this
  rw [letRow_get hj8] at hj
  cases hj
  obtain ⟨g0, g1, g2, g3⟩ := hA.2 (j / 4) (by omega)
  refine ⟨_, ?_, .int _ _⟩
  unfold letV
  have hc : j % 4 = 0 ∨ j % 4 = 1 ∨ j % 4 = 2 ∨ j % 4 = 3 := by omega
  rcases hc with hc | hc | hc | hc
  · rw [hc]; rw [show j = j / 4 * 4 by omega]; rw [show j / 4 * 4 / 4 = j / 4 by omega]; exact g0
  · rw [hc]; rw [show j = j / 4 * 4 + 1 by omega]; rw [show (j / 4 * 4 + 1) / 4 = j / 4 by omega]; exact g1
  · rw [hc]; rw [show j = j / 4 * 4 + 2 by omega]; rw [show (j / 4 * 4 + 2) / 4 = j / 4 by omega]; exact g2
  · rw [hc]; rw [show j = j / 4 * 4 + 3 by omega]; rw [show (j / 4 * 4 + 3) / 4 = j / 4 by omega]; exact g3

/-! No rows of one's own, or two of one cell each. -/
theorem sim_nil {F : Nat → Prop} {W : World} (hF : ∀ b, F b → b < W.heap.size) : Sim F (fun _ _ => none) ([] ++ []) W :=
  ⟨fun i v z els hi => by simp at hi, fun i v q hq => (by cases hq), fun i i' v v' z z' e1 e2 bb o1 s1 c1 o2 s2 c2 h1 => by simp at h1, fun b hb => ⟨hF b hb, by rintro ⟨i, v, s, e1, o, z, c, h1, h2⟩; cases h2⟩⟩
theorem step_nil_block {nb : Nat} {F F' : Nat → Prop} {L' : LMap} {h' : List Row} {W W' : World} (st : Step nb F (fun _ _ => none) ([] ++ []) W F' L' h' W') : Ext W W' :=
  ⟨st.os, st.tape, st.output, st.size, fun k hk => st.block k hk (by rintro ⟨i, v, s, e1, o, z, c, h1, h2⟩; cases h2)⟩
def L2 (b4 b5 : Nat) : LMap := fun id ver => if id = 0 ∧ ver = 0 then some (.pl b4 0 1 1) else if id = 1 ∧ ver = 0 then some (.pl b5 0 1 1) else none
theorem l2_inv {b4 b5 id ver : Nat} {q : Loc} (h : L2 b4 b5 id ver = some q) : (id = 0 ∧ ver = 0 ∧ q = .pl b4 0 1 1) ∨ (id = 1 ∧ ver = 0 ∧ q = .pl b5 0 1 1) := by
  unfold L2 at h
  split at h
  · rename_i hc; cases h; exact .inl ⟨hc.1, hc.2, rfl⟩
  · split at h
    · rename_i hc; cases h; exact .inr ⟨hc.1, hc.2, rfl⟩
    · cases h
theorem sim_two {F : Nat → Prop} {W : World} {b4 b5 : Nat} {T4 T5 : TypeId} {a4 a5 : AV} {v4 v5 : Value} (h4 : BoxN W b4 T4 #[v4]) (h5 : BoxN W b5 T5 #[v5]) (hne : b4 ≠ b5) (c4 : a4.cell = true) (c5 : a5.cell = true)
    (r4 : RepA W F (L2 b4 b5) a4 v4) (r5 : RepA W F (L2 b4 b5) a5 v5) (hF : ∀ b, F b → b < W.heap.size ∧ b ≠ b4 ∧ b ≠ b5) :
    Sim F (L2 b4 b5) ([.live 0 1 [[a4]], .live 0 1 [[a5]]] ++ []) W := by
  refine ⟨fun i v z els hi => ?_, fun i v q hq => ?_, fun i i' v v' z z' e1 e2 bb o1 s1 c1 o2 s2 c2 h1 h2 h3 h6 => ?_, fun b hb => ⟨(hF b hb).1, ?_⟩⟩
  · match i with
    | 0 =>
      simp at hi
      obtain ⟨rfl, rfl, rfl⟩ := hi
      refine ⟨.pl b4 0 1 1, rfl, rfl, by simp, by simp [maxLen], #[v4], T4, h4, by simp, fun k row hk => ?_, fun k row j a hk hj => ?_⟩
      · cases k with
        | zero => simp at hk; subst hk; rfl
        | succ k => simp at hk
      · cases k with
        | zero =>
          simp at hk; subst hk
          cases j with
          | zero => simp at hj; subst hj; exact ⟨c4, v4, rfl, r4⟩
          | succ j => simp at hj
        | succ k => simp at hk
    | 1 =>
      simp at hi
      obtain ⟨rfl, rfl, rfl⟩ := hi
      refine ⟨.pl b5 0 1 1, rfl, rfl, by simp, by simp [maxLen], #[v5], T5, h5, by simp, fun k row hk => ?_, fun k row j a hk hj => ?_⟩
      · cases k with
        | zero => simp at hk; subst hk; rfl
        | succ k => simp at hk
      · cases k with
        | zero =>
          simp at hk; subst hk
          cases j with
          | zero => simp at hj; subst hj; exact ⟨c5, v5, rfl, r5⟩
          | succ j => simp at hj
        | succ k => simp at hk
    | i + 2 => simp at hi
  · rcases l2_inv hq with ⟨rfl, rfl, _⟩ | ⟨rfl, rfl, _⟩
    · exact ⟨_, rfl, Nat.zero_le _⟩
    · exact ⟨_, rfl, Nat.zero_le _⟩
  · rcases l2_inv h3 with ⟨rfl, _, h⟩ | ⟨rfl, _, h⟩ <;> rcases l2_inv h6 with ⟨rfl, _, h'⟩ | ⟨rfl, _, h'⟩
    · rfl
    · cases h; cases h'; exact absurd rfl hne
    · cases h; cases h'; exact absurd rfl hne
    · rfl
  · rintro ⟨i, v, s, e1, o, z, c, h1, h2⟩
    rcases l2_inv h2 with ⟨_, _, h⟩ | ⟨_, _, h⟩
    · cases h; exact (hF _ hb).2.1 rfl
    · cases h; exact (hF _ hb).2.2 rfl
theorem owned_two {b4 b5 b : Nat} {h : List Row} (ho : Owned (L2 b4 b5) h b) : b = b4 ∨ b = b5 := by
  obtain ⟨i, v, s, e1, o, z, c, h1, h2⟩ := ho
  rcases l2_inv h2 with ⟨_, _, h⟩ | ⟨_, _, h⟩
  · cases h; exact .inl rfl
  · cases h; exact .inr rfl

end Go.Proofs.Ytfdekchpckdeiaa

/- What says less: a slice without room is an empty slice. Copies of slices. No condition. -/
namespace Go.Proofs.Ytfdekchpckdeiaa
set_option linter.unusedVariables false
set_option linter.unusedSimpArgs false

inductive IVle : IV → IV → Prop where
  | refl (x : IV) : IVle x x
  | zsl (sz : Nat) : IVle .zsl (.isl sz [])
  | isl (sz : Nat) (rows rows' : List (List IV)) (hl : rows.length = rows'.length) (hl2 : ∀ (k : Nat) (row row' : List IV), rows[k]? = some row → rows'[k]? = some row' → row.length = row'.length)
      (hr : ∀ (k : Nat) (row row' : List IV) (j : Nat) (a a' : IV), rows[k]? = some row → rows'[k]? = some row' → row[j]? = some a → row'[j]? = some a' → IVle a a') : IVle (.isl sz rows) (.isl sz rows')

theorem RepI.le {w : World} {F : Nat → Prop} {x y : IV} (h : IVle x y) : ∀ {v : Value}, RepI w F x v → RepI w F y v := by
  induction h with
  | refl x => exact fun h => h
  | zsl sz => intro v h; cases h; exact .isl0 _ _ _ (Nat.zero_le _)
  | isl sz rows rows' hl hl2 hr ih =>
    intro v h
    obtain ⟨A, c, rfl, h2, h3, h4⟩ := repI_isl h
    rw [hl] at h2 h4 ⊢
    refine isl_repI h2 h3 (fun h0 => ?_)
    obtain ⟨b, off, h5, h6, h7⟩ := h4 h0
    refine ⟨b, off, h5, h6, fun k row' hk' => ?_⟩
    have hk : k < rows.length := by rw [hl]; exact (List.getElem?_eq_some_iff.1 hk').1
    obtain ⟨g1, g2⟩ := h7 k rows[k] (List.getElem?_eq_getElem hk)
    have hll := hl2 k rows[k] row' (List.getElem?_eq_getElem hk) hk'
    refine ⟨by rw [← hll]; exact g1, fun j a' hj' => ?_⟩
    have hj : j < rows[k].length := by rw [hll]; exact (List.getElem?_eq_some_iff.1 hj').1
    obtain ⟨v, hv, hrep⟩ := g2 j rows[k][j] (List.getElem?_eq_getElem hj)
    exact ⟨v, hv, ih k _ _ j _ _ (List.getElem?_eq_getElem hk) hk' (List.getElem?_eq_getElem hj) hj' hrep⟩

/-- Row by row. -/
def RowsLe : List (List IV) → List (List IV) → Prop
  | [], [] => True
  | r :: rs, q :: qs => (r.length = q.length ∧ ∀ (j : Nat) (a a' : IV), r[j]? = some a → q[j]? = some a' → IVle a a') ∧ RowsLe rs qs
  | _, _ => False
theorem RowsLe.len : ∀ {r q : List (List IV)}, RowsLe r q → r.length = q.length
  | [], [], _ => rfl
  | _ :: _, _ :: _, h => by simp [RowsLe.len h.2]
  | [], _ :: _, h => h.elim
  | _ :: _, [], h => h.elim
theorem RowsLe.get : ∀ {r q : List (List IV)}, RowsLe r q → ∀ (k : Nat) (row row' : List IV), r[k]? = some row → q[k]? = some row' → row.length = row'.length ∧ ∀ (j : Nat) (a a' : IV), row[j]? = some a → row'[j]? = some a' → IVle a a'
  | [], [], _, k, row, row', h, _ => by simp at h
  | r :: rs, q :: qs, h, k, row, row', h1, h2 => by
    cases k with
    | zero => simp at h1 h2; subst h1; subst h2; exact h.1
    | succ k => simp at h1 h2; exact RowsLe.get h.2 k row row' h1 h2
  | [], _ :: _, h, _, _, _, _, _ => h.elim
  | _ :: _, [], h, _, _, _, _, _ => h.elim
theorem IVle.rows {sz : Nat} {r q : List (List IV)} (h : RowsLe r q) : IVle (.isl sz r) (.isl sz q) :=
  .isl sz r q h.len (fun k row row' h1 h2 => (h.get k row row' h1 h2).1) (fun k row row' j a a' h1 h2 => (h.get k row row' h1 h2).2 j a a')

inductive AVle : AV → AV → Prop where
  | refl (x : AV) : AVle x x
  | v (x y : IV) (h : IVle x y) : AVle (.v x) (.v y)
  | agg (cs ds : List AV) (hl : cs.length = ds.length) (h : ∀ (i : Nat) (a c : AV), cs[i]? = some a → ds[i]? = some c → AVle a c) : AVle (.agg cs) (.agg ds)
theorem RepA.le {w : World} {F : Nat → Prop} {L : LMap} {x y : AV} (h : AVle x y) : ∀ {v : Value}, RepA w F L x v → RepA w F L y v := by
  induction h with
  | refl x => exact fun h => h
  | v x y h => intro v hx; exact .v _ _ (hx.vI.le h)
  | agg cs ds hl h ih =>
    intro v hx
    obtain ⟨vs, rfl, hr⟩ := hx.aggL
    refine RepL.agg ⟨by rw [← hl]; exact hr.1, fun i c u hc hu => ?_⟩
    have hi : i < cs.length := by rw [hl]; exact (List.getElem?_eq_some_iff.1 hc).1
    exact ih i cs[i] c (List.getElem?_eq_getElem hi) hc (hr.2 i _ u (List.getElem?_eq_getElem hi) hu)
/-- Arguments that say more will do. -/
theorem ACalls.le {P : Program} {f : Nat} {args args' : List AV} {b l : List Row} {Q : AV → List Row → List Row → Prop} (h : ACalls P f args b l Q) (hl : args'.length = args.length) (hle : ∀ (i : Nat) (a c : AV), args'[i]? = some a → args[i]? = some c → AVle a c) : ACalls P f args' b l Q :=
  ⟨h.1, fun F L w vs s hr => h.2 F L w vs s ⟨by rw [← hl]; exact hr.1, fun i c v hc hv => by
    have hi : i < args'.length := by rw [hl]; exact (List.getElem?_eq_some_iff.1 hc).1
    exact RepA.le (hle i args'[i] c (List.getElem?_eq_getElem hi) hc) (hr.2 i _ v (List.getElem?_eq_getElem hi) hv)⟩⟩
/-- A state that says less. -/
theorem Weak.le {e e' : List AV} {b l : List Row} (hl : e.length = e'.length) (h : ∀ (i : Nat) (x y : AV), e[i]? = some x → e'[i]? = some y → AVle x y) : Weak e b l e' b l := by
  intro F L w a s hea
  refine ⟨F, L, s, ⟨hea.1, by rw [← hl]; exact hea.2.1, fun i y v hy hv => ?_⟩, Step.refl _ _ _ _ _, rfl⟩
  have hi : i < e.length := by rw [hl]; exact (List.getElem?_eq_some_iff.1 hy).1
  exact RepA.le (h i e[i] y (List.getElem?_eq_getElem hi) hy) (hea.2.2 i _ v (List.getElem?_eq_getElem hi) hv)
/-- The end of a function that hands out no slice where an empty one is said. -/
theorem leave_zsl {rs : List ARes} {Q : AV → List Row → List Row → Prop} {B l e : _} {ex : AExit} (hex : ex = .normal ∨ ex = .ret) (sz : Nat) (hx : resVs e B l rs = some [.v .zsl]) (hR : RowsLt B.length B) {b0 l0 : List Row} (hB : B = b0 ++ l0) (hq : Q (.v (.isl sz [])) b0 l0) :
    Leaves rs Q b0.length ex e B l := by
  refine leave hex hx (y := .v (.isl sz [])) (l' := []) ((Weak.trim (l1 := []) rfl (by intro x hx; simp [one] at hx; subst hx; exact .v _) (by simpa using hR) RowsLt_nil).trans (Weak.le rfl ?_)) hB (by simpa using hq)
  intro i x y h1 h2
  cases i with
  | zero => simp [one] at h1 h2; subst h1; subst h2; exact .v _ _ (.zsl sz)
  | succ i => simp at h2

def a_cloneAsg : AFunc := ⟨1, 8, [.tmp 2],
  (.seq (.region [⟨(some 2), .mv (.c (.v .zsl)), none⟩])
  (.seq (.seq (.region [⟨(some 3), .mv (.t 0), none⟩, ⟨(some 4), .isnil false (.t 3), none⟩])
  (.cond (.t 4) (.seq (.region [⟨(some 2), .mv (.c (.v .zsl)), none⟩])
  .ret)
  .skip))
  (.seq (.region [⟨(some 5), .bslice 2 [(.v (.int .i64 0)), (.v (.int .i64 0))] 0 [], none⟩, ⟨(some 6), .mv (.t 0), none⟩, ⟨(some 7), .append 2 16 (.t 5) (.t 6), none⟩, ⟨(some 2), .mv (.t 7), none⟩])
  .ret)))⟩
theorem a_cloneAsg_ok : cFunc Try.prog 88 = some a_cloneAsg := by kernel_rfl
def a_cloneVar : AFunc := ⟨1, 8, [.tmp 2],
  (.seq (.region [⟨(some 2), .mv (.c (.v .zsl)), none⟩])
  (.seq (.seq (.region [⟨(some 3), .mv (.t 0), none⟩, ⟨(some 4), .isnil false (.t 3), none⟩])
  (.cond (.t 4) (.seq (.region [⟨(some 2), .mv (.c (.v .zsl)), none⟩])
  .ret)
  .skip))
  (.seq (.region [⟨(some 5), .bslice 2 [(.v (.str ⟨#[]⟩)), (.v (.int .i64 0))] 0 [], none⟩, ⟨(some 6), .mv (.t 0), none⟩, ⟨(some 7), .append 2 24 (.t 5) (.t 6), none⟩, ⟨(some 2), .mv (.t 7), none⟩])
  .ret)))⟩
theorem a_cloneVar_ok : cFunc Try.prog 124 = some a_cloneVar := by kernel_rfl
def a_longVar : AFunc := ⟨1, 7, [.tmp 2],
  (.seq (.region [⟨(some 1), .box (.t 0), none⟩, ⟨(some 2), .mv (.c (.v (.bool false))), none⟩])
  (.seq (.region [⟨(some 3), .faddr 0 (.t 1), none⟩, ⟨(some 4), .load none (.t 3), none⟩, ⟨(some 5), .lenS (.t 4), none⟩, ⟨(some 6), .bin .gtr (.t 5) (.c (.v (.int .i64 30))), none⟩, ⟨(some 2), .mv (.t 6), none⟩])
  .ret))⟩
theorem a_longVar_ok : cFunc Try.prog 68 = some a_longVar := by kernel_rfl
def a_longEv : AFunc := ⟨1, 7, [.tmp 2],
  (.seq (.region [⟨(some 1), .box (.t 0), none⟩, ⟨(some 2), .mv (.c (.v (.bool false))), none⟩])
  (.seq (.region [⟨(some 3), .faddr 4 (.t 1), none⟩, ⟨(some 4), .load none (.t 3), none⟩, ⟨(some 5), .len (.t 4), none⟩, ⟨(some 6), .bin .gtr (.t 5) (.c (.v (.int .i64 12))), none⟩, ⟨(some 2), .mv (.t 6), none⟩])
  .ret))⟩
theorem a_longEv_ok : cFunc Try.prog 70 = some a_longEv := by kernel_rfl

theorem cloneAsg_spec (rows : List (List IV)) (b l : List Row) (ht : rows.length ≤ 1000000) : ACalls Try.prog 88 [.v (.isl 2 rows)] b l (fun r b' l' => r = .v (.isl 2 rows) ∧ b' = b ∧ l' = l) := by
  refine calls_of a_cloneAsg_ok rfl ?_
  intro B hB hR _
  simp only [a_cloneAsg, ↓run_skip, ↓run_region, ↓run_draw, ↓run_seq, ↓run_block, ↓run_exit, ↓run_ret, ↓run_cond, ↓atN_app, ↓seqC_normal, ↓seqC_exit, ↓seqC_ret, ↓seqQ_normal, ↓seqQ_exit, ↓seqQ_ret, ↓blkQ_normal, ↓blkQ_exit, ↓blkQ_ret, ↓runOps_nil, ↓runOps_cons, ↓runD_nil, ↓runD_cons, ↓grdO_true, ↓grdO_false, ↓grdD_true, ↓grdD_false, ↓ifC_true, ↓ifC_false, ↓opS_val, ↓opS_call, ↓opS_two, ↓opK_app, ↓dS_val, ↓dS_call, ↓dS_two, ↓dK_app, rechks_nil, rechks_cons, rechk, gcase_true, gcase_false, ex_val, ex_val0, gd_none, gd_some, nth_zero, nth_succ, upd_zero, upd_succ, put_some, put_none, ev_t, ev_c, evs_nil, evs_cons, evo_some, evo_none, hget_at, hget_first, hsetB_at, hsetB_first, hsetL_at, hsetL_first, ofOpt_some, aop, aload, astore, aslice, aappend, aiaddr, aiaddrA, afaddr, alen, alenS, acopy, amm, acall, apick, binV, binVB, binVS, isSh, intOp, strOp, boolOp, shOp, eqC, eqF, and2, cellsOf, setFrom, fillA, fillS, rd, rdI, elems, mk, bounds, AV.cell, List.all_cons, List.all_nil, Bool.and_true, Bool.true_and, Bool.and_self, List.length_cons, List.length_nil, List.length_append, Nat.reduceAdd, Nat.reduceSub, Nat.reduceMul, Nat.zero_add, Nat.add_zero, List.replicate_succ, List.replicate_zero, List.cons_append, List.nil_append, List.append_assoc, List.append_nil, List.getElem?_cons_zero, List.getElem?_cons_succ, List.getElem?_nil, List.set_cons_zero, List.set_cons_succ, List.drop_zero, List.drop_succ_cons, List.take_zero, List.take_succ_cons, List.take_nil, List.drop_nil, List.map_cons, List.map_nil, Option.map_some, if_true, if_false, Bool.false_eq_true, and_self, true_and, and_true, Nat.reduceLeDiff, Nat.reduceLT, Nat.le_refl, Nat.reduceEqDiff, ite_true, ite_false, beq_self_eq_true, beq_true, beq_false, Bool.not_true, Bool.not_false, Bool.true_beq, Bool.false_beq]
  refine ⟨fun h => leave_zsl (.inr rfl) 2 rfl hR hB ⟨by rw [List.isEmpty_iff.1 h], rfl, rfl⟩, ?_⟩
  rw [if_pos (by simp only [List.length_map, room]; omega)]
  simp only [↓run_skip, ↓run_region, ↓run_draw, ↓run_seq, ↓run_block, ↓run_exit, ↓run_ret, ↓run_cond, ↓atN_app, ↓seqC_normal, ↓seqC_exit, ↓seqC_ret, ↓seqQ_normal, ↓seqQ_exit, ↓seqQ_ret, ↓blkQ_normal, ↓blkQ_exit, ↓blkQ_ret, ↓runOps_nil, ↓runOps_cons, ↓runD_nil, ↓runD_cons, ↓grdO_true, ↓grdO_false, ↓grdD_true, ↓grdD_false, ↓ifC_true, ↓ifC_false, ↓opS_val, ↓opS_call, ↓opS_two, ↓opK_app, ↓dS_val, ↓dS_call, ↓dS_two, ↓dK_app, rechks_nil, rechks_cons, rechk, gcase_true, gcase_false, ex_val, ex_val0, gd_none, gd_some, nth_zero, nth_succ, upd_zero, upd_succ, put_some, put_none, ev_t, ev_c, evs_nil, evs_cons, evo_some, evo_none, hget_at, hget_first, hsetB_at, hsetB_first, hsetL_at, hsetL_first, ofOpt_some, aop, aload, astore, aslice, aappend, aiaddr, aiaddrA, afaddr, alen, alenS, acopy, amm, acall, apick, binV, binVB, binVS, isSh, intOp, strOp, boolOp, shOp, eqC, eqF, and2, cellsOf, setFrom, fillA, fillS, rd, rdI, elems, mk, bounds, AV.cell, List.all_cons, List.all_nil, Bool.and_true, Bool.true_and, Bool.and_self, List.length_cons, List.length_nil, List.length_append, Nat.reduceAdd, Nat.reduceSub, Nat.reduceMul, Nat.zero_add, Nat.add_zero, List.replicate_succ, List.replicate_zero, List.cons_append, List.nil_append, List.append_assoc, List.append_nil, List.getElem?_cons_zero, List.getElem?_cons_succ, List.getElem?_nil, List.set_cons_zero, List.set_cons_succ, List.drop_zero, List.drop_succ_cons, List.take_zero, List.take_succ_cons, List.take_nil, List.drop_nil, List.map_cons, List.map_nil, Option.map_some, if_true, if_false, Bool.false_eq_true, and_self, true_and, and_true, Nat.reduceLeDiff, Nat.reduceLT, Nat.le_refl, Nat.reduceEqDiff, ite_true, ite_false, beq_self_eq_true, beq_true, beq_false, Bool.not_true, Bool.not_false, Bool.true_beq, Bool.false_beq]
  exact leave_frz (i := 0) (.inr rfl) rfl rfl (by simp) hR hB ⟨rfl, rfl, rfl⟩
theorem cloneVar_spec (rows : List (List IV)) (b l : List Row) (ht : rows.length ≤ 1000000) : ACalls Try.prog 124 [.v (.isl 2 rows)] b l (fun r b' l' => r = .v (.isl 2 rows) ∧ b' = b ∧ l' = l) := by
  refine calls_of a_cloneVar_ok rfl ?_
  intro B hB hR _
  simp only [a_cloneVar, ↓run_skip, ↓run_region, ↓run_draw, ↓run_seq, ↓run_block, ↓run_exit, ↓run_ret, ↓run_cond, ↓atN_app, ↓seqC_normal, ↓seqC_exit, ↓seqC_ret, ↓seqQ_normal, ↓seqQ_exit, ↓seqQ_ret, ↓blkQ_normal, ↓blkQ_exit, ↓blkQ_ret, ↓runOps_nil, ↓runOps_cons, ↓runD_nil, ↓runD_cons, ↓grdO_true, ↓grdO_false, ↓grdD_true, ↓grdD_false, ↓ifC_true, ↓ifC_false, ↓opS_val, ↓opS_call, ↓opS_two, ↓opK_app, ↓dS_val, ↓dS_call, ↓dS_two, ↓dK_app, rechks_nil, rechks_cons, rechk, gcase_true, gcase_false, ex_val, ex_val0, gd_none, gd_some, nth_zero, nth_succ, upd_zero, upd_succ, put_some, put_none, ev_t, ev_c, evs_nil, evs_cons, evo_some, evo_none, hget_at, hget_first, hsetB_at, hsetB_first, hsetL_at, hsetL_first, ofOpt_some, aop, aload, astore, aslice, aappend, aiaddr, aiaddrA, afaddr, alen, alenS, acopy, amm, acall, apick, binV, binVB, binVS, isSh, intOp, strOp, boolOp, shOp, eqC, eqF, and2, cellsOf, setFrom, fillA, fillS, rd, rdI, elems, mk, bounds, AV.cell, List.all_cons, List.all_nil, Bool.and_true, Bool.true_and, Bool.and_self, List.length_cons, List.length_nil, List.length_append, Nat.reduceAdd, Nat.reduceSub, Nat.reduceMul, Nat.zero_add, Nat.add_zero, List.replicate_succ, List.replicate_zero, List.cons_append, List.nil_append, List.append_assoc, List.append_nil, List.getElem?_cons_zero, List.getElem?_cons_succ, List.getElem?_nil, List.set_cons_zero, List.set_cons_succ, List.drop_zero, List.drop_succ_cons, List.take_zero, List.take_succ_cons, List.take_nil, List.drop_nil, List.map_cons, List.map_nil, Option.map_some, if_true, if_false, Bool.false_eq_true, and_self, true_and, and_true, Nat.reduceLeDiff, Nat.reduceLT, Nat.le_refl, Nat.reduceEqDiff, ite_true, ite_false, beq_self_eq_true, beq_true, beq_false, Bool.not_true, Bool.not_false, Bool.true_beq, Bool.false_beq]
  refine ⟨fun h => leave_zsl (.inr rfl) 2 rfl hR hB ⟨by rw [List.isEmpty_iff.1 h], rfl, rfl⟩, ?_⟩
  rw [if_pos (by simp only [List.length_map, room]; omega)]
  simp only [↓run_skip, ↓run_region, ↓run_draw, ↓run_seq, ↓run_block, ↓run_exit, ↓run_ret, ↓run_cond, ↓atN_app, ↓seqC_normal, ↓seqC_exit, ↓seqC_ret, ↓seqQ_normal, ↓seqQ_exit, ↓seqQ_ret, ↓blkQ_normal, ↓blkQ_exit, ↓blkQ_ret, ↓runOps_nil, ↓runOps_cons, ↓runD_nil, ↓runD_cons, ↓grdO_true, ↓grdO_false, ↓grdD_true, ↓grdD_false, ↓ifC_true, ↓ifC_false, ↓opS_val, ↓opS_call, ↓opS_two, ↓opK_app, ↓dS_val, ↓dS_call, ↓dS_two, ↓dK_app, rechks_nil, rechks_cons, rechk, gcase_true, gcase_false, ex_val, ex_val0, gd_none, gd_some, nth_zero, nth_succ, upd_zero, upd_succ, put_some, put_none, ev_t, ev_c, evs_nil, evs_cons, evo_some, evo_none, hget_at, hget_first, hsetB_at, hsetB_first, hsetL_at, hsetL_first, ofOpt_some, aop, aload, astore, aslice, aappend, aiaddr, aiaddrA, afaddr, alen, alenS, acopy, amm, acall, apick, binV, binVB, binVS, isSh, intOp, strOp, boolOp, shOp, eqC, eqF, and2, cellsOf, setFrom, fillA, fillS, rd, rdI, elems, mk, bounds, AV.cell, List.all_cons, List.all_nil, Bool.and_true, Bool.true_and, Bool.and_self, List.length_cons, List.length_nil, List.length_append, Nat.reduceAdd, Nat.reduceSub, Nat.reduceMul, Nat.zero_add, Nat.add_zero, List.replicate_succ, List.replicate_zero, List.cons_append, List.nil_append, List.append_assoc, List.append_nil, List.getElem?_cons_zero, List.getElem?_cons_succ, List.getElem?_nil, List.set_cons_zero, List.set_cons_succ, List.drop_zero, List.drop_succ_cons, List.take_zero, List.take_succ_cons, List.take_nil, List.drop_nil, List.map_cons, List.map_nil, Option.map_some, if_true, if_false, Bool.false_eq_true, and_self, true_and, and_true, Nat.reduceLeDiff, Nat.reduceLT, Nat.le_refl, Nat.reduceEqDiff, ite_true, ite_false, beq_self_eq_true, beq_true, beq_false, Bool.not_true, Bool.not_false, Bool.true_beq, Bool.false_beq]
  exact leave_frz (i := 0) (.inr rfl) rfl rfl (by simp) hR hB ⟨rfl, rfl, rfl⟩
theorem longVar_spec (v : Vr) (b l : List Row) : ACalls Try.prog 68 [.agg ((eVr v).map .v)] b l (fun r b' l' => r = .v (.bool (decide ((v.name.size : Int) > 30))) ∧ b' = b ∧ l' = l) := by
  refine calls_of a_longVar_ok rfl ?_
  intro B hB hR _
  simp only [a_longVar, eVr, ↓run_skip, ↓run_region, ↓run_draw, ↓run_seq, ↓run_block, ↓run_exit, ↓run_ret, ↓run_cond, ↓atN_app, ↓seqC_normal, ↓seqC_exit, ↓seqC_ret, ↓seqQ_normal, ↓seqQ_exit, ↓seqQ_ret, ↓blkQ_normal, ↓blkQ_exit, ↓blkQ_ret, ↓runOps_nil, ↓runOps_cons, ↓runD_nil, ↓runD_cons, ↓grdO_true, ↓grdO_false, ↓grdD_true, ↓grdD_false, ↓ifC_true, ↓ifC_false, ↓opS_val, ↓opS_call, ↓opS_two, ↓opK_app, ↓dS_val, ↓dS_call, ↓dS_two, ↓dK_app, rechks_nil, rechks_cons, rechk, gcase_true, gcase_false, ex_val, ex_val0, gd_none, gd_some, nth_zero, nth_succ, upd_zero, upd_succ, put_some, put_none, ev_t, ev_c, evs_nil, evs_cons, evo_some, evo_none, hget_at, hget_first, hsetB_at, hsetB_first, hsetL_at, hsetL_first, ofOpt_some, aop, aload, astore, aslice, aappend, aiaddr, aiaddrA, afaddr, alen, alenS, acopy, amm, acall, apick, binV, binVB, binVS, isSh, intOp, strOp, boolOp, shOp, eqC, eqF, and2, cellsOf, setFrom, fillA, fillS, rd, rdI, elems, mk, bounds, AV.cell, List.all_cons, List.all_nil, Bool.and_true, Bool.true_and, Bool.and_self, List.length_cons, List.length_nil, List.length_append, Nat.reduceAdd, Nat.reduceSub, Nat.reduceMul, Nat.zero_add, Nat.add_zero, List.replicate_succ, List.replicate_zero, List.cons_append, List.nil_append, List.append_assoc, List.append_nil, List.getElem?_cons_zero, List.getElem?_cons_succ, List.getElem?_nil, List.set_cons_zero, List.set_cons_succ, List.drop_zero, List.drop_succ_cons, List.take_zero, List.take_succ_cons, List.take_nil, List.drop_nil, List.map_cons, List.map_nil, Option.map_some, if_true, if_false, Bool.false_eq_true, and_self, true_and, and_true, Nat.reduceLeDiff, Nat.reduceLT, Nat.le_refl, Nat.reduceEqDiff, ite_true, ite_false, beq_self_eq_true, beq_true, beq_false, Bool.not_true, Bool.not_false, Bool.true_beq, Bool.false_beq]
  exact leave_pure (.inr rfl) rfl (.v _) hR hB ⟨rfl, rfl, rfl⟩
theorem longEv_spec (v : Ev) (b l : List Row) : ACalls Try.prog 70 [.agg ((eEv v).map .v)] b l (fun r b' l' => r = .v (.bool (decide ((v.asg.length : Int) > 12))) ∧ b' = b ∧ l' = l) := by
  refine calls_of a_longEv_ok rfl ?_
  intro B hB hR _
  simp only [a_longEv, eEv, ↓run_skip, ↓run_region, ↓run_draw, ↓run_seq, ↓run_block, ↓run_exit, ↓run_ret, ↓run_cond, ↓atN_app, ↓seqC_normal, ↓seqC_exit, ↓seqC_ret, ↓seqQ_normal, ↓seqQ_exit, ↓seqQ_ret, ↓blkQ_normal, ↓blkQ_exit, ↓blkQ_ret, ↓runOps_nil, ↓runOps_cons, ↓runD_nil, ↓runD_cons, ↓grdO_true, ↓grdO_false, ↓grdD_true, ↓grdD_false, ↓ifC_true, ↓ifC_false, ↓opS_val, ↓opS_call, ↓opS_two, ↓opK_app, ↓dS_val, ↓dS_call, ↓dS_two, ↓dK_app, rechks_nil, rechks_cons, rechk, gcase_true, gcase_false, ex_val, ex_val0, gd_none, gd_some, nth_zero, nth_succ, upd_zero, upd_succ, put_some, put_none, ev_t, ev_c, evs_nil, evs_cons, evo_some, evo_none, hget_at, hget_first, hsetB_at, hsetB_first, hsetL_at, hsetL_first, ofOpt_some, aop, aload, astore, aslice, aappend, aiaddr, aiaddrA, afaddr, alen, alenS, acopy, amm, acall, apick, binV, binVB, binVS, isSh, intOp, strOp, boolOp, shOp, eqC, eqF, and2, cellsOf, setFrom, fillA, fillS, rd, rdI, elems, mk, bounds, AV.cell, List.all_cons, List.all_nil, Bool.and_true, Bool.true_and, Bool.and_self, List.length_cons, List.length_nil, List.length_append, Nat.reduceAdd, Nat.reduceSub, Nat.reduceMul, Nat.zero_add, Nat.add_zero, List.replicate_succ, List.replicate_zero, List.cons_append, List.nil_append, List.append_assoc, List.append_nil, List.getElem?_cons_zero, List.getElem?_cons_succ, List.getElem?_nil, List.set_cons_zero, List.set_cons_succ, List.drop_zero, List.drop_succ_cons, List.take_zero, List.take_succ_cons, List.take_nil, List.drop_nil, List.map_cons, List.map_nil, Option.map_some, if_true, if_false, Bool.false_eq_true, and_self, true_and, and_true, Nat.reduceLeDiff, Nat.reduceLT, Nat.le_refl, Nat.reduceEqDiff, ite_true, ite_false, beq_self_eq_true, beq_true, beq_false, Bool.not_true, Bool.not_false, Bool.true_beq, Bool.false_beq]
  exact leave_pure (.inr rfl) rfl (.v _) hR hB ⟨by simp [nth, one], rfl, rfl⟩

/-! IndexFunc, ContainsFunc of slices of structs. -/
def a_indexN (sz : Nat) : AFunc := ⟨2, 19, [.tmp 4],
  (.seq (.region [⟨(some 4), .mv (.c (.v (.int .i64 0))), none⟩])
  (.seq (.seq (.region [⟨(some 6), .mv (.t 0), none⟩, ⟨(some 7), .len (.t 6), none⟩, ⟨(some 8), .mv (.c (.v (.int .i64 0))), none⟩])
  (.block 0 (.loop (.seq (.region [⟨(some 9), .bin .lss (.t 8) (.t 7), none⟩])
  (.seq (.cond (.t 9) .skip
  (.exit 0))
  (.seq (.block 1 (.seq (.region [⟨(some 10), .mv (.t 8), none⟩, ⟨(some 5), .mv (.t 10), none⟩])
  (.seq (.region [⟨(some 11), .mv (.t 1), none⟩, ⟨(some 12), .mv (.t 0), none⟩, ⟨(some 13), .mv (.t 5), none⟩, ⟨(some 14), .iaddr sz (.t 12) (.t 13), none⟩, ⟨(some 15), .load (some sz) (.t 14), none⟩, ⟨(some 16), .call (.t 11) [(.t 15)], none⟩])
  (.cond (.t 16) (.seq (.region [⟨(some 17), .mv (.t 5), none⟩, ⟨(some 4), .mv (.t 17), none⟩])
  .ret)
  .skip))))
  (.region [⟨(some 18), .bin .add (.t 8) (.c (.v (.int .i64 1))), none⟩, ⟨(some 8), .mv (.t 18), none⟩])))))))
  (.seq (.region [⟨(some 4), .mv (.c (.v (.int .i64 (-1)))), none⟩])
  .ret)))⟩
def a_containsN (g : Nat) : AFunc := ⟨2, 9, [.tmp 4],
  (.seq (.region [⟨(some 4), .mv (.c (.v (.bool false))), none⟩])
  (.seq (.region [⟨(some 5), .mv (.t 0), none⟩, ⟨(some 6), .mv (.t 1), none⟩, ⟨(some 7), .call (.c (.fn g [])) [(.t 5), (.t 6)], none⟩, ⟨(some 8), .bin .geq (.t 7) (.c (.v (.int .i64 0))), none⟩, ⟨(some 4), .mv (.t 8), none⟩])
  .ret))⟩
theorem a_index3_ok : cFunc Try.prog 125 = some (a_indexN 3) := by kernel_rfl
theorem a_index5_ok : cFunc Try.prog 43 = some (a_indexN 5) := by kernel_rfl
theorem a_index2_ok : cFunc Try.prog 111 = some (a_indexN 2) := by kernel_rfl
theorem a_contains2_ok : cFunc Try.prog 67 = some (a_containsN 111) := by kernel_rfl
theorem a_contains5_ok : cFunc Try.prog 69 = some (a_containsN 43) := by kernel_rfl

def wIdx (p : Nat → Bool) (n : Nat) : Int := match (List.range n).find? p with
  | some i => i
  | none => -1
theorem wIdx_at {p : Nat → Bool} {n i : Nat} (h : i < n) (h0 : ∀ j, j < i → p j = false) (hi : p i = true) : wIdx p n = i := by
  have hf : (List.range n).find? p = some i := by
    rw [show n = i + (1 + (n - i - 1)) by omega, List.range_add, List.find?_append]
    have : (List.range i).find? p = none := by
      rw [List.find?_eq_none]; intro q hq; simp [h0 q (List.mem_range.1 hq)]
    rw [this, Nat.add_comm 1, List.range_succ_eq_map]
    simp [hi]
  unfold wIdx; rw [hf]
theorem wIdx_none {p : Nat → Bool} {n : Nat} (h0 : ∀ j, j < n → p j = false) : wIdx p n = -1 := by
  have : (List.range n).find? p = none := by
    rw [List.find?_eq_none]; intro q hq; simp [h0 q (List.mem_range.1 hq)]
  unfold wIdx; rw [this]
theorem index_spec {P : Program} {f sz : Nat} (hf : cFunc P f = some (a_indexN sz)) (rows : List (List IV)) (k : Nat) (caps : List AV) (p : Nat → Bool) (hlen : ∀ row ∈ rows, row.length = sz) (hn : rows.length ≤ 1000000) (b l : List Row)
    (hp : ∀ (i : Nat) (row : List IV), rows[i]? = some row → ACalls P k ([.agg (row.map .v)] ++ caps) (b ++ l) [] (fun r b' l' => r = .v (.bool (p i)) ∧ b' = b ++ l ∧ l' = [])) :
    ACalls P f [.v (.isl sz rows), .fn k caps] b l (fun r b' l' => r = .v (.int .i64 (wIdx p rows.length)) ∧ b' = b ∧ l' = l) := by
  refine calls_of hf rfl ?_
  intro B hB hR hA
  simp only [a_indexN, ↓run_skip, ↓run_region, ↓run_draw, ↓run_seq, ↓run_block, ↓run_exit, ↓run_ret, ↓run_cond, ↓atN_app, ↓seqC_normal, ↓seqC_exit, ↓seqC_ret, ↓seqQ_normal, ↓seqQ_exit, ↓seqQ_ret, ↓blkQ_normal, ↓blkQ_exit, ↓blkQ_ret, ↓runOps_nil, ↓runOps_cons, ↓runD_nil, ↓runD_cons, ↓grdO_true, ↓grdO_false, ↓grdD_true, ↓grdD_false, ↓ifC_true, ↓ifC_false, ↓opS_val, ↓opS_call, ↓opS_two, ↓opK_app, ↓dS_val, ↓dS_call, ↓dS_two, ↓dK_app, rechks_nil, rechks_cons, rechk, gcase_true, gcase_false, ex_val, ex_val0, gd_none, gd_some, nth_zero, nth_succ, upd_zero, upd_succ, put_some, put_none, ev_t, ev_c, evs_nil, evs_cons, evo_some, evo_none, hget_at, hget_first, hsetB_at, hsetB_first, hsetL_at, hsetL_first, ofOpt_some, aop, aload, astore, aslice, aappend, aiaddr, aiaddrA, afaddr, alen, alenS, acopy, amm, acall, apick, binV, binVB, binVS, isSh, intOp, strOp, boolOp, shOp, eqC, eqF, and2, cellsOf, setFrom, fillA, fillS, rd, rdI, elems, mk, bounds, AV.cell, List.all_cons, List.all_nil, Bool.and_true, Bool.true_and, Bool.and_self, List.length_cons, List.length_nil, List.length_append, Nat.reduceAdd, Nat.reduceSub, Nat.reduceMul, Nat.zero_add, Nat.add_zero, List.replicate_succ, List.replicate_zero, List.cons_append, List.nil_append, List.append_assoc, List.append_nil, List.getElem?_cons_zero, List.getElem?_cons_succ, List.getElem?_nil, List.set_cons_zero, List.set_cons_succ, List.drop_zero, List.drop_succ_cons, List.take_zero, List.take_succ_cons, List.take_nil, List.drop_nil, List.map_cons, List.map_nil, Option.map_some, if_true, if_false, Bool.false_eq_true, and_self, true_and, and_true, Nat.reduceLeDiff, Nat.reduceLT, Nat.le_refl, Nat.reduceEqDiff, ite_true, ite_false, beq_self_eq_true, beq_true, beq_false, Bool.not_true, Bool.not_false, Bool.true_beq, Bool.false_beq]
  refine loop_rule (ι := Nat) (fun i => [.v (.isl sz rows), .fn k caps, .any, .any, .any, .any, .any, .v (.int .i64 rows.length), .v (.int .i64 i), .any, .any, .any, .any, .any, .any, .any, .any, .any, .any])
    (fun _ => B) (fun _ => []) (fun i => i ≤ rows.length ∧ ∀ j, j < i → p j = false) (fun i => rows.length - i) 0 ⟨Nat.zero_le _, fun j hj => by omega⟩ (Weak.forget (by simp [Fgt])) ?_
  rintro i ⟨hi, h0⟩
  by_cases hlt : i < rows.length
  · have hl := hlen rows[i] (List.getElem_mem hlt)
    have ht : List.take sz rows[i] = rows[i] := List.take_of_length_le (by omega)
    simp (disch := omega) only [ht, ↓run_skip, ↓run_region, ↓run_draw, ↓run_seq, ↓run_block, ↓run_exit, ↓run_ret, ↓run_cond, ↓atN_app, ↓seqC_normal, ↓seqC_exit, ↓seqC_ret, ↓seqQ_normal, ↓seqQ_exit, ↓seqQ_ret, ↓blkQ_normal, ↓blkQ_exit, ↓blkQ_ret, ↓runOps_nil, ↓runOps_cons, ↓runD_nil, ↓runD_cons, ↓grdO_true, ↓grdO_false, ↓grdD_true, ↓grdD_false, ↓ifC_true, ↓ifC_false, ↓opS_val, ↓opS_call, ↓opS_two, ↓opK_app, ↓dS_val, ↓dS_call, ↓dS_two, ↓dK_app, rechks_nil, rechks_cons, rechk, gcase_true, gcase_false, ex_val, ex_val0, gd_none, gd_some, nth_zero, nth_succ, upd_zero, upd_succ, put_some, put_none, ev_t, ev_c, evs_nil, evs_cons, evo_some, evo_none, hget_at, hget_first, hsetB_at, hsetB_first, hsetL_at, hsetL_first, ofOpt_some, aop, aload, astore, aslice, aappend, aiaddr, aiaddrA, afaddr, alen, alenS, acopy, amm, acall, apick, binV, binVB, binVS, isSh, intOp, strOp, boolOp, shOp, eqC, eqF, and2, cellsOf, setFrom, fillA, fillS, rd, rdI, elems, mk, bounds, AV.cell, List.all_cons, List.all_nil, Bool.and_true, Bool.true_and, Bool.and_self, List.length_cons, List.length_nil, List.length_append, Nat.reduceAdd, Nat.reduceSub, Nat.reduceMul, Nat.zero_add, Nat.add_zero, List.replicate_succ, List.replicate_zero, List.cons_append, List.nil_append, List.append_assoc, List.append_nil, List.getElem?_cons_zero, List.getElem?_cons_succ, List.getElem?_nil, List.set_cons_zero, List.set_cons_succ, List.drop_zero, List.drop_succ_cons, List.take_zero, List.take_succ_cons, List.take_nil, List.drop_nil, List.map_cons, List.map_nil, Option.map_some, if_true, if_false, Bool.false_eq_true, and_self, true_and, and_true, Nat.reduceLeDiff, Nat.reduceLT, Nat.le_refl, Nat.reduceEqDiff, ite_true, ite_false, beq_self_eq_true, beq_true, beq_false, Bool.not_true, Bool.not_false, Bool.true_beq, Bool.false_beq, map_vs, vs_len, vs_get, vs_take, vs_drop, vs_snoc1, vs_snoc2, vs_snoc3, vs_snoc5, vs_set1, vs_set2, vs_rep, wrap_id, le_T, lt_T, le_F, lt_F, leI_T, ltI_T, leI_F, ltI_F, geI, gtI, get_T, decide_true, decide_false, room, List.getElem?_map, List.length_map, List.length_take, Int.toNat_natCast, Nat.min_def, Nat.min_self]
    refine ACalls_mono _ _ _ _ _ _ (hB ▸ hp i rows[i] (List.getElem?_eq_getElem hlt)) ?_
    rintro r b' l' ⟨rfl, rfl, rfl⟩
    simp (disch := omega) only [↓run_skip, ↓run_region, ↓run_draw, ↓run_seq, ↓run_block, ↓run_exit, ↓run_ret, ↓run_cond, ↓atN_app, ↓seqC_normal, ↓seqC_exit, ↓seqC_ret, ↓seqQ_normal, ↓seqQ_exit, ↓seqQ_ret, ↓blkQ_normal, ↓blkQ_exit, ↓blkQ_ret, ↓runOps_nil, ↓runOps_cons, ↓runD_nil, ↓runD_cons, ↓grdO_true, ↓grdO_false, ↓grdD_true, ↓grdD_false, ↓ifC_true, ↓ifC_false, ↓opS_val, ↓opS_call, ↓opS_two, ↓opK_app, ↓dS_val, ↓dS_call, ↓dS_two, ↓dK_app, rechks_nil, rechks_cons, rechk, gcase_true, gcase_false, ex_val, ex_val0, gd_none, gd_some, nth_zero, nth_succ, upd_zero, upd_succ, put_some, put_none, ev_t, ev_c, evs_nil, evs_cons, evo_some, evo_none, hget_at, hget_first, hsetB_at, hsetB_first, hsetL_at, hsetL_first, ofOpt_some, aop, aload, astore, aslice, aappend, aiaddr, aiaddrA, afaddr, alen, alenS, acopy, amm, acall, apick, binV, binVB, binVS, isSh, intOp, strOp, boolOp, shOp, eqC, eqF, and2, cellsOf, setFrom, fillA, fillS, rd, rdI, elems, mk, bounds, AV.cell, List.all_cons, List.all_nil, Bool.and_true, Bool.true_and, Bool.and_self, List.length_cons, List.length_nil, List.length_append, Nat.reduceAdd, Nat.reduceSub, Nat.reduceMul, Nat.zero_add, Nat.add_zero, List.replicate_succ, List.replicate_zero, List.cons_append, List.nil_append, List.append_assoc, List.append_nil, List.getElem?_cons_zero, List.getElem?_cons_succ, List.getElem?_nil, List.set_cons_zero, List.set_cons_succ, List.drop_zero, List.drop_succ_cons, List.take_zero, List.take_succ_cons, List.take_nil, List.drop_nil, List.map_cons, List.map_nil, Option.map_some, if_true, if_false, Bool.false_eq_true, and_self, true_and, and_true, Nat.reduceLeDiff, Nat.reduceLT, Nat.le_refl, Nat.reduceEqDiff, ite_true, ite_false, beq_self_eq_true, beq_true, beq_false, Bool.not_true, Bool.not_false, Bool.true_beq, Bool.false_beq, map_vs, vs_len, vs_get, vs_take, vs_drop, vs_snoc1, vs_snoc2, vs_snoc3, vs_snoc5, vs_set1, vs_set2, vs_rep, wrap_id, le_T, lt_T, le_F, lt_F, leI_T, ltI_T, leI_F, ltI_F, geI, gtI, get_T, decide_true, decide_false, room, List.getElem?_map, List.length_map, List.length_take, Int.toNat_natCast, Nat.min_def, Nat.min_self]
    refine ifC_split (fun h => ?_) (fun h => ?_)
    · simp (disch := omega) only [↓run_skip, ↓run_region, ↓run_draw, ↓run_seq, ↓run_block, ↓run_exit, ↓run_ret, ↓run_cond, ↓atN_app, ↓seqC_normal, ↓seqC_exit, ↓seqC_ret, ↓seqQ_normal, ↓seqQ_exit, ↓seqQ_ret, ↓blkQ_normal, ↓blkQ_exit, ↓blkQ_ret, ↓runOps_nil, ↓runOps_cons, ↓runD_nil, ↓runD_cons, ↓grdO_true, ↓grdO_false, ↓grdD_true, ↓grdD_false, ↓ifC_true, ↓ifC_false, ↓opS_val, ↓opS_call, ↓opS_two, ↓opK_app, ↓dS_val, ↓dS_call, ↓dS_two, ↓dK_app, rechks_nil, rechks_cons, rechk, gcase_true, gcase_false, ex_val, ex_val0, gd_none, gd_some, nth_zero, nth_succ, upd_zero, upd_succ, put_some, put_none, ev_t, ev_c, evs_nil, evs_cons, evo_some, evo_none, hget_at, hget_first, hsetB_at, hsetB_first, hsetL_at, hsetL_first, ofOpt_some, aop, aload, astore, aslice, aappend, aiaddr, aiaddrA, afaddr, alen, alenS, acopy, amm, acall, apick, binV, binVB, binVS, isSh, intOp, strOp, boolOp, shOp, eqC, eqF, and2, cellsOf, setFrom, fillA, fillS, rd, rdI, elems, mk, bounds, AV.cell, List.all_cons, List.all_nil, Bool.and_true, Bool.true_and, Bool.and_self, List.length_cons, List.length_nil, List.length_append, Nat.reduceAdd, Nat.reduceSub, Nat.reduceMul, Nat.zero_add, Nat.add_zero, List.replicate_succ, List.replicate_zero, List.cons_append, List.nil_append, List.append_assoc, List.append_nil, List.getElem?_cons_zero, List.getElem?_cons_succ, List.getElem?_nil, List.set_cons_zero, List.set_cons_succ, List.drop_zero, List.drop_succ_cons, List.take_zero, List.take_succ_cons, List.take_nil, List.drop_nil, List.map_cons, List.map_nil, Option.map_some, if_true, if_false, Bool.false_eq_true, and_self, true_and, and_true, Nat.reduceLeDiff, Nat.reduceLT, Nat.le_refl, Nat.reduceEqDiff, ite_true, ite_false, beq_self_eq_true, beq_true, beq_false, Bool.not_true, Bool.not_false, Bool.true_beq, Bool.false_beq, map_vs, vs_len, vs_get, vs_take, vs_drop, vs_snoc1, vs_snoc2, vs_snoc3, vs_snoc5, vs_set1, vs_set2, vs_rep, wrap_id, le_T, lt_T, le_F, lt_F, leI_T, ltI_T, leI_F, ltI_F, geI, gtI, get_T, decide_true, decide_false, room, List.getElem?_map, List.length_map, List.length_take, Int.toNat_natCast, Nat.min_def, Nat.min_self]
      exact leave_pure (.inr rfl) rfl (.v _) hR hB ⟨by rw [wIdx_at hlt h0 h]; rfl, rfl, rfl⟩
    · simp (disch := omega) only [↓run_skip, ↓run_region, ↓run_draw, ↓run_seq, ↓run_block, ↓run_exit, ↓run_ret, ↓run_cond, ↓atN_app, ↓seqC_normal, ↓seqC_exit, ↓seqC_ret, ↓seqQ_normal, ↓seqQ_exit, ↓seqQ_ret, ↓blkQ_normal, ↓blkQ_exit, ↓blkQ_ret, ↓runOps_nil, ↓runOps_cons, ↓runD_nil, ↓runD_cons, ↓grdO_true, ↓grdO_false, ↓grdD_true, ↓grdD_false, ↓ifC_true, ↓ifC_false, ↓opS_val, ↓opS_call, ↓opS_two, ↓opK_app, ↓dS_val, ↓dS_call, ↓dS_two, ↓dK_app, rechks_nil, rechks_cons, rechk, gcase_true, gcase_false, ex_val, ex_val0, gd_none, gd_some, nth_zero, nth_succ, upd_zero, upd_succ, put_some, put_none, ev_t, ev_c, evs_nil, evs_cons, evo_some, evo_none, hget_at, hget_first, hsetB_at, hsetB_first, hsetL_at, hsetL_first, ofOpt_some, aop, aload, astore, aslice, aappend, aiaddr, aiaddrA, afaddr, alen, alenS, acopy, amm, acall, apick, binV, binVB, binVS, isSh, intOp, strOp, boolOp, shOp, eqC, eqF, and2, cellsOf, setFrom, fillA, fillS, rd, rdI, elems, mk, bounds, AV.cell, List.all_cons, List.all_nil, Bool.and_true, Bool.true_and, Bool.and_self, List.length_cons, List.length_nil, List.length_append, Nat.reduceAdd, Nat.reduceSub, Nat.reduceMul, Nat.zero_add, Nat.add_zero, List.replicate_succ, List.replicate_zero, List.cons_append, List.nil_append, List.append_assoc, List.append_nil, List.getElem?_cons_zero, List.getElem?_cons_succ, List.getElem?_nil, List.set_cons_zero, List.set_cons_succ, List.drop_zero, List.drop_succ_cons, List.take_zero, List.take_succ_cons, List.take_nil, List.drop_nil, List.map_cons, List.map_nil, Option.map_some, if_true, if_false, Bool.false_eq_true, and_self, true_and, and_true, Nat.reduceLeDiff, Nat.reduceLT, Nat.le_refl, Nat.reduceEqDiff, ite_true, ite_false, beq_self_eq_true, beq_true, beq_false, Bool.not_true, Bool.not_false, Bool.true_beq, Bool.false_beq, map_vs, vs_len, vs_get, vs_take, vs_drop, vs_snoc1, vs_snoc2, vs_snoc3, vs_snoc5, vs_set1, vs_set2, vs_rep, wrap_id, le_T, lt_T, le_F, lt_F, leI_T, ltI_T, leI_F, ltI_F, geI, gtI, get_T, decide_true, decide_false, room, List.getElem?_map, List.length_map, List.length_take, Int.toNat_natCast, Nat.min_def, Nat.min_self]
      refine ⟨i + 1, ⟨hlt, fun j hj => ?_⟩, by simp only; omega, Weak.forget (by simp [Fgt])⟩
      rcases Nat.lt_or_ge j i with hji | hji
      · exact h0 j hji
      · have : j = i := by omega
        rw [this]; exact h
  · simp (disch := omega) only [↓run_skip, ↓run_region, ↓run_draw, ↓run_seq, ↓run_block, ↓run_exit, ↓run_ret, ↓run_cond, ↓atN_app, ↓seqC_normal, ↓seqC_exit, ↓seqC_ret, ↓seqQ_normal, ↓seqQ_exit, ↓seqQ_ret, ↓blkQ_normal, ↓blkQ_exit, ↓blkQ_ret, ↓runOps_nil, ↓runOps_cons, ↓runD_nil, ↓runD_cons, ↓grdO_true, ↓grdO_false, ↓grdD_true, ↓grdD_false, ↓ifC_true, ↓ifC_false, ↓opS_val, ↓opS_call, ↓opS_two, ↓opK_app, ↓dS_val, ↓dS_call, ↓dS_two, ↓dK_app, rechks_nil, rechks_cons, rechk, gcase_true, gcase_false, ex_val, ex_val0, gd_none, gd_some, nth_zero, nth_succ, upd_zero, upd_succ, put_some, put_none, ev_t, ev_c, evs_nil, evs_cons, evo_some, evo_none, hget_at, hget_first, hsetB_at, hsetB_first, hsetL_at, hsetL_first, ofOpt_some, aop, aload, astore, aslice, aappend, aiaddr, aiaddrA, afaddr, alen, alenS, acopy, amm, acall, apick, binV, binVB, binVS, isSh, intOp, strOp, boolOp, shOp, eqC, eqF, and2, cellsOf, setFrom, fillA, fillS, rd, rdI, elems, mk, bounds, AV.cell, List.all_cons, List.all_nil, Bool.and_true, Bool.true_and, Bool.and_self, List.length_cons, List.length_nil, List.length_append, Nat.reduceAdd, Nat.reduceSub, Nat.reduceMul, Nat.zero_add, Nat.add_zero, List.replicate_succ, List.replicate_zero, List.cons_append, List.nil_append, List.append_assoc, List.append_nil, List.getElem?_cons_zero, List.getElem?_cons_succ, List.getElem?_nil, List.set_cons_zero, List.set_cons_succ, List.drop_zero, List.drop_succ_cons, List.take_zero, List.take_succ_cons, List.take_nil, List.drop_nil, List.map_cons, List.map_nil, Option.map_some, if_true, if_false, Bool.false_eq_true, and_self, true_and, and_true, Nat.reduceLeDiff, Nat.reduceLT, Nat.le_refl, Nat.reduceEqDiff, ite_true, ite_false, beq_self_eq_true, beq_true, beq_false, Bool.not_true, Bool.not_false, Bool.true_beq, Bool.false_beq, map_vs, vs_len, vs_get, vs_take, vs_drop, vs_snoc1, vs_snoc2, vs_snoc3, vs_snoc5, vs_set1, vs_set2, vs_rep, wrap_id, le_T, lt_T, le_F, lt_F, leI_T, ltI_T, leI_F, ltI_F, geI, gtI, get_T, decide_true, decide_false, room, List.getElem?_map, List.length_map, List.length_take, Int.toNat_natCast, Nat.min_def, Nat.min_self]
    obtain rfl : i = rows.length := by omega
    exact leave_pure (.inr rfl) rfl (.v _) hR hB ⟨by rw [wIdx_none h0]; rfl, rfl, rfl⟩

theorem wIdx_ge {p : Nat → Bool} {n : Nat} : decide (wIdx p n ≥ 0) = (List.range n).any p := by
  unfold wIdx
  cases h : (List.range n).find? p with
  | none =>
    have := List.find?_eq_none.1 h
    have hn : (List.range n).any p = false := by rw [List.any_eq_false]; exact this
    rw [hn]; rfl
  | some i =>
    have h1 := List.find?_some h
    have h2 := List.mem_of_find?_eq_some h
    have hn : (List.range n).any p = true := List.any_eq_true.2 ⟨i, h2, h1⟩
    rw [hn]; simp

theorem contains_spec {P : Program} {f g sz : Nat} (hf : cFunc P f = some (a_containsN g)) (hg : cFunc P g = some (a_indexN sz)) (rows : List (List IV)) (k : Nat) (caps : List AV) (p : Nat → Bool) (hlen : ∀ row ∈ rows, row.length = sz) (hn : rows.length ≤ 1000000) (b l : List Row)
    (hp : ∀ (i : Nat) (row : List IV), rows[i]? = some row → ACalls P k ([.agg (row.map .v)] ++ caps) (b ++ l) [] (fun r b' l' => r = .v (.bool (p i)) ∧ b' = b ++ l ∧ l' = [])) :
    ACalls P f [.v (.isl sz rows), .fn k caps] b l (fun r b' l' => r = .v (.bool ((List.range rows.length).any p)) ∧ b' = b ∧ l' = l) := by
  refine calls_of hf rfl ?_
  intro B hB hR hA
  simp only [a_containsN, ↓run_skip, ↓run_region, ↓run_draw, ↓run_seq, ↓run_block, ↓run_exit, ↓run_ret, ↓run_cond, ↓atN_app, ↓seqC_normal, ↓seqC_exit, ↓seqC_ret, ↓seqQ_normal, ↓seqQ_exit, ↓seqQ_ret, ↓blkQ_normal, ↓blkQ_exit, ↓blkQ_ret, ↓runOps_nil, ↓runOps_cons, ↓runD_nil, ↓runD_cons, ↓grdO_true, ↓grdO_false, ↓grdD_true, ↓grdD_false, ↓ifC_true, ↓ifC_false, ↓opS_val, ↓opS_call, ↓opS_two, ↓opK_app, ↓dS_val, ↓dS_call, ↓dS_two, ↓dK_app, rechks_nil, rechks_cons, rechk, gcase_true, gcase_false, ex_val, ex_val0, gd_none, gd_some, nth_zero, nth_succ, upd_zero, upd_succ, put_some, put_none, ev_t, ev_c, evs_nil, evs_cons, evo_some, evo_none, hget_at, hget_first, hsetB_at, hsetB_first, hsetL_at, hsetL_first, ofOpt_some, aop, aload, astore, aslice, aappend, aiaddr, aiaddrA, afaddr, alen, alenS, acopy, amm, acall, apick, binV, binVB, binVS, isSh, intOp, strOp, boolOp, shOp, eqC, eqF, and2, cellsOf, setFrom, fillA, fillS, rd, rdI, elems, mk, bounds, AV.cell, List.all_cons, List.all_nil, Bool.and_true, Bool.true_and, Bool.and_self, List.length_cons, List.length_nil, List.length_append, Nat.reduceAdd, Nat.reduceSub, Nat.reduceMul, Nat.zero_add, Nat.add_zero, List.replicate_succ, List.replicate_zero, List.cons_append, List.nil_append, List.append_assoc, List.append_nil, List.getElem?_cons_zero, List.getElem?_cons_succ, List.getElem?_nil, List.set_cons_zero, List.set_cons_succ, List.drop_zero, List.drop_succ_cons, List.take_zero, List.take_succ_cons, List.take_nil, List.drop_nil, List.map_cons, List.map_nil, Option.map_some, if_true, if_false, Bool.false_eq_true, and_self, true_and, and_true, Nat.reduceLeDiff, Nat.reduceLT, Nat.le_refl, Nat.reduceEqDiff, ite_true, ite_false, beq_self_eq_true, beq_true, beq_false, Bool.not_true, Bool.not_false, Bool.true_beq, Bool.false_beq]
  refine ACalls_mono _ _ _ _ _ _ (index_spec hg rows k caps p hlen hn B [] (by rw [List.append_nil, hB]; exact hp)) ?_
  rintro r b' l' ⟨rfl, rfl, rfl⟩
  simp only [↓run_skip, ↓run_region, ↓run_draw, ↓run_seq, ↓run_block, ↓run_exit, ↓run_ret, ↓run_cond, ↓atN_app, ↓seqC_normal, ↓seqC_exit, ↓seqC_ret, ↓seqQ_normal, ↓seqQ_exit, ↓seqQ_ret, ↓blkQ_normal, ↓blkQ_exit, ↓blkQ_ret, ↓runOps_nil, ↓runOps_cons, ↓runD_nil, ↓runD_cons, ↓grdO_true, ↓grdO_false, ↓grdD_true, ↓grdD_false, ↓ifC_true, ↓ifC_false, ↓opS_val, ↓opS_call, ↓opS_two, ↓opK_app, ↓dS_val, ↓dS_call, ↓dS_two, ↓dK_app, rechks_nil, rechks_cons, rechk, gcase_true, gcase_false, ex_val, ex_val0, gd_none, gd_some, nth_zero, nth_succ, upd_zero, upd_succ, put_some, put_none, ev_t, ev_c, evs_nil, evs_cons, evo_some, evo_none, hget_at, hget_first, hsetB_at, hsetB_first, hsetL_at, hsetL_first, ofOpt_some, aop, aload, astore, aslice, aappend, aiaddr, aiaddrA, afaddr, alen, alenS, acopy, amm, acall, apick, binV, binVB, binVS, isSh, intOp, strOp, boolOp, shOp, eqC, eqF, and2, cellsOf, setFrom, fillA, fillS, rd, rdI, elems, mk, bounds, AV.cell, List.all_cons, List.all_nil, Bool.and_true, Bool.true_and, Bool.and_self, List.length_cons, List.length_nil, List.length_append, Nat.reduceAdd, Nat.reduceSub, Nat.reduceMul, Nat.zero_add, Nat.add_zero, List.replicate_succ, List.replicate_zero, List.cons_append, List.nil_append, List.append_assoc, List.append_nil, List.getElem?_cons_zero, List.getElem?_cons_succ, List.getElem?_nil, List.set_cons_zero, List.set_cons_succ, List.drop_zero, List.drop_succ_cons, List.take_zero, List.take_succ_cons, List.take_nil, List.drop_nil, List.map_cons, List.map_nil, Option.map_some, if_true, if_false, Bool.false_eq_true, and_self, true_and, and_true, Nat.reduceLeDiff, Nat.reduceLT, Nat.le_refl, Nat.reduceEqDiff, ite_true, ite_false, beq_self_eq_true, beq_true, beq_false, Bool.not_true, Bool.not_false, Bool.true_beq, Bool.false_beq]
  exact leave_pure (.inr rfl) rfl (.v _) hR hB ⟨by rw [← wIdx_ge]; rfl, rfl, rfl⟩
end Go.Proofs.Ytfdekchpckdeiaa

/- first: a copy of a trace with so many events of each process, as a run. No condition but on lengths. -/
namespace Go.Proofs.Ytfdekchpckdeiaa
set_option linter.unusedVariables false
set_option linter.unusedSimpArgs false
def a_first : AFunc := ⟨2, 56, [.cell 4 (some 1)],
  (.seq (.region [⟨(some 2), .box (.t 0), none⟩, ⟨(some 4), .alloc [(.v .zsl)], none⟩])
  (.seq (.region [⟨(some 5), .alloc [(.v .zsl)], none⟩])
  (.seq (.seq (.region [⟨(some 11), .faddr 0 (.t 2), none⟩, ⟨(some 12), .load none (.t 11), none⟩, ⟨(some 13), .len (.t 12), none⟩, ⟨(some 14), .mv (.c (.v (.int .i64 0))), none⟩])
  (.block 0 (.loop (.seq (.region [⟨(some 15), .bin .lss (.t 14) (.t 13), none⟩])
  (.seq (.cond (.t 15) .skip
  (.exit 0))
  (.seq (.block 1 (.seq (.region [⟨(some 16), .mv (.t 14), none⟩, ⟨(some 17), .iaddr 3 (.t 12) (.t 14), none⟩, ⟨(some 18), .load (some 3) (.t 17), none⟩, ⟨(some 7), .alloc [(.v (.str ⟨#[]⟩)), (.v .zsl), (.v .zsl)], none⟩, ⟨(some 6), .mv (.t 16), none⟩, ⟨none, .store 3 (.t 7) (.t 18), none⟩])
  (.seq (.draw [⟨0, ⟨(some 19), .faddr 0 (.t 7), none⟩, []⟩, ⟨1, ⟨(some 20), .load none (.t 19), none⟩, []⟩, ⟨2, ⟨(some 21), .faddr 1 (.t 7), none⟩, []⟩, ⟨3, ⟨(some 22), .load none (.t 21), none⟩, []⟩, ⟨4, ⟨(some 23), .call (.c (.fn 124 [])) [(.t 22)], none⟩, [⟨(some 19), .faddr 0 (.t 7), none⟩, ⟨(some 20), .load none (.t 19), none⟩]⟩, ⟨5, ⟨(some 24), .build [(.v (.str ⟨#[]⟩)), (.v .zsl), (.v .zsl)] [(0, 1, (.t 20)), (1, 1, (.t 23))], none⟩, []⟩, ⟨6, ⟨(some 8), .alloc [(.v (.str ⟨#[]⟩)), (.v .zsl), (.v .zsl)], none⟩, [⟨(some 19), .faddr 0 (.t 7), none⟩, ⟨(some 20), .load none (.t 19), none⟩, ⟨(some 21), .faddr 1 (.t 7), none⟩, ⟨(some 22), .load none (.t 21), none⟩, ⟨(some 24), .build [(.v (.str ⟨#[]⟩)), (.v .zsl), (.v .zsl)] [(0, 1, (.t 20)), (1, 1, (.t 23))], none⟩]⟩, ⟨7, ⟨none, .store 3 (.t 8) (.t 24), none⟩, []⟩])
  (.seq (.seq (.draw [⟨0, ⟨(some 25), .faddr 2 (.t 7), none⟩, []⟩, ⟨1, ⟨(some 26), .load none (.t 25), none⟩, []⟩, ⟨2, ⟨(some 27), .mv (.t 1), none⟩, []⟩, ⟨3, ⟨(some 28), .mv (.t 6), none⟩, []⟩, ⟨4, ⟨(some 29), .iaddr 1 (.t 27) (.t 28), none⟩, []⟩, ⟨5, ⟨(some 30), .load none (.t 29), none⟩, []⟩, ⟨6, ⟨(some 31), .slice 5 (.t 26) none (some (.t 30)), none⟩, []⟩, ⟨7, ⟨(some 32), .len (.t 31), none⟩, []⟩, ⟨8, ⟨(some 33), .mv (.c (.v (.int .i64 0))), none⟩, []⟩])
  (.block 2 (.loop (.seq (.region [⟨(some 34), .bin .lss (.t 33) (.t 32), none⟩])
  (.seq (.cond (.t 34) .skip
  (.exit 2))
  (.seq (.block 3 (.seq (.region [⟨(some 35), .iaddr 5 (.t 31) (.t 33), none⟩, ⟨(some 36), .load (some 5) (.t 35), none⟩, ⟨(some 10), .alloc [(.v (.int .i64 0)), (.v (.int .i64 0)), (.v (.int .i64 0)), (.v (.int .i64 0)), (.v .zsl)], none⟩, ⟨none, .store 5 (.t 10) (.t 36), none⟩])
  (.seq (.region [⟨(some 37), .faddr 4 (.t 10), none⟩, ⟨(some 38), .load none (.t 37), none⟩, ⟨(some 39), .call (.c (.fn 88 [])) [(.t 38)], none⟩, ⟨(some 40), .faddr 4 (.t 10), none⟩, ⟨none, .store 1 (.t 40) (.t 39), none⟩])
  (.region [⟨(some 41), .faddr 2 (.t 8), none⟩, ⟨(some 42), .load none (.t 41), none⟩, ⟨(some 43), .load (some 5) (.t 10), none⟩, ⟨(some 44), .bslice 5 [(.v (.int .i64 0)), (.v (.int .i64 0)), (.v (.int .i64 0)), (.v (.int .i64 0)), (.v .zsl)] 1 [(0, (.t 43))], none⟩, ⟨(some 45), .append 5 56 (.t 42) (.t 44), none⟩, ⟨(some 46), .faddr 2 (.t 8), none⟩, ⟨none, .store 1 (.t 46) (.t 45), none⟩]))))
  (.region [⟨(some 47), .bin .add (.t 33) (.c (.v (.int .i64 1))), none⟩, ⟨(some 33), .mv (.t 47), none⟩])))))))
  (.region [⟨(some 48), .faddr 0 (.t 5), none⟩, ⟨(some 49), .load none (.t 48), none⟩, ⟨(some 50), .load (some 3) (.t 8), none⟩, ⟨(some 51), .bslice 3 [(.v (.str ⟨#[]⟩)), (.v .zsl), (.v .zsl)] 1 [(0, (.t 50))], none⟩, ⟨(some 52), .append 3 64 (.t 49) (.t 51), none⟩, ⟨(some 53), .faddr 0 (.t 5), none⟩, ⟨none, .store 1 (.t 53) (.t 52), none⟩])))))
  (.region [⟨(some 54), .bin .add (.t 14) (.c (.v (.int .i64 1))), none⟩, ⟨(some 14), .mv (.t 54), none⟩])))))))
  (.seq (.region [⟨(some 55), .load (some 1) (.t 5), none⟩, ⟨none, .store 1 (.t 4) (.t 55), none⟩])
  .ret))))⟩
theorem a_first_ok : cFunc Try.prog 81 = some a_first := by kernel_rfl

/-- What a round leaves when a row that it made is written no more. -/
theorem Weak.roundFrz {e e' : List AV} {b l l1 : List Row} {i ver sz : Nat} {rows : List (List IV)} (hf : Fgt e e') (hi : l[i]? = some (.live ver sz (vs rows))) (he0 : e'.map (frz (b.length + i) ver sz rows) = e')
    (hl : List.take l1.length ((l.set i (.dead ver)).map (rowMap (frz0 (b.length + i) ver sz rows))) = l1) (he : ∀ x ∈ e', AVlt (b.length + l1.length) x) (hb : RowsLt b.length b) (h1 : RowsLt (b.length + l1.length) l1) : Weak e b l e' b l1 := by
  have hz := Weak.freezeAll (e := e') (b := b) hi
  rw [he0] at hz
  refine (Weak.forget hf).trans (hz.trans (Weak.trim (junk := List.drop l1.length ((l.set i (.dead ver)).map (rowMap (frz0 (b.length + i) ver sz rows)))) ?_ he (hb.mono (by omega)) h1))
  have := List.take_append_drop l1.length ((l.set i (.dead ver)).map (rowMap (frz0 (b.length + i) ver sz rows)))
  rw [hl] at this
  exact this.symm
theorem vs_frz {id ver sz : Nat} {rows r : List (List IV)} : (vs r).map (List.map (frz0 id ver sz rows)) = vs r := by
  simp [vs, frz0, Function.comp_def]
/-- The end of a function that hands out a struct of one slice, a row of its own. -/
theorem leave_frzA {rs : List ARes} {Q : AV → List Row → List Row → Prop} {B e l : _} {ex : AExit} (hex : ex = .normal ∨ ex = .ret) {i ver sz n : Nat} {rows : List (List IV)} (hx : resVs e B l rs = some [.agg [.sl (B.length + i) ver 0 n]]) (hi : l[i]? = some (.live ver sz (vs rows))) (hn : n = rows.length)
    (hR : RowsLt B.length B) {b0 l0 : List Row} (hB : B = b0 ++ l0) (hq : Q (.agg [.v (.isl sz rows)]) b0 l0) : Leaves rs Q b0.length ex e B l := by
  refine leave hex hx (y := .agg [.v (.isl sz rows)]) ((Weak.freeze (i := i) (rows := rows) hi).trans ?_) (l' := []) hB (by simpa using hq)
  have h1 : List.map (frz (B.length + i) ver sz rows) [one [.agg [AV.sl (B.length + i) ver 0 n]]] = [.agg [.v (.isl sz rows)]] := by
    simp only [List.map_cons, List.map_nil, one, frz, frz_here hn]
  rw [h1]
  exact Weak.trim (l1 := []) rfl (by intro x hx; simp at hx; subst hx; exact .agg _ (by intro c hc; simp at hc; subst hc; exact .v _)) (by simpa using hR) RowsLt_nil

def cutP (p : Pr) (n : Int) : Pr := ⟨p.name, p.vars, p.evs.take n.toNat⟩
def firstL (t : Tr) (c : List Int) : Tr := List.zipWith cutP t c
structure CutOk (t : Tr) (c : List Int) : Prop where
  len : c.length = t.length
  np : t.length ≤ 1000000
  nv : ∀ x ∈ t, x.vars.length ≤ 1000000
  ne : ∀ x ∈ t, x.evs.length ≤ 1000000
  na : ∀ x ∈ t, ∀ e ∈ x.evs, e.asg.length ≤ 1000000
  le : ∀ (k : Nat) (h : k < t.length) (h2 : k < c.length), 0 ≤ c[k] ∧ c[k] ≤ t[k].evs.length
set_option maxHeartbeats 1000000 in
theorem first_spec (t : Tr) (c : List Int) (hC : CutOk t c) (b l : List Row) : ACalls Try.prog 81 [.agg [.v (eT t)], .v (.isl 1 (c.map eI))] b l (fun r b' l' => r = .agg [.v (eT (firstL t c))] ∧ b' = b ∧ l' = l) := by
  refine calls_of a_first_ok rfl ?_
  intro B hB hR _
  have hnp := hC.np
  have hlen := hC.len
  have hfl : (firstL t c).length = t.length := by simp [firstL]; omega
  simp only [a_first, eT, ↓run_skip, ↓run_region, ↓run_draw, ↓run_seq, ↓run_block, ↓run_exit, ↓run_ret, ↓run_cond, ↓atN_app, ↓seqC_normal, ↓seqC_exit, ↓seqC_ret, ↓seqQ_normal, ↓seqQ_exit, ↓seqQ_ret, ↓blkQ_normal, ↓blkQ_exit, ↓blkQ_ret, ↓runOps_nil, ↓runOps_cons, ↓runD_nil, ↓runD_cons, ↓grdO_true, ↓grdO_false, ↓grdD_true, ↓grdD_false, ↓ifC_true, ↓ifC_false, ↓opS_val, ↓opS_call, ↓opS_two, ↓opK_app, ↓dS_val, ↓dS_call, ↓dS_two, ↓dK_app, rechks_nil, rechks_cons, rechk, gcase_true, gcase_false, ex_val, ex_val0, gd_none, gd_some, nth_zero, nth_succ, upd_zero, upd_succ, put_some, put_none, ev_t, ev_c, evs_nil, evs_cons, evo_some, evo_none, hget_at, hget_first, hsetB_at, hsetB_first, hsetL_at, hsetL_first, ofOpt_some, aop, aload, astore, aslice, aappend, aiaddr, aiaddrA, afaddr, alen, alenS, acopy, amm, acall, apick, binV, binVB, binVS, isSh, intOp, strOp, boolOp, shOp, eqC, eqF, and2, cellsOf, setFrom, fillA, fillS, rd, rdI, elems, mk, bounds, AV.cell, List.all_cons, List.all_nil, Bool.and_true, Bool.true_and, Bool.and_self, List.length_cons, List.length_nil, List.length_append, Nat.reduceAdd, Nat.reduceSub, Nat.reduceMul, Nat.zero_add, Nat.add_zero, List.replicate_succ, List.replicate_zero, List.cons_append, List.nil_append, List.append_assoc, List.append_nil, List.getElem?_cons_zero, List.getElem?_cons_succ, List.getElem?_nil, List.set_cons_zero, List.set_cons_succ, List.drop_zero, List.drop_succ_cons, List.take_zero, List.take_succ_cons, List.take_nil, List.drop_nil, List.map_cons, List.map_nil, Option.map_some, if_true, if_false, Bool.false_eq_true, and_self, true_and, and_true, Nat.reduceLeDiff, Nat.reduceLT, Nat.le_refl, Nat.reduceEqDiff, ite_true, ite_false, beq_self_eq_true, beq_true, beq_false, Bool.not_true, Bool.not_false, Bool.true_beq, Bool.false_beq]
  refine loop_rule (ι := Nat × Nat)
    (fun i => [.any, .v (.isl 1 (c.map eI)), .ptr B.length 0 0 0, .any, .ptr (B.length + 1) 0 0 0, .ptr (B.length + 2) 0 0 0, .any, .any, .any, .any, .any, .any, .v (.isl 3 (t.map ePr)), .v (.int .i64 t.length), .v (.int .i64 i.1)] ++ List.replicate 41 .any)
    (fun _ => B) (fun i => [.live 0 1 [[.v (.isl 3 (t.map ePr))]], .live 0 1 [[.v .zsl]], .live 0 1 [[.sl (B.length + 3) i.2 0 i.1]], .live i.2 3 (vs (((firstL t c).take i.1).map ePr))])
    (fun i => i.1 ≤ t.length) (fun i => t.length - i.1) (0, 0) (Nat.zero_le _) ?_ ?_
  · refine Weak.trans (Weak.nilcell (i := 2) (k := 0) (j := 0) (sz := 3) rfl rfl rfl) ?_
    simp only [List.length_map, ↓run_skip, ↓run_region, ↓run_draw, ↓run_seq, ↓run_block, ↓run_exit, ↓run_ret, ↓run_cond, ↓atN_app, ↓seqC_normal, ↓seqC_exit, ↓seqC_ret, ↓seqQ_normal, ↓seqQ_exit, ↓seqQ_ret, ↓blkQ_normal, ↓blkQ_exit, ↓blkQ_ret, ↓runOps_nil, ↓runOps_cons, ↓runD_nil, ↓runD_cons, ↓grdO_true, ↓grdO_false, ↓grdD_true, ↓grdD_false, ↓ifC_true, ↓ifC_false, ↓opS_val, ↓opS_call, ↓opS_two, ↓opK_app, ↓dS_val, ↓dS_call, ↓dS_two, ↓dK_app, rechks_nil, rechks_cons, rechk, gcase_true, gcase_false, ex_val, ex_val0, gd_none, gd_some, nth_zero, nth_succ, upd_zero, upd_succ, put_some, put_none, ev_t, ev_c, evs_nil, evs_cons, evo_some, evo_none, hget_at, hget_first, hsetB_at, hsetB_first, hsetL_at, hsetL_first, ofOpt_some, aop, aload, astore, aslice, aappend, aiaddr, aiaddrA, afaddr, alen, alenS, acopy, amm, acall, apick, binV, binVB, binVS, isSh, intOp, strOp, boolOp, shOp, eqC, eqF, and2, cellsOf, setFrom, fillA, fillS, rd, rdI, elems, mk, bounds, AV.cell, List.all_cons, List.all_nil, Bool.and_true, Bool.true_and, Bool.and_self, List.length_cons, List.length_nil, List.length_append, Nat.reduceAdd, Nat.reduceSub, Nat.reduceMul, Nat.zero_add, Nat.add_zero, List.replicate_succ, List.replicate_zero, List.cons_append, List.nil_append, List.append_assoc, List.append_nil, List.getElem?_cons_zero, List.getElem?_cons_succ, List.getElem?_nil, List.set_cons_zero, List.set_cons_succ, List.drop_zero, List.drop_succ_cons, List.take_zero, List.take_succ_cons, List.take_nil, List.drop_nil, List.map_cons, List.map_nil, Option.map_some, if_true, if_false, Bool.false_eq_true, and_self, true_and, and_true, Nat.reduceLeDiff, Nat.reduceLT, Nat.le_refl, Nat.reduceEqDiff, ite_true, ite_false, beq_self_eq_true, beq_true, beq_false, Bool.not_true, Bool.not_false, Bool.true_beq, Bool.false_beq]
    exact Weak.forget (by simp [Fgt])
  · rintro ⟨k, v⟩ hk
    dsimp only at hk ⊢
    simp only [List.replicate_succ, List.replicate_zero, List.cons_append, List.nil_append]
    by_cases hlt : k < t.length
    · have hne := hC.ne t[k] (List.getElem_mem hlt)
      have hnv := hC.nv t[k] (List.getElem_mem hlt)
      have hck : k < c.length := by omega
      obtain ⟨hc0, hc1⟩ := hC.le k hlt hck
      simp (disch := omega) only [ePr, ↓run_skip, ↓run_region, ↓run_draw, ↓run_seq, ↓run_block, ↓run_exit, ↓run_ret, ↓run_cond, ↓atN_app, ↓seqC_normal, ↓seqC_exit, ↓seqC_ret, ↓seqQ_normal, ↓seqQ_exit, ↓seqQ_ret, ↓blkQ_normal, ↓blkQ_exit, ↓blkQ_ret, ↓runOps_nil, ↓runOps_cons, ↓runD_nil, ↓runD_cons, ↓grdO_true, ↓grdO_false, ↓grdD_true, ↓grdD_false, ↓ifC_true, ↓ifC_false, ↓opS_val, ↓opS_call, ↓opS_two, ↓opK_app, ↓dS_val, ↓dS_call, ↓dS_two, ↓dK_app, rechks_nil, rechks_cons, rechk, gcase_true, gcase_false, ex_val, ex_val0, gd_none, gd_some, nth_zero, nth_succ, upd_zero, upd_succ, put_some, put_none, ev_t, ev_c, evs_nil, evs_cons, evo_some, evo_none, hget_at, hget_first, hsetB_at, hsetB_first, hsetL_at, hsetL_first, ofOpt_some, aop, aload, astore, aslice, aappend, aiaddr, aiaddrA, afaddr, alen, alenS, acopy, amm, acall, apick, binV, binVB, binVS, isSh, intOp, strOp, boolOp, shOp, eqC, eqF, and2, cellsOf, setFrom, fillA, fillS, rd, rdI, elems, mk, bounds, AV.cell, List.all_cons, List.all_nil, Bool.and_true, Bool.true_and, Bool.and_self, List.length_cons, List.length_nil, List.length_append, Nat.reduceAdd, Nat.reduceSub, Nat.reduceMul, Nat.zero_add, Nat.add_zero, List.replicate_succ, List.replicate_zero, List.cons_append, List.nil_append, List.append_assoc, List.append_nil, List.getElem?_cons_zero, List.getElem?_cons_succ, List.getElem?_nil, List.set_cons_zero, List.set_cons_succ, List.drop_zero, List.drop_succ_cons, List.take_zero, List.take_succ_cons, List.take_nil, List.drop_nil, List.map_cons, List.map_nil, Option.map_some, if_true, if_false, Bool.false_eq_true, and_self, true_and, and_true, Nat.reduceLeDiff, Nat.reduceLT, Nat.le_refl, Nat.reduceEqDiff, ite_true, ite_false, beq_self_eq_true, beq_true, beq_false, Bool.not_true, Bool.not_false, Bool.true_beq, Bool.false_beq, map_vs, vs_len, vs_get, vs_take, vs_drop, vs_snoc1, vs_snoc2, vs_snoc3, vs_snoc5, vs_set1, vs_set2, vs_rep, wrap_id, le_T, lt_T, le_F, lt_F, leI_T, ltI_T, leI_F, ltI_F, geI, gtI, get_T, decide_true, decide_false, room, List.getElem?_map, List.length_map, List.length_take, Int.toNat_natCast, Nat.min_def, Nat.min_self]
      refine ACalls_mono _ _ _ _ _ _ (cloneVar_spec (t[k].vars.map eVr) _ _ (by simp; omega)) ?_
      rintro r b' l' ⟨rfl, rfl, rfl⟩
      simp (disch := omega) only [eI, ↓run_skip, ↓run_region, ↓run_draw, ↓run_seq, ↓run_block, ↓run_exit, ↓run_ret, ↓run_cond, ↓atN_app, ↓seqC_normal, ↓seqC_exit, ↓seqC_ret, ↓seqQ_normal, ↓seqQ_exit, ↓seqQ_ret, ↓blkQ_normal, ↓blkQ_exit, ↓blkQ_ret, ↓runOps_nil, ↓runOps_cons, ↓runD_nil, ↓runD_cons, ↓grdO_true, ↓grdO_false, ↓grdD_true, ↓grdD_false, ↓ifC_true, ↓ifC_false, ↓opS_val, ↓opS_call, ↓opS_two, ↓opK_app, ↓dS_val, ↓dS_call, ↓dS_two, ↓dK_app, rechks_nil, rechks_cons, rechk, gcase_true, gcase_false, ex_val, ex_val0, gd_none, gd_some, nth_zero, nth_succ, upd_zero, upd_succ, put_some, put_none, ev_t, ev_c, evs_nil, evs_cons, evo_some, evo_none, hget_at, hget_first, hsetB_at, hsetB_first, hsetL_at, hsetL_first, ofOpt_some, aop, aload, astore, aslice, aappend, aiaddr, aiaddrA, afaddr, alen, alenS, acopy, amm, acall, apick, binV, binVB, binVS, isSh, intOp, strOp, boolOp, shOp, eqC, eqF, and2, cellsOf, setFrom, fillA, fillS, rd, rdI, elems, mk, bounds, AV.cell, List.all_cons, List.all_nil, Bool.and_true, Bool.true_and, Bool.and_self, List.length_cons, List.length_nil, List.length_append, Nat.reduceAdd, Nat.reduceSub, Nat.reduceMul, Nat.zero_add, Nat.add_zero, List.replicate_succ, List.replicate_zero, List.cons_append, List.nil_append, List.append_assoc, List.append_nil, List.getElem?_cons_zero, List.getElem?_cons_succ, List.getElem?_nil, List.set_cons_zero, List.set_cons_succ, List.drop_zero, List.drop_succ_cons, List.take_zero, List.take_succ_cons, List.take_nil, List.drop_nil, List.map_cons, List.map_nil, Option.map_some, if_true, if_false, Bool.false_eq_true, and_self, true_and, and_true, Nat.reduceLeDiff, Nat.reduceLT, Nat.le_refl, Nat.reduceEqDiff, ite_true, ite_false, beq_self_eq_true, beq_true, beq_false, Bool.not_true, Bool.not_false, Bool.true_beq, Bool.false_beq, map_vs, vs_len, vs_get, vs_take, vs_drop, vs_snoc1, vs_snoc2, vs_snoc3, vs_snoc5, vs_set1, vs_set2, vs_rep, wrap_id, le_T, lt_T, le_F, lt_F, leI_T, ltI_T, leI_F, ltI_F, geI, gtI, get_T, decide_true, decide_false, room, List.getElem?_map, List.length_map, List.length_take, Int.toNat_natCast, Nat.min_def, Nat.min_self]
      obtain ⟨ys, hys⟩ : ∃ ys, t[k].evs.take c[k].toNat = ys := ⟨_, rfl⟩
      have hyl : c[k].toNat = ys.length := by rw [← hys]; simp; omega
      have hy1 : ys.length ≤ 1000000 := by omega
      have hya : ∀ e ∈ ys, e.asg.length ≤ 1000000 := fun e he => hC.na t[k] (List.getElem_mem hlt) e (List.mem_of_mem_take (hys ▸ he))
      rw [← List.map_take, hys, hyl]
      refine loop_rule (ι := Nat × Nat)
        (fun i => [.any, .v (.isl 1 (c.map eI)), .ptr b'.length 0 0 0, .any, .ptr (b'.length + 1) 0 0 0, .ptr (b'.length + 2) 0 0 0, .any, .any, .ptr (b'.length + 5) 0 0 0, .any, .any, .any, .v (.isl 3 (t.map ePr)), .v (.int .i64 t.length), .v (.int .i64 k)] ++ (List.replicate 16 .any ++ ([.v (.isl 5 (ys.map eEv)), .v (.int .i64 ys.length), .v (.int .i64 i.1)] ++ List.replicate 22 .any)))
        (fun _ => b') (fun i => [.live 0 1 [[.v (.isl 3 (t.map ePr))]], .live 0 1 [[.v .zsl]], .live 0 1 [[.sl (b'.length + 3) v 0 k]], .live v 3 (vs (((firstL t c).take k).map ePr)),
          .live 0 3 [[.v (.str t[k].name), .v (.isl 2 (t[k].vars.map eVr)), .v (.isl 5 (t[k].evs.map eEv))]], .live 0 3 [[.v (.str t[k].name), .v (.isl 2 (t[k].vars.map eVr)), .sl (b'.length + 6) i.2 0 i.1]], .live i.2 5 (vs ((ys.take i.1).map eEv))])
        (fun i => i.1 ≤ ys.length) (fun i => ys.length - i.1) (0, 0) (Nat.zero_le _) ?_ ?_
      · refine Weak.trans (Weak.nilcell (i := 5) (k := 0) (j := 2) (sz := 5) rfl rfl rfl) ?_
        simp only [List.length_map, ↓run_skip, ↓run_region, ↓run_draw, ↓run_seq, ↓run_block, ↓run_exit, ↓run_ret, ↓run_cond, ↓atN_app, ↓seqC_normal, ↓seqC_exit, ↓seqC_ret, ↓seqQ_normal, ↓seqQ_exit, ↓seqQ_ret, ↓blkQ_normal, ↓blkQ_exit, ↓blkQ_ret, ↓runOps_nil, ↓runOps_cons, ↓runD_nil, ↓runD_cons, ↓grdO_true, ↓grdO_false, ↓grdD_true, ↓grdD_false, ↓ifC_true, ↓ifC_false, ↓opS_val, ↓opS_call, ↓opS_two, ↓opK_app, ↓dS_val, ↓dS_call, ↓dS_two, ↓dK_app, rechks_nil, rechks_cons, rechk, gcase_true, gcase_false, ex_val, ex_val0, gd_none, gd_some, nth_zero, nth_succ, upd_zero, upd_succ, put_some, put_none, ev_t, ev_c, evs_nil, evs_cons, evo_some, evo_none, hget_at, hget_first, hsetB_at, hsetB_first, hsetL_at, hsetL_first, ofOpt_some, aop, aload, astore, aslice, aappend, aiaddr, aiaddrA, afaddr, alen, alenS, acopy, amm, acall, apick, binV, binVB, binVS, isSh, intOp, strOp, boolOp, shOp, eqC, eqF, and2, cellsOf, setFrom, fillA, fillS, rd, rdI, elems, mk, bounds, AV.cell, List.all_cons, List.all_nil, Bool.and_true, Bool.true_and, Bool.and_self, List.length_cons, List.length_nil, List.length_append, Nat.reduceAdd, Nat.reduceSub, Nat.reduceMul, Nat.zero_add, Nat.add_zero, List.replicate_succ, List.replicate_zero, List.cons_append, List.nil_append, List.append_assoc, List.append_nil, List.getElem?_cons_zero, List.getElem?_cons_succ, List.getElem?_nil, List.set_cons_zero, List.set_cons_succ, List.drop_zero, List.drop_succ_cons, List.take_zero, List.take_succ_cons, List.take_nil, List.drop_nil, List.map_cons, List.map_nil, Option.map_some, if_true, if_false, Bool.false_eq_true, and_self, true_and, and_true, Nat.reduceLeDiff, Nat.reduceLT, Nat.le_refl, Nat.reduceEqDiff, ite_true, ite_false, beq_self_eq_true, beq_true, beq_false, Bool.not_true, Bool.not_false, Bool.true_beq, Bool.false_beq]
        exact Weak.forget (by simp [Fgt])
      · rintro ⟨j, u⟩ hj
        dsimp only at hj ⊢
        simp only [List.replicate_succ, List.replicate_zero, List.cons_append, List.nil_append]
        by_cases hjt : j < ys.length
        · have hja := hya ys[j] (List.getElem_mem hjt)
          have hel : min j ys.length = j := by omega
          simp (disch := omega) only [hel, eEv, ↓run_skip, ↓run_region, ↓run_draw, ↓run_seq, ↓run_block, ↓run_exit, ↓run_ret, ↓run_cond, ↓atN_app, ↓seqC_normal, ↓seqC_exit, ↓seqC_ret, ↓seqQ_normal, ↓seqQ_exit, ↓seqQ_ret, ↓blkQ_normal, ↓blkQ_exit, ↓blkQ_ret, ↓runOps_nil, ↓runOps_cons, ↓runD_nil, ↓runD_cons, ↓grdO_true, ↓grdO_false, ↓grdD_true, ↓grdD_false, ↓ifC_true, ↓ifC_false, ↓opS_val, ↓opS_call, ↓opS_two, ↓opK_app, ↓dS_val, ↓dS_call, ↓dS_two, ↓dK_app, rechks_nil, rechks_cons, rechk, gcase_true, gcase_false, ex_val, ex_val0, gd_none, gd_some, nth_zero, nth_succ, upd_zero, upd_succ, put_some, put_none, ev_t, ev_c, evs_nil, evs_cons, evo_some, evo_none, hget_at, hget_first, hsetB_at, hsetB_first, hsetL_at, hsetL_first, ofOpt_some, aop, aload, astore, aslice, aappend, aiaddr, aiaddrA, afaddr, alen, alenS, acopy, amm, acall, apick, binV, binVB, binVS, isSh, intOp, strOp, boolOp, shOp, eqC, eqF, and2, cellsOf, setFrom, fillA, fillS, rd, rdI, elems, mk, bounds, AV.cell, List.all_cons, List.all_nil, Bool.and_true, Bool.true_and, Bool.and_self, List.length_cons, List.length_nil, List.length_append, Nat.reduceAdd, Nat.reduceSub, Nat.reduceMul, Nat.zero_add, Nat.add_zero, List.replicate_succ, List.replicate_zero, List.cons_append, List.nil_append, List.append_assoc, List.append_nil, List.getElem?_cons_zero, List.getElem?_cons_succ, List.getElem?_nil, List.set_cons_zero, List.set_cons_succ, List.drop_zero, List.drop_succ_cons, List.take_zero, List.take_succ_cons, List.take_nil, List.drop_nil, List.map_cons, List.map_nil, Option.map_some, if_true, if_false, Bool.false_eq_true, and_self, true_and, and_true, Nat.reduceLeDiff, Nat.reduceLT, Nat.le_refl, Nat.reduceEqDiff, ite_true, ite_false, beq_self_eq_true, beq_true, beq_false, Bool.not_true, Bool.not_false, Bool.true_beq, Bool.false_beq, map_vs, vs_len, vs_get, vs_take, vs_drop, vs_snoc1, vs_snoc2, vs_snoc3, vs_snoc5, vs_set1, vs_set2, vs_rep, wrap_id, le_T, lt_T, le_F, lt_F, leI_T, ltI_T, leI_F, ltI_F, geI, gtI, get_T, decide_true, decide_false, room, List.getElem?_map, List.length_map, List.length_take, Int.toNat_natCast, Nat.min_def, Nat.min_self]
          refine ACalls_mono _ _ _ _ _ _ (cloneAsg_spec (ys[j].asg.map eAsg) _ _ (by simp; omega)) ?_
          rintro r b' l' ⟨rfl, rfl, rfl⟩
          simp (disch := omega) only [hel, ↓run_skip, ↓run_region, ↓run_draw, ↓run_seq, ↓run_block, ↓run_exit, ↓run_ret, ↓run_cond, ↓atN_app, ↓seqC_normal, ↓seqC_exit, ↓seqC_ret, ↓seqQ_normal, ↓seqQ_exit, ↓seqQ_ret, ↓blkQ_normal, ↓blkQ_exit, ↓blkQ_ret, ↓runOps_nil, ↓runOps_cons, ↓runD_nil, ↓runD_cons, ↓grdO_true, ↓grdO_false, ↓grdD_true, ↓grdD_false, ↓ifC_true, ↓ifC_false, ↓opS_val, ↓opS_call, ↓opS_two, ↓opK_app, ↓dS_val, ↓dS_call, ↓dS_two, ↓dK_app, rechks_nil, rechks_cons, rechk, gcase_true, gcase_false, ex_val, ex_val0, gd_none, gd_some, nth_zero, nth_succ, upd_zero, upd_succ, put_some, put_none, ev_t, ev_c, evs_nil, evs_cons, evo_some, evo_none, hget_at, hget_first, hsetB_at, hsetB_first, hsetL_at, hsetL_first, ofOpt_some, aop, aload, astore, aslice, aappend, aiaddr, aiaddrA, afaddr, alen, alenS, acopy, amm, acall, apick, binV, binVB, binVS, isSh, intOp, strOp, boolOp, shOp, eqC, eqF, and2, cellsOf, setFrom, fillA, fillS, rd, rdI, elems, mk, bounds, AV.cell, List.all_cons, List.all_nil, Bool.and_true, Bool.true_and, Bool.and_self, List.length_cons, List.length_nil, List.length_append, Nat.reduceAdd, Nat.reduceSub, Nat.reduceMul, Nat.zero_add, Nat.add_zero, List.replicate_succ, List.replicate_zero, List.cons_append, List.nil_append, List.append_assoc, List.append_nil, List.getElem?_cons_zero, List.getElem?_cons_succ, List.getElem?_nil, List.set_cons_zero, List.set_cons_succ, List.drop_zero, List.drop_succ_cons, List.take_zero, List.take_succ_cons, List.take_nil, List.drop_nil, List.map_cons, List.map_nil, Option.map_some, if_true, if_false, Bool.false_eq_true, and_self, true_and, and_true, Nat.reduceLeDiff, Nat.reduceLT, Nat.le_refl, Nat.reduceEqDiff, ite_true, ite_false, beq_self_eq_true, beq_true, beq_false, Bool.not_true, Bool.not_false, Bool.true_beq, Bool.false_beq, map_vs, vs_len, vs_get, vs_take, vs_drop, vs_snoc1, vs_snoc2, vs_snoc3, vs_snoc5, vs_set1, vs_set2, vs_rep, wrap_id, le_T, lt_T, le_F, lt_F, leI_T, ltI_T, leI_F, ltI_F, geI, gtI, get_T, decide_true, decide_false, room, List.getElem?_map, List.length_map, List.length_take, Int.toNat_natCast, Nat.min_def, Nat.min_self]
          refine ⟨(j + 1, u + 1), hjt, by simp only; omega, ?_⟩
          have hr2 : List.take j (List.map eEv (List.take j ys)) = (ys.take j).map eEv := List.take_of_length_le (by simp; omega)
          have hr3 := mapw_snoc (f := eEv) hjt
          simp only [eEv] at hr3
          rw [hr2]
          simp only [eEv]
          rw [hr3]
          exact Weak.round (by simp [Fgt]) rfl (by simp (disch := omega) only [AVlt_v, AVlt_any, AVlt_sl, AVlt_ptr, AVlt_agg, AVlt_tup, AVlt_fn, RowsLt_nil, RowsLt_live, RowsLt_dead, List.mem_cons, List.not_mem_nil, List.forall_mem_cons, List.forall_mem_nil, or_false, false_or, forall_eq_or_imp, forall_eq, vs_lt, Nat.add_lt_add_iff_left, Nat.reduceLT, true_and, and_true, and_self, List.length_cons, List.length_nil, Nat.reduceAdd, Nat.zero_add, implies_true, false_imp_iff, lt_T, List.mem_map]) hR (by simp (disch := omega) only [AVlt_v, AVlt_any, AVlt_sl, AVlt_ptr, AVlt_agg, AVlt_tup, AVlt_fn, RowsLt_nil, RowsLt_live, RowsLt_dead, List.mem_cons, List.not_mem_nil, List.forall_mem_cons, List.forall_mem_nil, or_false, false_or, forall_eq_or_imp, forall_eq, vs_lt, Nat.add_lt_add_iff_left, Nat.reduceLT, true_and, and_true, and_self, List.length_cons, List.length_nil, Nat.reduceAdd, Nat.zero_add, implies_true, false_imp_iff, lt_T, List.mem_map])
        · simp (disch := omega) only [↓run_skip, ↓run_region, ↓run_draw, ↓run_seq, ↓run_block, ↓run_exit, ↓run_ret, ↓run_cond, ↓atN_app, ↓seqC_normal, ↓seqC_exit, ↓seqC_ret, ↓seqQ_normal, ↓seqQ_exit, ↓seqQ_ret, ↓blkQ_normal, ↓blkQ_exit, ↓blkQ_ret, ↓runOps_nil, ↓runOps_cons, ↓runD_nil, ↓runD_cons, ↓grdO_true, ↓grdO_false, ↓grdD_true, ↓grdD_false, ↓ifC_true, ↓ifC_false, ↓opS_val, ↓opS_call, ↓opS_two, ↓opK_app, ↓dS_val, ↓dS_call, ↓dS_two, ↓dK_app, rechks_nil, rechks_cons, rechk, gcase_true, gcase_false, ex_val, ex_val0, gd_none, gd_some, nth_zero, nth_succ, upd_zero, upd_succ, put_some, put_none, ev_t, ev_c, evs_nil, evs_cons, evo_some, evo_none, hget_at, hget_first, hsetB_at, hsetB_first, hsetL_at, hsetL_first, ofOpt_some, aop, aload, astore, aslice, aappend, aiaddr, aiaddrA, afaddr, alen, alenS, acopy, amm, acall, apick, binV, binVB, binVS, isSh, intOp, strOp, boolOp, shOp, eqC, eqF, and2, cellsOf, setFrom, fillA, fillS, rd, rdI, elems, mk, bounds, AV.cell, List.all_cons, List.all_nil, Bool.and_true, Bool.true_and, Bool.and_self, List.length_cons, List.length_nil, List.length_append, Nat.reduceAdd, Nat.reduceSub, Nat.reduceMul, Nat.zero_add, Nat.add_zero, List.replicate_succ, List.replicate_zero, List.cons_append, List.nil_append, List.append_assoc, List.append_nil, List.getElem?_cons_zero, List.getElem?_cons_succ, List.getElem?_nil, List.set_cons_zero, List.set_cons_succ, List.drop_zero, List.drop_succ_cons, List.take_zero, List.take_succ_cons, List.take_nil, List.drop_nil, List.map_cons, List.map_nil, Option.map_some, if_true, if_false, Bool.false_eq_true, and_self, true_and, and_true, Nat.reduceLeDiff, Nat.reduceLT, Nat.le_refl, Nat.reduceEqDiff, ite_true, ite_false, beq_self_eq_true, beq_true, beq_false, Bool.not_true, Bool.not_false, Bool.true_beq, Bool.false_beq, map_vs, vs_len, vs_get, vs_take, vs_drop, vs_snoc1, vs_snoc2, vs_snoc3, vs_snoc5, vs_set1, vs_set2, vs_rep, wrap_id, le_T, lt_T, le_F, lt_F, leI_T, ltI_T, leI_F, ltI_F, geI, gtI, get_T, decide_true, decide_false, room, List.getElem?_map, List.length_map, List.length_take, Int.toNat_natCast, Nat.min_def, Nat.min_self]
          obtain rfl : j = ys.length := by omega
          have hF : (firstL t c)[k] = ⟨t[k].name, t[k].vars, ys⟩ := by simp [firstL, cutP, hys]
          have hr2 : List.take k (List.map ePr (List.take k (firstL t c))) = ((firstL t c).take k).map ePr := List.take_of_length_le (by simp; omega)
          have hr3 := mapw_snoc (f := ePr) (l := firstL t c) (k := k) (by omega)
          rw [hF] at hr3
          simp only [ePr] at hr3
          refine ⟨(k + 1, v + 1), hlt, by simp only; omega, ?_⟩
          rw [hr2, List.take_of_length_le (Nat.le_refl ys.length)]
          refine Weak.roundFrz (i := 6) (ver := u) (sz := 5) (rows := ys.map eEv) (by simp [Fgt]) rfl (by simp [frz, frz0]) ?_ (by simp (disch := omega) only [AVlt_v, AVlt_any, AVlt_sl, AVlt_ptr, AVlt_agg, AVlt_tup, AVlt_fn, RowsLt_nil, RowsLt_live, RowsLt_dead, List.mem_cons, List.not_mem_nil, List.forall_mem_cons, List.forall_mem_nil, or_false, false_or, forall_eq_or_imp, forall_eq, vs_lt, Nat.add_lt_add_iff_left, Nat.reduceLT, true_and, and_true, and_self, List.length_cons, List.length_nil, Nat.reduceAdd, Nat.zero_add, implies_true, false_imp_iff, lt_T, List.mem_map]) hR (by simp (disch := omega) only [AVlt_v, AVlt_any, AVlt_sl, AVlt_ptr, AVlt_agg, AVlt_tup, AVlt_fn, RowsLt_nil, RowsLt_live, RowsLt_dead, List.mem_cons, List.not_mem_nil, List.forall_mem_cons, List.forall_mem_nil, or_false, false_or, forall_eq_or_imp, forall_eq, vs_lt, Nat.add_lt_add_iff_left, Nat.reduceLT, true_and, and_true, and_self, List.length_cons, List.length_nil, Nat.reduceAdd, Nat.zero_add, implies_true, false_imp_iff, lt_T, List.mem_map])
          simp only [List.set_cons_succ, List.set_cons_zero, List.map_cons, List.map_nil, rowMap, List.map_append, vs_frz, List.length_cons, List.length_nil, Nat.reduceAdd, List.take_succ_cons, List.take_zero]
          have hh : frz0 (b'.length + 6) u 5 (ys.map eEv) (.sl (b'.length + 6) u 0 ys.length) = .v (.isl 5 (ys.map eEv)) := frz_here (by simp)
          have hn3 : frz0 (b'.length + 6) u 5 (ys.map eEv) (.sl (b'.length + 3) (v + 1) 0 (k + 1)) = .sl (b'.length + 3) (v + 1) 0 (k + 1) := by simp [frz0]
          rw [hh, hn3]
          simp only [frz0, vs_snoc3, hr3]
    · simp (disch := omega) only [↓run_skip, ↓run_region, ↓run_draw, ↓run_seq, ↓run_block, ↓run_exit, ↓run_ret, ↓run_cond, ↓atN_app, ↓seqC_normal, ↓seqC_exit, ↓seqC_ret, ↓seqQ_normal, ↓seqQ_exit, ↓seqQ_ret, ↓blkQ_normal, ↓blkQ_exit, ↓blkQ_ret, ↓runOps_nil, ↓runOps_cons, ↓runD_nil, ↓runD_cons, ↓grdO_true, ↓grdO_false, ↓grdD_true, ↓grdD_false, ↓ifC_true, ↓ifC_false, ↓opS_val, ↓opS_call, ↓opS_two, ↓opK_app, ↓dS_val, ↓dS_call, ↓dS_two, ↓dK_app, rechks_nil, rechks_cons, rechk, gcase_true, gcase_false, ex_val, ex_val0, gd_none, gd_some, nth_zero, nth_succ, upd_zero, upd_succ, put_some, put_none, ev_t, ev_c, evs_nil, evs_cons, evo_some, evo_none, hget_at, hget_first, hsetB_at, hsetB_first, hsetL_at, hsetL_first, ofOpt_some, aop, aload, astore, aslice, aappend, aiaddr, aiaddrA, afaddr, alen, alenS, acopy, amm, acall, apick, binV, binVB, binVS, isSh, intOp, strOp, boolOp, shOp, eqC, eqF, and2, cellsOf, setFrom, fillA, fillS, rd, rdI, elems, mk, bounds, AV.cell, List.all_cons, List.all_nil, Bool.and_true, Bool.true_and, Bool.and_self, List.length_cons, List.length_nil, List.length_append, Nat.reduceAdd, Nat.reduceSub, Nat.reduceMul, Nat.zero_add, Nat.add_zero, List.replicate_succ, List.replicate_zero, List.cons_append, List.nil_append, List.append_assoc, List.append_nil, List.getElem?_cons_zero, List.getElem?_cons_succ, List.getElem?_nil, List.set_cons_zero, List.set_cons_succ, List.drop_zero, List.drop_succ_cons, List.take_zero, List.take_succ_cons, List.take_nil, List.drop_nil, List.map_cons, List.map_nil, Option.map_some, if_true, if_false, Bool.false_eq_true, and_self, true_and, and_true, Nat.reduceLeDiff, Nat.reduceLT, Nat.le_refl, Nat.reduceEqDiff, ite_true, ite_false, beq_self_eq_true, beq_true, beq_false, Bool.not_true, Bool.not_false, Bool.true_beq, Bool.false_beq, map_vs, vs_len, vs_get, vs_take, vs_drop, vs_snoc1, vs_snoc2, vs_snoc3, vs_snoc5, vs_set1, vs_set2, vs_rep, wrap_id, le_T, lt_T, le_F, lt_F, leI_T, ltI_T, leI_F, ltI_F, geI, gtI, get_T, decide_true, decide_false, room, List.getElem?_map, List.length_map, List.length_take, Int.toNat_natCast, Nat.min_def, Nat.min_self]
      obtain rfl : k = t.length := by omega
      refine leave_frzA (i := 3) (n := t.length) (.inr rfl) (by simp (disch := omega) only [resVs, resV, ↓run_skip, ↓run_region, ↓run_draw, ↓run_seq, ↓run_block, ↓run_exit, ↓run_ret, ↓run_cond, ↓atN_app, ↓seqC_normal, ↓seqC_exit, ↓seqC_ret, ↓seqQ_normal, ↓seqQ_exit, ↓seqQ_ret, ↓blkQ_normal, ↓blkQ_exit, ↓blkQ_ret, ↓runOps_nil, ↓runOps_cons, ↓runD_nil, ↓runD_cons, ↓grdO_true, ↓grdO_false, ↓grdD_true, ↓grdD_false, ↓ifC_true, ↓ifC_false, ↓opS_val, ↓opS_call, ↓opS_two, ↓opK_app, ↓dS_val, ↓dS_call, ↓dS_two, ↓dK_app, rechks_nil, rechks_cons, rechk, gcase_true, gcase_false, ex_val, ex_val0, gd_none, gd_some, nth_zero, nth_succ, upd_zero, upd_succ, put_some, put_none, ev_t, ev_c, evs_nil, evs_cons, evo_some, evo_none, hget_at, hget_first, hsetB_at, hsetB_first, hsetL_at, hsetL_first, ofOpt_some, aop, aload, astore, aslice, aappend, aiaddr, aiaddrA, afaddr, alen, alenS, acopy, amm, acall, apick, binV, binVB, binVS, isSh, intOp, strOp, boolOp, shOp, eqC, eqF, and2, cellsOf, setFrom, fillA, fillS, rd, rdI, elems, mk, bounds, AV.cell, List.all_cons, List.all_nil, Bool.and_true, Bool.true_and, Bool.and_self, List.length_cons, List.length_nil, List.length_append, Nat.reduceAdd, Nat.reduceSub, Nat.reduceMul, Nat.zero_add, Nat.add_zero, List.replicate_succ, List.replicate_zero, List.cons_append, List.nil_append, List.append_assoc, List.append_nil, List.getElem?_cons_zero, List.getElem?_cons_succ, List.getElem?_nil, List.set_cons_zero, List.set_cons_succ, List.drop_zero, List.drop_succ_cons, List.take_zero, List.take_succ_cons, List.take_nil, List.drop_nil, List.map_cons, List.map_nil, Option.map_some, if_true, if_false, Bool.false_eq_true, and_self, true_and, and_true, Nat.reduceLeDiff, Nat.reduceLT, Nat.le_refl, Nat.reduceEqDiff, ite_true, ite_false, beq_self_eq_true, beq_true, beq_false, Bool.not_true, Bool.not_false, Bool.true_beq, Bool.false_beq, map_vs, vs_len, vs_get, vs_take, vs_drop, vs_snoc1, vs_snoc2, vs_snoc3, vs_snoc5, vs_set1, vs_set2, vs_rep, wrap_id, le_T, lt_T, le_F, lt_F, leI_T, ltI_T, leI_F, ltI_F, geI, gtI, get_T, decide_true, decide_false, room, List.getElem?_map, List.length_map, List.length_take, Int.toNat_natCast, Nat.min_def, Nat.min_self]) rfl (by simp [hfl]) hR hB ⟨?_, rfl, rfl⟩
      rw [List.take_of_length_le (by omega)]
end Go.Proofs.Ytfdekchpckdeiaa
