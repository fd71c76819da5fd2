/- Texts of one proof, laid together: FD, J0, J1, K1, K2. No condition. -/
import Derived.Test.YtanblnhnfkeffaaD33
import Derived.Test.YtanblnhnfkeffaaD35
import Derived.Test.YtanblnhnfkeffaaD38
import Derived.Test.YtanblnhnfkeffaaD312
import Derived.Test.YtanblnhnfkeffaaD311
import Derived.Test.YtanblnhnfkeffaaD39
import Derived.Test.YtanblnhnfkeffaaD32
import Derived.Test.YtanblnhnfkeffaaProg
namespace Go.Proofs.Ytanblnhnfkeffaa
open Go.RowKit
set_option linter.unusedVariables false
attribute [local go_sem] Oper.semAt_some

noncomputable def findR (t : Tr) (kd m : Int) : Nat × Nat := if validL t then findV t kd m else (0, 0)
noncomputable def countR (t : Tr) : Nat := if validL t then (ids t).length else 0
def FdPost (t : Tr) (kd m : Int) (w : World) (e : Ending) (w' : World) : Prop := e = .returned (.tuple #[idVal (findR t kd m), .bool (decide (0 < (findR t kd m).2))]) ∧ Ext w w'
def FdI (t : Tr) (w : World) (kd m : Int) (l : List (Nat × Nat)) (W : World) : Prop :=
 (((((BoxN W (w.heap.size + 1) 3 #[.int .i64 kd] ∧ BoxN W (w.heap.size + 1 + 1) 3 #[.int .i64 m]) ∧ BoxN W (w.heap.size + 1 + 1 + 1) 40 #[.int .i64 0, .int .i64 0]) ∧ BoxN W (w.heap.size + 1 + 1 + 1 + 1) 4 #[.bool false]) ∧ Ext w W) ∧ l.find? (keyB t kd m) = none)
def FdX (t : Tr) (w : World) (kd m : Int) (l : List (Nat × Nat)) (W : World) : Prop :=
 ∃ a x, (((l = a ++ [x] ∧ a.find? (keyB t kd m) = none ∧ keyB t kd m x = true) ∧ BoxN W (w.heap.size + 1 + 1 + 1) 40 #[.int .i64 x.1, .int .i64 x.2]) ∧ BoxN W (w.heap.size + 1 + 1 + 1 + 1) 4 #[.bool true]) ∧ Ext w W
theorem fdi_from (t : Tr) (w : World) (kd m : Int) {n : Nat} (hn : w.heap.size ≤ n) : OwnFrom n (fun (pre : List (Idt t)) W => FdI t w kd m (pre.map (·.1)) W) :=
 OwnFrom.and (OwnFrom.and (OwnFrom.and (OwnFrom.and (OwnFrom.and (boxN1_from _ _ _ _) (boxN1_from _ _ _ _)) (boxN1_from _ _ _ _)) (boxN1_from _ _ _ _)) (ext_from hn)) (ownFrom_pure _ _)
theorem fdx_from (t : Tr) (w : World) (kd m : Int) {n : Nat} (hn : w.heap.size ≤ n) : OwnFrom n (fun (pre : List (Idt t)) W => FdX t w kd m (pre.map (·.1)) W) := by
 rintro s X Y row ⟨a, x, h⟩ hg hr
 refine ⟨a, x, ⟨⟨h.1.1.1, ?_⟩, ?_⟩, ext_from hn () X Y row h.2 hg hr⟩
 ·exact boxN1_from _ n _ (fun (_ : Unit) => _) () X Y row h.1.1.2 hg hr
 ·exact boxN1_from _ n _ (fun (_ : Unit) => _) () X Y row h.1.2 hg hr
theorem findR_stop {t : Tr} {kd m : Int} {a : List (Nat × Nat)} {x : Nat × Nat} (hv : validL t = true) (hp : a ++ [x] <+: ids t) (h0 : a.find? (keyB t kd m) = none) (hx : keyB t kd m x = true) : findR t kd m = x ∧ 0 < x.2 := by
 obtain ⟨c, hc⟩ := hp
 have hf : (ids t).find? (keyB t kd m) = some x := by
  rw [← hc, List.append_assoc, List.find?_append, h0]; simp [hx]
 refine ⟨?_, mem_pos (t := t) (by rw [← hc]; simp)⟩
 unfold findR findV firstOf
 rw [if_pos hv, hf]; rfl
theorem findR_none {t : Tr} {kd m : Int} (h : (ids t).find? (keyB t kd m) = none) : findR t kd m = (0, 0) := by
 unfold findR findV firstOf
 rw [h]; simp

set_option maxRecDepth 100000 in
set_option maxHeartbeats 4000000 in
theorem find_any (u : Value) (t : Tr) (kd m : Int) (w : World) (hS : Small t) (hs : SlR 3 RPr w u t) :
  Calls Try.prog 82 #[.agg #[u], .int .i64 kd, .int .i64 m] w fun e w' => FdPost t kd m w e w' := by
 have HV := hide (fun w' (he : Ext w w') => callsIn_wide (n := 8).2 (Valid_any u t w' hS.sm (hs.ext RPr.keeps he)))
 refine callsIn_wide (n := 9).1 ?_
 refine callsIn_of_wp_marks Try.func82 rfl trivial ?_ rfl
 simp only [Try.ntmps82, List.size_toArray, List.length_cons, List.length_nil, Nat.reduceAdd, Nat.reduceSub, Array.replicate_succ, Array.replicate_zero, List.push_toArray, List.append_toArray, List.nil_append, List.cons_append]
 obtain ⟨A, c, rfl, _, hcm, _⟩ := hs.at_
 gi_wp2_with fail
 refine ⟨trivial, ?_⟩
 have hx1 : Ext w ((((((w).alloc (.cells #[.slice A t.length c] 24)).alloc (.cells #[.int .i64 kd] 3)).alloc (.cells #[.int .i64 m] 3)).alloc (.cells #[.int .i64 0, .int .i64 0] 40)).alloc (.cells #[.bool false] 4)) := (((((Ext.refl w).alloc _).alloc _).alloc _).alloc _).alloc _
 have b1 : BoxN ((((((w).alloc (.cells #[.slice A t.length c] 24)).alloc (.cells #[.int .i64 kd] 3)).alloc (.cells #[.int .i64 m] 3)).alloc (.cells #[.int .i64 0, .int .i64 0] 40)).alloc (.cells #[.bool false] 4)) (w.heap.size + 1) 3 #[.int .i64 kd] := (((BoxN.newAt _ _ (by simp)).alloc _).alloc _).alloc _
 have b2 : BoxN ((((((w).alloc (.cells #[.slice A t.length c] 24)).alloc (.cells #[.int .i64 kd] 3)).alloc (.cells #[.int .i64 m] 3)).alloc (.cells #[.int .i64 0, .int .i64 0] 40)).alloc (.cells #[.bool false] 4)) (w.heap.size + 1 + 1) 3 #[.int .i64 m] := ((BoxN.newAt _ _ (by simp)).alloc _).alloc _
 have b3 : BoxN ((((((w).alloc (.cells #[.slice A t.length c] 24)).alloc (.cells #[.int .i64 kd] 3)).alloc (.cells #[.int .i64 m] 3)).alloc (.cells #[.int .i64 0, .int .i64 0] 40)).alloc (.cells #[.bool false] 4)) (w.heap.size + 1 + 1 + 1) 40 #[.int .i64 0, .int .i64 0] := (BoxN.newAt _ _ (by simp)).alloc _
 have b4 : BoxN ((((((w).alloc (.cells #[.slice A t.length c] 24)).alloc (.cells #[.int .i64 kd] 3)).alloc (.cells #[.int .i64 m] 3)).alloc (.cells #[.int .i64 0, .int .i64 0] 40)).alloc (.cells #[.bool false] 4)) (w.heap.size + 1 + 1 + 1 + 1) 4 #[.bool false] := BoxN.newAt _ _ (by simp)
 have bT : BoxN ((((((w).alloc (.cells #[.slice A t.length c] 24)).alloc (.cells #[.int .i64 kd] 3)).alloc (.cells #[.int .i64 m] 3)).alloc (.cells #[.int .i64 0, .int .i64 0] 40)).alloc (.cells #[.bool false] 4)) (w.heap.size) 24 #[.slice A t.length c] := ((((BoxN.new _ _ _).alloc _).alloc _).alloc _).alloc _
 generalize (((((w).alloc (.cells #[.slice A t.length c] 24)).alloc (.cells #[.int .i64 kd] 3)).alloc (.cells #[.int .i64 m] 3)).alloc (.cells #[.int .i64 0, .int .i64 0] 40)).alloc (.cells #[.bool false] 4) = W1 at *
 refine (HV.out _ hx1).mono ?_
 rintro e w2 ⟨rfl, he2⟩
 replace hx1 := hx1.trans he2
 replace b1 := b1.ext he2
 replace b2 := b2.ext he2
 replace b3 := b3.ext he2
 replace b4 := b4.ext he2
 replace bT := bT.ext he2
 clear he2
 have f0 := b3.frozen 0
 have f1 := b3.frozen 1
 have f2 := b4.frozen 0
 have r0 : w2.cell? ⟨w.heap.size + 1 + 1 + 1, 0, none⟩ = some (.int .i64 0) := b3.cell (j := 0) rfl
 have r1 : w2.cell? ⟨w.heap.size + 1 + 1 + 1, 1, none⟩ = some (.int .i64 0) := b3.cell (j := 1) rfl
 have r2 : w2.cell? ⟨w.heap.size + 1 + 1 + 1 + 1, 0, none⟩ = some (.bool false) := b4.cell (j := 0) rfl
 have t0 : w2.cell? ⟨w.heap.size, 0, none⟩ = some (.slice A t.length c) := bT.cell (j := 0) rfl
 cases hv : validL t
 ·have HF := hide (show findR t kd m = (0, 0) by unfold findR; rw [hv]; rfl)
  clear hv
  gi_wp2_with fail
  obtain ⟨Wr, hWr⟩ : ∃ Wr, ((w2.setCell ⟨w.heap.size + 1 + 1 + 1, 0, none⟩ (Value.int .i64 0)).setCell ⟨w.heap.size + 1 + 1 + 1, 1, none⟩ (Value.int .i64 0)).setCell ⟨w.heap.size + 1 + 1 + 1 + 1, 0, none⟩ (Value.bool false) = Wr := ⟨_, rfl⟩
  rw [hWr]
  have s1 : BoxN Wr (w.heap.size + 1 + 1 + 1) 40 #[.int .i64 0, .int .i64 0] := by rw [← hWr]; exact kW1
  have s2 : BoxN Wr (w.heap.size + 1 + 1 + 1 + 1) 4 #[.bool false] := by rw [← hWr]; exact kW1
  have sx : Ext w Wr := by rw [← hWr]; exact kW1
  clear hWr
  refine ⟨.tuple #[idVal (0, 0), .bool false], by simp [results, Try.f82, go_sem, idVal, s1.cell (j := 0) rfl, s1.cell (j := 1) rfl, s2.cell (j := 0) rfl], by rw [HF.out]; rfl, sx⟩
 ·have HVL := hide hv
  clear hv
  have hnp := hS.np
  gi_wp2_with (refine ⟨trivial, ?_⟩; gi_at_call 80; refine (callsIn_wide.2 (events_any _ _)).mono ?_; rintro e w' ⟨rfl, rfl⟩)
  have bt := BoxN.new w2 24 #[.slice A t.length c]
  have hM0 : FdI t w kd m [] (w2.alloc (.cells #[.slice A t.length c] 24)) := ⟨⟨⟨⟨⟨b1.alloc _, b2.alloc _⟩, b3.alloc _⟩, b4.alloc _⟩, hx1.alloc _⟩, rfl⟩
  have hwr : w.heap.size ≤ w2.heap.size := hx1.size
  have hsz0 : (w2.alloc (.cells #[.slice A t.length c] 24)).heap.size = w2.heap.size + 1 := by simp
  generalize (w2.alloc (.cells #[.slice A t.length c] 24)) = W0 at *
  have hext0 : Ext w W0 := hM0.1.2
  have hw0 : w.heap.size ≤ W0.heap.size := by omega
  clear hsz0 f0 f1 f2 r0 r1 r2 t0
  refine wpIn_rangeFunc_ownH rfl oM (gf := 146) (lb := #[.pointer (some ⟨w2.heap.size, 0, none⟩)]) rfl trivial (callFunc_enter Try.func146 (by decide) rfl)
   (events_stops 8 oM w (.slice A t.length c) t w2.heap.size W0 hnp hS.ne hs hext0 (bt.cell rfl) hwr) belowK_t (belowK_b hw0) (Below.refl _ _) (fun _ => rfl)
   (fun pre W => FdI t w kd m (pre.map (·.1)) W) (fun c pre W => c = .ret ∧ FdX t w kd m (pre.map (·.1)) W) (fdi_from t w kd m hw0) (fun c => OwnFrom.and (ownFrom_pure _ _) (fdx_from t w kd m hw0)) hM0
   (fun x a' W => ∃ B6 B7 A4 n4 c4 v13 v14, (w.heap.size + 1 + 1 + 1 + 1 < B6 ∧ w.heap.size + 1 + 1 + 1 + 1 < B7) ∧ BoxN W B6 40 #[.int .i64 x.1.1, .int .i64 x.1.2] ∧ BoxN W B7 34 #[.int .i64 (evAt t x.1).kind, .int .i64 (evAt t x.1).peer, .int .i64 (evAt t x.1).msg, .int .i64 (evAt t x.1).time, .slice A4 n4 c4] ∧
    a' = { tmps := #[.agg #[.slice A t.length c], .int .i64 kd, .int .i64 m, .pointer (some ⟨w.heap.size, 0, none⟩), .pointer (some ⟨w.heap.size + 1, 0, none⟩), .pointer (some ⟨w.heap.size + 1 + 1, 0, none⟩), .pointer (some ⟨w.heap.size + 1 + 1 + 1, 0, none⟩), .pointer (some ⟨w.heap.size + 1 + 1 + 1 + 1, 0, none⟩), .pointer (some ⟨B6, 0, none⟩), .pointer (some ⟨B7, 0, none⟩), .agg #[.slice A t.length c], .bool true, .bool false, undef, .agg #[.slice A t.length c], .func (.func 146) #[] #[.pointer (some ⟨w2.heap.size, 0, none⟩)], v13, v14, undef, undef, undef, undef, undef, undef, undef, undef, undef, undef, undef, undef], defers := [] })
   ?hax ?assign ?body ?done ?stop
  case hax =>
   rintro x a' _ X Y row ⟨B6, B7, A4, n4, c4, v13, v14, hB, b6, b7, ha⟩ hg hr
   exact ⟨B6, B7, A4, n4, c4, v13, v14, hB, boxN1_from B6 _ _ (fun (_ : Unit) => _) () X Y row b6 hg hr, boxN1_from B7 _ _ (fun (_ : Unit) => _) () X Y row b7 hg hr, ha⟩
  case assign =>
   rintro l pre x W K hI hK
   obtain ⟨a, hv, hsa⟩ := evVal_ok hs x.2
   obtain ⟨A4, c4, rfl, _, _, _⟩ := hsa.at_
   clear hsa
   simp only [hv]
   have hsW := hI.1.2.size
   have h5 := hI.1.1.2.lt
   unfold idVal
   gi_wp2
   exact hK _ _ (((KeepsOthers.alloc _ _).trans (KeepsOthers.alloc _ _)).from _) (((Below.refl _ W).alloc hsW _).alloc (by simp; omega) _) ((fdi_from t w kd m (Nat.le_refl _)).alloc _ ((fdi_from t w kd m (Nat.le_refl _)).alloc _ hI))
    ⟨W.heap.size, W.heap.size + 1, A4, _, c4, _, _, ⟨h5, by omega⟩, (BoxN.new _ _ _).alloc _, BoxN.newAt _ _ (by simp), rfl⟩
  case body =>
   rintro l pre x a' W hlW ⟨r, hr⟩ hI ⟨B6, B7, A4, n4, c4, v13, v14, ⟨hB6, hB7⟩, b6, b7, rfl⟩ hlen
   obtain ⟨⟨⟨⟨⟨c1, c2⟩, c3⟩, c4'⟩, hxW⟩, hno⟩ := hI
   have hsW := hxW.size
   have HNO := hide hno
   have HKEY := hide (show keyB t kd m x.1 = (((evAt t x.1).kind == kd) && ((evAt t x.1).msg == m)) from rfl)
   clear hno
   have k0 := b7.cell (j := 0) rfl
   have k1 := b7.cell (j := 1) rfl
   have k2 := b7.cell (j := 2) rfl
   have k3 := b7.cell (j := 3) rfl
   have k4 := b7.cell (j := 4) rfl
   have i0 := b6.cell (j := 0) rfl
   have i1 := b6.cell (j := 1) rfl
   have d1 := c1.cell (j := 0) rfl
   have d2 := c2.cell (j := 0) rfl
   have f0 := c3.frozen 0
   have f1 := c3.frozen 1
   have f2 := c4'.frozen 0
   have r0 := c3.cell (j := 0) rfl
   have r1 := c3.cell (j := 1) rfl
   have r2 := c4'.cell (j := 0) rfl
   have hkk : ∀ b1 b2, ((evAt t x.1).kind == kd) = b1 → ((evAt t x.1).msg == m) = b2 → keyB t kd m x.1 = (b1 && b2) := fun b1 b2 h1 h2 => by rw [HKEY.out, h1, h2]
   have HKK := hide hkk
   clear hkk
   have hIok : ∀ y : Nat × Nat, y = x.1 → keyB t kd m x.1 = false → (pre.map (·.1) ++ [y]).find? (keyB t kd m) = none := fun y hy h => by
    rw [List.find?_append, HNO.out, hy]; simp [h]
   have HIOK := hide hIok
   clear hIok
   cases q1 : (evAt t x.1).kind == kd
   ·have HN := hide (HIOK.out x.1 rfl (HKK.out _ _ q1 rfl))
    gi_wp2
    refine ⟨KeepsFrom.refl _ _, Below.refl _ _, ?_⟩
    show FdI t w kd m ((pre ++ [x]).map (·.1)) _
    rw [map_snoc]
    exact ⟨⟨⟨⟨⟨c1, c2⟩, c3⟩, c4'⟩, hxW⟩, HN.out⟩
   ·cases q2 : (evAt t x.1).msg == m
    ·have HN := hide (HIOK.out x.1 rfl (by rw [HKK.out _ _ q1 q2]; rfl))
     gi_wp2
     refine ⟨KeepsFrom.refl _ _, Below.refl _ _, ?_⟩
     show FdI t w kd m ((pre ++ [x]).map (·.1)) _
     rw [map_snoc]
     exact ⟨⟨⟨⟨⟨c1, c2⟩, c3⟩, c4'⟩, hxW⟩, HN.out⟩
    ·have HN := hide (HKK.out _ _ q1 q2)
     gi_wp2
     refine ⟨?_, rfl, pre.map (·.1), x.1, ⟨⟨⟨map_snoc pre x, HNO.out, HN.out⟩, ?_⟩, ?_⟩, ?_⟩
     all_goals exact kW1
  case done =>
   rintro D ys W hD hys ⟨⟨⟨⟨⟨c1, c2⟩, c3⟩, c4⟩, hxW⟩, hno⟩ hK
   rw [hys] at hno
   have HF := hide (findR_none hno)
   clear hno
   have f0 := c3.frozen 0
   have f1 := c3.frozen 1
   have f2 := c4.frozen 0
   have r0 := c3.cell (j := 0) rfl
   have r1 := c3.cell (j := 1) rfl
   have r2 := c4.cell (j := 0) rfl
   gi_wp2
   obtain ⟨Wr, hWr⟩ : ∃ Wr, ((W.setCell ⟨w.heap.size + 1 + 1 + 1, 0, none⟩ (Value.int .i64 0)).setCell ⟨w.heap.size + 1 + 1 + 1, 1, none⟩ (Value.int .i64 0)).setCell ⟨w.heap.size + 1 + 1 + 1 + 1, 0, none⟩ (Value.bool false) = Wr := ⟨_, rfl⟩
   rw [hWr]
   have s1 : BoxN Wr (w.heap.size + 1 + 1 + 1) 40 #[.int .i64 0, .int .i64 0] := by rw [← hWr]; exact kW1
   have s2 : BoxN Wr (w.heap.size + 1 + 1 + 1 + 1) 4 #[.bool false] := by rw [← hWr]; exact kW1
   have sx : Ext w Wr := by rw [← hWr]; exact kW1
   have hkf : KeepsFrom W0.heap.size W Wr := by rw [← hWr]; exact kW1
   have hKW : Wr.heap[D]? = some (.deferred (some [])) := hkf.same D _ hD hK rfl
   clear hWr
   have e2 := (s1.putObj hKW rfl (.deferred none)).cell (j := 0) rfl
   have e3 := (s1.putObj hKW rfl (.deferred none)).cell (j := 1) rfl
   have e4 := (s2.putObj hKW rfl (.deferred none)).cell (j := 0) rfl
   refine ⟨by simp, .inl ⟨_, _, rfl, run_takeDeferred hKW, ?_⟩⟩
   refine ⟨.tuple #[idVal (0, 0), .bool false], ?_, by rw [HF.out]; rfl, sx.putObj oM hKW _⟩
   simp [results, Try.f82, go_sem, e2, e3, e4, idVal]
  case stop =>
   rintro D c' pre W hD hpre ⟨rfl, a, x, ⟨⟨⟨hp, h0, hx⟩, r1W⟩, r2W⟩, hxW⟩ hK
   rw [hp] at hpre
   have HST := hide (findR_stop HVL.out hpre h0 hx)
   clear h0 hx
   gi_wp2
   have e2 := (r1W.putObj hK rfl (.deferred none)).cell (j := 0) rfl
   have e3 := (r1W.putObj hK rfl (.deferred none)).cell (j := 1) rfl
   have e4 := (r2W.putObj hK rfl (.deferred none)).cell (j := 0) rfl
   refine ⟨by simp, .inl ⟨_, _, rfl, run_takeDeferred hK, ?_⟩⟩
   refine ⟨.tuple #[idVal x, .bool true], ?_, by rw [HST.out.1, decide_eq_true HST.out.2], hxW.putObj oM hK _⟩
   simp [results, Try.f82, go_sem, e2, e3, e4, idVal]
theorem Sender_any (u : Value) (t : Tr) (m : Int) (w : World) (hS : Small t) (hs : SlR 3 RPr w u t) :
  Calls Try.prog 18 #[.agg #[u], .int .i64 m] w fun e w' => FdPost t 2 m w e w' := by
 have HF := hide (fun w' (he : Ext w w') => find_any u t 2 m w' hS (hs.ext RPr.keeps he))
 obtain ⟨A, c, rfl, _, hcm, _⟩ := hs.at_
 go_enter Try.func18, Try.ntmps18
 go_wp2_with fail
 have hx1 := ((Ext.refl w).alloc (.cells #[.slice A t.length c] 24)).alloc (.cells #[.int .i64 0, .int .i64 0] 40)
 have b3 : BoxN ((w.alloc (.cells #[.slice A t.length c] 24)).alloc (.cells #[.int .i64 0, .int .i64 0] 40)) (w.heap.size + 1) 40 #[.int .i64 0, .int .i64 0] := BoxN.newAt _ _ (by simp)
 generalize (w.alloc (.cells #[.slice A t.length c] 24)).alloc (.cells #[.int .i64 0, .int .i64 0] 40) = W1 at *
 refine (HF.out _ hx1).mono ?_
 rintro e w2 ⟨rfl, he2⟩
 have hx2 := hx1.trans he2
 have b4 := b3.ext he2
 have f0 := b4.frozen 0
 have f1 := b4.frozen 1
 have r0 := b4.cell (j := 0) rfl
 have r1 := b4.cell (j := 1) rfl
 unfold idVal
 go_wp2
 obtain ⟨Wr, hWr⟩ : ∃ Wr, (w2.setCell ⟨w.heap.size + 1, 0, none⟩ (Value.int .i64 (findR t 2 m).1)).setCell ⟨w.heap.size + 1, 1, none⟩ (Value.int .i64 (findR t 2 m).2) = Wr := ⟨_, rfl⟩
 rw [hWr]
 have s1 : BoxN Wr (w.heap.size + 1) 40 #[.int .i64 (findR t 2 m).1, .int .i64 (findR t 2 m).2] := by rw [← hWr]; exact kW1
 have sx : Ext w Wr := by rw [← hWr]; exact kW1
 clear hWr
 refine bodyPost_ret (v := .tuple #[idVal (findR t 2 m), .bool (decide (0 < (findR t 2 m).2))]) ?_ rfl ⟨rfl, sx⟩
 simp [results, Try.f18, go_sem, idVal, s1.cell (j := 0) rfl, s1.cell (j := 1) rfl]
def CtI (t : Tr) (w : World) (gc : Nat) (l : List (Nat × Nat)) (W : World) : Prop := (BoxN W gc 3 #[.int .i64 l.length] ∧ Ext w W)
theorem cti_from (t : Tr) (w : World) (gc : Nat) {n : Nat} (hn : w.heap.size ≤ n) : OwnFrom n (fun (pre : List (Idt t)) W => CtI t w gc (pre.map (·.1)) W) :=
 OwnFrom.and (boxN1_from _ _ _ _) (ext_from hn)
set_option maxRecDepth 100000 in
set_option maxHeartbeats 4000000 in
theorem Count_any (u : Value) (t : Tr) (w : World) (hS : Small t) (hN : (ids t).length ≤ 1000000) (hs : SlR 3 RPr w u t) :
  Calls Try.prog 72 #[.agg #[u]] w fun e w' => e = .returned (.int .i64 (countR t)) ∧ Ext w w' := by
 have HV := hide (fun w' (he : Ext w w') => callsIn_wide (n := 8).2 (Valid_any u t w' hS.sm (hs.ext RPr.keeps he)))
 refine callsIn_wide (n := 9).1 ?_
 refine callsIn_of_wp_marks Try.func72 rfl trivial ?_ rfl
 simp only [Try.ntmps72, List.size_toArray, List.length_cons, List.length_nil, Nat.reduceAdd, Nat.reduceSub, Array.replicate_succ, Array.replicate_zero, List.push_toArray, List.append_toArray, List.nil_append, List.cons_append]
 obtain ⟨A, c, rfl, _, hcm, _⟩ := hs.at_
 gi_wp2_with fail
 refine ⟨trivial, ?_⟩
 have hx1 : Ext w (w.alloc (.cells #[.slice A t.length c] 24)) := (Ext.refl w).alloc _
 have bT : BoxN (w.alloc (.cells #[.slice A t.length c] 24)) (w.heap.size) 24 #[.slice A t.length c] := BoxN.new _ _ _
 generalize w.alloc (.cells #[.slice A t.length c] 24) = W1 at *
 refine (HV.out _ hx1).mono ?_
 rintro e w2 ⟨rfl, he2⟩
 replace hx1 := hx1.trans he2
 replace bT := bT.ext he2
 clear he2
 have t0 : w2.cell? ⟨w.heap.size, 0, none⟩ = some (.slice A t.length c) := bT.cell (j := 0) rfl
 have lt0 := bT.lt
 cases hv : validL t
 ·have HF := hide (show countR t = 0 by unfold countR; rw [hv]; rfl)
  clear hv
  gi_wp2_with fail
  exact ⟨.int .i64 0, by simp [results, Try.f72, go_sem], by rw [HF.out]; rfl, hx1⟩
 ·have HVL := hide (show countR t = (ids t).length by unfold countR; rw [hv]; rfl)
  clear hv
  have hnp := hS.np
  gi_wp2_with (refine ⟨trivial, ?_⟩; gi_at_call 80; refine (callsIn_wide.2 (events_any _ _)).mono ?_; rintro e w' ⟨rfl, rfl⟩)
  have bt : BoxN ((w2.alloc (.cells #[.int .i64 0] 3)).alloc (.cells #[.slice A t.length c] 24)) (w2.heap.size + 1) 24 #[.slice A t.length c] := BoxN.newAt _ _ (by simp)
  have hM0 : CtI t w w2.heap.size [] ((w2.alloc (.cells #[.int .i64 0] 3)).alloc (.cells #[.slice A t.length c] 24)) := ⟨(BoxN.new _ _ _).alloc _, (hx1.alloc _).alloc _⟩
  have hwr : w.heap.size ≤ w2.heap.size := hx1.size
  have hsz0 : ((w2.alloc (.cells #[.int .i64 0] 3)).alloc (.cells #[.slice A t.length c] 24)).heap.size = w2.heap.size + 1 + 1 := by simp
  generalize ((w2.alloc (.cells #[.int .i64 0] 3)).alloc (.cells #[.slice A t.length c] 24)) = W0 at *
  have hext0 : Ext w W0 := hM0.2
  have hw0 : w.heap.size ≤ W0.heap.size := by omega
  clear hsz0 t0 lt0 hx1 bT
  generalize w2.heap.size = gc at *
  refine wpIn_rangeFunc_ownH rfl oM (gf := 146) (lb := #[.pointer (some ⟨gc + 1, 0, none⟩)]) rfl trivial (callFunc_enter Try.func146 (by decide) rfl)
   (events_stops 8 oM w (.slice A t.length c) t (gc + 1) W0 hnp hS.ne hs hext0 (bt.cell rfl) oM) belowK_t (belowK_b hw0) (Below.refl _ _) (fun _ => rfl)
   (fun pre W => CtI t w gc (pre.map (·.1)) W) (fun c pre W => False) (cti_from t w gc hw0) (fun c => ownFrom_pure _ _) hM0
   (fun x a' W => ∃ v13 v14,
    a' = { tmps := #[.agg #[.slice A t.length c], .pointer (some ⟨w.heap.size, 0, none⟩), .int .i64 0, .pointer (some ⟨gc, 0, none⟩), .agg #[.slice A t.length c], .bool true, .bool false, .agg #[.slice A t.length c], .func (.func 146) #[] #[.pointer (some ⟨gc + 1, 0, none⟩)], v13, v14, undef, undef, undef], defers := [] })
   ?hax ?assign ?body ?done ?stop
  case hax =>
   rintro x a' _ X Y row ⟨v13, v14, ha⟩ hg hr
   exact ⟨v13, v14, ha⟩
  case assign =>
   rintro l pre x W K hI hK
   gi_wp2
   exact hK _ _ (KeepsFrom.refl _ _) (Below.refl _ _) hI ⟨idVal x.1, evVal w (.slice A t.length c) x.1, by simp⟩
  case body =>
   rintro l pre x a' W hlW ⟨r, hr⟩ hI ⟨v13, v14, rfl⟩ hlen
   obtain ⟨c1, hxW⟩ := hI
   have hsW := hxW.size
   have d0 : W.cell? ⟨gc, 0, none⟩ = some (.int .i64 ((pre.length : Nat) : Int)) := by rw [c1.cell (j := 0) rfl]; simp
   have f0 := c1.frozen 0
   have hl2 : pre.length < 1000000 := by omega
   have hwrap := (wrap_addI pre.length 1 1 rfl oM).1
   have HGC := hide hwr
   gi_wp2
   refine ⟨KF.set (KeepsFrom.refl _ _) _ _, BL.set (Below.refl _ _) _ _ _ hwr, ?_⟩
   show CtI t w gc ((pre ++ [x]).map (·.1)) _
   refine ⟨?_, Ext.set hxW hwr _⟩
   rw [show (((pre ++ [x]).map (·.1)).length : Int) = (pre.length : Int) + 1 by simp]
   exact BoxN.set1 c1
  case done =>
   rintro D ys W hD hys ⟨c1, hxW⟩ hK
   rw [hys] at c1
   have d0 : W.cell? ⟨gc, 0, none⟩ = some (.int .i64 ((ids t).length : Nat)) := c1.cell (j := 0) rfl
   gi_wp2
   refine ⟨by simp, .inl ⟨_, _, rfl, run_takeDeferred hK, ?_⟩⟩
   refine ⟨.int .i64 ((ids t).length : Nat), ?_, by rw [HVL.out], hxW.putObj oM hK _⟩
   simp [results, Try.f72, go_sem]
  case stop => rintro D c' pre W hD hpre h; exact h.elim
end Go.Proofs.Ytanblnhnfkeffaa
namespace Go.Proofs.Ytanblnhnfkeffaa
set_option linter.unusedVariables false
theorem sender_spec (t : Tr) (hS : Small t) (hN : Nm t) (b l : List Row) (m : Int) : ACalls Try.prog 18 [.agg [.v (eT t)], .v (.int .i64 m)] b l (fun r b' l' => r = .tup [idA (findR t 2 m), .v (.bool (decide (0 < (findR t 2 m).2)))] ∧ b' = b ∧ l' = l) := by
 refine ACalls.of_ext ⟨_, Try.func18, by kernel_rfl, by kernel_rfl⟩ (fun F L w vs hr => ?_)
 obtain ⟨u, us, rfl, hs, hr2⟩ := repL_tr hN hr
 obtain ⟨v, us, rfl, h3, hr2⟩ := repL_cons hr2
 obtain rfl := repL_nil hr2
 cases h3.vI
 refine (Sender_any u t m w hS hs).mono ?_
 rintro e w' ⟨rfl, he⟩
 exact ⟨he, _, _, rfl, RepL.tup (RepL.cons (idA_rep _ _ _ _) (RepL.cons (.v _ _ (.bool _)) RepL.nil)), rfl, rfl, rfl⟩
theorem count_spec (t : Tr) (hS : Small t) (hN : Nm t) (b l : List Row) (hM : (ids t).length ≤ 1000000) : ACalls Try.prog 72 [.agg [.v (eT t)]] b l (fun r b' l' => r = .v (.int .i64 (countR t)) ∧ b' = b ∧ l' = l) := by
 refine ACalls.of_ext ⟨_, Try.func72, by kernel_rfl, by kernel_rfl⟩ (fun F L w vs hr => ?_)
 obtain ⟨u, us, rfl, hs, hr2⟩ := repL_tr hN hr
 obtain rfl := repL_nil hr2
 refine (Count_any u t w hS hM hs).mono ?_
 rintro e w' ⟨rfl, he⟩
 exact ⟨he, _, _, rfl, .v _ _ (.int _ _), rfl, rfl, rfl⟩
end Go.Proofs.Ytanblnhnfkeffaa
namespace Go.Proofs.Ytanblnhnfkeffaa
set_option linter.unusedVariables false
set_option linter.unusedSimpArgs false
noncomputable def fst (t : Tr) (k : Nat) : Nat → Nat × Nat → Nat → Nat
 | 0, _, _ => 0
 | n + 1, x, c => max (if 1 < x.2 then fst t k n (x.1, x.2 - 1) c else 0) (if (evAt t x).kind = 3 then fst t k n (sndr t x) c else 0) + if x.1 % k = c then 1 else 0
noncomputable def fc (t : Tr) (k : Nat) (x : Nat × Nat) (c : Nat) : Nat := fst t k (ids t).length x c
end Go.Proofs.Ytanblnhnfkeffaa
namespace Go.Proofs.Ytanblnhnfkeffaa
set_option linter.unusedVariables false
set_option linter.unusedSimpArgs false
noncomputable def lam (t : Tr) (x : Nat × Nat) : Nat := fc t 1 x 0
def Mle (t : Tr) (M : Nat → Nat → Nat) : Prop := ∀ x ∈ ids t, M x.1 x.2 ≤ lam t x
def mUp (M : Nat → Nat → Nat) (x : Nat × Nat) (v : Nat) : Nat → Nat → Nat := fun p i => if p = x.1 ∧ i = x.2 then v else M p i
theorem mUp_same {M : Nat → Nat → Nat} {x : Nat × Nat} {v : Nat} : mUp M x v x.1 x.2 = v := if_pos ⟨rfl, rfl⟩
theorem mUp_ne {M : Nat → Nat → Nat} {x y : Nat × Nat} {v : Nat} (h : y ≠ x) : mUp M x v y.1 y.2 = M y.1 y.2 := if_neg (fun k => h (Prod.ext k.1 k.2))
theorem Mle.up {t : Tr} {M : Nat → Nat → Nat} (hM : Mle t M) {x : Nat × Nat} {v : Nat} (h : v ≤ lam t x) : Mle t (mUp M x v) := by
 intro y hy
 by_cases he : y = x
 ·subst he; rw [mUp_same]; exact h
 ·rw [mUp_ne he]; exact hM y hy
end Go.Proofs.Ytanblnhnfkeffaa
namespace Go.Proofs.Ytanblnhnfkeffaa
set_option linter.unusedVariables false
set_option linter.unusedSimpArgs false
attribute [local go_sem ↓] run_skip run_region run_draw run_both run_seq run_block run_exit run_ret run_cond atN_app seqC_normal seqC_exit seqC_ret seqQ_normal seqQ_exit seqQ_ret blkQ_normal blkQ_exit blkQ_ret runOps_nil runOps_cons runD_nil runD_cons grdO_true grdO_false grdD_true grdD_false ifC_true ifC_false opS_val opS_call opS_two opK_app dS_val dS_call dS_two dK_app kUp_same kUp_ne
attribute [local go_sem] rechks_nil rechks_cons rechk gcase_true gcase_false ex_val ex_val0 gd_none gd_some ev_t ev_c evs_nil evs_cons evo_some evo_none hget_at hget_first hsetB_at hsetB_first hsetL_at hsetL_first ofOpt_some aop aload astore aslice aappend aiaddr aiaddrA afaddr alen alenS acopy amm acall alookup amupdate alenM atostr comma keyEq apick binV binVB binVS isSh intOp strOp boolOp shOp eqC eqF and2 cellsOf setFrom fillA fillS rd rdI elems mk bounds AV.cell List.all_cons List.all_nil Bool.and_true Bool.true_and Bool.and_self List.length_cons List.length_nil List.length_append Nat.reduceAdd Nat.reduceSub Nat.reduceMul Nat.zero_add Nat.add_zero List.cons_append List.nil_append List.append_assoc List.append_nil List.getElem?_cons_zero List.getElem?_cons_succ List.getElem?_nil List.set_cons_zero List.set_cons_succ List.drop_zero List.drop_succ_cons List.take_zero List.take_succ_cons List.take_nil List.drop_nil List.map_cons List.map_nil Option.map_some if_true if_false Bool.false_eq_true and_self true_and and_true Nat.reduceLeDiff Nat.reduceLT Nat.le_refl Nat.reduceEqDiff ite_true ite_false beq_self_eq_true beq_true beq_false Bool.not_true Bool.not_false Bool.true_beq Bool.false_beq map_vs vs_len vs_get vs_take vs_drop vs_snoc1 vs_snoc2 vs_snoc3 vs_snoc5 vs_set1 vs_set2 vs_rep wrap_id le_T lt_T le_F lt_F leI_T ltI_T leI_F ltI_F geI gtI get_T decide_true decide_false room List.getElem?_map List.length_map List.length_take Int.toNat_natCast Nat.min_def Nat.min_self nth_kOf put_kOf put_kNo kOv_cons kOv_nil KHas KArgs List.getElem_cons_zero List.getElem_cons_succ
def a_rAt : AFunc := ⟨2,17,[.cell 4 (some 5)],(.seq (.region [⟨some 2,.box (.t 0),none⟩,⟨some 3,.box (.t 1),none⟩,⟨some 4,.alloc [(.v (.int .i64 0)),(.v (.int .i64 0)),(.v (.int .i64 0)),(.v (.int .i64 0)),(.v .zsl)],none⟩]) (.seq (.draw [⟨0,⟨some 5,.faddr 0 (.t 2),none⟩,[]⟩,⟨1,⟨some 6,.load none (.t 5),none⟩,[]⟩,⟨2,⟨some 7,.faddr 0 (.t 3),none⟩,[]⟩,⟨3,⟨some 8,.load none (.t 7),none⟩,[]⟩,⟨4,⟨some 9,.iaddr 3 (.t 6) (.t 8),none⟩,[]⟩,⟨5,⟨some 10,.faddr 2 (.t 9),none⟩,[]⟩,⟨6,⟨some 11,.load none (.t 10),none⟩,[]⟩,⟨7,⟨some 12,.faddr 1 (.t 3),none⟩,[]⟩,⟨8,⟨some 13,.load none (.t 12),none⟩,[]⟩,⟨9,⟨some 14,.bin .sub (.t 13) (.c (.v (.int .i64 1))),none⟩,[]⟩,⟨10,⟨some 15,.iaddr 5 (.t 11) (.t 14),none⟩,[]⟩,⟨11,⟨some 16,.load (some 5) (.t 15),none⟩,[]⟩,⟨12,⟨none,.store 5 (.t 4) (.t 16),none⟩,[]⟩]) .ret))⟩
theorem a_rAt_ok : cFunc Try.prog 126 = some a_rAt := by kernel_rfl

theorem rFind2_spec (t : Tr) (hS : Small t) (hN : Nm t) (k m : Int) (b l : List Row) : ACalls Try.prog 127 [.agg [.v (eT t)], .v (.int .i64 k), .v (.int .i64 m)] b l (fun r b' l' => r = idA (findV t k m) ∧ b' = b ∧ l' = l) := by
 refine ACalls.of_ext ⟨_, Try.func127, by kernel_rfl, by kernel_rfl⟩ (fun F L w vs hr => ?_)
 obtain ⟨u, us, rfl, hs, hr2⟩ := repL_tr hN hr
 obtain ⟨v, us, rfl, h3, hr2⟩ := repL_cons hr2
 obtain ⟨v', us, rfl, h4, hr2⟩ := repL_cons hr2
 obtain rfl := repL_nil hr2
 cases h3.vI
 cases h4.vI
 refine (Find_any u t k m w hS hs).mono ?_
 rintro e w' ⟨rfl, he⟩
 exact ⟨he, _, _, rfl, idA_rep _ _ _ _, rfl, rfl, rfl⟩
theorem rAt_spec (t : Tr) (hS : Small t) (p i : Nat) (hp : p < t.length) (hi : i < t[p].evs.length) (b l : List Row) :
  ACalls Try.prog 126 [.agg [.v (eT t)], idA (p, i + 1)] b l (fun r b' l' => r = .agg [.v (.int .i64 t[p].evs[i].kind), .v (.int .i64 t[p].evs[i].peer), .v (.int .i64 t[p].evs[i].msg), .v (.int .i64 t[p].evs[i].time), .v (.isl 2 (t[p].evs[i].asg.map eAsg))] ∧ b' = b ∧ l' = l) := by
 refine calls_kept a_rAt_ok rfl (by decide) ?_
 intro B g hB hR hE hA
 simp only [KArgs] at hA
 have hne := hS.ne _ (List.getElem_mem hp)
 have hnp := hS.np
 have hci : ((i + 1 : Nat) : Int) - 1 = (i : Int) := by omega
 simp (disch := (first | decide | omega)) only [a_rAt, hA, idA, eT, ePr, eEv, hci, List.length_map, go_sem]
 exact leave_pure (xs := [.agg [.v (.int .i64 t[p].evs[i].kind), .v (.int .i64 t[p].evs[i].peer), .v (.int .i64 t[p].evs[i].msg), .v (.int .i64 t[p].evs[i].time), .v (.isl 2 (t[p].evs[i].asg.map eAsg))]]) (.inr rfl) (by simp (disch := (first | decide | omega)) only [resVs, resV, go_sem, hA]) kO hR hB ⟨rfl, rfl, rfl⟩
end Go.Proofs.Ytanblnhnfkeffaa
