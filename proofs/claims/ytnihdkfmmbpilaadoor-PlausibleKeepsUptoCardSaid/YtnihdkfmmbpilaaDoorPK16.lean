/- Texts of one proof, laid together: FD, J0, J1, J2, J3, J5. No condition. -/
import Derived.Test.YtnihdkfmmbpilaaDoorPK3
import Derived.Test.YtnihdkfmmbpilaaDoorPK5
import Derived.Test.YtnihdkfmmbpilaaDoorPK8
import Derived.Test.YtnihdkfmmbpilaaDoorPK14
import Derived.Test.YtnihdkfmmbpilaaDoorPK11
import Derived.Test.YtnihdkfmmbpilaaDoorPK2
import Derived.Test.YtnihdkfmmbpilaaDoorPK15
import Derived.Test.YtnihdkfmmbpilaaDoorPK12
namespace Go.Proofs.YtnihdkfmmbpilaaDoor
open Go.RowKit
set_option linter.unusedVariables false
attribute [local go_sem] Oper.semAt_some

noncomputable def findR (t : Tr) (kd m : Int) : Nat × Nat := if validL t then findV t kd m else (0, 0)
noncomputable def countR (t : Tr) : Nat := if validL t then (ids t).length else 0
def FdPost (t : Tr) (kd m : Int) (w : World) (e : Ending) (w' : World) : Prop := e = .returned (.tuple #[idVal (findR t kd m), .bool (decide (0 < (findR t kd m).2))]) ∧ Ext w w'
def FdI (t : Tr) (w : World) (kd m : Int) (l : List (Nat × Nat)) (W : World) : Prop :=
 (((((BoxN W (w.heap.size + 1) 3 #[.int .i64 kd] ∧ BoxN W (w.heap.size + 1 + 1) 3 #[.int .i64 m]) ∧ BoxN W (w.heap.size + 1 + 1 + 1) 68 #[.int .i64 0, .int .i64 0]) ∧ BoxN W (w.heap.size + 1 + 1 + 1 + 1) 4 #[.bool false]) ∧ Ext w W) ∧ l.find? (keyB t kd m) = none)
def FdX (t : Tr) (w : World) (kd m : Int) (l : List (Nat × Nat)) (W : World) : Prop :=
 ∃ a x, (((l = a ++ [x] ∧ a.find? (keyB t kd m) = none ∧ keyB t kd m x = true) ∧ BoxN W (w.heap.size + 1 + 1 + 1) 68 #[.int .i64 x.1, .int .i64 x.2]) ∧ BoxN W (w.heap.size + 1 + 1 + 1 + 1) 4 #[.bool true]) ∧ Ext w W
theorem fdi_from (t : Tr) (w : World) (kd m : Int) {n : Nat} (hn : w.heap.size ≤ n) : OwnFrom n (fun (pre : List (Idt t)) W => FdI t w kd m (pre.map (·.1)) W) :=
 OwnFrom.and (OwnFrom.and (OwnFrom.and (OwnFrom.and (OwnFrom.and (boxN1_from _ _ _ _) (boxN1_from _ _ _ _)) (boxN1_from _ _ _ _)) (boxN1_from _ _ _ _)) (ext_from hn)) (ownFrom_pure _ _)
theorem fdx_from (t : Tr) (w : World) (kd m : Int) {n : Nat} (hn : w.heap.size ≤ n) : OwnFrom n (fun (pre : List (Idt t)) W => FdX t w kd m (pre.map (·.1)) W) := by
 rintro s X Y row ⟨a, x, h⟩ hg hr
 refine ⟨a, x, ⟨⟨h.1.1.1, ?_⟩, ?_⟩, ext_from hn () X Y row h.2 hg hr⟩
 ·exact boxN1_from _ n _ (fun (_ : Unit) => _) () X Y row h.1.1.2 hg hr
 ·exact boxN1_from _ n _ (fun (_ : Unit) => _) () X Y row h.1.2 hg hr
theorem findR_stop {t : Tr} {kd m : Int} {a : List (Nat × Nat)} {x : Nat × Nat} (hv : validL t = true) (hp : a ++ [x] <+: ids t) (h0 : a.find? (keyB t kd m) = none) (hx : keyB t kd m x = true) : findR t kd m = x ∧ 0 < x.2 := by
 obtain ⟨c, hc⟩ := hp
 have hf : (ids t).find? (keyB t kd m) = some x := by
  rw [← hc, List.append_assoc, List.find?_append, h0]; simp [hx]
 refine ⟨?_, mem_pos (t := t) (by rw [← hc]; simp)⟩
 unfold findR findV firstOf
 rw [if_pos hv, hf]; rfl
theorem findR_none {t : Tr} {kd m : Int} (h : (ids t).find? (keyB t kd m) = none) : findR t kd m = (0, 0) := by
 unfold findR findV firstOf
 rw [h]; simp

set_option maxRecDepth 100000 in
set_option maxHeartbeats 4000000 in
theorem find_any (u : Value) (t : Tr) (kd m : Int) (w : World) (hS : Small t) (hs : SlR 3 RPr w u t) :
  Calls Tryd.prog 139 #[.agg #[u], .int .i64 kd, .int .i64 m] w fun e w' => FdPost t kd m w e w' := by
 have HV := hide (fun w' (he : Ext w w') => callsIn_wide (n := 8).2 (Valid_any u t w' hS.sm (hs.ext RPr.keeps he)))
 refine callsIn_wide (n := 9).1 ?_
 refine callsIn_of_wp_marks Tryd.func139 rfl trivial ?_ rfl
 simp only [Tryd.ntmps139, List.size_toArray, List.length_cons, List.length_nil, Nat.reduceAdd, Nat.reduceSub, Array.replicate_succ, Array.replicate_zero, List.push_toArray, List.append_toArray, List.nil_append, List.cons_append]
 obtain ⟨A, c, rfl, _, hcm, _⟩ := hs.at_
 gi_wp2_with fail
 refine ⟨trivial, ?_⟩
 have hx1 : Ext w ((((((w).alloc (.cells #[.slice A t.length c] 24)).alloc (.cells #[.int .i64 kd] 3)).alloc (.cells #[.int .i64 m] 3)).alloc (.cells #[.int .i64 0, .int .i64 0] 68)).alloc (.cells #[.bool false] 4)) := (((((Ext.refl w).alloc _).alloc _).alloc _).alloc _).alloc _
 have b1 : BoxN ((((((w).alloc (.cells #[.slice A t.length c] 24)).alloc (.cells #[.int .i64 kd] 3)).alloc (.cells #[.int .i64 m] 3)).alloc (.cells #[.int .i64 0, .int .i64 0] 68)).alloc (.cells #[.bool false] 4)) (w.heap.size + 1) 3 #[.int .i64 kd] := (((BoxN.newAt _ _ (by simp)).alloc _).alloc _).alloc _
 have b2 : BoxN ((((((w).alloc (.cells #[.slice A t.length c] 24)).alloc (.cells #[.int .i64 kd] 3)).alloc (.cells #[.int .i64 m] 3)).alloc (.cells #[.int .i64 0, .int .i64 0] 68)).alloc (.cells #[.bool false] 4)) (w.heap.size + 1 + 1) 3 #[.int .i64 m] := ((BoxN.newAt _ _ (by simp)).alloc _).alloc _
 have b3 : BoxN ((((((w).alloc (.cells #[.slice A t.length c] 24)).alloc (.cells #[.int .i64 kd] 3)).alloc (.cells #[.int .i64 m] 3)).alloc (.cells #[.int .i64 0, .int .i64 0] 68)).alloc (.cells #[.bool false] 4)) (w.heap.size + 1 + 1 + 1) 68 #[.int .i64 0, .int .i64 0] := (BoxN.newAt _ _ (by simp)).alloc _
 have b4 : BoxN ((((((w).alloc (.cells #[.slice A t.length c] 24)).alloc (.cells #[.int .i64 kd] 3)).alloc (.cells #[.int .i64 m] 3)).alloc (.cells #[.int .i64 0, .int .i64 0] 68)).alloc (.cells #[.bool false] 4)) (w.heap.size + 1 + 1 + 1 + 1) 4 #[.bool false] := BoxN.newAt _ _ (by simp)
 have bT : BoxN ((((((w).alloc (.cells #[.slice A t.length c] 24)).alloc (.cells #[.int .i64 kd] 3)).alloc (.cells #[.int .i64 m] 3)).alloc (.cells #[.int .i64 0, .int .i64 0] 68)).alloc (.cells #[.bool false] 4)) (w.heap.size) 24 #[.slice A t.length c] := ((((BoxN.new _ _ _).alloc _).alloc _).alloc _).alloc _
 generalize (((((w).alloc (.cells #[.slice A t.length c] 24)).alloc (.cells #[.int .i64 kd] 3)).alloc (.cells #[.int .i64 m] 3)).alloc (.cells #[.int .i64 0, .int .i64 0] 68)).alloc (.cells #[.bool false] 4) = W1 at *
 refine (HV.out _ hx1).mono ?_
 rintro e w2 ⟨rfl, he2⟩
 replace hx1 := hx1.trans he2
 replace b1 := b1.ext he2
 replace b2 := b2.ext he2
 replace b3 := b3.ext he2
 replace b4 := b4.ext he2
 replace bT := bT.ext he2
 clear he2
 have f0 := b3.frozen 0
 have f1 := b3.frozen 1
 have f2 := b4.frozen 0
 have r0 : w2.cell? ⟨w.heap.size + 1 + 1 + 1, 0, none⟩ = some (.int .i64 0) := b3.cell (j := 0) rfl
 have r1 : w2.cell? ⟨w.heap.size + 1 + 1 + 1, 1, none⟩ = some (.int .i64 0) := b3.cell (j := 1) rfl
 have r2 : w2.cell? ⟨w.heap.size + 1 + 1 + 1 + 1, 0, none⟩ = some (.bool false) := b4.cell (j := 0) rfl
 have t0 : w2.cell? ⟨w.heap.size, 0, none⟩ = some (.slice A t.length c) := bT.cell (j := 0) rfl
 cases hv : validL t
 ·have HF := hide (show findR t kd m = (0, 0) by unfold findR; rw [hv]; rfl)
  clear hv
  gi_wp2_with fail
  obtain ⟨Wr, hWr⟩ : ∃ Wr, ((w2.setCell ⟨w.heap.size + 1 + 1 + 1, 0, none⟩ (Value.int .i64 0)).setCell ⟨w.heap.size + 1 + 1 + 1, 1, none⟩ (Value.int .i64 0)).setCell ⟨w.heap.size + 1 + 1 + 1 + 1, 0, none⟩ (Value.bool false) = Wr := ⟨_, rfl⟩
  rw [hWr]
  have s1 : BoxN Wr (w.heap.size + 1 + 1 + 1) 68 #[.int .i64 0, .int .i64 0] := by rw [← hWr]; exact kW1
  have s2 : BoxN Wr (w.heap.size + 1 + 1 + 1 + 1) 4 #[.bool false] := by rw [← hWr]; exact kW1
  have sx : Ext w Wr := by rw [← hWr]; exact kW1
  clear hWr
  refine ⟨.tuple #[idVal (0, 0), .bool false], by simp [results, Tryd.f139, go_sem, idVal, s1.cell (j := 0) rfl, s1.cell (j := 1) rfl, s2.cell (j := 0) rfl], by rw [HF.out]; rfl, sx⟩
 ·have HVL := hide hv
  clear hv
  have hnp := hS.np
  gi_wp2_with (refine ⟨trivial, ?_⟩; gi_at_call 111; refine (callsIn_wide.2 (events_any _ _)).mono ?_; rintro e w' ⟨rfl, rfl⟩)
  have bt := BoxN.new w2 24 #[.slice A t.length c]
  have hM0 : FdI t w kd m [] (w2.alloc (.cells #[.slice A t.length c] 24)) := ⟨⟨⟨⟨⟨b1.alloc _, b2.alloc _⟩, b3.alloc _⟩, b4.alloc _⟩, hx1.alloc _⟩, rfl⟩
  have hwr : w.heap.size ≤ w2.heap.size := hx1.size
  have hsz0 : (w2.alloc (.cells #[.slice A t.length c] 24)).heap.size = w2.heap.size + 1 := by simp
  generalize (w2.alloc (.cells #[.slice A t.length c] 24)) = W0 at *
  have hext0 : Ext w W0 := hM0.1.2
  have hw0 : w.heap.size ≤ W0.heap.size := by omega
  clear hsz0 f0 f1 f2 r0 r1 r2 t0
  refine wpIn_rangeFunc_ownH rfl oM (gf := 133) (lb := #[.pointer (some ⟨w2.heap.size, 0, none⟩)]) rfl trivial (callFunc_enter Tryd.func133 (by decide) rfl)
   (events_stops 8 oM w (.slice A t.length c) t w2.heap.size W0 hnp hS.ne hs hext0 (bt.cell rfl) hwr) belowK_t (belowK_b hw0) (Below.refl _ _) (fun _ => rfl)
   (fun pre W => FdI t w kd m (pre.map (·.1)) W) (fun c pre W => c = .ret ∧ FdX t w kd m (pre.map (·.1)) W) (fdi_from t w kd m hw0) (fun c => OwnFrom.and (ownFrom_pure _ _) (fdx_from t w kd m hw0)) hM0
   (fun x a' W => ∃ B6 B7 A4 n4 c4 v13 v14, (w.heap.size + 1 + 1 + 1 + 1 < B6 ∧ w.heap.size + 1 + 1 + 1 + 1 < B7) ∧ BoxN W B6 68 #[.int .i64 x.1.1, .int .i64 x.1.2] ∧ BoxN W B7 74 #[.int .i64 (evAt t x.1).kind, .int .i64 (evAt t x.1).peer, .int .i64 (evAt t x.1).msg, .int .i64 (evAt t x.1).time, .slice A4 n4 c4] ∧
    a' = { tmps := #[.agg #[.slice A t.length c], .int .i64 kd, .int .i64 m, .pointer (some ⟨w.heap.size, 0, none⟩), .pointer (some ⟨w.heap.size + 1, 0, none⟩), .pointer (some ⟨w.heap.size + 1 + 1, 0, none⟩), .pointer (some ⟨w.heap.size + 1 + 1 + 1, 0, none⟩), .pointer (some ⟨w.heap.size + 1 + 1 + 1 + 1, 0, none⟩), .pointer (some ⟨B6, 0, none⟩), .pointer (some ⟨B7, 0, none⟩), .agg #[.slice A t.length c], .bool true, .bool false, undef, .agg #[.slice A t.length c], .func (.func 133) #[] #[.pointer (some ⟨w2.heap.size, 0, none⟩)], v13, v14, undef, undef, undef, undef, undef, undef, undef, undef, undef, undef, undef, undef], defers := [] })
   ?hax ?assign ?body ?done ?stop
  case hax =>
   rintro x a' _ X Y row ⟨B6, B7, A4, n4, c4, v13, v14, hB, b6, b7, ha⟩ hg hr
   exact ⟨B6, B7, A4, n4, c4, v13, v14, hB, boxN1_from B6 _ _ (fun (_ : Unit) => _) () X Y row b6 hg hr, boxN1_from B7 _ _ (fun (_ : Unit) => _) () X Y row b7 hg hr, ha⟩
  case assign =>
   rintro l pre x W K hI hK
   obtain ⟨a, hv, hsa⟩ := evVal_ok hs x.2
   obtain ⟨A4, c4, rfl, _, _, _⟩ := hsa.at_
   clear hsa
   simp only [hv]
   have hsW := hI.1.2.size
   have h5 := hI.1.1.2.lt
   unfold idVal
   gi_wp2
   exact hK _ _ (((KeepsOthers.alloc _ _).trans (KeepsOthers.alloc _ _)).from _) (((Below.refl _ W).alloc hsW _).alloc (by simp; omega) _) ((fdi_from t w kd m (Nat.le_refl _)).alloc _ ((fdi_from t w kd m (Nat.le_refl _)).alloc _ hI))
    ⟨W.heap.size, W.heap.size + 1, A4, _, c4, _, _, ⟨h5, by omega⟩, (BoxN.new _ _ _).alloc _, BoxN.newAt _ _ (by simp), rfl⟩
  case body =>
   rintro l pre x a' W hlW ⟨r, hr⟩ hI ⟨B6, B7, A4, n4, c4, v13, v14, ⟨hB6, hB7⟩, b6, b7, rfl⟩ hlen
   obtain ⟨⟨⟨⟨⟨c1, c2⟩, c3⟩, c4'⟩, hxW⟩, hno⟩ := hI
   have hsW := hxW.size
   have HNO := hide hno
   have HKEY := hide (show keyB t kd m x.1 = (((evAt t x.1).kind == kd) && ((evAt t x.1).msg == m)) from rfl)
   clear hno
   have k0 := b7.cell (j := 0) rfl
   have k1 := b7.cell (j := 1) rfl
   have k2 := b7.cell (j := 2) rfl
   have k3 := b7.cell (j := 3) rfl
   have k4 := b7.cell (j := 4) rfl
   have i0 := b6.cell (j := 0) rfl
   have i1 := b6.cell (j := 1) rfl
   have d1 := c1.cell (j := 0) rfl
   have d2 := c2.cell (j := 0) rfl
   have f0 := c3.frozen 0
   have f1 := c3.frozen 1
   have f2 := c4'.frozen 0
   have r0 := c3.cell (j := 0) rfl
   have r1 := c3.cell (j := 1) rfl
   have r2 := c4'.cell (j := 0) rfl
   have hkk : ∀ b1 b2, ((evAt t x.1).kind == kd) = b1 → ((evAt t x.1).msg == m) = b2 → keyB t kd m x.1 = (b1 && b2) := fun b1 b2 h1 h2 => by rw [HKEY.out, h1, h2]
   have HKK := hide hkk
   clear hkk
   have hIok : ∀ y : Nat × Nat, y = x.1 → keyB t kd m x.1 = false → (pre.map (·.1) ++ [y]).find? (keyB t kd m) = none := fun y hy h => by
    rw [List.find?_append, HNO.out, hy]; simp [h]
   have HIOK := hide hIok
   clear hIok
   cases q1 : (evAt t x.1).kind == kd
   ·have HN := hide (HIOK.out x.1 rfl (HKK.out _ _ q1 rfl))
    gi_wp2
    refine ⟨KeepsFrom.refl _ _, Below.refl _ _, ?_⟩
    show FdI t w kd m ((pre ++ [x]).map (·.1)) _
    rw [map_snoc]
    exact ⟨⟨⟨⟨⟨c1, c2⟩, c3⟩, c4'⟩, hxW⟩, HN.out⟩
   ·cases q2 : (evAt t x.1).msg == m
    ·have HN := hide (HIOK.out x.1 rfl (by rw [HKK.out _ _ q1 q2]; rfl))
     gi_wp2
     refine ⟨KeepsFrom.refl _ _, Below.refl _ _, ?_⟩
     show FdI t w kd m ((pre ++ [x]).map (·.1)) _
     rw [map_snoc]
     exact ⟨⟨⟨⟨⟨c1, c2⟩, c3⟩, c4'⟩, hxW⟩, HN.out⟩
    ·have HN := hide (HKK.out _ _ q1 q2)
     gi_wp2
     refine ⟨?_, rfl, pre.map (·.1), x.1, ⟨⟨⟨map_snoc pre x, HNO.out, HN.out⟩, ?_⟩, ?_⟩, ?_⟩
     all_goals exact kW1
  case done =>
   rintro D ys W hD hys ⟨⟨⟨⟨⟨c1, c2⟩, c3⟩, c4⟩, hxW⟩, hno⟩ hK
   rw [hys] at hno
   have HF := hide (findR_none hno)
   clear hno
   have f0 := c3.frozen 0
   have f1 := c3.frozen 1
   have f2 := c4.frozen 0
   have r0 := c3.cell (j := 0) rfl
   have r1 := c3.cell (j := 1) rfl
   have r2 := c4.cell (j := 0) rfl
   gi_wp2
   obtain ⟨Wr, hWr⟩ : ∃ Wr, ((W.setCell ⟨w.heap.size + 1 + 1 + 1, 0, none⟩ (Value.int .i64 0)).setCell ⟨w.heap.size + 1 + 1 + 1, 1, none⟩ (Value.int .i64 0)).setCell ⟨w.heap.size + 1 + 1 + 1 + 1, 0, none⟩ (Value.bool false) = Wr := ⟨_, rfl⟩
   rw [hWr]
   have s1 : BoxN Wr (w.heap.size + 1 + 1 + 1) 68 #[.int .i64 0, .int .i64 0] := by rw [← hWr]; exact kW1
   have s2 : BoxN Wr (w.heap.size + 1 + 1 + 1 + 1) 4 #[.bool false] := by rw [← hWr]; exact kW1
   have sx : Ext w Wr := by rw [← hWr]; exact kW1
   have hkf : KeepsFrom W0.heap.size W Wr := by rw [← hWr]; exact kW1
   have hKW : Wr.heap[D]? = some (.deferred (some [])) := hkf.same D _ hD hK rfl
   clear hWr
   have e2 := (s1.putObj hKW rfl (.deferred none)).cell (j := 0) rfl
   have e3 := (s1.putObj hKW rfl (.deferred none)).cell (j := 1) rfl
   have e4 := (s2.putObj hKW rfl (.deferred none)).cell (j := 0) rfl
   refine ⟨by simp, .inl ⟨_, _, rfl, run_takeDeferred hKW, ?_⟩⟩
   refine ⟨.tuple #[idVal (0, 0), .bool false], ?_, by rw [HF.out]; rfl, sx.putObj oM hKW _⟩
   simp [results, Tryd.f139, go_sem, e2, e3, e4, idVal]
  case stop =>
   rintro D c' pre W hD hpre ⟨rfl, a, x, ⟨⟨⟨hp, h0, hx⟩, r1W⟩, r2W⟩, hxW⟩ hK
   rw [hp] at hpre
   have HST := hide (findR_stop HVL.out hpre h0 hx)
   clear h0 hx
   gi_wp2
   have e2 := (r1W.putObj hK rfl (.deferred none)).cell (j := 0) rfl
   have e3 := (r1W.putObj hK rfl (.deferred none)).cell (j := 1) rfl
   have e4 := (r2W.putObj hK rfl (.deferred none)).cell (j := 0) rfl
   refine ⟨by simp, .inl ⟨_, _, rfl, run_takeDeferred hK, ?_⟩⟩
   refine ⟨.tuple #[idVal x, .bool true], ?_, by rw [HST.out.1, decide_eq_true HST.out.2], hxW.putObj oM hK _⟩
   simp [results, Tryd.f139, go_sem, e2, e3, e4, idVal]
theorem Sender_any (u : Value) (t : Tr) (m : Int) (w : World) (hS : Small t) (hs : SlR 3 RPr w u t) :
  Calls Tryd.prog 126 #[.agg #[u], .int .i64 m] w fun e w' => FdPost t 2 m w e w' := by
 have HF := hide (fun w' (he : Ext w w') => find_any u t 2 m w' hS (hs.ext RPr.keeps he))
 obtain ⟨A, c, rfl, _, hcm, _⟩ := hs.at_
 go_enter Tryd.func126, Tryd.ntmps126
 go_wp2_with fail
 have hx1 := ((Ext.refl w).alloc (.cells #[.slice A t.length c] 24)).alloc (.cells #[.int .i64 0, .int .i64 0] 68)
 have b3 : BoxN ((w.alloc (.cells #[.slice A t.length c] 24)).alloc (.cells #[.int .i64 0, .int .i64 0] 68)) (w.heap.size + 1) 68 #[.int .i64 0, .int .i64 0] := BoxN.newAt _ _ (by simp)
 generalize (w.alloc (.cells #[.slice A t.length c] 24)).alloc (.cells #[.int .i64 0, .int .i64 0] 68) = W1 at *
 refine (HF.out _ hx1).mono ?_
 rintro e w2 ⟨rfl, he2⟩
 have hx2 := hx1.trans he2
 have b4 := b3.ext he2
 have f0 := b4.frozen 0
 have f1 := b4.frozen 1
 have r0 := b4.cell (j := 0) rfl
 have r1 := b4.cell (j := 1) rfl
 unfold idVal
 go_wp2
 obtain ⟨Wr, hWr⟩ : ∃ Wr, (w2.setCell ⟨w.heap.size + 1, 0, none⟩ (Value.int .i64 (findR t 2 m).1)).setCell ⟨w.heap.size + 1, 1, none⟩ (Value.int .i64 (findR t 2 m).2) = Wr := ⟨_, rfl⟩
 rw [hWr]
 have s1 : BoxN Wr (w.heap.size + 1) 68 #[.int .i64 (findR t 2 m).1, .int .i64 (findR t 2 m).2] := by rw [← hWr]; exact kW1
 have sx : Ext w Wr := by rw [← hWr]; exact kW1
 clear hWr
 refine bodyPost_ret (v := .tuple #[idVal (findR t 2 m), .bool (decide (0 < (findR t 2 m).2))]) ?_ rfl ⟨rfl, sx⟩
 simp [results, Tryd.f126, go_sem, idVal, s1.cell (j := 0) rfl, s1.cell (j := 1) rfl]
def CtI (t : Tr) (w : World) (gc : Nat) (l : List (Nat × Nat)) (W : World) : Prop := (BoxN W gc 3 #[.int .i64 l.length] ∧ Ext w W)
theorem cti_from (t : Tr) (w : World) (gc : Nat) {n : Nat} (hn : w.heap.size ≤ n) : OwnFrom n (fun (pre : List (Idt t)) W => CtI t w gc (pre.map (·.1)) W) :=
 OwnFrom.and (boxN1_from _ _ _ _) (ext_from hn)
set_option maxRecDepth 100000 in
set_option maxHeartbeats 4000000 in
theorem Count_any (u : Value) (t : Tr) (w : World) (hS : Small t) (hN : (ids t).length ≤ 1000000) (hs : SlR 3 RPr w u t) :
  Calls Tryd.prog 70 #[.agg #[u]] w fun e w' => e = .returned (.int .i64 (countR t)) ∧ Ext w w' := by
 have HV := hide (fun w' (he : Ext w w') => callsIn_wide (n := 8).2 (Valid_any u t w' hS.sm (hs.ext RPr.keeps he)))
 refine callsIn_wide (n := 9).1 ?_
 refine callsIn_of_wp_marks Tryd.func70 rfl trivial ?_ rfl
 simp only [Tryd.ntmps70, List.size_toArray, List.length_cons, List.length_nil, Nat.reduceAdd, Nat.reduceSub, Array.replicate_succ, Array.replicate_zero, List.push_toArray, List.append_toArray, List.nil_append, List.cons_append]
 obtain ⟨A, c, rfl, _, hcm, _⟩ := hs.at_
 gi_wp2_with fail
 refine ⟨trivial, ?_⟩
 have hx1 : Ext w (w.alloc (.cells #[.slice A t.length c] 24)) := (Ext.refl w).alloc _
 have bT : BoxN (w.alloc (.cells #[.slice A t.length c] 24)) (w.heap.size) 24 #[.slice A t.length c] := BoxN.new _ _ _
 generalize w.alloc (.cells #[.slice A t.length c] 24) = W1 at *
 refine (HV.out _ hx1).mono ?_
 rintro e w2 ⟨rfl, he2⟩
 replace hx1 := hx1.trans he2
 replace bT := bT.ext he2
 clear he2
 have t0 : w2.cell? ⟨w.heap.size, 0, none⟩ = some (.slice A t.length c) := bT.cell (j := 0) rfl
 have lt0 := bT.lt
 cases hv : validL t
 ·have HF := hide (show countR t = 0 by unfold countR; rw [hv]; rfl)
  clear hv
  gi_wp2_with fail
  exact ⟨.int .i64 0, by simp [results, Tryd.f70, go_sem], by rw [HF.out]; rfl, hx1⟩
 ·have HVL := hide (show countR t = (ids t).length by unfold countR; rw [hv]; rfl)
  clear hv
  have hnp := hS.np
  gi_wp2_with (refine ⟨trivial, ?_⟩; gi_at_call 111; refine (callsIn_wide.2 (events_any _ _)).mono ?_; rintro e w' ⟨rfl, rfl⟩)
  have bt : BoxN ((w2.alloc (.cells #[.int .i64 0] 3)).alloc (.cells #[.slice A t.length c] 24)) (w2.heap.size + 1) 24 #[.slice A t.length c] := BoxN.newAt _ _ (by simp)
  have hM0 : CtI t w w2.heap.size [] ((w2.alloc (.cells #[.int .i64 0] 3)).alloc (.cells #[.slice A t.length c] 24)) := ⟨(BoxN.new _ _ _).alloc _, (hx1.alloc _).alloc _⟩
  have hwr : w.heap.size ≤ w2.heap.size := hx1.size
  have hsz0 : ((w2.alloc (.cells #[.int .i64 0] 3)).alloc (.cells #[.slice A t.length c] 24)).heap.size = w2.heap.size + 1 + 1 := by simp
  generalize ((w2.alloc (.cells #[.int .i64 0] 3)).alloc (.cells #[.slice A t.length c] 24)) = W0 at *
  have hext0 : Ext w W0 := hM0.2
  have hw0 : w.heap.size ≤ W0.heap.size := by omega
  clear hsz0 t0 lt0 hx1 bT
  generalize w2.heap.size = gc at *
  refine wpIn_rangeFunc_ownH rfl oM (gf := 133) (lb := #[.pointer (some ⟨gc + 1, 0, none⟩)]) rfl trivial (callFunc_enter Tryd.func133 (by decide) rfl)
   (events_stops 8 oM w (.slice A t.length c) t (gc + 1) W0 hnp hS.ne hs hext0 (bt.cell rfl) oM) belowK_t (belowK_b hw0) (Below.refl _ _) (fun _ => rfl)
   (fun pre W => CtI t w gc (pre.map (·.1)) W) (fun c pre W => False) (cti_from t w gc hw0) (fun c => ownFrom_pure _ _) hM0
   (fun x a' W => ∃ v13 v14,
    a' = { tmps := #[.agg #[.slice A t.length c], .pointer (some ⟨w.heap.size, 0, none⟩), .int .i64 0, .pointer (some ⟨gc, 0, none⟩), .agg #[.slice A t.length c], .bool true, .bool false, .agg #[.slice A t.length c], .func (.func 133) #[] #[.pointer (some ⟨gc + 1, 0, none⟩)], v13, v14, undef, undef, undef], defers := [] })
   ?hax ?assign ?body ?done ?stop
  case hax =>
   rintro x a' _ X Y row ⟨v13, v14, ha⟩ hg hr
   exact ⟨v13, v14, ha⟩
  case assign =>
   rintro l pre x W K hI hK
   gi_wp2
   exact hK _ _ (KeepsFrom.refl _ _) (Below.refl _ _) hI ⟨idVal x.1, evVal w (.slice A t.length c) x.1, by simp⟩
  case body =>
   rintro l pre x a' W hlW ⟨r, hr⟩ hI ⟨v13, v14, rfl⟩ hlen
   obtain ⟨c1, hxW⟩ := hI
   have hsW := hxW.size
   have d0 : W.cell? ⟨gc, 0, none⟩ = some (.int .i64 ((pre.length : Nat) : Int)) := by rw [c1.cell (j := 0) rfl]; simp
   have f0 := c1.frozen 0
   have hl2 : pre.length < 1000000 := by omega
   have hwrap := (wrap_addI pre.length 1 1 rfl oM).1
   have HGC := hide hwr
   gi_wp2
   refine ⟨KF.set (KeepsFrom.refl _ _) _ _, BL.set (Below.refl _ _) _ _ _ hwr, ?_⟩
   show CtI t w gc ((pre ++ [x]).map (·.1)) _
   refine ⟨?_, Ext.set hxW hwr _⟩
   rw [show (((pre ++ [x]).map (·.1)).length : Int) = (pre.length : Int) + 1 by simp]
   exact BoxN.set1 c1
  case done =>
   rintro D ys W hD hys ⟨c1, hxW⟩ hK
   rw [hys] at c1
   have d0 : W.cell? ⟨gc, 0, none⟩ = some (.int .i64 ((ids t).length : Nat)) := c1.cell (j := 0) rfl
   gi_wp2
   refine ⟨by simp, .inl ⟨_, _, rfl, run_takeDeferred hK, ?_⟩⟩
   refine ⟨.int .i64 ((ids t).length : Nat), ?_, by rw [HVL.out], hxW.putObj oM hK _⟩
   simp [results, Tryd.f70, go_sem]
  case stop => rintro D c' pre W hD hpre h; exact h.elim
end Go.Proofs.YtnihdkfmmbpilaaDoor
namespace Go.Proofs.YtnihdkfmmbpilaaDoor
set_option linter.unusedVariables false
theorem sender_spec (t : Tr) (hS : Small t) (hN : Nm t) (b l : List Row) (m : Int) : ACalls Tryd.prog 126 [.agg [.v (eT t)], .v (.int .i64 m)] b l (fun r b' l' => r = .tup [idA (findR t 2 m), .v (.bool (decide (0 < (findR t 2 m).2)))] ∧ b' = b ∧ l' = l) := by
 refine ACalls.of_ext ⟨_, Tryd.func126, by kernel_rfl, by kernel_rfl⟩ (fun F L w vs hr => ?_)
 obtain ⟨u, us, rfl, hs, hr2⟩ := repL_tr hN hr
 obtain ⟨v, us, rfl, h3, hr2⟩ := repL_cons hr2
 obtain rfl := repL_nil hr2
 cases h3.vI
 refine (Sender_any u t m w hS hs).mono ?_
 rintro e w' ⟨rfl, he⟩
 exact ⟨he, _, _, rfl, RepL.tup (RepL.cons (idA_rep _ _ _ _) (RepL.cons (.v _ _ (.bool _)) RepL.nil)), rfl, rfl, rfl⟩
theorem count_spec (t : Tr) (hS : Small t) (hN : Nm t) (b l : List Row) (hM : (ids t).length ≤ 1000000) : ACalls Tryd.prog 70 [.agg [.v (eT t)]] b l (fun r b' l' => r = .v (.int .i64 (countR t)) ∧ b' = b ∧ l' = l) := by
 refine ACalls.of_ext ⟨_, Tryd.func70, by kernel_rfl, by kernel_rfl⟩ (fun F L w vs hr => ?_)
 obtain ⟨u, us, rfl, hs, hr2⟩ := repL_tr hN hr
 obtain rfl := repL_nil hr2
 refine (Count_any u t w hS hM hs).mono ?_
 rintro e w' ⟨rfl, he⟩
 exact ⟨he, _, _, rfl, .v _ _ (.int _ _), rfl, rfl, rfl⟩
end Go.Proofs.YtnihdkfmmbpilaaDoor
namespace Go.Proofs.YtnihdkfmmbpilaaDoor
set_option linter.unusedVariables false
set_option linter.unusedSimpArgs false
noncomputable def fst (t : Tr) (k : Nat) : Nat → Nat × Nat → Nat → Nat
 | 0, _, _ => 0
 | n + 1, x, c => max (if 1 < x.2 then fst t k n (x.1, x.2 - 1) c else 0) (if (evAt t x).kind = 3 then fst t k n (sndr t x) c else 0) + if x.1 % k = c then 1 else 0
theorem prev_in {t : Tr} {x : Nat × Nat} (hx : x ∈ ids t) (h : 1 < x.2) : (x.1, x.2 - 1) ∈ ids t ∧ Hb t (x.1, x.2 - 1) x := by
 obtain ⟨p, i⟩ := x
 obtain ⟨i, rfl⟩ : ∃ k, i = k + 2 := ⟨i - 2, by have : 1 < i := h; omega⟩
 obtain ⟨h1, h2⟩ := mem_ids2.1 hx
 refine ⟨mem_ids2.2 ⟨h1, Nat.lt_of_succ_lt h2⟩, hb_row (Nat.lt_succ_self (i + 1)) h2⟩
theorem rk_pos {t : Tr} {x : Nat × Nat} (hx : x ∈ ids t) : 0 < rk t x := by
 unfold rk
 rw [List.countP_pos_iff]
 exact ⟨x, hx, leB_iff.2 (.refl _)⟩
theorem rk_max {t : Tr} {x : Nat × Nat} : rk t x ≤ (ids t).length := List.countP_le_length
theorem fst_fuel {t : Tr} (hv : Vok t) (k : Nat) : ∀ (n m : Nat) (x : Nat × Nat), x ∈ ids t → rk t x ≤ n → rk t x ≤ m → ∀ c, fst t k n x c = fst t k m x c
 | 0, _, x, hx, h, _, _ => by have := rk_pos hx; omega
 | _ + 1, 0, x, hx, _, h, _ => by have := rk_pos hx; omega
 | n + 1, m + 1, x, hx, h1, h2, c => by
   unfold fst
   congr 2
   ·by_cases h : 1 < x.2
    ·rw [if_pos h, if_pos h]
     obtain ⟨q1, q2⟩ := prev_in hx h
     have := rk_lt hv hx q2
     exact fst_fuel hv k n m _ q1 oM oM c
    ·rw [if_neg h, if_neg h]
   ·by_cases h : (evAt t x).kind = 3
    ·rw [if_pos h, if_pos h]
     obtain ⟨q1, q2⟩ := sndr_in hv hx h
     have := rk_lt hv hx q2
     exact fst_fuel hv k n m _ q1 oM oM c
    ·rw [if_neg h, if_neg h]
noncomputable def fc (t : Tr) (k : Nat) (x : Nat × Nat) (c : Nat) : Nat := fst t k (ids t).length x c
noncomputable def fPrev (t : Tr) (k : Nat) (x : Nat × Nat) (c : Nat) : Nat := if 1 < x.2 then fc t k (x.1, x.2 - 1) c else 0
noncomputable def fRecv (t : Tr) (k : Nat) (x : Nat × Nat) (c : Nat) : Nat := if (evAt t x).kind = 3 then fc t k (sndr t x) c else 0
theorem fc_step {t : Tr} (hv : Vok t) (k : Nat) {x : Nat × Nat} (hx : x ∈ ids t) (c : Nat) : fc t k x c = max (fPrev t k x c) (fRecv t k x c) + if x.1 % k = c then 1 else 0 := by
 have h1 : fc t k x c = fst t k ((ids t).length + 1) x c := fst_fuel hv k _ _ x hx rk_max (by have := rk_max (t := t) (x := x); omega) c
 rw [h1, fst]
 rfl
theorem fc_rk {t : Tr} (hv : Vok t) (k : Nat) (c : Nat) : ∀ n (x : Nat × Nat), x ∈ ids t → rk t x ≤ n → fc t k x c ≤ n
 | 0, x, hx, h => by have := rk_pos hx; omega
 | n + 1, x, hx, h => by
   rw [fc_step hv k hx]
   have h1 : fPrev t k x c ≤ n := by
    unfold fPrev
    split
    ·rename_i h2
     obtain ⟨q1, q2⟩ := prev_in hx h2
     have := rk_lt hv hx q2
     exact fc_rk hv k c n _ q1 oM
    ·omega
   have h2 : fRecv t k x c ≤ n := by
    unfold fRecv
    split
    ·rename_i h2
     obtain ⟨q1, q2⟩ := sndr_in hv hx h2
     have := rk_lt hv hx q2
     exact fc_rk hv k c n _ q1 oM
    ·omega
   split <;> omega
theorem fc_le {t : Tr} (hv : Vok t) (k : Nat) {x : Nat × Nat} (hx : x ∈ ids t) (c : Nat) : fc t k x c ≤ (ids t).length := fc_rk hv k c _ x hx rk_max
theorem fc_dir {t : Tr} (hv : Vok t) (k : Nat) {x y : Nat × Nat} (hx : x ∈ ids t) (h : Dir t x y) (c : Nat) : fc t k x c + (if y.1 % k = c then 1 else 0) ≤ fc t k y c := by
 have hy := h.mem hx
 rw [fc_step hv k hy]
 have : fc t k x c ≤ max (fPrev t k y c) (fRecv t k y c) := by
  rcases h with ⟨rfl, _⟩ | ⟨hk, hf⟩
  ·have : fPrev t k (x.1, x.2 + 1) c = fc t k x c := by
    unfold fPrev
    rw [if_pos (by have := (mem_ids.1 hx).2.1; simp only; omega)]
    rfl
   omega
  ·have hr : rcvO t x = some y := by unfold rcvO; rw [if_pos hk]; exact hf
   obtain ⟨_, _, hs, k3⟩ := rcv_ne hv hx hr
   have : fRecv t k y c = fc t k x c := by unfold fRecv; rw [if_pos k3, hs]
   omega
 omega
theorem fc_hb {t : Tr} (hv : Vok t) (k : Nat) {x y : Nat × Nat} (hx : x ∈ ids t) (h : Hb t x y) (c : Nat) : fc t k x c + (if y.1 % k = c then 1 else 0) ≤ fc t k y c := by
 have memHb : ∀ {y}, Hb t x y → y ∈ ids t := fun h => by
  induction h with
  | one d => exact d.mem hx
  | more _ d ih => exact d.mem ih
 induction h with
 | one d => exact fc_dir hv k hx d c
 | more h0 d ih =>
   have := fc_dir hv k (memHb h0) d c
   omega
noncomputable def fcs (t : Tr) (k : Nat) (x : Nat × Nat) : List Int := fl k fun c => (fc t k x c : Int)
theorem fcs_len {t : Tr} {k : Nat} {x : Nat × Nat} : (fcs t k x).length = k := fl_len
end Go.Proofs.YtnihdkfmmbpilaaDoor
namespace Go.Proofs.YtnihdkfmmbpilaaDoor
set_option linter.unusedVariables false
set_option linter.unusedSimpArgs false
attribute [local go_sem ↓] run_skip run_region run_draw run_both run_seq run_block run_exit run_ret run_cond atN_app seqC_normal seqC_exit seqC_ret seqQ_normal seqQ_exit seqQ_ret blkQ_normal blkQ_exit blkQ_ret runOps_nil runOps_cons runD_nil runD_cons grdO_true grdO_false grdD_true grdD_false ifC_true ifC_false opS_val opS_call opS_two opK_app dS_val dS_call dS_two dK_app kUp_same kUp_ne
attribute [local go_sem] rechks_nil rechks_cons rechk gcase_true gcase_false ex_val ex_val0 gd_none gd_some ev_t ev_c evs_nil evs_cons evo_some evo_none hget_at hget_first hsetB_at hsetB_first hsetL_at hsetL_first ofOpt_some aop aload astore aslice aappend aiaddr aiaddrA afaddr alen alenS acopy amm acall alookup amupdate alenM atostr aappz comma keyEq apick binV binVB binVS isSh intOp strOp boolOp shOp eqC eqF and2 cellsOf setFrom fillA fillS rd rdI elems mk bounds AV.cell List.all_cons List.all_nil Bool.and_true Bool.true_and Bool.and_self List.length_cons List.length_nil List.length_append Nat.reduceAdd Nat.reduceSub Nat.reduceMul Nat.zero_add Nat.add_zero List.cons_append List.nil_append List.append_assoc List.append_nil List.getElem?_cons_zero List.getElem?_cons_succ List.getElem?_nil List.set_cons_zero List.set_cons_succ List.drop_zero List.drop_succ_cons List.take_zero List.take_succ_cons List.take_nil List.drop_nil List.map_cons List.map_nil Option.map_some if_true if_false Bool.false_eq_true and_self true_and and_true Nat.reduceLeDiff Nat.reduceLT Nat.le_refl Nat.reduceEqDiff ite_true ite_false beq_self_eq_true beq_true beq_false Bool.not_true Bool.not_false Bool.true_beq Bool.false_beq map_vs vs_len vs_get vs_take vs_drop vs_snoc1 vs_snoc2 vs_snoc3 vs_snoc5 vs_set1 vs_set2 vs_rep wrap_id le_T lt_T le_F lt_F leI_T ltI_T leI_F ltI_F geI gtI get_T decide_true decide_false room List.getElem?_map List.length_map List.length_take Int.toNat_natCast Nat.min_def Nat.min_self nth_kOf put_kOf put_kNo kOv_cons kOv_nil KHas KArgs List.getElem_cons_zero List.getElem_cons_succ
def a_padv : AFunc := ⟨4,116,[.tmp 8],(.seq (.region [⟨some 4,.box (.t 0),none⟩,⟨some 8,.mv (.c (.v (.bool false))),none⟩]) (.seq (.region [⟨some 16,.mv (.t 2),none⟩,⟨some 17,.mv (.t 3),none⟩,⟨some 18,.iaddr 1 (.t 16) (.t 17),none⟩,⟨some 19,.load none (.t 18),none⟩,⟨some 20,.len (.t 19),none⟩,⟨some 9,.mv (.t 20),none⟩]) (.seq (.seq (.region [⟨some 21,.mv (.t 9),none⟩,⟨some 22,.faddr 0 (.t 4),none⟩,⟨some 23,.load none (.t 22),none⟩,⟨some 24,.mv (.t 3),none⟩,⟨some 25,.iaddr 3 (.t 23) (.t 24),none⟩,⟨some 26,.faddr 2 (.t 25),none⟩,⟨some 27,.load none (.t 26),none⟩,⟨some 28,.len (.t 27),none⟩,⟨some 29,.bin .eql (.t 21) (.t 28),none⟩]) (.cond (.t 29) (.seq (.region [⟨some 8,.mv (.c (.v (.bool false))),none⟩]) .ret) .skip)) (.seq (.region [⟨some 30,.mv (.t 1),none⟩,⟨some 31,.mkslice 1 [(.v (.int .i64 0))] 8 (.t 30) (.t 30),none⟩,⟨some 10,.mv (.t 31),none⟩]) (.seq (.seq (.region [⟨some 32,.mv (.t 9),none⟩,⟨some 33,.bin .gtr (.t 32) (.c (.v (.int .i64 0))),none⟩]) (.cond (.t 33) (.region [⟨some 34,.mv (.t 10),none⟩,⟨some 35,.mv (.t 2),none⟩,⟨some 36,.mv (.t 3),none⟩,⟨some 37,.iaddr 1 (.t 35) (.t 36),none⟩,⟨some 38,.load none (.t 37),none⟩,⟨some 39,.mv (.t 9),none⟩,⟨some 40,.bin .sub (.t 39) (.c (.v (.int .i64 1))),none⟩,⟨some 41,.iaddr 1 (.t 38) (.t 40),none⟩,⟨some 42,.load none (.t 41),none⟩,⟨some 43,.copy 1 (.t 34) (.t 42),none⟩]) .skip)) (.seq (.seq (.region [⟨some 44,.faddr 0 (.t 4),none⟩,⟨some 45,.load none (.t 44),none⟩,⟨some 46,.mv (.t 3),none⟩,⟨some 47,.iaddr 3 (.t 45) (.t 46),none⟩,⟨some 48,.faddr 2 (.t 47),none⟩,⟨some 49,.load none (.t 48),none⟩,⟨some 50,.mv (.t 9),none⟩,⟨some 51,.iaddr 5 (.t 49) (.t 50),none⟩,⟨some 52,.load (some 5) (.t 51),none⟩,⟨some 11,.alloc [(.v (.int .i64 0)),(.v (.int .i64 0)),(.v (.int .i64 0)),(.v (.int .i64 0)),(.v .zsl)],none⟩,⟨none,.store 5 (.t 11) (.t 52),none⟩]) (.seq (.region [⟨some 53,.faddr 0 (.t 11),none⟩,⟨some 54,.load none (.t 53),none⟩,⟨some 55,.bin .eql (.t 54) (.c (.v (.int .i64 3))),none⟩]) (.cond (.t 55) (.seq (.region [⟨some 57,.load (some 1) (.t 4),none⟩,⟨some 58,.faddr 2 (.t 11),none⟩,⟨some 59,.load none (.t 58),none⟩,⟨some 60,.call (.c (.fn 126 [])) [(.t 57),(.t 59)],none⟩,⟨some 56,.mv (.t 60),none⟩,⟨some 61,.extract 0 (.t 56),none⟩,⟨some 62,.extract 1 (.t 56),none⟩,⟨some 12,.alloc [(.v (.int .i64 0)),(.v (.int .i64 0))],none⟩,⟨none,.store 2 (.t 12) (.t 61),none⟩,⟨some 13,.mv (.t 62),none⟩]) (.seq (.seq (.draw [⟨0,⟨some 63,.mv (.t 2),none⟩,[]⟩,⟨1,⟨some 64,.faddr 0 (.t 12),none⟩,[]⟩,⟨2,⟨some 65,.load none (.t 64),none⟩,[]⟩,⟨3,⟨some 66,.iaddr 1 (.t 63) (.t 65),none⟩,[]⟩,⟨4,⟨some 67,.load none (.t 66),none⟩,[]⟩,⟨5,⟨some 68,.len (.t 67),none⟩,[]⟩,⟨6,⟨some 69,.faddr 1 (.t 12),none⟩,[]⟩,⟨7,⟨some 70,.load none (.t 69),none⟩,[]⟩,⟨8,⟨some 71,.bin .lss (.t 68) (.t 70),none⟩,[]⟩]) (.cond (.t 71) (.seq (.region [⟨some 8,.mv (.c (.v (.bool false))),none⟩]) .ret) .skip)) (.seq (.draw [⟨0,⟨some 72,.mv (.t 2),none⟩,[]⟩,⟨1,⟨some 73,.faddr 0 (.t 12),none⟩,[]⟩,⟨2,⟨some 74,.load none (.t 73),none⟩,[]⟩,⟨3,⟨some 75,.iaddr 1 (.t 72) (.t 74),none⟩,[]⟩,⟨4,⟨some 76,.load none (.t 75),none⟩,[]⟩,⟨5,⟨some 77,.faddr 1 (.t 12),none⟩,[]⟩,⟨6,⟨some 78,.load none (.t 77),none⟩,[]⟩,⟨7,⟨some 79,.bin .sub (.t 78) (.c (.v (.int .i64 1))),none⟩,[]⟩,⟨8,⟨some 80,.iaddr 1 (.t 76) (.t 79),none⟩,[]⟩,⟨9,⟨some 81,.load none (.t 80),none⟩,[]⟩,⟨10,⟨some 82,.len (.t 81),none⟩,[]⟩,⟨11,⟨some 83,.mv (.c (.v (.int .i64 0))),none⟩,[]⟩]) (.block 0 (.loop (.seq (.region [⟨some 84,.bin .lss (.t 83) (.t 82),none⟩]) (.seq (.cond (.t 84) .skip (.exit 0)) (.seq (.block 1 (.seq (.region [⟨some 85,.mv (.t 83),none⟩,⟨some 86,.iaddr 1 (.t 81) (.t 83),none⟩,⟨some 87,.load none (.t 86),none⟩,⟨some 14,.mv (.t 85),none⟩,⟨some 15,.mv (.t 87),none⟩]) (.region [⟨some 88,.mv (.t 10),none⟩,⟨some 89,.mv (.t 14),none⟩,⟨some 90,.mv (.t 10),none⟩,⟨some 91,.mv (.t 14),none⟩,⟨some 92,.iaddr 1 (.t 90) (.t 91),none⟩,⟨some 93,.load none (.t 92),none⟩,⟨some 94,.mv (.t 15),none⟩,⟨some 95,.mm true (.t 93) (.t 94),none⟩,⟨some 96,.iaddr 1 (.t 88) (.t 89),none⟩,⟨none,.store 1 (.t 96) (.t 95),none⟩]))) (.region [⟨some 97,.bin .add (.t 83) (.c (.v (.int .i64 1))),none⟩,⟨some 83,.mv (.t 97),none⟩]))))))))) .skip))) (.seq (.region [⟨some 98,.mv (.t 10),none⟩,⟨some 99,.mv (.t 3),none⟩,⟨some 100,.mv (.t 1),none⟩,⟨some 101,.bin .rem (.t 99) (.t 100),none⟩,⟨some 102,.iaddr 1 (.t 98) (.t 101),none⟩,⟨some 103,.load none (.t 102),none⟩,⟨some 104,.bin .add (.t 103) (.c (.v (.int .i64 1))),none⟩,⟨some 105,.iaddr 1 (.t 98) (.t 101),none⟩,⟨none,.store 1 (.t 105) (.t 104),none⟩]) (.seq (.region [⟨some 106,.mv (.t 2),none⟩,⟨some 107,.mv (.t 3),none⟩,⟨some 108,.mv (.t 2),none⟩,⟨some 109,.mv (.t 3),none⟩,⟨some 110,.iaddr 1 (.t 108) (.t 109),none⟩,⟨some 111,.load none (.t 110),none⟩,⟨some 112,.mv (.t 10),none⟩,⟨some 113,.bslice 1 [(.v .zsl)] 1 [(0,(.t 112))],none⟩,⟨some 114,.append 1 24 (.t 111) (.t 113),none⟩,⟨some 115,.iaddr 1 (.t 106) (.t 107),none⟩,⟨none,.store 1 (.t 115) (.t 114),none⟩]) (.seq (.region [⟨some 8,.mv (.c (.v (.bool true))),none⟩]) .ret)))))))))⟩
theorem a_padv_ok : cFunc Tryd.prog 108 = some a_padv := by kernel_rfl
def r_padv0 : List (Nat × Nat) := [(14, 15), (83, 97)]

noncomputable def pvF (t : Tr) (k p m : Nat) : List Int := if m = 0 then List.replicate k 0 else fcs t k (p, m)
noncomputable def rvF (t : Tr) (k p m : Nat) : List Int := if (evAt t (p, m + 1)).kind = 3 then joinV (pvF t k p m) (fcs t k (sndr t (p, m + 1))) else pvF t k p m
theorem pvF_len {t : Tr} {k p m : Nat} : (pvF t k p m).length = k := by unfold pvF; split <;> simp [fcs_len]
theorem rvF_len {t : Tr} {k p m : Nat} : (rvF t k p m).length = k := by
 unfold rvF
 split
 ·rw [joinV_len (by rw [pvF_len, fcs_len]), pvF_len]
 ·exact pvF_len
theorem pvF_get {t : Tr} {k p m c : Nat} (hc : c < k) : (pvF t k p m).getD c 0 = (fPrev t k (p, m + 1) c : Int) := by
 unfold pvF fPrev
 by_cases hm : m = 0
 ·rw [if_pos hm, if_neg (by simp only; omega), getD_at (by simpa using hc)]; simp
 ·rw [if_neg hm, if_pos (by simp only; omega)]
  unfold fcs
  rw [fl_getD hc]; rfl
theorem rvF_get {t : Tr} {k p m c : Nat} (hc : c < k) : (rvF t k p m).getD c 0 = ((max (fPrev t k (p, m + 1) c) (fRecv t k (p, m + 1) c) : Nat) : Int) := by
 unfold rvF fRecv
 by_cases hk : (evAt t (p, m + 1)).kind = 3
 ·rw [if_pos hk, if_pos hk, joinV_get (by rw [pvF_len, fcs_len]) (by rw [pvF_len]; exact hc), pvF_get hc]
  unfold fcs
  rw [fl_getD hc]
  omega
 ·rw [if_neg hk, if_neg hk, pvF_get hc]
  omega
theorem fcs_set {t : Tr} (hv : Vok t) {k p m : Nat} (hk : 1 ≤ k) (hx : (p, m + 1) ∈ ids t) : (rvF t k p m).set (p % k) ((rvF t k p m).getD (p % k) 0 + 1) = fcs t k (p, m + 1) := by
 have hp : p % k < k := Nat.mod_lt _ oM
 refine ext_getD (by rw [List.length_set, rvF_len, fcs_len]) (fun c hc => ?_)
 rw [List.length_set, rvF_len] at hc
 unfold fcs
 rw [fl_getD hc, fc_step hv k hx]
 by_cases he : p % k = c
 ·subst he
  rw [getD_at (by rw [List.length_set, rvF_len]; exact hc), List.getElem_set_self, rvF_get hc, if_pos rfl]; omega
 ·rw [getD_set_ne he, rvF_get hc, if_neg he]; omega
noncomputable def fsRow (t : Tr) (k p m : Nat) : List (List IV) := fl m fun i => [.isl 1 ((fcs t k (p, i + 1)).map eI)]
noncomputable def fsC (t : Tr) (k : Nat) (D : Nat → Nat) (p : Nat) : Row := .live (D p) 1 (vs (fsRow t k p (D p)))
def fsT (T n : Nat) (D : Nat → Nat) : Row := .live 0 1 (fl T fun q => [.sl (n + (q + 1 + 1)) (D q) 0 (D q)])
noncomputable def fsR (t : Tr) (k n : Nat) (D : Nat → Nat) : List Row := .live 0 1 [[.v (.isl 3 (t.map ePr))]] :: fsT t.length n D :: fl t.length (fsC t k D)
noncomputable def fsA (t : Tr) (k n : Nat) (D : Nat → Nat) (p : Nat) : List Row := .live 0 1 [[.v (.isl 3 (t.map ePr))]] :: fsT t.length n (fUp D p (D p + 1)) ::
 (fl t.length (fUp (fsC t k D) p (.live (D p + 1) 1 (vs (fsRow t k p (D p)) ++ [[.sl (n + (t.length + 1 + 1 + 1)) 0 0 k]]))) ++ [.live 0 1 [[.v (.isl 3 (t.map ePr))]], .live 0 1 (vs ((fcs t k (p, D p + 1)).map eI))])
theorem fsT_set {T n p : Nat} {D : Nat → Nat} : (fl T fun q => [AV.sl (n + (q + 1 + 1)) (D q) 0 (D q)]).set p [.sl (n + (p + 1 + 1)) (D p + 1) 0 (D p + 1)] = fl T fun q => [.sl (n + (q + 1 + 1)) (fUp D p (D p + 1) q) 0 (fUp D p (D p + 1) q)] := by
 rw [fl_set]
 refine fl_congr (fun q _ => ?_)
 by_cases hq : q = p
 ·subst hq; rw [fUp_same, fUp_same]
 ·rw [fUp_ne hq, fUp_ne hq]
theorem RowsLt.setR {m i : Nat} {B : List Row} {r : Row} (h : RowsLt m B) (hr : RowsLt m [r]) : RowsLt m (B.set i r) := by
 intro id ver sz els hi row hrow c hc
 by_cases he : i = id
 ·subst he
  by_cases hl : i < B.length
  ·rw [List.getElem?_set_self hl] at hi
   exact hr 0 ver sz els (by simpa using hi) row hrow c hc
  ·rw [List.getElem?_eq_none (by rw [List.length_set]; omega)] at hi; cases hi
 ·rw [List.getElem?_set_ne he] at hi
  exact h id ver sz els hi row hrow c hc
theorem fsR_len {t : Tr} {k n : Nat} {D : Nat → Nat} : (fsR t k n D).length = t.length + 2 := by simp [fsR, fl_len]
set_option maxRecDepth 20000 in
set_option maxHeartbeats 4000000 in
theorem padv_spec (t : Tr) (hv : Vok t) (hval : validL t = true) (hS : Small t) (hN : Nm t) (hC : (ids t).length ≤ 1000000) (k : Nat) (h1k : 1 ≤ k) (hk8 : k ≤ 8) (D : Nat → Nat) (hD : ∀ p, p < t.length → D p ≤ (evsOf t p).length) (p : Nat) (hp : p < t.length) (b l : List Row) (hl : l = fsR t k b.length D) (rd : Bool) (lx : List Row) (hcase : (rd = true ∧ Rdy t D p ∧ lx = fsA t k b.length D p) ∨ (rd = false ∧ ¬ Rdy t D p ∧ lx = l)) :
  ACalls Tryd.prog 108 [.agg [.v (.isl 3 (t.map ePr))], .v (.int .i64 k), .sl (b.length + 1) 0 0 t.length, .v (.int .i64 p)] b l (fun r b' l' => r = .v (.bool rd) ∧ b' = b ∧ l' = lx) := by
 refine calls_kept a_padv_ok rfl (by decide) ?_
 intro B g hB hR hE hA
 simp only [KArgs] at hA
 have hBl : B.length = b.length + (t.length + 2) := by rw [hB, List.length_append, hl, fsR_len]
 have hT8 := hv.hi
 have heo := evsOf_lt hp
 have hdp := hD p hp
 rw [heo] at hdp
 have hne := hS.ne _ (List.getElem_mem hp)
 have gB1 : B[b.length + 1]? = some (fsT t.length b.length D) := by rw [hB, List.getElem?_append_right oM, Nat.add_sub_cancel_left, hl]; rfl
 have gBr : ∀ q, q < t.length → B[b.length + (q + 1 + 1)]? = some (fsC t k D q) := fun q hq => by
  rw [hB, List.getElem?_append_right oM, Nat.add_sub_cancel_left, hl]
  unfold fsR
  simp only [List.getElem?_cons_succ]
  exact fl_get hq
 have g1 := hget_low gB1
 have gr := fun q hq => hget_low (gBr q hq)
 unfold fsT at g1
 unfold fsC at gr
 have gT : ∀ q, q < t.length → (fl t.length fun q => [AV.sl (b.length + (q + 1 + 1)) (D q) 0 (D q)])[q]? = some [.sl (b.length + (q + 1 + 1)) (D q) 0 (D q)] := fun q hq => fl_get hq
 have gTp := gT p hp
 have grp := gr p hp
 by_cases hnl : D p < t[p].evs.length
 case neg =>
  have hd : ((D p : Int) == (t[p].evs.length : Int)) = true := by simp; omega
  have hn : ¬ Rdy t D p := fun h => hnl (by have := h.1; rwa [heo] at this)
  obtain ⟨rfl, _, rfl⟩ := hcase.resolve_left (fun h => hn h.2.1)
  simp (disch := (first | decide | omega)) only [a_padv, hA, g1, gTp, ePr, hd, List.length_map, go_sem]
  exact leave_pure (xs := [.v (.bool false)]) (.inr rfl) (by simp (disch := (first | decide | omega)) only [resVs, resV, go_sem, hA]) kO hR hB ⟨rfl, rfl, rfl⟩
 have hx : (p, D p + 1) ∈ ids t := mem_ids2.2 ⟨hp, by rw [heo]; exact hnl⟩
 have hev := evAt_eq hp hnl
 have hd : ((D p : Int) == (t[p].evs.length : Int)) = false := by simp; omega
 have hz : List.replicate k [IV.int .i64 0] = (List.replicate k (0 : Int)).map eI := by simp [eI]
 have hcl : ∀ x, (fcs t k x).length = k := fun x => fcs_len
 have hpl : (pvF t k p (D p)).length = k := pvF_len
 have hrl : (rvF t k p (D p)).length = k := rvF_len
 have hpk : p % k < k := Nat.mod_lt _ oM
 have hrem : Int.tmod (p : Int) (k : Int) = ((p % k : Nat) : Int) := rfl
 have hk0 : ((k : Int) = 0) = False := by simp; omega
 have hownv : (rvF t k p (D p)).getD (p % k) 0 + 1 = (fc t k (p, D p + 1) (p % k) : Int) := by
  have h1 : ((rvF t k p (D p)).set (p % k) ((rvF t k p (D p)).getD (p % k) 0 + 1)).getD (p % k) 0 = (fcs t k (p, D p + 1)).getD (p % k) 0 := by rw [fcs_set hv h1k hx]
  rw [getD_at (by rw [List.length_set, hrl]; exact hpk), List.getElem_set_self] at h1
  unfold fcs at h1
  rw [fl_getD hpk] at h1
  exact h1
 have hbig := fc_le hv k hx (p % k)
 have hrg : ((rvF t k p (D p)).map eI)[p % k]? = some [.int .i64 ((rvF t k p (D p)).getD (p % k) 0)] := by
  rw [List.getElem?_map, List.getElem?_eq_getElem (by rw [hrl]; exact hpk), getD_at (by rw [hrl]; exact hpk)]; rfl
 have hrs : ((rvF t k p (D p)).map eI).set (p % k) [.int .i64 ((rvF t k p (D p)).getD (p % k) 0 + 1)] = (fcs t k (p, D p + 1)).map eI := by
  rw [← fcs_set hv h1k hx, List.map_set]; rfl
 have hrs2 : ((rvF t k p (D p)).map eI).set (p % k) [.int .i64 (fc t k (p, D p + 1) (p % k) : Int)] = (fcs t k (p, D p + 1)).map eI := by rw [← hownv]; exact hrs
 have hge0 : 0 ≤ (rvF t k p (D p)).getD (p % k) 0 := by rw [rvF_get hpk]; omega
 have hse := fun b l => sender_spec t hS hN b l t[p].evs[D p].msg
 simp only [eT] at hse
 have hfR : findR t 2 t[p].evs[D p].msg = sndr t (p, D p + 1) := by
  unfold findR sndr
  rw [if_pos hval, hev]
 rw [hfR] at hse
 by_cases h0 : 0 < D p
 case' pos =>
  have hd0 : decide ((D p : Int) > 0) = true := decide_eq_true oM
  have hd0' : decide ((0 : Int) < (D p : Int)) = true := hd0
  have hkt : (D p : Int) - 1 = ((D p - 1 : Nat) : Int) := by omega
  have hst : (fsRow t k p (D p))[D p - 1]? = some [.isl 1 ((pvF t k p (D p)).map eI)] := by
   unfold fsRow pvF
   rw [fl_get oM, if_neg oM, show D p - 1 + 1 = D p by omega]
  have tk : List.take k ((pvF t k p (D p)).map eI) = (pvF t k p (D p)).map eI := List.take_of_length_le (by simp [hpl])
  have dr : List.drop k ((List.replicate k (0 : Int)).map eI) = [] := List.drop_eq_nil_of_le (by simp)
  simp (disch := (first | decide | omega)) only [a_padv, hA, g1, gTp, grp, ePr, eEv, hd, hz, hd0, hd0', hkt, hst, hpl, tk, dr, vs_nil, List.length_map, List.length_replicate, go_sem]
 case' neg =>
  have hd0 : decide ((D p : Int) > 0) = false := decide_eq_false oM
  have hd0' : decide ((0 : Int) < (D p : Int)) = false := hd0
  have hpv : (List.replicate k (0 : Int)).map eI = (pvF t k p (D p)).map eI := by unfold pvF; rw [if_pos oM]
  simp (disch := (first | decide | omega)) only [a_padv, hA, g1, gTp, grp, ePr, eEv, hd, hz, hd0, hd0', hpv, List.length_map, List.length_replicate, go_sem]
 all_goals
  have e1 : b.length + (p + 1 + 1) < B.length := by omega
  have e2 : b.length + 1 < B.length := by omega
  have sB1 : ∀ r, hsetB B (b.length + (p + 1 + 1)) r = B.set (b.length + (p + 1 + 1)) r := fun r => by unfold hsetB; rw [if_pos e1]
  have sL1 : ∀ r l', hsetL B l' (b.length + (p + 1 + 1)) r = l' := fun r l' => by unfold hsetL; rw [if_pos e1]
  have gB2 : ∀ r l', hget (B.set (b.length + (p + 1 + 1)) r) l' (b.length + 1) = some (.live 0 1 (fl t.length fun q => [.sl (b.length + (q + 1 + 1)) (D q) 0 (D q)])) := fun r l' => by
   refine hget_low ?_ l'
   rw [List.getElem?_set_ne oM, gB1]; rfl
  have sB2 : ∀ r r', hsetB (B.set (b.length + (p + 1 + 1)) r) (b.length + 1) r' = (B.set (b.length + (p + 1 + 1)) r).set (b.length + 1) r' := fun r r' => by unfold hsetB; rw [if_pos (by rw [List.length_set]; exact e2)]
  have sL2 : ∀ r r' l', hsetL (B.set (b.length + (p + 1 + 1)) r) l' (b.length + 1) r' = l' := fun r r' l' => by unfold hsetL; rw [if_pos (by rw [List.length_set]; exact e2)]
  have hts := fsT_set (T := t.length) (n := b.length) (p := p) (D := D)
  have hfr : (fsRow t k p (D p)).length = D p := fl_len
  have tkr : List.take (D p) (fsRow t k p (D p)) = fsRow t k p (D p) := List.take_of_length_le oM
  obtain ⟨NB, hNB⟩ : ∃ NB, NB = (B.set (b.length + (p + 1 + 1)) (.live (D p + 1) 1 (vs (fsRow t k p (D p)) ++ [[.sl (B.length + 1) 0 0 k]]))).set (b.length + 1) (.live 0 1 (fl t.length fun q => [.sl (b.length + (q + 1 + 1)) (fUp D p (D p + 1) q) 0 (fUp D p (D p + 1) q)])) := ⟨_, rfl⟩
  have hNl : NB.length = B.length := by rw [hNB, List.length_set, List.length_set]
  have hNb : NB = b ++ (.live 0 1 [[.v (.isl 3 (t.map ePr))]] :: fsT t.length b.length (fUp D p (D p + 1)) :: fl t.length (fUp (fsC t k D) p (.live (D p + 1) 1 (vs (fsRow t k p (D p)) ++ [[.sl (B.length + 1) 0 0 k]])))) := by
   rw [hNB, hB, List.set_append_right _ _ oM, Nat.add_sub_cancel_left, List.set_append_right _ _ oM, Nat.add_sub_cancel_left, hl]
   unfold fsR fsT
   simp only [List.set_cons_succ, List.set_cons_zero, fl_set]
  have hNR : RowsLt (NB.length + 2) NB := by
   rw [hNB]
   have q : ((B.set (b.length + (p + 1 + 1)) (.live (D p + 1) 1 (vs (fsRow t k p (D p)) ++ [[.sl (B.length + 1) 0 0 k]]))).set (b.length + 1) (.live 0 1 (fl t.length fun q => [.sl (b.length + (q + 1 + 1)) (fUp D p (D p + 1) q) 0 (fUp D p (D p + 1) q)]))).length + 2 = B.length + 2 := by rw [List.length_set, List.length_set]
   rw [q]
   refine RowsLt.setR (RowsLt.setR (hR.mono oM) ?_) ?_
   ·rw [RowsLt_live]
    refine ⟨fun row hrow c hc => ?_, RowsLt_nil⟩
    rcases List.mem_append.1 hrow with h1 | h1
    ·obtain ⟨r0, _, rfl⟩ := List.mem_map.1 h1
     obtain ⟨x0, _, rfl⟩ := List.mem_map.1 hc
     exact .v _
    ·simp only [List.mem_singleton] at h1; subst h1
     simp only [List.mem_singleton] at hc; subst hc
     exact .sl _ _ _ _ oM
   ·rw [RowsLt_live]
    refine ⟨fun row hrow c hc => ?_, RowsLt_nil⟩
    obtain ⟨j, hj, rfl⟩ := List.mem_map.1 hrow
    simp only [List.mem_singleton] at hc; subst hc
    have := List.mem_range.1 hj
    exact .sl _ _ _ _ oM
  have hfin : rd = true ∧ Rdy t D p ∧ lx = fsA t k b.length D p → ∀ rs e junk, resVs e NB (.live 0 1 [[.v (.isl 3 (t.map ePr))]] :: .live 0 1 (vs ((fcs t k (p, D p + 1)).map eI)) :: junk) rs = some [.v (.bool true)] → Leaves rs (fun r b' l' => r = .v (.bool rd) ∧ b' = b ∧ l' = lx) b.length .ret e NB (.live 0 1 [[.v (.isl 3 (t.map ePr))]] :: .live 0 1 (vs ((fcs t k (p, D p + 1)).map eI)) :: junk) := by
   rintro ⟨rfl, _, rfl⟩ rs e junk hx
   refine leave (.inr rfl) hx (y := .v (.bool true)) (l' := [.live 0 1 [[.v (.isl 3 (t.map ePr))]], .live 0 1 (vs ((fcs t k (p, D p + 1)).map eI))]) (Weak.trim (junk := junk) (by simp) ?_ hNR kL) hNb ⟨rfl, rfl, ?_⟩
   ·intro x hx; simp only [one, List.mem_singleton] at hx; subst hx; exact .v _
   ·unfold fsA
    rw [hBl]
    simp only [List.cons_append, Nat.add_assoc]
  by_cases hk3 : t[p].evs[D p].kind = 3
  ·have hk3' : (evAt t (p, D p + 1)).kind = 3 := by rw [hev]; exact hk3
   have hkb : (t[p].evs[D p].kind == 3) = true := by rw [hk3]; rfl
   obtain ⟨sm, _⟩ := sndr_in hv hx hk3'
   obtain ⟨⟨sp, si⟩, hs⟩ : ∃ s, sndr t (p, D p + 1) = s := ⟨_, rfl⟩
   rw [hs] at hse sm
   simp only [idA] at hse
   obtain ⟨si, rfl⟩ : ∃ j, si = j + 1 := ⟨si - 1, by have := mem_pos sm; simp only at this; omega⟩
   have hsp := (mem_ids2.1 sm).1
   have hdsp := hD sp hsp
   rw [evsOf_lt hsp] at hdsp
   have hnsp := hS.ne _ (List.getElem_mem hsp)
   have gTs := gT sp hsp
   have grs := gr sp hsp
   simp (disch := (first | decide | omega)) only [hA, hkb, List.length_map, go_sem]
   refine ACalls.nxt (hse _ _) ?_
   by_cases hrd : si + 1 ≤ D sp
   ·have hd5 : decide ((D sp : Int) < ((si + 1 : Nat) : Int)) = false := decide_eq_false oM
    have hRy : Rdy t D p := ⟨by rw [heo]; exact hnl, fun _ => by rw [hs]; exact hrd⟩
    have hyes := hcase.resolve_right (fun h => h.2.1 hRy)
    have hsi : ((si + 1 : Nat) : Int) - 1 = (si : Int) := by omega
    have hst2 : (fsRow t k sp (D sp))[si]? = some [.isl 1 ((fcs t k (sp, si + 1)).map eI)] := fl_get oM
    have hjl : (pvF t k p (D p)).length = (fcs t k (sp, si + 1)).length := by rw [hpl, hcl]
    have j0 := joTo_zero (pvF t k p (D p)) (fcs t k (sp, si + 1))
    have hrv : joinV (pvF t k p (D p)) (fcs t k (sp, si + 1)) = rvF t k p (D p) := by unfold rvF; rw [if_pos hk3', hs]
    simp (disch := (first | decide | omega)) only [hA, g1, gTs, grs, hd5, hsi, hst2, hcl, List.length_map, go_sem]
    refine loop_kept (ι := Nat) r_padv0 (fun i => [(83, .v (.int .i64 i))]) 4 (fun i => [.live 0 1 [[.v (.isl 3 (t.map ePr))]], .live 0 1 (vs ((joTo (pvF t k p (D p)) (fcs t k (sp, si + 1)) i).map eI)), .live 0 5 [[.v (.int .i64 t[p].evs[D p].kind), .v (.int .i64 t[p].evs[D p].peer), .v (.int .i64 t[p].evs[D p].msg), .v (.int .i64 t[p].evs[D p].time), .v (.isl 2 (t[p].evs[D p].asg.map eAsg))]], .live 0 2 [[.v (.int .i64 sp), .v (.int .i64 ((si + 1 : Nat) : Int))]]])
     (fun i => i ≤ k) (fun i => k - i) 0 (Nat.zero_le _) (by (repeat (first | exact hE.mono oM | refine KLt.up ?_ kL))) (by ((try simp (disch := decide) only [hA, go_sem]) <;> exact kH)) (fun e => by rw [j0]; exact Weak.refl _ _ _) ?_
    intro g5 hE5 hEE5 hg5 i hi
    by_cases hik : i < k
    ·have hip : i < (pvF t k p (D p)).length := by omega
     have hiw : i < (fcs t k (sp, si + 1)).length := by rw [hcl]; exact hik
     have jl := joTo_len hjl i oM
     have jg := joTo_get hjl hip oM
     have js := joTo_set hjl hip hiw
     have hm : (if (pvF t k p (D p))[i] < (fcs t k (sp, si + 1))[i] then (fcs t k (sp, si + 1))[i] else (pvF t k p (D p))[i]) = max (pvF t k p (D p))[i] (fcs t k (sp, si + 1))[i] := by split <;> omega
     simp (disch := (first | decide | omega)) only [hA, hg5, eI, jg, hm, js, jl, hcl, setFrom, cellsOf, List.length_map, go_sem]
     refine ⟨i + 1, hik, by simp only; omega, ?_⟩
     exact Weak.kround (p := r_padv0) (k := 4) (by ((repeat refine (kAny_up rfl).trans ?_); exact hEE5)) (by ((try simp (disch := decide) only [hA, go_sem]) <;> exact kH)) rfl hE5 (by simp) kV hR kL
    ·obtain rfl : i = k := by omega
     have ja := joTo_all hjl
     rw [hpl] at ja
     rw [ja, hrv]
     simp (disch := (first | decide | omega)) only [hA, hg5, hcl, hrem, hk0, hrg, hrl, hownv, hrs2, g1, gTp, grp, hfr, tkr, sB1, sL1, gB2, sB2, sL2, hts, if_false, setFrom, cellsOf, List.length_map, List.length_set, fl_len, vs_nil, List.replicate_succ, List.replicate_zero, reduceCtorEq, go_sem]
     rw [← hNB]
     refine hfin hyes _ _ _ ?_
     simp (disch := (first | decide | omega)) only [resVs, resV, hA, hg5, go_sem]
   ·have hd5 : decide ((D sp : Int) < ((si + 1 : Nat) : Int)) = true := decide_eq_true oM
    have hnR : ¬ Rdy t D p := fun h => hrd (by have := h.2 hk3'; rwa [hs] at this)
    have hno := hcase.resolve_left (fun h => hnR h.2.1)
    have q1 := hno.1
    have q2 := hno.2.2
    subst q1
    subst q2
    simp (disch := (first | decide | omega)) only [hA, g1, gTs, grs, hd5, List.length_map, go_sem]
    exact leave_pure (xs := [.v (.bool false)]) (.inr rfl) (by simp (disch := (first | decide | omega)) only [resVs, resV, go_sem, hA]) kO hR hB ⟨rfl, rfl, rfl⟩
  ·have hkb : (t[p].evs[D p].kind == 3) = false := beq_eq_false_iff_ne.2 hk3
   have hRy : Rdy t D p := ⟨by rw [heo]; exact hnl, fun h => absurd (by rw [hev] at h; exact h) hk3⟩
   have hyes := hcase.resolve_right (fun h => h.2.1 hRy)
   have hrv : pvF t k p (D p) = rvF t k p (D p) := by unfold rvF; rw [if_neg (by rw [hev]; exact hk3)]
   rw [hrv]
   simp (disch := (first | decide | omega)) only [hA, hkb, hrem, hk0, hrg, hrl, hownv, hrs2, g1, gTp, grp, hfr, tkr, sB1, sL1, gB2, sB2, sL2, hts, if_false, setFrom, cellsOf, List.length_map, List.length_set, fl_len, vs_nil, List.replicate_succ, List.replicate_zero, reduceCtorEq, go_sem]
   rw [← hNB]
   refine hfin hyes _ _ _ ?_
   simp (disch := (first | decide | omega)) only [resVs, resV, hA, go_sem]
def a_pfolded : AFunc := ⟨2,26,[.tmp 4],(.seq (.region [⟨some 2,.box (.t 0),none⟩,⟨some 4,.mv (.c (.v .zsl)),none⟩]) (.seq (.region [⟨some 8,.faddr 0 (.t 2),none⟩,⟨some 9,.load none (.t 8),none⟩,⟨some 10,.len (.t 9),none⟩,⟨some 11,.mkslice 1 [(.v .zsl)] 24 (.t 10) (.t 10),none⟩,⟨some 5,.mv (.t 11),none⟩]) (.seq (.seq (.region [⟨some 6,.mv (.c (.v (.bool true))),none⟩]) (.block 0 (.loop (.seq (.seq (.region [⟨some 12,.mv (.t 6),none⟩]) (.cond (.t 12) .skip (.exit 0))) (.block 1 (.seq (.region [⟨some 6,.mv (.c (.v (.bool false))),none⟩]) (.seq (.region [⟨some 13,.faddr 0 (.t 2),none⟩,⟨some 14,.load none (.t 13),none⟩,⟨some 15,.len (.t 14),none⟩,⟨some 16,.mv (.c (.v (.int .i64 0))),none⟩]) (.block 2 (.loop (.seq (.region [⟨some 17,.bin .lss (.t 16) (.t 15),none⟩]) (.seq (.cond (.t 17) .skip (.exit 2)) (.seq (.block 3 (.seq (.region [⟨some 18,.mv (.t 16),none⟩,⟨some 7,.mv (.t 18),none⟩]) (.block 4 (.loop (.seq (.seq (.region [⟨some 19,.load (some 1) (.t 2),none⟩,⟨some 20,.mv (.t 1),none⟩,⟨some 21,.mv (.t 5),none⟩,⟨some 22,.mv (.t 7),none⟩,⟨some 23,.call (.c (.fn 108 [])) [(.t 19),(.t 20),(.t 21),(.t 22)],none⟩]) (.cond (.t 23) .skip (.exit 4))) (.block 5 (.region [⟨some 6,.mv (.c (.v (.bool true))),none⟩]))))))) (.region [⟨some 24,.bin .add (.t 16) (.c (.v (.int .i64 1))),none⟩,⟨some 16,.mv (.t 24),none⟩]))))))))))))) (.seq (.region [⟨some 25,.mv (.t 5),none⟩,⟨some 4,.mv (.t 25),none⟩]) .ret))))⟩
theorem a_pfolded_ok : cFunc Tryd.prog 65 = some a_pfolded := by kernel_rfl
def r_pfolded0 : List (Nat × Nat) := [(6, 7), (12, 24)]
def r_pfolded1 : List (Nat × Nat) := [(6, 7), (16, 24)]
def r_pfolded2 : List (Nat × Nat) := [(6, 6), (19, 23)]
def a_pgiven : AFunc := ⟨2,13,[.tmp 4],(.seq (.region [⟨some 2,.box (.t 0),none⟩,⟨some 4,.mv (.c (.v (.int .i64 0))),none⟩]) (.seq (.block 0 (.seq (.region [⟨some 6,.load (some 1) (.t 2),none⟩,⟨some 7,.call (.c (.fn 68 [])) [(.t 6)],none⟩,⟨some 8,.not (.t 7),none⟩,⟨some 5,.mv (.t 8),none⟩]) (.cond (.t 5) (.seq (.region [⟨some 4,.mv (.c (.v (.int .i64 1))),none⟩]) .ret) (.seq (.region [⟨some 10,.mv (.t 1),none⟩,⟨some 11,.call (.c (.fn 80 [])) [(.t 10)],none⟩,⟨some 12,.not (.t 11),none⟩,⟨some 9,.mv (.t 12),none⟩]) (.cond (.t 9) (.seq (.region [⟨some 4,.mv (.c (.v (.int .i64 2))),none⟩]) .ret) .skip))))) (.seq (.region [⟨some 4,.mv (.c (.v (.int .i64 0))),none⟩]) .ret)))⟩
theorem a_pgiven_ok : cFunc Tryd.prog 37 = some a_pgiven := by kernel_rfl
def a_pStamps : AFunc := ⟨2,16,[.tmp 4,.tmp 5],(.seq (.region [⟨some 2,.box (.t 0),none⟩,⟨some 4,.mv (.c (.v .zsl)),none⟩,⟨some 5,.mv (.c (.v (.int .i64 0))),none⟩]) (.seq (.seq (.region [⟨some 7,.load (some 1) (.t 2),none⟩,⟨some 8,.mv (.t 1),none⟩,⟨some 9,.call (.c (.fn 37 [])) [(.t 7),(.t 8)],none⟩,⟨some 6,.mv (.t 9),none⟩]) (.seq (.region [⟨some 10,.mv (.t 6),none⟩,⟨some 11,.bin .neq (.t 10) (.c (.v (.int .i64 0))),none⟩]) (.cond (.t 11) (.seq (.region [⟨some 12,.mv (.t 6),none⟩,⟨some 4,.mv (.c (.v .zsl)),none⟩,⟨some 5,.mv (.t 12),none⟩]) .ret) .skip))) (.seq (.region [⟨some 13,.load (some 1) (.t 2),none⟩,⟨some 14,.mv (.t 1),none⟩,⟨some 15,.call (.c (.fn 65 [])) [(.t 13),(.t 14)],none⟩,⟨some 4,.mv (.t 15),none⟩,⟨some 5,.mv (.c (.v (.int .i64 0))),none⟩]) .ret)))⟩
theorem a_pStamps_ok : cFunc Tryd.prog 22 = some a_pStamps := by kernel_rfl

theorem fsRow_next {t : Tr} {k p m : Nat} : fsRow t k p m ++ [[.isl 1 ((fcs t k (p, m + 1)).map eI)]] = fsRow t k p (m + 1) := fl_next rfl
theorem fs_frz {t : Tr} {k n p : Nat} {D : Nat → Nat} (hp : p < t.length) :
  ((fsA t k n D p).set (t.length + 1 + 1 + 1) (.dead 0)).map (rowMap (frz0 (n + (t.length + 1 + 1 + 1)) 0 1 ((fcs t k (p, D p + 1)).map eI))) = fsR t k n (fUp D p (D p + 1)) ++ [.live 0 1 [[.v (.isl 3 (t.map ePr))]], .dead 0] := by
 unfold fsA fsR fsT
 simp only [List.set_cons_succ, fa_settail, List.set_cons_zero, List.map_cons, List.map_append, List.map_nil, rowMap, List.cons_append]
 refine congr (congrArg _ ?_) (congr (congrArg _ ?_) (congr (congrArg _ ?_) ?_))
 ·simp [frz0]
 ·congr 1
  rw [fl_map]
  refine fl_congr (fun q hq => ?_)
  simp only [List.map_cons, List.map_nil, frz0]
  rw [if_neg oM]
 ·rw [fl_map]
  refine fl_congr (fun q hq => ?_)
  by_cases hqp : q = p
  ·subst hqp
   unfold fsC
   rw [fUp_same, fUp_same]
   simp only [rowMap, List.map_append, vs_frz0, List.map_cons, List.map_nil, frz0]
   rw [if_pos ⟨trivial, trivial, by simp [fcs_len]⟩, ← fsRow_next]
   simp [vs, fcs_len]
   rw [List.take_of_length_le (by simp [fcs_len])]
  ·unfold fsC
   rw [fUp_ne hqp, fUp_ne hqp]
   simp only [rowMap, vs_frz0]
 ·simp [frz0]
theorem fsR_lt {t : Tr} {k n m : Nat} {D : Nat → Nat} (h : n + (t.length + 2) ≤ m) : RowsLt m (fsR t k n D) := by
 have hp : ∀ (rows : List (List IV)) row, row ∈ vs rows → ∀ c ∈ row, AVlt m c := by
  intro rows row h c hc
  obtain ⟨r0, _, rfl⟩ := List.mem_map.1 h
  obtain ⟨x0, _, rfl⟩ := List.mem_map.1 hc
  exact .v _
 intro id ver sz els hr row hrow c hc
 match id, hr with
 | 0, hr => cases hr; simp at hrow; subst hrow; simp at hc; subst hc; exact .v _
 | 1, hr =>
   cases hr
   obtain ⟨a, ha, rfl⟩ := List.mem_map.1 hrow
   simp only [List.mem_singleton] at hc
   subst hc
   have := List.mem_range.1 ha
   exact .sl _ _ _ _ oM
 | id + 2, hr =>
   have hr : (fl t.length (fsC t k D))[id]? = some (.live ver sz els) := hr
   by_cases hid : id < t.length
   ·rw [fl_get hid] at hr
    cases hr
    exact hp _ row hrow c hc
   ·rw [fl_none oM] at hr; cases hr
theorem fsR_zero {t : Tr} {k n : Nat} : ([.live 0 1 [[.v (.isl 3 (t.map ePr))]]] ++ Row.live 0 1 (fl t.length fun p => [AV.sl (n + (1 + 1 + p)) 0 0 0]) :: fl t.length (fun _ => Row.live 0 1 [])) = fsR t k n (fun _ => 0) := by
 unfold fsR fsT fsC
 simp only [List.cons_append, List.nil_append]
 congr 3
 exact fl_congr (fun p _ => by rw [show n + (1 + 1 + p) = n + (p + 1 + 1) by omega])
noncomputable def fsAll (t : Tr) (k : Nat) : List (List IV) := fl t.length fun q => [.isl 1 (fsRow t k q (evsOf t q).length)]
set_option maxRecDepth 20000 in
set_option maxHeartbeats 4000000 in
theorem pfolded_spec (t : Tr) (hv : Vok t) (hval : validL t = true) (hS : Small t) (hN : Nm t) (hC : (ids t).length ≤ 1000000) (k : Nat) (h1k : 1 ≤ k) (hk8 : k ≤ 8) (b l : List Row) :
  ACalls Tryd.prog 65 [.agg [.v (eT t)], .v (.int .i64 k)] b l (fun r b' l' => r = .v (.isl 1 (fsAll t k)) ∧ b' = b ∧ l' = l) := by
 refine calls_kept a_pfolded_ok rfl (by decide) ?_
 intro B g hB hR hE hA
 simp only [KArgs] at hA
 have hlo := hv.hi
 simp (disch := (first | decide | omega)) only [a_pfolded, eT, hA, List.length_map, go_sem]
 refine loop_kept (ι := (Nat → Nat) × Bool) r_pfolded0 (fun i => [(6, .v (.bool i.2))]) (t.length + 2) (fun i => fsR t k B.length i.1)
  (fun i => Dn t i.1 ∧ (i.2 = false → ∀ p, p < t.length → i.1 p = (evsOf t p).length)) (fun i => 2 * remT t i.1 + cond i.2 1 0) (fun _ => 0, true) ⟨fun p hp => Nat.zero_le _, fun h => by cases h⟩ (by (repeat (first | exact hE.mono oM | refine KLt.up ?_ kL))) (by ((try simp (disch := decide) only [hA, go_sem]) <;> exact kH)) (fun e => by
   have h := Weak.nilsAll (e := e) (b := B) (pre := [.live 0 1 [[.v (.isl 3 (t.map ePr))]]]) (N := t.length) (v0 := 0) 1 rfl
   rw [fsR_zero (k := k)] at h
   have hz : vs (List.replicate t.length [IV.zsl]) = List.replicate t.length [AV.v .zsl] := by simp [vs]
   rw [hz]
   exact h) ?_
 rintro g1 hE1 hEE1 hg1 ⟨D0, ag0⟩ ⟨hD0, hag0⟩
 simp only at hD0 hag0
 cases ag0 with
 | false =>
   have hall := hag0 rfl
   simp (disch := (first | decide | omega)) only [hA, hg1, go_sem]
   have he : fsAll t k = mV t.length 1 (fun q => fsRow t k q (D0 q)) := by
    unfold fsAll mV
    exact fl_congr (fun q hq => by simp only; rw [hall q hq])
   rw [he]
   refine leave_matP (n := t.length) (m := 1) (v0 := 0) (sz := 1) (ver := D0) (R := fun q => fsRow t k q (D0 q)) (pre := [.live 0 1 [[.v (.isl 3 (t.map ePr))]]]) (junk := []) (.inr rfl) (by simp (disch := (first | decide | omega)) only [resVs, resV, hA, hg1, go_sem]) rfl ?_ kN hR hB ⟨rfl, rfl, rfl⟩
   unfold mR fsR fsT fsC
   simp only [List.append_nil, List.cons_append, List.nil_append]
   congr 3
   refine fl_congr (fun j hj => ?_)
   unfold mC
   rw [if_neg oM, show B.length + 1 + (j + 1) = B.length + (j + 1 + 1) by omega]
   have : (fsRow t k j (D0 j)).length = D0 j := fl_len
   rw [this]
 | true =>
   simp (disch := (first | decide | omega)) only [hA, hg1, List.length_map, fsR, go_sem]
   refine loop_kept (ι := Nat × (Nat → Nat) × Bool) r_pfolded1 (fun i => [(6, .v (.bool i.2.2)), (16, .v (.int .i64 i.1))]) (t.length + 2) (fun i => fsR t k B.length i.2.1)
    (fun i => i.1 ≤ t.length ∧ Prg t D0 i.2.1 i.2.2 i.1) (fun i => t.length - i.1) (0, D0, false) ⟨Nat.zero_le _, hD0, fun _ => ⟨rfl, fun q hq => by omega⟩, fun h => by cases h⟩ (by (repeat (first | exact hE1.mono oM | refine KLt.up ?_ kL))) (by ((try simp (disch := decide) only [hA, hg1, go_sem]) <;> exact kH)) (fun e => Weak.refl _ _ _) ?_
   rintro g2 hE2 hEE2 hg2 ⟨p, D1, ag1⟩ ⟨hp, hP1⟩
   simp only at hp hP1
   by_cases hlt : p < t.length
   ·simp (disch := (first | decide | omega)) only [hA, hg1, hg2, List.length_map, fsR, go_sem]
    refine loop_kept (ι := (Nat → Nat) × Bool) r_pfolded2 (fun i => [(6, .v (.bool i.2))]) (t.length + 2) (fun i => fsR t k B.length i.1)
     (fun i => Prg t D0 i.1 i.2 p) (fun i => remT t i.1) (D1, ag1) hP1 (by (repeat (first | exact hE2.mono oM | refine KLt.up ?_ kL))) (by ((try simp (disch := decide) only [hA, hg1, hg2, go_sem]) <;> exact kH)) (fun e => Weak.refl _ _ _) ?_
    rintro g3 hE3 hEE3 hg3 ⟨D, ag⟩ hP
    simp only at hP
    have hstep := fun rd lx hc => padv_spec t hv hval hS hN hC k h1k hk8 D hP.1 p hlt B (fsR t k B.length D) rfl rd lx hc
    have hfl : (fsR t k B.length D)[0]? = some (.live 0 1 [[.v (.isl 3 (t.map ePr))]]) := rfl
    obtain ⟨FR, hFR⟩ : ∃ FR, FR = (fsT t.length B.length D :: fl t.length (fsC t k D)) := ⟨_, rfl⟩
    have hFR2 : fsR t k B.length D = .live 0 1 [[.v (.isl 3 (t.map ePr))]] :: FR := by rw [hFR]; rfl
    by_cases hrd : Rdy t D p
    ·have hyes := hstep true _ (.inl ⟨rfl, hrd, rfl⟩)
     rw [hFR2] at hyes
     simp (disch := (first | decide | omega)) only [hA, hg1, hg2, hg3, hFR2, go_sem]
     refine ACalls.nxt hyes ?_
     have hprg : Prg t D0 (fUp D p (D p + 1)) true p := by
      have hst := remT_step hlt hrd.1
      refine ⟨fun q hq => ?_, (fun h => by cases h), fun _ => ?_⟩
      ·by_cases hqp : q = p
       ·subst hqp; rw [fUp_same]; have := hrd.1; omega
       ·rw [fUp_ne hqp]; exact hP.1 q hq
      ·cases ag with
       | true => have := hP.2.2 rfl; omega
       | false => rw [← (hP.2.1 rfl).1]; omega
     obtain ⟨FA, hFA⟩ : ∃ FA, FA = fsA t k B.length D p := ⟨_, rfl⟩
     rw [← hFA]
     simp (disch := (first | decide | omega)) only [hA, hg1, hg2, hg3, go_sem]
     rw [hFA]
     refine ⟨(fUp D p (D p + 1), true), hprg, by have := remT_step hlt hrd.1; simp only; omega, ?_⟩
     exact Weak.kroundF (p := r_pfolded2) (i := t.length + 1 + 1 + 1) (ver := 0) (sz := 1) (rows := (fcs t k (p, D p + 1)).map eI) (k := t.length + 2) (l1 := fsR t k B.length (fUp D p (D p + 1))) (by unfold fsA; simp only [List.getElem?_cons_succ]; rw [fa_tail (j := 1)]; rfl) (by ((repeat refine (kAny_up rfl).trans ?_); exact hEE3)) (by ((try simp (disch := decide) only [hA, go_sem]) <;> exact kH)) (fs_frz hlt) hE3 (by rw [fsR_len]; omega) (by rw [fsR_len]; omega) (by rw [fsR_len]; simp (disch := omega) only [KOvLt, lts.down, Nat.reduceLT, Nat.reduceAdd]) hR (fsR_lt (Nat.le_of_eq (by rw [fsR_len])))
    ·have hno := hstep false _ (.inr ⟨rfl, hrd, rfl⟩)
     rw [hFR2] at hno
     simp (disch := (first | decide | omega)) only [hA, hg1, hg2, hg3, hFR2, go_sem]
     refine ACalls.nxt hno ?_
     simp (disch := (first | decide | omega)) only [hA, hg1, hg2, hg3, go_sem]
     rw [← hFR2]
     refine ⟨(p + 1, D, ag), ⟨hlt, hP.1, fun h => ⟨(hP.2.1 h).1, fun q hq hr => ?_⟩, hP.2.2⟩, by simp only; omega, ?_⟩
     ·by_cases hqp : q = p
      ·subst hqp; rw [← (hP.2.1 h).1] at hr; exact hrd hr
      ·exact (hP.2.1 h).2 q oM hr
     ·exact Weak.kround (l1 := fsR t k B.length D) (junk := []) (p := r_pfolded1) (k := t.length + 2) (by ((repeat refine (kAny_up rfl).trans ?_); refine (kAny_sub hg3 (kIn_sub rfl)).trans ?_; (repeat refine (kAny_up rfl).trans ?_); exact hEE2)) (by ((try simp (disch := decide) only [hA, hg1, hg2, go_sem]) <;> exact kH)) (List.append_nil _).symm hE2 (by rw [fsR_len]; omega) (by rw [fsR_len]; simp (disch := omega) only [KOvLt, lts.down, Nat.reduceLT, Nat.reduceAdd]) hR (fsR_lt (Nat.le_of_eq (by rw [fsR_len])))
   ·obtain rfl : p = t.length := by omega
    obtain ⟨FR, hFR⟩ : ∃ FR, FR = (fsT t.length B.length D1 :: fl t.length (fsC t k D1)) := ⟨_, rfl⟩
    have hFR2 : fsR t k B.length D1 = .live 0 1 [[.v (.isl 3 (t.map ePr))]] :: FR := by rw [hFR]; rfl
    simp (disch := (first | decide | omega)) only [hA, hg1, hg2, hFR2, List.length_map, go_sem]
    rw [← hFR2]
    refine ⟨(D1, ag1), ⟨hP1.1, fun h => ?_⟩, ?_, ?_⟩
    ·obtain ⟨e1, e2⟩ := hP1.2.1 h
     simp only
     rw [e1]
     exact none_left hv hD0 e2
    ·cases ag1 with
     | true => have := hP1.2.2 rfl; simp only [cond]; omega
     | false => rw [(hP1.2.1 rfl).1]; simp only [cond]; omega
    ·exact Weak.kround (l1 := fsR t k B.length D1) (junk := []) (p := r_pfolded0) (k := t.length + 2) (by ((repeat refine (kAny_up rfl).trans ?_); refine (kAny_sub hg2 (kIn_sub rfl)).trans ?_; (repeat refine (kAny_up rfl).trans ?_); exact hEE1)) (by ((try simp (disch := decide) only [hA, go_sem]) <;> exact kH)) (List.append_nil _).symm hE1 (by rw [fsR_len]; omega) (by rw [fsR_len]; simp (disch := omega) only [KOvLt, lts.down, Nat.reduceLT, Nat.reduceAdd]) hR (fsR_lt (Nat.le_of_eq (by rw [fsR_len])))
noncomputable def givE (t : Tr) (k : Int) : Int := if validL t = true then (if 1 ≤ k ∧ k ≤ 8 then 0 else 2) else 1
theorem psized_int (k : Int) (b l : List Row) : ACalls Tryd.prog 80 [.v (.int .i64 k)] b l (fun r b' l' => r = .v (.bool (decide (1 ≤ k ∧ k ≤ 8))) ∧ b' = b ∧ l' = l) := by
 refine calls_kept a_psized_ok rfl (by decide) ?_
 intro B g hB hR hE hA
 simp only [KArgs] at hA
 by_cases h1 : 1 ≤ k
 ·have d1 : decide (k ≥ 1) = true := decide_eq_true h1
  have d1' : decide (1 ≤ k) = true := d1
  by_cases h2 : k ≤ 8
  ·have d2 : decide (k ≤ 8) = true := decide_eq_true h2
   simp (disch := (first | decide | omega)) only [a_psized, hA, d1, d1', d2, go_sem]
   exact leave_pure (xs := [.v (.bool true)]) (.inr rfl) (by simp (disch := (first | decide | omega)) only [resVs, resV, go_sem, hA]) kO hR hB ⟨rfl, rfl, rfl⟩
  ·have d2 : decide (k ≤ 8) = false := decide_eq_false h2
   simp (disch := (first | decide | omega)) only [a_psized, hA, d1, d1', d2, go_sem]
   exact leave_pure (xs := [.v (.bool false)]) (.inr rfl) (by simp (disch := (first | decide | omega)) only [resVs, resV, go_sem, hA]) kO hR hB ⟨rfl, rfl, rfl⟩
 ·have d1 : decide (k ≥ 1) = false := decide_eq_false h1
  have d1' : decide (1 ≤ k) = false := d1
  simp (disch := (first | decide | omega)) only [a_psized, hA, d1, d1', go_sem]
  exact leave_pure (xs := [.v (.bool false)]) (.inr rfl) (by simp (disch := (first | decide | omega)) only [resVs, resV, go_sem, hA]) kO hR hB ⟨rfl, rfl, rfl⟩
theorem pgiven_spec (t : Tr) (hS : Small t) (hN : Nm t) (k : Int) (b l : List Row) : ACalls Tryd.prog 37 [.agg [.v (eT t)], .v (.int .i64 k)] b l (fun r b' l' => r = .v (.int .i64 (givE t k)) ∧ b' = b ∧ l' = l) := by
 refine calls_kept a_pgiven_ok rfl (by decide) ?_
 intro B g hB hR hE hA
 simp only [KArgs] at hA
 simp (disch := (first | decide | omega)) only [a_pgiven, hA, go_sem]
 refine ACalls.nxt (valid_spec t hS hN _ _) ?_
 cases hval : validL t with
 | false =>
   simp (disch := (first | decide | omega)) only [hA, go_sem]
   exact leave_pure (xs := [.v (.int .i64 1)]) (.inr rfl) (by simp (disch := (first | decide | omega)) only [resVs, resV, go_sem, hA]) kO hR hB ⟨by unfold givE; rw [hval]; rfl, rfl, rfl⟩
 | true =>
   simp (disch := (first | decide | omega)) only [hA, go_sem]
   refine ACalls.nxt (psized_int k _ _) ?_
   by_cases hk : 1 ≤ k ∧ k ≤ 8
   ·rw [decide_eq_true hk]
    simp (disch := (first | decide | omega)) only [hA, go_sem]
    exact leave_pure (xs := [.v (.int .i64 0)]) (.inr rfl) (by simp (disch := (first | decide | omega)) only [resVs, resV, go_sem, hA]) kO hR hB ⟨by unfold givE; rw [if_pos hval, if_pos hk]; rfl, rfl, rfl⟩
   ·rw [decide_eq_false hk]
    simp (disch := (first | decide | omega)) only [hA, go_sem]
    exact leave_pure (xs := [.v (.int .i64 2)]) (.inr rfl) (by simp (disch := (first | decide | omega)) only [resVs, resV, go_sem, hA]) kO hR hB ⟨by unfold givE; rw [if_pos hval, if_neg hk]; rfl, rfl, rfl⟩
theorem giv_zero {t : Tr} {k : Int} (h : givE t k = 0) : validL t = true ∧ ∃ n : Nat, k = n ∧ 1 ≤ n ∧ n ≤ 8 := by
 unfold givE at h
 split at h
 ·rename_i hv
  split at h
  ·rename_i hk; exact ⟨hv, k.toNat, by omega, by omega, by omega⟩
  ·simp at h
 ·simp at h
open Classical in
noncomputable def pStR (t : Tr) (k : Int) : AV := if givE t k = 0 then .tup [.v (.isl 1 (fsAll t k.toNat)), .v (.int .i64 0)] else .tup [.v .zsl, .v (.int .i64 (givE t k))]
theorem pStamps_spec (t : Tr) (hS : Small t) (hN : Nm t) (hC : (ids t).length ≤ 1000000) (k : Int) (b l : List Row) : ACalls Tryd.prog 22 [.agg [.v (eT t)], .v (.int .i64 k)] b l (fun r b' l' => r = pStR t k ∧ b' = b ∧ l' = l) := by
 refine calls_kept a_pStamps_ok rfl (by decide) ?_
 intro B g hB hR hE hA
 simp only [KArgs] at hA
 simp (disch := (first | decide | omega)) only [a_pStamps, hA, go_sem]
 refine ACalls.nxt (pgiven_spec t hS hN k _ _) ?_
 unfold pStR
 by_cases h0 : givE t k = 0
 ·obtain ⟨hval, n, rfl, h1, h8⟩ := giv_zero h0
  have hn0 : ((0 : Int) != 0) = false := rfl
  have hf := fun b l => pfolded_spec t (vok hval) hval hS hN hC n h1 h8 b l
  rw [h0, if_pos rfl, Int.toNat_natCast]
  simp (disch := (first | decide | omega)) only [hA, hn0, go_sem]
  refine ACalls.nxt (hf _ _) ?_
  simp (disch := (first | decide | omega)) only [hA, go_sem]
  exact leave_pure (xs := [.v (.isl 1 (fsAll t n)), .v (.int .i64 0)]) (.inr rfl) (by simp (disch := (first | decide | omega)) only [resVs, resV, go_sem, hA]) kO hR hB ⟨rfl, rfl, rfl⟩
 ·have hn0 : (givE t k != 0) = true := by rw [bne_iff_ne]; exact h0
  rw [if_neg h0]
  simp (disch := (first | decide | omega)) only [hA, hn0, go_sem]
  exact leave_pure (xs := [.v .zsl, .v (.int .i64 (givE t k))]) (.inr rfl) (by simp (disch := (first | decide | omega)) only [resVs, resV, go_sem, hA]) kO hR hB ⟨rfl, rfl, rfl⟩
def a_pall : AFunc := ⟨1,34,[.tmp 2],(.seq (.region [⟨some 2,.mv (.c (.v .zsl)),none⟩]) (.seq (.region [⟨some 3,.mv (.c (.v .zsl)),none⟩]) (.seq (.seq (.region [⟨some 8,.mv (.t 0),none⟩,⟨some 9,.len (.t 8),none⟩,⟨some 10,.mv (.c (.v (.int .i64 0))),none⟩]) (.block 0 (.loop (.seq (.region [⟨some 11,.bin .lss (.t 10) (.t 9),none⟩]) (.seq (.cond (.t 11) .skip (.exit 0)) (.seq (.block 1 (.seq (.region [⟨some 12,.mv (.t 10),none⟩,⟨some 13,.iaddr 1 (.t 8) (.t 10),none⟩,⟨some 14,.load none (.t 13),none⟩,⟨some 4,.mv (.t 12),none⟩,⟨some 5,.mv (.t 14),none⟩]) (.seq (.region [⟨some 15,.mv (.t 5),none⟩,⟨some 16,.len (.t 15),none⟩,⟨some 17,.mv (.c (.v (.int .i64 0))),none⟩]) (.block 2 (.loop (.seq (.region [⟨some 18,.bin .lss (.t 17) (.t 16),none⟩]) (.seq (.cond (.t 18) .skip (.exit 2)) (.seq (.block 3 (.seq (.region [⟨some 19,.mv (.t 17),none⟩,⟨some 20,.iaddr 1 (.t 15) (.t 17),none⟩,⟨some 21,.load none (.t 20),none⟩,⟨some 6,.mv (.t 19),none⟩,⟨some 7,.mv (.t 21),none⟩]) (.region [⟨some 22,.mv (.t 3),none⟩,⟨some 23,.mv (.t 4),none⟩,⟨some 24,.mv (.t 6),none⟩,⟨some 25,.bin .add (.t 24) (.c (.v (.int .i64 1))),none⟩,⟨some 26,.build [(.v (.int .i64 0)),(.v (.int .i64 0))] [(0,1,(.t 23)),(1,1,(.t 25))],none⟩,⟨some 27,.mv (.t 7),none⟩,⟨some 28,.build [(.v (.int .i64 0)),(.v (.int .i64 0)),(.v .zsl)] [(0,2,(.t 26)),(2,1,(.t 27))],none⟩,⟨some 29,.bslice 3 [(.v (.int .i64 0)),(.v (.int .i64 0)),(.v .zsl)] 1 [(0,(.t 28))],none⟩,⟨some 30,.append 3 40 (.t 22) (.t 29),none⟩,⟨some 3,.mv (.t 30),none⟩]))) (.region [⟨some 31,.bin .add (.t 17) (.c (.v (.int .i64 1))),none⟩,⟨some 17,.mv (.t 31),none⟩]))))))))) (.region [⟨some 32,.bin .add (.t 10) (.c (.v (.int .i64 1))),none⟩,⟨some 10,.mv (.t 32),none⟩]))))))) (.seq (.region [⟨some 33,.mv (.t 3),none⟩,⟨some 2,.mv (.t 33),none⟩]) .ret))))⟩
theorem a_pall_ok : cFunc Tryd.prog 41 = some a_pall := by kernel_rfl
def r_pall0 : List (Nat × Nat) := [(3, 7), (10, 32)]
def r_pall1 : List (Nat × Nat) := [(3, 3), (6, 7), (17, 31)]

noncomputable def eFe (t : Tr) (k : Nat) (x : Nat × Nat) : List IV := [.int .i64 x.1, .int .i64 x.2, .isl 1 ((fcs t k x).map eI)]
noncomputable def evF (t : Tr) (k p i : Nat) : List (List IV) := (idsTo t p i).map (eFe t k)
theorem pall_spec (t : Tr) (hS : Small t) (hC : (ids t).length ≤ 1000000) (k : Nat) (b l : List Row) :
  ACalls Tryd.prog 41 [.v (.isl 1 (fsAll t k))] b l (fun r b' l' => r = .v (.isl 3 ((ids t).map (eFe t k))) ∧ b' = b ∧ l' = l) := by
 refine calls_kept a_pall_ok rfl (by decide) ?_
 intro B g hB hR hE hA
 simp only [KArgs] at hA
 have hnp := hS.np
 have l0 : evL t 0 0 = 0 := rfl
 have hfl : (fsAll t k).length = t.length := fl_len
 simp (disch := (first | decide | omega)) only [a_pall, hA, hfl, go_sem]
 refine loop_kept_nil (ι := Nat) 3 3 r_pall0 (fun p => [(10, .v (.int .i64 p)), (3, .sl B.length (evL t p 0) 0 (evL t p 0))]) 1 (fun p => [.live (evL t p 0) 3 (vs (evF t k p 0))])
  (fun p => p ≤ t.length) (fun p => t.length - p) 0 (Nat.zero_le _) (by simp (disch := decide) only [hA, go_sem]) (by decide) rfl (by (repeat (first | exact hE.mono oM | refine KLt.up ?_ kL))) (by ((try simp (disch := decide) only [hA, l0, go_sem]) <;> exact kH)) (fun e => Weak.refl _ _ _) ?_
 intro g1 hE1 hEE1 hg1 p hp
 by_cases hpl : p < t.length
 ·have hne := hS.ne _ (List.getElem_mem hpl)
  have heo := evsOf_lt hpl
  have hgp : (fsAll t k)[p]? = some [.isl 1 (fsRow t k p t[p].evs.length)] := by unfold fsAll; rw [fl_get hpl, heo]
  have hrl : (fsRow t k p t[p].evs.length).length = t[p].evs.length := fl_len
  simp (disch := (first | decide | omega)) only [hA, hg1, hfl, hgp, hrl, go_sem]
  refine loop_kept (ι := Nat) r_pall1 (fun i => [(17, .v (.int .i64 i)), (3, .sl B.length (evL t p i) 0 (evL t p i))]) 1 (fun i => [.live (evL t p i) 3 (vs (evF t k p i))])
   (fun i => i ≤ t[p].evs.length) (fun i => t[p].evs.length - i) 0 (Nat.zero_le _) (by (repeat (first | exact hE1.mono oM | refine KLt.up ?_ kL))) (by ((try simp (disch := decide) only [hA, hg1, go_sem]) <;> exact kH)) (fun e => Weak.refl _ _ _) ?_
  intro g2 hE2 hEE2 hg2 i hi
  by_cases hil : i < t[p].evs.length
  ·have hle := evL_le hpl (show i + 1 ≤ t[p].evs.length by omega)
   have hsl : evL t p (i + 1) = evL t p i + 1 := by unfold evL; rw [idsTo_succ, List.length_append]; rfl
   have hvl : (evF t k p i).length = evL t p i := by unfold evF evL; rw [List.length_map]
   have tk : List.take (evL t p i) (evF t k p i) = evF t k p i := List.take_of_length_le oM
   have hck : (i : Int) + 1 = ((i + 1 : Nat) : Int) := by omega
   have hgi : (fsRow t k p t[p].evs.length)[i]? = some [.isl 1 ((fcs t k (p, i + 1)).map eI)] := fl_get hil
   have hsn : evF t k p i ++ [[.int .i64 p, .int .i64 ((i + 1 : Nat) : Int), .isl 1 ((fcs t k (p, i + 1)).map eI)]] = evF t k p (i + 1) := by unfold evF; rw [idsTo_succ, List.map_append]; rfl
   simp (disch := (first | decide | omega)) only [hA, hg1, hg2, hfl, hrl, hgi, hvl, tk, List.replicate_succ, List.replicate_zero, reduceCtorEq, hck, hsn, setFrom, cellsOf, go_sem]
   rw [← hsl]
   refine ⟨i + 1, hil, by simp only; omega, ?_⟩
   exact Weak.kround (p := r_pall1) (k := 1) (by ((repeat refine (kAny_up rfl).trans ?_); exact hEE2)) (by ((try simp (disch := decide) only [hA, go_sem]) <;> exact kH)) rfl hE2 (by simp) kV hR kL
  ·simp (disch := (first | decide | omega)) only [hA, hg1, hg2, hrl, go_sem]
   obtain rfl : i = t[p].evs.length := by omega
   have hnl : evL t p t[p].evs.length = evL t (p + 1) 0 := by unfold evL; rw [idsTo_next t p hpl]
   have hnv : evF t k p t[p].evs.length = evF t k (p + 1) 0 := by unfold evF; rw [idsTo_next t p hpl]
   rw [hnl, hnv]
   refine ⟨p + 1, hpl, by simp only; omega, ?_⟩
   exact Weak.kround (p := r_pall0) (k := 1) (by ((repeat refine (kAny_up rfl).trans ?_); refine (kAny_sub hg2 (kIn_sub rfl)).trans ?_; (repeat refine (kAny_up rfl).trans ?_); exact hEE1)) (by ((try simp (disch := decide) only [hA, hg1, go_sem]) <;> exact kH)) rfl hE1 (by simp) kV hR kL
 ·simp (disch := (first | decide | omega)) only [hA, hg1, hfl, go_sem]
  obtain rfl : p = t.length := by omega
  have hv : evF t k t.length 0 = (ids t).map (eFe t k) := by unfold evF; rw [idsTo_all]
  have hl2 : evL t t.length 0 = (ids t).length := by unfold evL; rw [idsTo_all]
  rw [hv, hl2]
  exact leave_frz (i := 0) (ver := (ids t).length) (sz := 3) (n := (ids t).length) (rows := (ids t).map (eFe t k)) (.inr rfl) (by simp (disch := (first | decide | omega)) only [resVs, resV, hA, hg1, go_sem]) rfl (by simp) hR hB ⟨rfl, rfl, rfl⟩
end Go.Proofs.YtnihdkfmmbpilaaDoor
