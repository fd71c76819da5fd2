/- Texts of one proof, laid together: WF, FD, PB, WH, WL, PF, WI, WJ, WK, WM, WN, WO, PH, TS. No condition. -/
import Derived.Test.YtanblnhnfkeffaaBU2
import Derived.Test.YtanblnhnfkeffaaBU3
import Derived.Test.YtanblnhnfkeffaaBU4
import Derived.Test.YtanblnhnfkeffaaBU7
import Derived.Test.YtanblnhnfkeffaaBU10
import Derived.RangeFuncCalls
import Derived.RangeFuncIn
import Derived.OrdersIn
import Derived.AtR
import Derived.Sort.LoopGhostIn
import Derived.Test.YtanblnhnfkeffaaProg
import Derived.KernelRfl
namespace Go.Proofs.Ytanblnhnfkeffaa
set_option linter.unusedVariables false
section
variable {P : Program} {lp nn : Nat}

theorem callsIn_round {f : Nat} {args : Array Value} {w : World} {R : Ending → World → Prop} {m : Nat} (h : Calls P f args w R) : CallsIn (Fence.wide.inRound lp) m P f args w R := CallsIn.inRound lp (callsIn_wide.2 h)
theorem rowsIn_round {row : String} {args : Array Value} {w : World} {R : Value → World → Prop} {m : Nat} (h : Rows P row args w R) : RowsIn (Fence.wide.inRound lp) m P row args w R := by
 intro c cs _
 obtain ⟨v, w', r, s⟩ := h c cs
 exact ⟨v, w', r, (stepsIn_wide.2 s : StepsIn (Machine.fenced P Fence.wide) P _ _)⟩
theorem op_round {o : Oper} {a : Act} {w : World} {next : Act → World → Prop} {Q : Exit → Act → World → Prop} (hd : ∀ c, o.op ≠ .defer c) (h : o.wp P a w next Q) : o.wpIn (Fence.wide.inRound lp) nn P a w next Q := by
 refine ⟨fun _ _ => trivial, ?_⟩
 rw [Oper.semAt_eq _ _ _ hd]
 unfold Oper.wp at h
 generalize (execOp a.eval o).run P w = r at *
 cases r with
 | ok x w' =>
   cases x <;> simp only [Oper.upon, Oper.uponIn] at h ⊢ <;>
    first
     | exact h
     | exact ⟨fun hh => (by cases hh), callsIn_round h⟩
     | exact ⟨fun hh => (by cases hh), rowsIn_round h⟩
     | exact h.elim
 | halt x w' => cases x <;> simp only [Oper.upon, Oper.uponIn] at h ⊢ <;> exact h
theorem wpOps_round {ops : Array Oper} {Q : Exit → Act → World → Prop} (hQ : ¬ LetsOut Q) (hd : ∀ (i : Nat) (o : Oper), ops[i]? = some o → ∀ c, o.op ≠ .defer c) : ∀ {is : List Nat} {a : Act} {w : World}, wpOps P ops Q is a w → wpOpsIn (Fence.wide.inRound lp) nn P ops Q is a w
 | [], a, w, h => h
 | i :: is, a, w, h => by
   simp only [wpOps] at h
   simp only [wpOpsIn]
   cases ho : ops[i]? with
   | none => rw [ho] at h; exact wpOps_round hQ hd h
   | some o =>
     rw [ho] at h
     simp only at h ⊢
     split
     ·rename_i hw
      rw [if_pos hw] at h
      exact Oper.wpIn_mono (fun a w h => wpOps_round hQ hd h) (op_round (hd i o ho) (h.resolve_right (fun hh => hQ hh.2)))
     ·rename_i hw
      rw [if_neg hw] at h
      exact ⟨fun _ _ => trivial, wpOps_round hQ hd h⟩
theorem aft_out {nb : Nat} {F : Nat → Prop} {L : LMap} {h : List Row} {w : World} {Q : AExit → List AV → List Row → List Row → Prop} : ¬ LetsOut (Aft nb F L h w Q) := by
 intro hh
 obtain ⟨a, w1, ax, _, _, _, _, _, hex, _⟩ := hh
 exact hex
theorem region_noDefer {ops : Array Oper} {aos : List AOper} (h : cOps P ops ops.toList = some aos) {i : Nat} {o : Oper} (ho : ops[i]? = some o) : ∀ c, o.op ≠ .defer c := by
 intro c hc
 obtain ⟨k1, k2⟩ := cOps_get h
 have hlt : i < aos.length := by rw [k1]; simpa using (Array.getElem?_eq_some_iff.1 ho).1
 obtain ⟨o', g1, g2, _⟩ := k2 i aos[i] (List.getElem?_eq_getElem hlt)
 have : o' = o := by
  have h1 : ops[i]? = some o' := by simpa using g1
  rw [ho] at h1; cases h1; rfl
 subst this
 rw [hc] at g2
 simp [cOp] at g2

theorem drawS_ops {ops : Array Oper} {n : Nat} {c : ACode} (h : cDrawS P n ops = some c) : ∃ aos, cOps P ops ops.toList = some aos := by
 have one : ∀ ds, cDraw P ops = some ds → ∃ aos, cOps P ops ops.toList = some aos := fun ds hds => by
  unfold cDraw at hds
  split at hds
  case h_2 => cases hds
  rename_i aos haos
  exact ⟨aos, haos⟩
 cases n with
 | zero =>
   obtain ⟨ds, hds, _⟩ := map_some h
   exact one ds hds
 | succ n =>
   unfold cDrawS at h
   split at h
   ·rename_i ds hds; exact one ds hds
   ·split at h
    case h_2 => cases h
    rename_i aos haos
    exact ⟨aos, haos⟩
theorem run_soundR {C : CallP} (hC : ∀ f args b l Q, C f args b l Q → ACalls P f args b l Q) (hCm : ∀ f args b l (Q Q' : AV → List Row → List Row → Prop), C f args b l Q → (∀ x b' l', Q x b' l' → Q' x b' l') → C f args b l Q') : ∀ (code : Code) (ac : ACode), cCode P code = some ac → ∀ e b l Q, run C Weak ac e b l Q →
  ∀ F L w a, Sim F L (b ++ l) w → EnvR w F L e a → code.wpIn (Fence.wide.inRound lp) nn P (Aft b.length F L (b ++ l) w Q) a w := by
 intro code
 induction code with
 | skip =>
   intro ac hc e b l Q h F L w a s he
   cases hc
   exact wpIn_skip ⟨.normal, e, b, l, F, L, trivial, s, he, Step.refl _ _ _ _ _, rfl, h⟩
 | region id ops draw =>
   intro ac hc e b l Q h F L w a s he
   simp only [cCode] at hc
   cases draw
   case true =>
    simp only [if_true] at hc
    obtain ⟨hm, hp⟩ := drawS_paths hC hCm 6 ops ac hc e b l Q h F L w a s he
    obtain ⟨aos, haos⟩ := drawS_ops hc
    refine wpIn_region_draw fun t => ?_
    simp only [Region.schedule, hm, Bool.true_or, if_true]
    exact wpOps_round aft_out (fun i o ho => region_noDefer haos ho) (hp _ (go_path _ _ _))
   simp only [Bool.false_eq_true, if_false] at hc
   obtain ⟨aos, hao, rfl⟩ := map_some hc
   refine wpIn_region (wpOps_round aft_out (fun i o ho => region_noDefer hao ho) (ops_ok hC ops ops.toList (List.range ops.size) aos hao ?_ e b l h rfl F L w a s he (Step.refl _ _ _ _ _) ?_))
   ·apply List.ext_getElem?
    intro i
    simp only [List.getElem?_map]
    by_cases hi : i < ops.size
    ·simp [hi]
    ·simp [hi]
   ·intro e' b' l' F' L' a' w' hq s' he' st hb
    exact ⟨.normal, e', b', l', F', L', trivial, s', he', st, hb, hq⟩
 | seq x y ihx ihy =>
   intro ac hc e b l Q h F L w a s he
   simp only [cCode] at hc
   split at hc
   case h_2 => cases hc
   rename_i x' y' hx hy
   cases hc
   refine wpIn_seq (wpIn_mono (ihx x' hx e b l _ h F L w a s he) ?_)
   rintro ex a1 w1 ⟨ax, e1, b1, l1, F1, L1, hex, s1, he1, st1, hb1, hq⟩
   cases ex <;> cases ax <;> first | exact hex.elim | skip
   ·simp only [Exit.then]
    refine wpIn_mono (ihy y' hy e1 b1 l1 Q hq F1 L1 w1 a1 s1 he1) ?_
    rintro ex2 a2 w2 ⟨ax2, e2, b2, l2, F2, L2, hex2, s2, he2, st2, hb2, hq2⟩
    exact ⟨ax2, e2, b2, l2, F2, L2, hex2, s2, he2, st1.trans (hb1 ▸ st2), hb2.trans hb1, hq2⟩
   ·exact ⟨_, e1, b1, l1, F1, L1, hex, s1, he1, st1, hb1, hq⟩
   ·exact ⟨_, e1, b1, l1, F1, L1, hex, s1, he1, st1, hb1, hq⟩
 | cond c x y ihx ihy =>
   intro ac hc e b l Q h F L w a s he
   simp only [cCode] at hc
   split at hc
   case h_2 => cases hc
   rename_i c' x' y' hcc hx hy
   cases hc
   simp only [run] at h
   have hr := ev_rep he hcc
   generalize ev e c' = q at *
   split at h
   case h_2 => exact h.elim
   rename_i t
   refine wpIn_cond (repB hr) ?_
   cases t
   ·simp only [Bool.false_eq_true, if_false] at h ⊢
    exact ihy y' hy e b l Q h F L w a s he
   ·simp only [if_true] at h ⊢
    exact ihx x' hx e b l Q h F L w a s he
 | block id c ih =>
   intro ac hc e b l Q h F L w a s he
   simp only [cCode] at hc
   obtain ⟨c', hcc, rfl⟩ := map_some hc
   refine wpIn_block (wpIn_mono (ih c' hcc e b l _ h F L w a s he) ?_)
   rintro ex a1 w1 ⟨ax, e1, b1, l1, F1, L1, hex, s1, he1, st1, hb1, hq⟩
   cases ex <;> cases ax <;> first | exact hex.elim | skip
   ·exact ⟨.normal, e1, b1, l1, F1, L1, trivial, s1, he1, st1, hb1, hq⟩
   ·rename_i i j
    have hij : i = j := hex
    subst hij
    simp only [Exit.inBlock]
    simp only [blkQ] at hq
    split
    ·rename_i hi; rw [if_pos hi] at hq; exact ⟨.normal, e1, b1, l1, F1, L1, trivial, s1, he1, st1, hb1, hq⟩
    ·rename_i hi; rw [if_neg hi] at hq; exact ⟨.exit i, e1, b1, l1, F1, L1, rfl, s1, he1, st1, hb1, hq⟩
   ·exact ⟨.ret, e1, b1, l1, F1, L1, trivial, s1, he1, st1, hb1, hq⟩
 | loop c ih =>
   intro ac hc e b l Q h F L w a s he
   simp only [cCode] at hc
   obtain ⟨c', hcc, rfl⟩ := map_some hc
   obtain ⟨I, ⟨e0, b0, l0, m0, hw0, hI0⟩, hround⟩ := h
   obtain ⟨F0, L0, s0, he0, st0, hb0⟩ := hw0 F L w a s he
   refine wpIn_loop_ghost (fun n a1 w1 => ∃ e1 b1 l1 F1 L1, Sim F1 L1 (b1 ++ l1) w1 ∧ EnvR w1 F1 L1 e1 a1 ∧ Step b.length F L (b ++ l) w F1 L1 (b1 ++ l1) w1 ∧ b1.length = b.length ∧ I e1 b1 l1 n) m0 ⟨e0, b0, l0, F0, L0, s0, he0, st0, hb0, hI0⟩ ?_
   rintro n a1 w1 ⟨e1, b1, l1, F1, L1, s1, he1, st1, hb1, hI1⟩
   refine wpIn_mono (ih c' hcc e1 b1 l1 _ (hround e1 b1 l1 n hI1) F1 L1 w1 a1 s1 he1) ?_
   rintro ex a2 w2 ⟨ax, e2, b2, l2, F2, L2, hex, s2, he2, st2, hb2, hq⟩
   have st12 := st1.trans (hb1 ▸ st2)
   cases ex <;> cases ax <;> first | exact hex.elim | skip
   ·obtain ⟨e3, b3, l3, m3, hw3, hI3, hlt⟩ := hq
    obtain ⟨F3, L3, s3, he3, st3, hb3⟩ := hw3 F2 L2 w2 a2 s2 he2
    have hbb : b2.length = b.length := hb2.trans hb1
    exact ⟨m3, hlt, e3, b3, l3, F3, L3, s3, he3, st12.trans (hbb ▸ st3), hb3.trans hbb, hI3⟩
   ·exact ⟨_, e2, b2, l2, F2, L2, hex, s2, he2, st12, hb2.trans hb1, hq⟩
   ·exact ⟨_, e2, b2, l2, F2, L2, hex, s2, he2, st12, hb2.trans hb1, hq⟩
 | exit i =>
   intro ac hc e b l Q h F L w a s he
   cases hc
   exact wpIn_exit ⟨.exit i, e, b, l, F, L, rfl, s, he, Step.refl _ _ _ _ _, rfl, h⟩
 | ret =>
   intro ac hc e b l Q h F L w a s he
   cases hc
   exact wpIn_ret ⟨.ret, e, b, l, F, L, trivial, s, he, Step.refl _ _ _ _ _, rfl, h⟩
 | rangeFunc f ps az c ih1 ih2 => intro ac hc; cases hc
 | scope c ih => intro ac hc; cases hc
 | label i => intro ac hc; cases hc
 | goto i => intro ac hc; cases hc
 | refuse y => intro ac hc; cases hc

end
end Go.Proofs.Ytanblnhnfkeffaa
namespace Go.Proofs.Ytanblnhnfkeffaa
open Go.RowKit
set_option linter.unusedVariables false
attribute [local go_sem] Oper.semAt_some

noncomputable def findR (t : Tr) (kd m : Int) : Nat × Nat := if validL t then findV t kd m else (0, 0)
noncomputable def countR (t : Tr) : Nat := if validL t then (ids t).length else 0
def FdPost (t : Tr) (kd m : Int) (w : World) (e : Ending) (w' : World) : Prop := e = .returned (.tuple #[idVal (findR t kd m), .bool (decide (0 < (findR t kd m).2))]) ∧ Ext w w'
def FdI (t : Tr) (w : World) (kd m : Int) (l : List (Nat × Nat)) (W : World) : Prop :=
 (((((BoxN W (w.heap.size + 1) 3 #[.int .i64 kd] ∧ BoxN W (w.heap.size + 1 + 1) 3 #[.int .i64 m]) ∧ BoxN W (w.heap.size + 1 + 1 + 1) 40 #[.int .i64 0, .int .i64 0]) ∧ BoxN W (w.heap.size + 1 + 1 + 1 + 1) 4 #[.bool false]) ∧ Ext w W) ∧ l.find? (keyB t kd m) = none)
def FdX (t : Tr) (w : World) (kd m : Int) (l : List (Nat × Nat)) (W : World) : Prop :=
 ∃ a x, (((l = a ++ [x] ∧ a.find? (keyB t kd m) = none ∧ keyB t kd m x = true) ∧ BoxN W (w.heap.size + 1 + 1 + 1) 40 #[.int .i64 x.1, .int .i64 x.2]) ∧ BoxN W (w.heap.size + 1 + 1 + 1 + 1) 4 #[.bool true]) ∧ Ext w W
theorem fdi_from (t : Tr) (w : World) (kd m : Int) {n : Nat} (hn : w.heap.size ≤ n) : OwnFrom n (fun (pre : List (Idt t)) W => FdI t w kd m (pre.map (·.1)) W) :=
 OwnFrom.and (OwnFrom.and (OwnFrom.and (OwnFrom.and (OwnFrom.and (boxN1_from _ _ _ _) (boxN1_from _ _ _ _)) (boxN1_from _ _ _ _)) (boxN1_from _ _ _ _)) (ext_from hn)) (ownFrom_pure _ _)
theorem fdx_from (t : Tr) (w : World) (kd m : Int) {n : Nat} (hn : w.heap.size ≤ n) : OwnFrom n (fun (pre : List (Idt t)) W => FdX t w kd m (pre.map (·.1)) W) := by
 rintro s X Y row ⟨a, x, h⟩ hg hr
 refine ⟨a, x, ⟨⟨h.1.1.1, ?_⟩, ?_⟩, ext_from hn () X Y row h.2 hg hr⟩
 ·exact boxN1_from _ n _ (fun (_ : Unit) => _) () X Y row h.1.1.2 hg hr
 ·exact boxN1_from _ n _ (fun (_ : Unit) => _) () X Y row h.1.2 hg hr
theorem findR_stop {t : Tr} {kd m : Int} {a : List (Nat × Nat)} {x : Nat × Nat} (hv : validL t = true) (hp : a ++ [x] <+: ids t) (h0 : a.find? (keyB t kd m) = none) (hx : keyB t kd m x = true) : findR t kd m = x ∧ 0 < x.2 := by
 obtain ⟨c, hc⟩ := hp
 have hf : (ids t).find? (keyB t kd m) = some x := by
  rw [← hc, List.append_assoc, List.find?_append, h0]; simp [hx]
 refine ⟨?_, mem_pos (t := t) (by rw [← hc]; simp)⟩
 unfold findR findV firstOf
 rw [if_pos hv, hf]; rfl
theorem findR_none {t : Tr} {kd m : Int} (h : (ids t).find? (keyB t kd m) = none) : findR t kd m = (0, 0) := by
 unfold findR findV firstOf
 rw [h]; simp

theorem kW1 {p : Prop} (h : p := by (with_reducible repeat (first | assumption | exact KeepsFrom.refl _ _ | refine KF.set ?_ _ _ | refine KF.alloc ?_ _ | refine KF.drew ?_ | refine KF.drewN ?_ _ | refine KF.ext ?_ aS | exact Below.refl _ _ | refine BL.set ?_ _ _ _ oM | refine BL.alloc ?_ _ oM | refine BL.drew ?_ | refine BL.drewN ?_ _ | refine BL.ext ?_ aS oM | exact Ext.refl _ | refine Ext.set ?_ oM _ | refine Ext.alloc ?_ _ | refine Ext.drew ?_ | refine Ext.drewN ?_ _ | refine Ext.trans ?_ aS | refine BoxN.alloc ?_ _ | refine BoxN.drew ?_ | refine BoxN.drewN ?_ _ | refine BoxN.other ?_ oM _ | refine BoxN.set ?_ _ _ | apply BoxN.set1 | apply BoxN.set2_1 | apply BoxN.set2_0 | apply BoxN.set5_4 | apply BoxN.set5_3 | apply BoxN.set5_2 | apply BoxN.set5_1 | apply BoxN.set5_0 | apply BoxN.set3_2 | apply BoxN.set3_1 | apply BoxN.set3_0 | apply BoxN.set4_3 | apply BoxN.set4_2 | apply BoxN.set4_1 | apply BoxN.set4_0 | refine BoxN.ext ?_ aS)); done) : p := h
set_option maxRecDepth 100000 in
set_option maxHeartbeats 4000000 in
theorem find_any (u : Value) (t : Tr) (kd m : Int) (w : World) (hS : Small t) (hs : SlR 3 RPr w u t) :
  Calls Try.prog 82 #[.agg #[u], .int .i64 kd, .int .i64 m] w fun e w' => FdPost t kd m w e w' := by
 have HV := hide (fun w' (he : Ext w w') => callsIn_wide (n := 8).2 (Valid_any u t w' hS.sm (hs.ext RPr.keeps he)))
 refine callsIn_wide (n := 9).1 ?_
 refine callsIn_of_wp_marks Try.func82 rfl trivial ?_ rfl
 simp only [Try.ntmps82, List.size_toArray, List.length_cons, List.length_nil, Nat.reduceAdd, Nat.reduceSub, Array.replicate_succ, Array.replicate_zero, List.push_toArray, List.append_toArray, List.nil_append, List.cons_append]
 obtain ⟨A, c, rfl, _, hcm, _⟩ := hs.at_
 gi_wp2_with fail
 refine ⟨trivial, ?_⟩
 have hx1 : Ext w ((((((w).alloc (.cells #[.slice A t.length c] 24)).alloc (.cells #[.int .i64 kd] 3)).alloc (.cells #[.int .i64 m] 3)).alloc (.cells #[.int .i64 0, .int .i64 0] 40)).alloc (.cells #[.bool false] 4)) := (((((Ext.refl w).alloc _).alloc _).alloc _).alloc _).alloc _
 have b1 : BoxN ((((((w).alloc (.cells #[.slice A t.length c] 24)).alloc (.cells #[.int .i64 kd] 3)).alloc (.cells #[.int .i64 m] 3)).alloc (.cells #[.int .i64 0, .int .i64 0] 40)).alloc (.cells #[.bool false] 4)) (w.heap.size + 1) 3 #[.int .i64 kd] := (((BoxN.newAt _ _ (by simp)).alloc _).alloc _).alloc _
 have b2 : BoxN ((((((w).alloc (.cells #[.slice A t.length c] 24)).alloc (.cells #[.int .i64 kd] 3)).alloc (.cells #[.int .i64 m] 3)).alloc (.cells #[.int .i64 0, .int .i64 0] 40)).alloc (.cells #[.bool false] 4)) (w.heap.size + 1 + 1) 3 #[.int .i64 m] := ((BoxN.newAt _ _ (by simp)).alloc _).alloc _
 have b3 : BoxN ((((((w).alloc (.cells #[.slice A t.length c] 24)).alloc (.cells #[.int .i64 kd] 3)).alloc (.cells #[.int .i64 m] 3)).alloc (.cells #[.int .i64 0, .int .i64 0] 40)).alloc (.cells #[.bool false] 4)) (w.heap.size + 1 + 1 + 1) 40 #[.int .i64 0, .int .i64 0] := (BoxN.newAt _ _ (by simp)).alloc _
 have b4 : BoxN ((((((w).alloc (.cells #[.slice A t.length c] 24)).alloc (.cells #[.int .i64 kd] 3)).alloc (.cells #[.int .i64 m] 3)).alloc (.cells #[.int .i64 0, .int .i64 0] 40)).alloc (.cells #[.bool false] 4)) (w.heap.size + 1 + 1 + 1 + 1) 4 #[.bool false] := BoxN.newAt _ _ (by simp)
 have bT : BoxN ((((((w).alloc (.cells #[.slice A t.length c] 24)).alloc (.cells #[.int .i64 kd] 3)).alloc (.cells #[.int .i64 m] 3)).alloc (.cells #[.int .i64 0, .int .i64 0] 40)).alloc (.cells #[.bool false] 4)) (w.heap.size) 24 #[.slice A t.length c] := ((((BoxN.new _ _ _).alloc _).alloc _).alloc _).alloc _
 generalize (((((w).alloc (.cells #[.slice A t.length c] 24)).alloc (.cells #[.int .i64 kd] 3)).alloc (.cells #[.int .i64 m] 3)).alloc (.cells #[.int .i64 0, .int .i64 0] 40)).alloc (.cells #[.bool false] 4) = W1 at *
 refine (HV.out _ hx1).mono ?_
 rintro e w2 ⟨rfl, he2⟩
 replace hx1 := hx1.trans he2
 replace b1 := b1.ext he2
 replace b2 := b2.ext he2
 replace b3 := b3.ext he2
 replace b4 := b4.ext he2
 replace bT := bT.ext he2
 clear he2
 have f0 := b3.frozen 0
 have f1 := b3.frozen 1
 have f2 := b4.frozen 0
 have r0 : w2.cell? ⟨w.heap.size + 1 + 1 + 1, 0, none⟩ = some (.int .i64 0) := b3.cell (j := 0) rfl
 have r1 : w2.cell? ⟨w.heap.size + 1 + 1 + 1, 1, none⟩ = some (.int .i64 0) := b3.cell (j := 1) rfl
 have r2 : w2.cell? ⟨w.heap.size + 1 + 1 + 1 + 1, 0, none⟩ = some (.bool false) := b4.cell (j := 0) rfl
 have t0 : w2.cell? ⟨w.heap.size, 0, none⟩ = some (.slice A t.length c) := bT.cell (j := 0) rfl
 cases hv : validL t
 ·have HF := hide (show findR t kd m = (0, 0) by unfold findR; rw [hv]; rfl)
  clear hv
  gi_wp2_with fail
  obtain ⟨Wr, hWr⟩ : ∃ Wr, ((w2.setCell ⟨w.heap.size + 1 + 1 + 1, 0, none⟩ (Value.int .i64 0)).setCell ⟨w.heap.size + 1 + 1 + 1, 1, none⟩ (Value.int .i64 0)).setCell ⟨w.heap.size + 1 + 1 + 1 + 1, 0, none⟩ (Value.bool false) = Wr := ⟨_, rfl⟩
  rw [hWr]
  have s1 : BoxN Wr (w.heap.size + 1 + 1 + 1) 40 #[.int .i64 0, .int .i64 0] := by rw [← hWr]; exact kW1
  have s2 : BoxN Wr (w.heap.size + 1 + 1 + 1 + 1) 4 #[.bool false] := by rw [← hWr]; exact kW1
  have sx : Ext w Wr := by rw [← hWr]; exact kW1
  clear hWr
  refine ⟨.tuple #[idVal (0, 0), .bool false], by simp [results, Try.f82, go_sem, idVal, s1.cell (j := 0) rfl, s1.cell (j := 1) rfl, s2.cell (j := 0) rfl], by rw [HF.out]; rfl, sx⟩
 ·have HVL := hide hv
  clear hv
  have hnp := hS.np
  gi_wp2_with (refine ⟨trivial, ?_⟩; gi_at_call 80; refine (callsIn_wide.2 (events_any _ _)).mono ?_; rintro e w' ⟨rfl, rfl⟩)
  have bt := BoxN.new w2 24 #[.slice A t.length c]
  have hM0 : FdI t w kd m [] (w2.alloc (.cells #[.slice A t.length c] 24)) := ⟨⟨⟨⟨⟨b1.alloc _, b2.alloc _⟩, b3.alloc _⟩, b4.alloc _⟩, hx1.alloc _⟩, rfl⟩
  have hwr : w.heap.size ≤ w2.heap.size := hx1.size
  have hsz0 : (w2.alloc (.cells #[.slice A t.length c] 24)).heap.size = w2.heap.size + 1 := by simp
  generalize (w2.alloc (.cells #[.slice A t.length c] 24)) = W0 at *
  have hext0 : Ext w W0 := hM0.1.2
  have hw0 : w.heap.size ≤ W0.heap.size := by omega
  clear hsz0 f0 f1 f2 r0 r1 r2 t0
  refine wpIn_rangeFunc_ownH rfl oM (gf := 146) (lb := #[.pointer (some ⟨w2.heap.size, 0, none⟩)]) rfl trivial (callFunc_enter Try.func146 (by decide) rfl)
   (events_stops 8 oM w (.slice A t.length c) t w2.heap.size W0 hnp hS.ne hs hext0 (bt.cell rfl) hwr) belowK_t (belowK_b hw0) (Below.refl _ _) (fun _ => rfl)
   (fun pre W => FdI t w kd m (pre.map (·.1)) W) (fun c pre W => c = .ret ∧ FdX t w kd m (pre.map (·.1)) W) (fdi_from t w kd m hw0) (fun c => OwnFrom.and (ownFrom_pure _ _) (fdx_from t w kd m hw0)) hM0
   (fun x a' W => ∃ B6 B7 A4 n4 c4 v13 v14, (w.heap.size + 1 + 1 + 1 + 1 < B6 ∧ w.heap.size + 1 + 1 + 1 + 1 < B7) ∧ BoxN W B6 40 #[.int .i64 x.1.1, .int .i64 x.1.2] ∧ BoxN W B7 34 #[.int .i64 (evAt t x.1).kind, .int .i64 (evAt t x.1).peer, .int .i64 (evAt t x.1).msg, .int .i64 (evAt t x.1).time, .slice A4 n4 c4] ∧
    a' = { tmps := #[.agg #[.slice A t.length c], .int .i64 kd, .int .i64 m, .pointer (some ⟨w.heap.size, 0, none⟩), .pointer (some ⟨w.heap.size + 1, 0, none⟩), .pointer (some ⟨w.heap.size + 1 + 1, 0, none⟩), .pointer (some ⟨w.heap.size + 1 + 1 + 1, 0, none⟩), .pointer (some ⟨w.heap.size + 1 + 1 + 1 + 1, 0, none⟩), .pointer (some ⟨B6, 0, none⟩), .pointer (some ⟨B7, 0, none⟩), .agg #[.slice A t.length c], .bool true, .bool false, undef, .agg #[.slice A t.length c], .func (.func 146) #[] #[.pointer (some ⟨w2.heap.size, 0, none⟩)], v13, v14, undef, undef, undef, undef, undef, undef, undef, undef, undef, undef, undef, undef], defers := [] })
   ?hax ?assign ?body ?done ?stop
  case hax =>
   rintro x a' _ X Y row ⟨B6, B7, A4, n4, c4, v13, v14, hB, b6, b7, ha⟩ hg hr
   exact ⟨B6, B7, A4, n4, c4, v13, v14, hB, boxN1_from B6 _ _ (fun (_ : Unit) => _) () X Y row b6 hg hr, boxN1_from B7 _ _ (fun (_ : Unit) => _) () X Y row b7 hg hr, ha⟩
  case assign =>
   rintro l pre x W K hI hK
   obtain ⟨a, hv, hsa⟩ := evVal_ok hs x.2
   obtain ⟨A4, c4, rfl, _, _, _⟩ := hsa.at_
   clear hsa
   simp only [hv]
   have hsW := hI.1.2.size
   have h5 := hI.1.1.2.lt
   unfold idVal
   gi_wp2
   exact hK _ _ (((KeepsOthers.alloc _ _).trans (KeepsOthers.alloc _ _)).from _) (((Below.refl _ W).alloc hsW _).alloc (by simp; omega) _) ((fdi_from t w kd m (Nat.le_refl _)).alloc _ ((fdi_from t w kd m (Nat.le_refl _)).alloc _ hI))
    ⟨W.heap.size, W.heap.size + 1, A4, _, c4, _, _, ⟨h5, by omega⟩, (BoxN.new _ _ _).alloc _, BoxN.newAt _ _ (by simp), rfl⟩
  case body =>
   rintro l pre x a' W hlW ⟨r, hr⟩ hI ⟨B6, B7, A4, n4, c4, v13, v14, ⟨hB6, hB7⟩, b6, b7, rfl⟩ hlen
   obtain ⟨⟨⟨⟨⟨c1, c2⟩, c3⟩, c4'⟩, hxW⟩, hno⟩ := hI
   have hsW := hxW.size
   have HNO := hide hno
   have HKEY := hide (show keyB t kd m x.1 = (((evAt t x.1).kind == kd) && ((evAt t x.1).msg == m)) from rfl)
   clear hno
   have k0 := b7.cell (j := 0) rfl
   have k1 := b7.cell (j := 1) rfl
   have k2 := b7.cell (j := 2) rfl
   have k3 := b7.cell (j := 3) rfl
   have k4 := b7.cell (j := 4) rfl
   have i0 := b6.cell (j := 0) rfl
   have i1 := b6.cell (j := 1) rfl
   have d1 := c1.cell (j := 0) rfl
   have d2 := c2.cell (j := 0) rfl
   have f0 := c3.frozen 0
   have f1 := c3.frozen 1
   have f2 := c4'.frozen 0
   have r0 := c3.cell (j := 0) rfl
   have r1 := c3.cell (j := 1) rfl
   have r2 := c4'.cell (j := 0) rfl
   have hkk : ∀ b1 b2, ((evAt t x.1).kind == kd) = b1 → ((evAt t x.1).msg == m) = b2 → keyB t kd m x.1 = (b1 && b2) := fun b1 b2 h1 h2 => by rw [HKEY.out, h1, h2]
   have HKK := hide hkk
   clear hkk
   have hIok : ∀ y : Nat × Nat, y = x.1 → keyB t kd m x.1 = false → (pre.map (·.1) ++ [y]).find? (keyB t kd m) = none := fun y hy h => by
    rw [List.find?_append, HNO.out, hy]; simp [h]
   have HIOK := hide hIok
   clear hIok
   cases q1 : (evAt t x.1).kind == kd
   ·have HN := hide (HIOK.out x.1 rfl (HKK.out _ _ q1 rfl))
    gi_wp2
    refine ⟨KeepsFrom.refl _ _, Below.refl _ _, ?_⟩
    show FdI t w kd m ((pre ++ [x]).map (·.1)) _
    rw [map_snoc]
    exact ⟨⟨⟨⟨⟨c1, c2⟩, c3⟩, c4'⟩, hxW⟩, HN.out⟩
   ·cases q2 : (evAt t x.1).msg == m
    ·have HN := hide (HIOK.out x.1 rfl (by rw [HKK.out _ _ q1 q2]; rfl))
     gi_wp2
     refine ⟨KeepsFrom.refl _ _, Below.refl _ _, ?_⟩
     show FdI t w kd m ((pre ++ [x]).map (·.1)) _
     rw [map_snoc]
     exact ⟨⟨⟨⟨⟨c1, c2⟩, c3⟩, c4'⟩, hxW⟩, HN.out⟩
    ·have HN := hide (HKK.out _ _ q1 q2)
     gi_wp2
     refine ⟨?_, rfl, pre.map (·.1), x.1, ⟨⟨⟨map_snoc pre x, HNO.out, HN.out⟩, ?_⟩, ?_⟩, ?_⟩
     all_goals exact kW1
  case done =>
   rintro D ys W hD hys ⟨⟨⟨⟨⟨c1, c2⟩, c3⟩, c4⟩, hxW⟩, hno⟩ hK
   rw [hys] at hno
   have HF := hide (findR_none hno)
   clear hno
   have f0 := c3.frozen 0
   have f1 := c3.frozen 1
   have f2 := c4.frozen 0
   have r0 := c3.cell (j := 0) rfl
   have r1 := c3.cell (j := 1) rfl
   have r2 := c4.cell (j := 0) rfl
   gi_wp2
   obtain ⟨Wr, hWr⟩ : ∃ Wr, ((W.setCell ⟨w.heap.size + 1 + 1 + 1, 0, none⟩ (Value.int .i64 0)).setCell ⟨w.heap.size + 1 + 1 + 1, 1, none⟩ (Value.int .i64 0)).setCell ⟨w.heap.size + 1 + 1 + 1 + 1, 0, none⟩ (Value.bool false) = Wr := ⟨_, rfl⟩
   rw [hWr]
   have s1 : BoxN Wr (w.heap.size + 1 + 1 + 1) 40 #[.int .i64 0, .int .i64 0] := by rw [← hWr]; exact kW1
   have s2 : BoxN Wr (w.heap.size + 1 + 1 + 1 + 1) 4 #[.bool false] := by rw [← hWr]; exact kW1
   have sx : Ext w Wr := by rw [← hWr]; exact kW1
   have hkf : KeepsFrom W0.heap.size W Wr := by rw [← hWr]; exact kW1
   have hKW : Wr.heap[D]? = some (.deferred (some [])) := hkf.same D _ hD hK rfl
   clear hWr
   have e2 := (s1.putObj hKW rfl (.deferred none)).cell (j := 0) rfl
   have e3 := (s1.putObj hKW rfl (.deferred none)).cell (j := 1) rfl
   have e4 := (s2.putObj hKW rfl (.deferred none)).cell (j := 0) rfl
   refine ⟨by simp, .inl ⟨_, _, rfl, run_takeDeferred hKW, ?_⟩⟩
   refine ⟨.tuple #[idVal (0, 0), .bool false], ?_, by rw [HF.out]; rfl, sx.putObj oM hKW _⟩
   simp [results, Try.f82, go_sem, e2, e3, e4, idVal]
  case stop =>
   rintro D c' pre W hD hpre ⟨rfl, a, x, ⟨⟨⟨hp, h0, hx⟩, r1W⟩, r2W⟩, hxW⟩ hK
   rw [hp] at hpre
   have HST := hide (findR_stop HVL.out hpre h0 hx)
   clear h0 hx
   gi_wp2
   have e2 := (r1W.putObj hK rfl (.deferred none)).cell (j := 0) rfl
   have e3 := (r1W.putObj hK rfl (.deferred none)).cell (j := 1) rfl
   have e4 := (r2W.putObj hK rfl (.deferred none)).cell (j := 0) rfl
   refine ⟨by simp, .inl ⟨_, _, rfl, run_takeDeferred hK, ?_⟩⟩
   refine ⟨.tuple #[idVal x, .bool true], ?_, by rw [HST.out.1, decide_eq_true HST.out.2], hxW.putObj oM hK _⟩
   simp [results, Try.f82, go_sem, e2, e3, e4, idVal]
theorem Sender_any (u : Value) (t : Tr) (m : Int) (w : World) (hS : Small t) (hs : SlR 3 RPr w u t) :
  Calls Try.prog 18 #[.agg #[u], .int .i64 m] w fun e w' => FdPost t 2 m w e w' := by
 have HF := hide (fun w' (he : Ext w w') => find_any u t 2 m w' hS (hs.ext RPr.keeps he))
 obtain ⟨A, c, rfl, _, hcm, _⟩ := hs.at_
 go_enter Try.func18, Try.ntmps18
 go_wp2_with fail
 have hx1 := ((Ext.refl w).alloc (.cells #[.slice A t.length c] 24)).alloc (.cells #[.int .i64 0, .int .i64 0] 40)
 have b3 : BoxN ((w.alloc (.cells #[.slice A t.length c] 24)).alloc (.cells #[.int .i64 0, .int .i64 0] 40)) (w.heap.size + 1) 40 #[.int .i64 0, .int .i64 0] := BoxN.newAt _ _ (by simp)
 generalize (w.alloc (.cells #[.slice A t.length c] 24)).alloc (.cells #[.int .i64 0, .int .i64 0] 40) = W1 at *
 refine (HF.out _ hx1).mono ?_
 rintro e w2 ⟨rfl, he2⟩
 have hx2 := hx1.trans he2
 have b4 := b3.ext he2
 have f0 := b4.frozen 0
 have f1 := b4.frozen 1
 have r0 := b4.cell (j := 0) rfl
 have r1 := b4.cell (j := 1) rfl
 unfold idVal
 go_wp2
 obtain ⟨Wr, hWr⟩ : ∃ Wr, (w2.setCell ⟨w.heap.size + 1, 0, none⟩ (Value.int .i64 (findR t 2 m).1)).setCell ⟨w.heap.size + 1, 1, none⟩ (Value.int .i64 (findR t 2 m).2) = Wr := ⟨_, rfl⟩
 rw [hWr]
 have s1 : BoxN Wr (w.heap.size + 1) 40 #[.int .i64 (findR t 2 m).1, .int .i64 (findR t 2 m).2] := by rw [← hWr]; exact kW1
 have sx : Ext w Wr := by rw [← hWr]; exact kW1
 clear hWr
 refine bodyPost_ret (v := .tuple #[idVal (findR t 2 m), .bool (decide (0 < (findR t 2 m).2))]) ?_ rfl ⟨rfl, sx⟩
 simp [results, Try.f18, go_sem, idVal, s1.cell (j := 0) rfl, s1.cell (j := 1) rfl]
def CtI (t : Tr) (w : World) (gc : Nat) (l : List (Nat × Nat)) (W : World) : Prop := (BoxN W gc 3 #[.int .i64 l.length] ∧ Ext w W)
theorem cti_from (t : Tr) (w : World) (gc : Nat) {n : Nat} (hn : w.heap.size ≤ n) : OwnFrom n (fun (pre : List (Idt t)) W => CtI t w gc (pre.map (·.1)) W) :=
 OwnFrom.and (boxN1_from _ _ _ _) (ext_from hn)
set_option maxRecDepth 100000 in
set_option maxHeartbeats 4000000 in
theorem Count_any (u : Value) (t : Tr) (w : World) (hS : Small t) (hN : (ids t).length ≤ 1000000) (hs : SlR 3 RPr w u t) :
  Calls Try.prog 72 #[.agg #[u]] w fun e w' => e = .returned (.int .i64 (countR t)) ∧ Ext w w' := by
 have HV := hide (fun w' (he : Ext w w') => callsIn_wide (n := 8).2 (Valid_any u t w' hS.sm (hs.ext RPr.keeps he)))
 refine callsIn_wide (n := 9).1 ?_
 refine callsIn_of_wp_marks Try.func72 rfl trivial ?_ rfl
 simp only [Try.ntmps72, List.size_toArray, List.length_cons, List.length_nil, Nat.reduceAdd, Nat.reduceSub, Array.replicate_succ, Array.replicate_zero, List.push_toArray, List.append_toArray, List.nil_append, List.cons_append]
 obtain ⟨A, c, rfl, _, hcm, _⟩ := hs.at_
 gi_wp2_with fail
 refine ⟨trivial, ?_⟩
 have hx1 : Ext w (w.alloc (.cells #[.slice A t.length c] 24)) := (Ext.refl w).alloc _
 have bT : BoxN (w.alloc (.cells #[.slice A t.length c] 24)) (w.heap.size) 24 #[.slice A t.length c] := BoxN.new _ _ _
 generalize w.alloc (.cells #[.slice A t.length c] 24) = W1 at *
 refine (HV.out _ hx1).mono ?_
 rintro e w2 ⟨rfl, he2⟩
 replace hx1 := hx1.trans he2
 replace bT := bT.ext he2
 clear he2
 have t0 : w2.cell? ⟨w.heap.size, 0, none⟩ = some (.slice A t.length c) := bT.cell (j := 0) rfl
 have lt0 := bT.lt
 cases hv : validL t
 ·have HF := hide (show countR t = 0 by unfold countR; rw [hv]; rfl)
  clear hv
  gi_wp2_with fail
  exact ⟨.int .i64 0, by simp [results, Try.f72, go_sem], by rw [HF.out]; rfl, hx1⟩
 ·have HVL := hide (show countR t = (ids t).length by unfold countR; rw [hv]; rfl)
  clear hv
  have hnp := hS.np
  gi_wp2_with (refine ⟨trivial, ?_⟩; gi_at_call 80; refine (callsIn_wide.2 (events_any _ _)).mono ?_; rintro e w' ⟨rfl, rfl⟩)
  have bt : BoxN ((w2.alloc (.cells #[.int .i64 0] 3)).alloc (.cells #[.slice A t.length c] 24)) (w2.heap.size + 1) 24 #[.slice A t.length c] := BoxN.newAt _ _ (by simp)
  have hM0 : CtI t w w2.heap.size [] ((w2.alloc (.cells #[.int .i64 0] 3)).alloc (.cells #[.slice A t.length c] 24)) := ⟨(BoxN.new _ _ _).alloc _, (hx1.alloc _).alloc _⟩
  have hwr : w.heap.size ≤ w2.heap.size := hx1.size
  have hsz0 : ((w2.alloc (.cells #[.int .i64 0] 3)).alloc (.cells #[.slice A t.length c] 24)).heap.size = w2.heap.size + 1 + 1 := by simp
  generalize ((w2.alloc (.cells #[.int .i64 0] 3)).alloc (.cells #[.slice A t.length c] 24)) = W0 at *
  have hext0 : Ext w W0 := hM0.2
  have hw0 : w.heap.size ≤ W0.heap.size := by omega
  clear hsz0 t0 lt0 hx1 bT
  generalize w2.heap.size = gc at *
  refine wpIn_rangeFunc_ownH rfl oM (gf := 146) (lb := #[.pointer (some ⟨gc + 1, 0, none⟩)]) rfl trivial (callFunc_enter Try.func146 (by decide) rfl)
   (events_stops 8 oM w (.slice A t.length c) t (gc + 1) W0 hnp hS.ne hs hext0 (bt.cell rfl) oM) belowK_t (belowK_b hw0) (Below.refl _ _) (fun _ => rfl)
   (fun pre W => CtI t w gc (pre.map (·.1)) W) (fun c pre W => False) (cti_from t w gc hw0) (fun c => ownFrom_pure _ _) hM0
   (fun x a' W => ∃ v13 v14,
    a' = { tmps := #[.agg #[.slice A t.length c], .pointer (some ⟨w.heap.size, 0, none⟩), .int .i64 0, .pointer (some ⟨gc, 0, none⟩), .agg #[.slice A t.length c], .bool true, .bool false, .agg #[.slice A t.length c], .func (.func 146) #[] #[.pointer (some ⟨gc + 1, 0, none⟩)], v13, v14, undef, undef, undef], defers := [] })
   ?hax ?assign ?body ?done ?stop
  case hax =>
   rintro x a' _ X Y row ⟨v13, v14, ha⟩ hg hr
   exact ⟨v13, v14, ha⟩
  case assign =>
   rintro l pre x W K hI hK
   gi_wp2
   exact hK _ _ (KeepsFrom.refl _ _) (Below.refl _ _) hI ⟨idVal x.1, evVal w (.slice A t.length c) x.1, by simp⟩
  case body =>
   rintro l pre x a' W hlW ⟨r, hr⟩ hI ⟨v13, v14, rfl⟩ hlen
   obtain ⟨c1, hxW⟩ := hI
   have hsW := hxW.size
   have d0 : W.cell? ⟨gc, 0, none⟩ = some (.int .i64 ((pre.length : Nat) : Int)) := by rw [c1.cell (j := 0) rfl]; simp
   have f0 := c1.frozen 0
   have hl2 : pre.length < 1000000 := by omega
   have hwrap := (wrap_addI pre.length 1 1 rfl oM).1
   have HGC := hide hwr
   gi_wp2
   refine ⟨KF.set (KeepsFrom.refl _ _) _ _, BL.set (Below.refl _ _) _ _ _ hwr, ?_⟩
   show CtI t w gc ((pre ++ [x]).map (·.1)) _
   refine ⟨?_, Ext.set hxW hwr _⟩
   rw [show (((pre ++ [x]).map (·.1)).length : Int) = (pre.length : Int) + 1 by simp]
   exact BoxN.set1 c1
  case done =>
   rintro D ys W hD hys ⟨c1, hxW⟩ hK
   rw [hys] at c1
   have d0 : W.cell? ⟨gc, 0, none⟩ = some (.int .i64 ((ids t).length : Nat)) := c1.cell (j := 0) rfl
   gi_wp2
   refine ⟨by simp, .inl ⟨_, _, rfl, run_takeDeferred hK, ?_⟩⟩
   refine ⟨.int .i64 ((ids t).length : Nat), ?_, by rw [HVL.out], hxW.putObj oM hK _⟩
   simp [results, Try.f72, go_sem]
  case stop => rintro D c' pre W hD hpre h; exact h.elim
end Go.Proofs.Ytanblnhnfkeffaa
namespace Go.Proofs.Ytanblnhnfkeffaa
set_option linter.unusedVariables false
set_option linter.unusedSimpArgs false
def a_pfBody : ACode := (.block 3 (.seq (.seq (.draw [⟨0, ⟨(some 55), .faddr 0 (.t 12), none⟩, []⟩, ⟨1, ⟨(some 56), .load none (.t 55), none⟩, []⟩, ⟨2, ⟨(some 57), .bin .neq (.t 56) (.c (.v (.int .i64 3))), none⟩, []⟩, ⟨3, ⟨(some 58), .mv (.t 57), none⟩, []⟩, ⟨4, ⟨(some 59), .faddr 1 (.t 11), some (58, false)⟩, []⟩, ⟨5, ⟨(some 60), .load none (.t 59), some (58, false)⟩, []⟩, ⟨6, ⟨(some 61), .load none (.t 3), some (58, false)⟩, []⟩, ⟨7, ⟨(some 62), .faddr 0 (.t 11), some (58, false)⟩, []⟩, ⟨8, ⟨(some 63), .load none (.t 62), some (58, false)⟩, []⟩, ⟨9, ⟨(some 64), .iaddr 1 (.t 61) (.t 63), some (58, false)⟩, []⟩, ⟨10, ⟨(some 65), .load none (.t 64), some (58, false)⟩, []⟩, ⟨11, ⟨(some 66), .bin .gtr (.t 60) (.t 65), some (58, false)⟩, []⟩, ⟨12, ⟨(some 67), .pick (.t 58) (.c (.v (.bool true))) (.t 66), none⟩, []⟩])
 (.cond (.t 67) (.exit 3)
 .skip))
 (.seq (.draw [⟨0, ⟨(some 68), .load none (.t 8), none⟩, []⟩, ⟨1, ⟨(some 69), .faddr 2 (.t 12), none⟩, []⟩, ⟨2, ⟨(some 70), .load none (.t 69), none⟩, []⟩, ⟨3, ⟨(some 71), .nilck (.t 68), none⟩, []⟩, ⟨4, ⟨(some 72), .iaddrA 200 4 (.t 71) (.t 70), none⟩, []⟩, ⟨5, ⟨(some 73), .faddr 0 (.t 72), none⟩, []⟩, ⟨6, ⟨(some 74), .load (some 2) (.t 73), none⟩, []⟩, ⟨7, ⟨(some 13), .alloc [(.v (.int .i64 0)), (.v (.int .i64 0))], none⟩, [⟨(some 68), .load none (.t 8), none⟩, ⟨(some 69), .faddr 2 (.t 12), none⟩, ⟨(some 70), .load none (.t 69), none⟩, ⟨(some 71), .nilck (.t 68), none⟩, ⟨(some 72), .iaddrA 200 4 (.t 71) (.t 70), none⟩, ⟨(some 73), .faddr 0 (.t 72), none⟩, ⟨(some 74), .load (some 2) (.t 73), none⟩]⟩, ⟨8, ⟨none, .store 2 (.t 13) (.t 74), none⟩, []⟩])
 (.seq (.draw [⟨0, ⟨(some 75), .faddr 1 (.t 13), none⟩, []⟩, ⟨1, ⟨(some 76), .load none (.t 75), none⟩, []⟩, ⟨2, ⟨(some 77), .load none (.t 3), none⟩, []⟩, ⟨3, ⟨(some 78), .faddr 0 (.t 13), none⟩, []⟩, ⟨4, ⟨(some 79), .load none (.t 78), none⟩, []⟩, ⟨5, ⟨(some 80), .iaddr 1 (.t 77) (.t 79), none⟩, []⟩, ⟨6, ⟨(some 81), .load none (.t 80), none⟩, []⟩, ⟨7, ⟨(some 82), .bin .gtr (.t 76) (.t 81), none⟩, []⟩])
 (.cond (.t 82) (.seq (.region [⟨(some 83), .build [(.v .zsl)] [], none⟩, ⟨none, .store 1 (.t 4) (.t 83), none⟩, ⟨none, .store 1 (.t 5) (.c (.v (.int .i64 18))), none⟩])
 .ret)
 .skip)))))
def envP (cs : List Int) (lr : List IV) (p i : Nat) (kd pr mg : Int) (x4 x5 : AV) : List AV := [.any, .any, .any, .v (.iptr [.isl 1 (cs.map eI)] 0), x4, x5, .any, .any, .v (.iptr [.iptr lr 0] 0), .any, .any, .v (.iptr [.int .i64 (p : Int), .int .i64 (i : Int)] 0), .v (.iptr [.int .i64 kd, .int .i64 pr, .int .i64 mg] 0), .any, .any, .any, .any, .any, .any, .any, .any, .any, .any, .any, .any, .any, .any, .any, .any, .any, .any, .any, .any, .any, .any, .any, .any, .any, .any, .any, .any, .any, .any, .any, .any, .any, .any, .any, .any, .any, .any, .any, .any, .any, .any, .any, .any, .any, .any, .any, .any, .any, .any, .any, .any, .any, .any, .any, .any, .any, .any, .any, .any, .any, .any, .any, .any, .any, .any, .any, .any, .any, .any, .any, .any, .any, .any]

theorem gtI_T {a b : Int} (h : a > b) : decide (a > b) = true := decide_eq_true h
theorem gtI_F {a b : Int} (h : ¬ a > b) : decide (a > b) = false := decide_eq_false h

section
variable (cs : List Int) (lr : List IV) (p i : Nat) (kd pr mg : Int) (x4 x5 : AV) (B l : List Row)
theorem pfBody_kind (hk : (kd != 3) = true) : run (ACalls Try.prog) Weak a_pfBody (envP cs lr p i kd pr mg x4 x5) B l (fun ax e b l' => ax = .normal ∧ b = B ∧ l' = l) := by
 simp only [a_pfBody, envP, hk, ↓run_skip, ↓run_region, ↓run_draw, ↓run_both, ↓run_seq, ↓run_block, ↓run_exit, ↓run_ret, ↓run_cond, ↓atN_app, ↓seqC_normal, ↓seqC_exit, ↓seqC_ret, ↓seqQ_normal, ↓seqQ_exit, ↓seqQ_ret, ↓blkQ_normal, ↓blkQ_exit, ↓blkQ_ret, ↓runOps_nil, ↓runOps_cons, ↓runD_nil, ↓runD_cons, ↓grdO_true, ↓grdO_false, ↓grdD_true, ↓grdD_false, ↓ifC_true, ↓ifC_false, ↓opS_val, ↓opS_call, ↓opS_two, ↓opK_app, ↓dS_val, ↓dS_call, ↓dS_two, ↓dK_app, rechks_nil, rechks_cons, rechk, gcase_true, gcase_false, ex_val, ex_val0, gd_none, gd_some, nth_zero, nth_succ, upd_zero, upd_succ, put_some, put_none, ev_t, ev_c, evs_nil, evs_cons, evo_some, evo_none, hget_at, hget_first, hsetB_at, hsetB_first, hsetL_at, hsetL_first, ofOpt_some, aop, aload, astore, aslice, aappend, aiaddr, aiaddrA, afaddr, alen, alenS, acopy, amm, acall, alookup, amupdate, alenM, atostr, comma, keyEq, apick, binV, binVB, binVS, isSh, intOp, strOp, boolOp, shOp, eqC, eqF, and2, cellsOf, setFrom, fillA, fillS, rd, rdI, elems, mk, bounds, AV.cell, List.all_cons, List.all_nil, Bool.and_true, Bool.true_and, Bool.and_self, List.length_cons, List.length_nil, List.length_append, Nat.reduceAdd, Nat.reduceSub, Nat.reduceMul, Nat.zero_add, Nat.add_zero, List.replicate_succ, List.replicate_zero, List.cons_append, List.nil_append, List.append_assoc, List.append_nil, List.getElem?_cons_zero, List.getElem?_cons_succ, List.getElem?_nil, List.set_cons_zero, List.set_cons_succ, List.drop_zero, List.drop_succ_cons, List.take_zero, List.take_succ_cons, List.take_nil, List.drop_nil, List.map_cons, List.map_nil, Option.map_some, if_true, if_false, Bool.false_eq_true, and_self, true_and, and_true, Nat.reduceLeDiff, Nat.reduceLT, Nat.le_refl, Nat.reduceEqDiff, ite_true, ite_false, beq_self_eq_true, beq_true, beq_false, Bool.not_true, Bool.not_false, Bool.true_beq, Bool.false_beq]
theorem pfBody_out (hk : (kd != 3) = false) (hp : p < cs.length) (hi : (i : Int) > cs[p]) : run (ACalls Try.prog) Weak a_pfBody (envP cs lr p i kd pr mg x4 x5) B l (fun ax e b l' => ax = .normal ∧ b = B ∧ l' = l) := by
 have hd := gtI_T hi
 simp (disch := omega) only [a_pfBody, envP, hk, eI, hd, ↓run_skip, ↓run_region, ↓run_draw, ↓run_both, ↓run_seq, ↓run_block, ↓run_exit, ↓run_ret, ↓run_cond, ↓atN_app, ↓seqC_normal, ↓seqC_exit, ↓seqC_ret, ↓seqQ_normal, ↓seqQ_exit, ↓seqQ_ret, ↓blkQ_normal, ↓blkQ_exit, ↓blkQ_ret, ↓runOps_nil, ↓runOps_cons, ↓runD_nil, ↓runD_cons, ↓grdO_true, ↓grdO_false, ↓grdD_true, ↓grdD_false, ↓ifC_true, ↓ifC_false, ↓opS_val, ↓opS_call, ↓opS_two, ↓opK_app, ↓dS_val, ↓dS_call, ↓dS_two, ↓dK_app, rechks_nil, rechks_cons, rechk, gcase_true, gcase_false, ex_val, ex_val0, gd_none, gd_some, nth_zero, nth_succ, upd_zero, upd_succ, put_some, put_none, ev_t, ev_c, evs_nil, evs_cons, evo_some, evo_none, hget_at, hget_first, hsetB_at, hsetB_first, hsetL_at, hsetL_first, ofOpt_some, aop, aload, astore, aslice, aappend, aiaddr, aiaddrA, afaddr, alen, alenS, acopy, amm, acall, alookup, amupdate, alenM, atostr, comma, keyEq, apick, binV, binVB, binVS, isSh, intOp, strOp, boolOp, shOp, eqC, eqF, and2, cellsOf, setFrom, fillA, fillS, rd, rdI, elems, mk, bounds, AV.cell, List.all_cons, List.all_nil, Bool.and_true, Bool.true_and, Bool.and_self, List.length_cons, List.length_nil, List.length_append, Nat.reduceAdd, Nat.reduceSub, Nat.reduceMul, Nat.zero_add, Nat.add_zero, List.replicate_succ, List.replicate_zero, List.cons_append, List.nil_append, List.append_assoc, List.append_nil, List.getElem?_cons_zero, List.getElem?_cons_succ, List.getElem?_nil, List.set_cons_zero, List.set_cons_succ, List.drop_zero, List.drop_succ_cons, List.take_zero, List.take_succ_cons, List.take_nil, List.drop_nil, List.map_cons, List.map_nil, Option.map_some, if_true, if_false, Bool.false_eq_true, and_self, true_and, and_true, Nat.reduceLeDiff, Nat.reduceLT, Nat.le_refl, Nat.reduceEqDiff, ite_true, ite_false, beq_self_eq_true, beq_true, beq_false, Bool.not_true, Bool.not_false, Bool.true_beq, Bool.false_beq, map_vs, vs_len, vs_get, vs_take, vs_drop, vs_snoc1, vs_snoc2, vs_snoc3, vs_snoc5, vs_set1, vs_set2, vs_rep, wrap_id, le_T, lt_T, le_F, lt_F, leI_T, ltI_T, leI_F, ltI_F, geI, gtI, get_T, decide_true, decide_false, room, List.getElem?_map, List.length_map, List.length_take, Int.toNat_natCast, Nat.min_def, Nat.min_self]
theorem pfBody_in (m f g : Nat) (hk : (kd != 3) = false) (hp : p < cs.length) (hi : ¬ (i : Int) > cs[p]) (hm : mg = m) (hm2 : m < 200) (hl : lr.length = 800) (hdr : (lr.drop (m * 4)).take 2 = [.int .i64 f, .int .i64 g]) (hf : f < cs.length) (hg : ¬ (g : Int) > cs[f]) (hlt : RowsLt B.length B) (hll : l = []) :
  run (ACalls Try.prog) Weak a_pfBody (envP cs lr p i kd pr mg x4 x5) B l (fun ax e b l' => ax = .normal ∧ b = B) := by
 subst hm; subst hll
 have hd := gtI_F hi
 have hd2 := gtI_F hg
 simp (disch := omega) only [a_pfBody, envP, hk, eI, hd, hd2, hl, hdr, ↓run_skip, ↓run_region, ↓run_draw, ↓run_both, ↓run_seq, ↓run_block, ↓run_exit, ↓run_ret, ↓run_cond, ↓atN_app, ↓seqC_normal, ↓seqC_exit, ↓seqC_ret, ↓seqQ_normal, ↓seqQ_exit, ↓seqQ_ret, ↓blkQ_normal, ↓blkQ_exit, ↓blkQ_ret, ↓runOps_nil, ↓runOps_cons, ↓runD_nil, ↓runD_cons, ↓grdO_true, ↓grdO_false, ↓grdD_true, ↓grdD_false, ↓ifC_true, ↓ifC_false, ↓opS_val, ↓opS_call, ↓opS_two, ↓opK_app, ↓dS_val, ↓dS_call, ↓dS_two, ↓dK_app, rechks_nil, rechks_cons, rechk, gcase_true, gcase_false, ex_val, ex_val0, gd_none, gd_some, nth_zero, nth_succ, upd_zero, upd_succ, put_some, put_none, ev_t, ev_c, evs_nil, evs_cons, evo_some, evo_none, hget_at, hget_first, hsetB_at, hsetB_first, hsetL_at, hsetL_first, ofOpt_some, aop, aload, astore, aslice, aappend, aiaddr, aiaddrA, afaddr, alen, alenS, acopy, amm, acall, alookup, amupdate, alenM, atostr, comma, keyEq, apick, binV, binVB, binVS, isSh, intOp, strOp, boolOp, shOp, eqC, eqF, and2, cellsOf, setFrom, fillA, fillS, rd, rdI, elems, mk, bounds, AV.cell, List.all_cons, List.all_nil, Bool.and_true, Bool.true_and, Bool.and_self, List.length_cons, List.length_nil, List.length_append, Nat.reduceAdd, Nat.reduceSub, Nat.reduceMul, Nat.zero_add, Nat.add_zero, List.replicate_succ, List.replicate_zero, List.cons_append, List.nil_append, List.append_assoc, List.append_nil, List.getElem?_cons_zero, List.getElem?_cons_succ, List.getElem?_nil, List.set_cons_zero, List.set_cons_succ, List.drop_zero, List.drop_succ_cons, List.take_zero, List.take_succ_cons, List.take_nil, List.drop_nil, List.map_cons, List.map_nil, Option.map_some, if_true, if_false, Bool.false_eq_true, and_self, true_and, and_true, Nat.reduceLeDiff, Nat.reduceLT, Nat.le_refl, Nat.reduceEqDiff, ite_true, ite_false, beq_self_eq_true, beq_true, beq_false, Bool.not_true, Bool.not_false, Bool.true_beq, Bool.false_beq, map_vs, vs_len, vs_get, vs_take, vs_drop, vs_snoc1, vs_snoc2, vs_snoc3, vs_snoc5, vs_set1, vs_set2, vs_rep, wrap_id, le_T, lt_T, le_F, lt_F, leI_T, ltI_T, leI_F, ltI_F, geI, gtI, get_T, decide_true, decide_false, room, List.getElem?_map, List.length_map, List.length_take, Int.toNat_natCast, Nat.min_def, Nat.min_self]
theorem two_g0 {r0 r1 : Row} {l : List Row} : hget [r0, r1] l 0 = some r0 := rfl
theorem two_g1 {r0 r1 : Row} {l : List Row} : hget [r0, r1] l 1 = some r1 := rfl
theorem two_g2 {r0 r1 x : Row} {l : List Row} : hget [r0, r1] (x :: l) 2 = some x := rfl
theorem two_b0 {r0 r1 r : Row} : hsetB [r0, r1] 0 r = [r, r1] := rfl
theorem two_b1 {r0 r1 r : Row} : hsetB [r0, r1] 1 r = [r0, r] := rfl
theorem two_b2 {r0 r1 r : Row} : hsetB [r0, r1] 2 r = [r0, r1] := rfl
theorem two_l0 {r0 r1 r : Row} {l : List Row} : hsetL [r0, r1] l 0 r = l := rfl
theorem two_l1 {r0 r1 r : Row} {l : List Row} : hsetL [r0, r1] l 1 r = l := rfl
theorem two_l2 {r0 r1 r x : Row} {l : List Row} : hsetL [r0, r1] (x :: l) 2 r = r :: l := rfl
set_option maxRecDepth 20000 in
theorem pfBody_bad (m f g : Nat) (hk : (kd != 3) = false) (hp : p < cs.length) (hi : ¬ (i : Int) > cs[p]) (hm : mg = m) (hm2 : m < 200) (hl : lr.length = 800) (hdr : (lr.drop (m * 4)).take 2 = [.int .i64 f, .int .i64 g]) (hf : f < cs.length) (hg : (g : Int) > cs[f]) :
  run (ACalls Try.prog) Weak a_pfBody (envP cs lr p i kd pr mg (.ptr 0 0 0 0) (.ptr 1 0 0 0)) [.live 0 1 [[.v .zsl]], .live 0 1 [[.v (.int .i64 0)]]] [] (fun ax e b l' => ax = .ret ∧ b = [.live 0 1 [[.v .zsl]], .live 0 1 [[.v (.int .i64 18)]]]) := by
 subst hm
 have hd := gtI_F hi
 have hd2 := gtI_T hg
 simp (disch := omega) only [a_pfBody, envP, hk, eI, hd, hd2, hl, hdr, two_g0, two_g1, two_g2, two_b0, two_b1, two_b2, two_l0, two_l1, two_l2, ↓run_skip, ↓run_region, ↓run_draw, ↓run_both, ↓run_seq, ↓run_block, ↓run_exit, ↓run_ret, ↓run_cond, ↓atN_app, ↓seqC_normal, ↓seqC_exit, ↓seqC_ret, ↓seqQ_normal, ↓seqQ_exit, ↓seqQ_ret, ↓blkQ_normal, ↓blkQ_exit, ↓blkQ_ret, ↓runOps_nil, ↓runOps_cons, ↓runD_nil, ↓runD_cons, ↓grdO_true, ↓grdO_false, ↓grdD_true, ↓grdD_false, ↓ifC_true, ↓ifC_false, ↓opS_val, ↓opS_call, ↓opS_two, ↓opK_app, ↓dS_val, ↓dS_call, ↓dS_two, ↓dK_app, rechks_nil, rechks_cons, rechk, gcase_true, gcase_false, ex_val, ex_val0, gd_none, gd_some, nth_zero, nth_succ, upd_zero, upd_succ, put_some, put_none, ev_t, ev_c, evs_nil, evs_cons, evo_some, evo_none, hget_at, hget_first, hsetB_at, hsetB_first, hsetL_at, hsetL_first, ofOpt_some, aop, aload, astore, aslice, aappend, aiaddr, aiaddrA, afaddr, alen, alenS, acopy, amm, acall, alookup, amupdate, alenM, atostr, comma, keyEq, apick, binV, binVB, binVS, isSh, intOp, strOp, boolOp, shOp, eqC, eqF, and2, cellsOf, setFrom, fillA, fillS, rd, rdI, elems, mk, bounds, AV.cell, List.all_cons, List.all_nil, Bool.and_true, Bool.true_and, Bool.and_self, List.length_cons, List.length_nil, List.length_append, Nat.reduceAdd, Nat.reduceSub, Nat.reduceMul, Nat.zero_add, Nat.add_zero, List.replicate_succ, List.replicate_zero, List.cons_append, List.nil_append, List.append_assoc, List.append_nil, List.getElem?_cons_zero, List.getElem?_cons_succ, List.getElem?_nil, List.set_cons_zero, List.set_cons_succ, List.drop_zero, List.drop_succ_cons, List.take_zero, List.take_succ_cons, List.take_nil, List.drop_nil, List.map_cons, List.map_nil, Option.map_some, if_true, if_false, Bool.false_eq_true, and_self, true_and, and_true, Nat.reduceLeDiff, Nat.reduceLT, Nat.le_refl, Nat.reduceEqDiff, ite_true, ite_false, beq_self_eq_true, beq_true, beq_false, Bool.not_true, Bool.not_false, Bool.true_beq, Bool.false_beq, map_vs, vs_len, vs_get, vs_take, vs_drop, vs_snoc1, vs_snoc2, vs_snoc3, vs_snoc5, vs_set1, vs_set2, vs_rep, wrap_id, le_T, lt_T, le_F, lt_F, leI_T, ltI_T, leI_F, ltI_F, geI, gtI, get_T, decide_true, decide_false, room, List.getElem?_map, List.length_map, List.length_take, Int.toNat_natCast, Nat.min_def, Nat.min_self, -hget_at, -hget_first, -hsetB_at, -hsetB_first, -hsetL_at, -hsetL_first]
end

theorem box_rep {W : World} {F : Nat → Prop} {b : Nat} {T : TypeId} {cells : Array Value} {row : List IV} (h : BoxN W b T cells) (hF : F b) (hr : ∀ (j : Nat) (a : IV), row[j]? = some a → ∃ v, cells[j]? = some v ∧ RepI W F a v) :
  RepI W F (.iptr row 0) (.pointer (some ⟨b, 0, none⟩)) := by
 refine .iptr row 0 b 0 (fun j => (cells[j]?).getD undef) hF (fun j a hj => ?_) (fun j a hj => ?_)
 ·obtain ⟨v, h1, _⟩ := hr j a hj
  rw [Nat.zero_add, h1]
  exact h.cell h1
 ·obtain ⟨v, h1, h2⟩ := hr j a hj
  rw [h1]; exact h2
theorem envR_of {W : World} {F : Nat → Prop} {L : LMap} {e : List AV} {vs : Array Value} (h : RepL W F L e vs.toList) : EnvR W F L e { tmps := vs, defers := [] } :=
 ⟨rfl, by have := h.1; simpa using this.symm, fun i x v hx hv => h.2 i x v hx (by simpa using hv)⟩
def letV (t : Tr) (j : Nat) : Int := match j % 4 with
 | 0 => (firstOf t (ids t) 2 (j / 4 : Nat)).1
 | 1 => (firstOf t (ids t) 2 (j / 4 : Nat)).2
 | 2 => (firstOf t (ids t) 3 (j / 4 : Nat)).1
 | _ => (firstOf t (ids t) 3 (j / 4 : Nat)).2
def letRow (t : Tr) : List IV := (List.range 800).map fun j => .int .i64 (letV t j)
theorem letRow_len (t : Tr) : (letRow t).length = 800 := by simp [letRow]
theorem letRow_get {t : Tr} {j : Nat} (h : j < 800) : (letRow t)[j]? = some (.int .i64 (letV t j)) := by simp [letRow, h]
theorem letRow_from {t : Tr} {m : Nat} (h : m < 200) : ((letRow t).drop (m * 4)).take 2 = [.int .i64 ((firstOf t (ids t) 2 m).1 : Int), .int .i64 ((firstOf t (ids t) 2 m).2 : Int)] := by
 have h0 : letV t (m * 4) = (firstOf t (ids t) 2 m).1 := by
  unfold letV; rw [show m * 4 % 4 = 0 by omega, show m * 4 / 4 = m by omega]; rfl
 have h1 : letV t (m * 4 + 1) = (firstOf t (ids t) 2 m).2 := by
  unfold letV; rw [show (m * 4 + 1) % 4 = 1 by omega, show (m * 4 + 1) / 4 = m by omega]; rfl
 apply List.ext_getElem?
 intro i
 match i with
 | 0 => rw [List.getElem?_take, if_pos oM, List.getElem?_drop, letRow_get oM, Nat.add_zero, h0]; rfl
 | 1 => rw [List.getElem?_take, if_pos oM, List.getElem?_drop, letRow_get oM, h1]; rfl
 | i + 2 => rw [List.getElem?_take, if_neg oM]; rfl
theorem letRow_rep {t : Tr} {W : World} {F : Nat → Prop} {b : Nat} {T : TypeId} {ls : Array Value} (h : BoxN W b T ls) (hA : LetA t (ids t) ls) (hF : F b) : RepI W F (.iptr (letRow t) 0) (.pointer (some ⟨b, 0, none⟩)) := by
 refine box_rep h hF (fun j a hj => ?_)
 have hj8 : j < 800 := by have := (List.getElem?_eq_some_iff.1 hj).1; rwa [letRow_len] at this
 rw [letRow_get hj8] at hj
 cases hj
 obtain ⟨g0, g1, g2, g3⟩ := hA.2 (j / 4) oM
 refine ⟨_, ?_, .int _ _⟩
 unfold letV
 have hc : j % 4 = 0 ∨ j % 4 = 1 ∨ j % 4 = 2 ∨ j % 4 = 3 := by omega
 rcases hc with hc | hc | hc | hc
 ·rw [hc]; rw [show j = j / 4 * 4 by omega]; rw [show j / 4 * 4 / 4 = j / 4 by omega]; exact g0
 ·rw [hc]; rw [show j = j / 4 * 4 + 1 by omega]; rw [show (j / 4 * 4 + 1) / 4 = j / 4 by omega]; exact g1
 ·rw [hc]; rw [show j = j / 4 * 4 + 2 by omega]; rw [show (j / 4 * 4 + 2) / 4 = j / 4 by omega]; exact g2
 ·rw [hc]; rw [show j = j / 4 * 4 + 3 by omega]; rw [show (j / 4 * 4 + 3) / 4 = j / 4 by omega]; exact g3

theorem sim_nil {F : Nat → Prop} {W : World} (hF : ∀ b, F b → b < W.heap.size) : Sim F (fun _ _ => none) ([] ++ []) W :=
 ⟨fun i v z els hi => by simp at hi, fun i v q hq => (by cases hq), fun i i' v v' z z' e1 e2 bb q q' h1 => by simp at h1, fun b hb => ⟨hF b hb, by rintro ⟨i, v, s, e1, q, h1, h2, h3⟩; cases h2⟩⟩
theorem step_nil_block {nb : Nat} {F F' : Nat → Prop} {L' : LMap} {h' : List Row} {W W' : World} (st : Step nb F (fun _ _ => none) ([] ++ []) W F' L' h' W') : Ext W W' :=
 ⟨st.os, st.tape, st.output, st.size, fun k hk => st.block k hk (by rintro ⟨i, v, s, e1, q, h1, h2, h3⟩; cases h2)⟩
def L2 (b4 b5 : Nat) : LMap := fun id ver => if id = 0 ∧ ver = 0 then some (.pl b4 0 1 1) else if id = 1 ∧ ver = 0 then some (.pl b5 0 1 1) else none
theorem l2_inv {b4 b5 id ver : Nat} {q : Loc} (h : L2 b4 b5 id ver = some q) : (id = 0 ∧ ver = 0 ∧ q = .pl b4 0 1 1) ∨ (id = 1 ∧ ver = 0 ∧ q = .pl b5 0 1 1) := by
 unfold L2 at h
 split at h
 ·rename_i hc; cases h; exact .inl ⟨hc.1, hc.2, rfl⟩
 ·split at h
  ·rename_i hc; cases h; exact .inr ⟨hc.1, hc.2, rfl⟩
  ·cases h
theorem sim_two {F : Nat → Prop} {W : World} {b4 b5 : Nat} {T4 T5 : TypeId} {a4 a5 : AV} {v4 v5 : Value} (h4 : BoxN W b4 T4 #[v4]) (h5 : BoxN W b5 T5 #[v5]) (hne : b4 ≠ b5) (c4 : a4.cell = true) (c5 : a5.cell = true)
  (r4 : RepA W F (L2 b4 b5) a4 v4) (r5 : RepA W F (L2 b4 b5) a5 v5) (hF : ∀ b, F b → b < W.heap.size ∧ b ≠ b4 ∧ b ≠ b5) :
  Sim F (L2 b4 b5) ([.live 0 1 [[a4]], .live 0 1 [[a5]]] ++ []) W := by
 refine ⟨fun i v z els hi => ?_, fun i v q hq => ?_, fun i i' v v' z z' e1 e2 bb q q' h1 h2 h3 h6 o1 o2 => ?_, fun b hb => ⟨(hF b hb).1, ?_⟩⟩
 ·match i with
  | 0 =>
    simp at hi
    obtain ⟨rfl, rfl, rfl⟩ := hi
    refine ⟨.pl b4 0 1 1, rfl, rfl, by simp, by simp [maxLen], #[v4], T4, h4, by simp, fun k row hk => ?_, fun k row j a hk hj => ?_⟩
    ·cases k with
     | zero => simp at hk; subst hk; rfl
     | succ k => simp at hk
    ·cases k with
     | zero =>
       simp at hk; subst hk
       cases j with
       | zero => simp at hj; subst hj; exact ⟨c4, v4, rfl, r4⟩
       | succ j => simp at hj
     | succ k => simp at hk
  | 1 =>
    simp at hi
    obtain ⟨rfl, rfl, rfl⟩ := hi
    refine ⟨.pl b5 0 1 1, rfl, rfl, by simp, by simp [maxLen], #[v5], T5, h5, by simp, fun k row hk => ?_, fun k row j a hk hj => ?_⟩
    ·cases k with
     | zero => simp at hk; subst hk; rfl
     | succ k => simp at hk
    ·cases k with
     | zero =>
       simp at hk; subst hk
       cases j with
       | zero => simp at hj; subst hj; exact ⟨c5, v5, rfl, r5⟩
       | succ j => simp at hj
     | succ k => simp at hk
  | i + 2 => simp at hi
 ·rcases l2_inv hq with ⟨rfl, rfl, _⟩ | ⟨rfl, rfl, _⟩
  ·exact ⟨_, rfl, Nat.zero_le _⟩
  ·exact ⟨_, rfl, Nat.zero_le _⟩
 ·rcases l2_inv h3 with ⟨rfl, _, h⟩ | ⟨rfl, _, h⟩ <;> rcases l2_inv h6 with ⟨rfl, _, h'⟩ | ⟨rfl, _, h'⟩
  ·rfl
  ·subst h; subst h'
   have e1 : b4 = bb := o1
   have e2 : b5 = bb := o2
   exact absurd (e1.trans e2.symm) hne
  ·subst h; subst h'
   have e1 : b5 = bb := o1
   have e2 : b4 = bb := o2
   exact absurd (e2.trans e1.symm) hne
  ·rfl
 ·rintro ⟨i, v, s, e1, q, h1, h2, h3⟩
  rcases l2_inv h2 with ⟨_, _, h⟩ | ⟨_, _, h⟩
  ·subst h
   have e : b4 = b := h3
   exact (hF _ hb).2.1 e.symm
  ·subst h
   have e : b5 = b := h3
   exact (hF _ hb).2.2 e.symm
theorem owned_two {b4 b5 b : Nat} {h : List Row} (ho : Owned (L2 b4 b5) h b) : b = b4 ∨ b = b5 := by
 obtain ⟨i, v, s, e1, q, h1, h2, h3⟩ := ho
 rcases l2_inv h2 with ⟨_, _, h⟩ | ⟨_, _, h⟩
 ·subst h
  have e : b4 = b := h3
  exact .inl e.symm
 ·subst h
  have e : b5 = b := h3
  exact .inr e.symm

end Go.Proofs.Ytanblnhnfkeffaa
namespace Go.Proofs.Ytanblnhnfkeffaa
set_option linter.unusedVariables false
set_option linter.unusedSimpArgs false

inductive IVle : IV → IV → Prop where
 | refl (x : IV) : IVle x x
 | zsl (sz : Nat) : IVle .zsl (.isl sz [])
 | isl (sz : Nat) (rows rows' : List (List IV)) (hl : rows.length = rows'.length) (hl2 : ∀ (k : Nat) (row row' : List IV), rows[k]? = some row → rows'[k]? = some row' → row.length = row'.length)
   (hr : ∀ (k : Nat) (row row' : List IV) (j : Nat) (a a' : IV), rows[k]? = some row → rows'[k]? = some row' → row[j]? = some a → row'[j]? = some a' → IVle a a') : IVle (.isl sz rows) (.isl sz rows')

theorem RepI.le {w : World} {F : Nat → Prop} {x y : IV} (h : IVle x y) : ∀ {v : Value}, RepI w F x v → RepI w F y v := by
 induction h with
 | refl x => exact fun h => h
 | zsl sz => intro v h; cases h; exact .isl0 _ _ _ (Nat.zero_le _)
 | isl sz rows rows' hl hl2 hr ih =>
   intro v h
   obtain ⟨A, c, rfl, h2, h3, h4⟩ := repI_isl h
   rw [hl] at h2 h4 ⊢
   refine isl_repI h2 h3 (fun h0 => ?_)
   obtain ⟨b, off, h5, h6, h7⟩ := h4 h0
   refine ⟨b, off, h5, h6, fun k row' hk' => ?_⟩
   have hk : k < rows.length := by rw [hl]; exact (List.getElem?_eq_some_iff.1 hk').1
   obtain ⟨g1, g2⟩ := h7 k rows[k] (List.getElem?_eq_getElem hk)
   have hll := hl2 k rows[k] row' (List.getElem?_eq_getElem hk) hk'
   refine ⟨by rw [← hll]; exact g1, fun j a' hj' => ?_⟩
   have hj : j < rows[k].length := by rw [hll]; exact (List.getElem?_eq_some_iff.1 hj').1
   obtain ⟨v, hv, hrep⟩ := g2 j rows[k][j] (List.getElem?_eq_getElem hj)
   exact ⟨v, hv, ih k _ _ j _ _ (List.getElem?_eq_getElem hk) hk' (List.getElem?_eq_getElem hj) hj' hrep⟩

def RowsLe : List (List IV) → List (List IV) → Prop
 | [], [] => True
 | r :: rs, q :: qs => (r.length = q.length ∧ ∀ (j : Nat) (a a' : IV), r[j]? = some a → q[j]? = some a' → IVle a a') ∧ RowsLe rs qs
 | _, _ => False
theorem RowsLe.len : ∀ {r q : List (List IV)}, RowsLe r q → r.length = q.length
 | [], [], _ => rfl
 | _ :: _, _ :: _, h => by simp [RowsLe.len h.2]
 | [], _ :: _, h => h.elim
 | _ :: _, [], h => h.elim
theorem RowsLe.get : ∀ {r q : List (List IV)}, RowsLe r q → ∀ (k : Nat) (row row' : List IV), r[k]? = some row → q[k]? = some row' → row.length = row'.length ∧ ∀ (j : Nat) (a a' : IV), row[j]? = some a → row'[j]? = some a' → IVle a a'
 | [], [], _, k, row, row', h, _ => by simp at h
 | r :: rs, q :: qs, h, k, row, row', h1, h2 => by
   cases k with
   | zero => simp at h1 h2; subst h1; subst h2; exact h.1
   | succ k => simp at h1 h2; exact RowsLe.get h.2 k row row' h1 h2
 | [], _ :: _, h, _, _, _, _, _ => h.elim
 | _ :: _, [], h, _, _, _, _, _ => h.elim
theorem IVle.rows {sz : Nat} {r q : List (List IV)} (h : RowsLe r q) : IVle (.isl sz r) (.isl sz q) :=
 .isl sz r q h.len (fun k row row' h1 h2 => (h.get k row row' h1 h2).1) (fun k row row' j a a' h1 h2 => (h.get k row row' h1 h2).2 j a a')

inductive AVle : AV → AV → Prop where
 | refl (x : AV) : AVle x x
 | v (x y : IV) (h : IVle x y) : AVle (.v x) (.v y)
 | agg (cs ds : List AV) (hl : cs.length = ds.length) (h : ∀ (i : Nat) (a c : AV), cs[i]? = some a → ds[i]? = some c → AVle a c) : AVle (.agg cs) (.agg ds)
theorem RepA.le {w : World} {F : Nat → Prop} {L : LMap} {x y : AV} (h : AVle x y) : ∀ {v : Value}, RepA w F L x v → RepA w F L y v := by
 induction h with
 | refl x => exact fun h => h
 | v x y h => intro v hx; exact .v _ _ (hx.vI.le h)
 | agg cs ds hl h ih =>
   intro v hx
   obtain ⟨vs, rfl, hr⟩ := hx.aggL
   refine RepL.agg ⟨by rw [← hl]; exact hr.1, fun i c u hc hu => ?_⟩
   have hi : i < cs.length := by rw [hl]; exact (List.getElem?_eq_some_iff.1 hc).1
   exact ih i cs[i] c (List.getElem?_eq_getElem hi) hc (hr.2 i _ u (List.getElem?_eq_getElem hi) hu)
theorem ACalls.le {P : Program} {f : Nat} {args args' : List AV} {b l : List Row} {Q : AV → List Row → List Row → Prop} (h : ACalls P f args b l Q) (hl : args'.length = args.length) (hle : ∀ (i : Nat) (a c : AV), args'[i]? = some a → args[i]? = some c → AVle a c) : ACalls P f args' b l Q :=
 ⟨h.1, fun F L w vs s hr => h.2 F L w vs s ⟨by rw [← hl]; exact hr.1, fun i c v hc hv => by
  have hi : i < args'.length := by rw [hl]; exact (List.getElem?_eq_some_iff.1 hc).1
  exact RepA.le (hle i args'[i] c (List.getElem?_eq_getElem hi) hc) (hr.2 i _ v (List.getElem?_eq_getElem hi) hv)⟩⟩
theorem Weak.le {e e' : List AV} {b l : List Row} (hl : e.length = e'.length) (h : ∀ (i : Nat) (x y : AV), e[i]? = some x → e'[i]? = some y → AVle x y) : Weak e b l e' b l := by
 intro F L w a s hea
 refine ⟨F, L, s, ⟨hea.1, by rw [← hl]; exact hea.2.1, fun i y v hy hv => ?_⟩, Step.refl _ _ _ _ _, rfl⟩
 have hi : i < e.length := by rw [hl]; exact (List.getElem?_eq_some_iff.1 hy).1
 exact RepA.le (h i e[i] y (List.getElem?_eq_getElem hi) hy) (hea.2.2 i _ v (List.getElem?_eq_getElem hi) hv)
theorem leave_zsl {rs : List ARes} {Q : AV → List Row → List Row → Prop} {B l e : _} {ex : AExit} (hex : ex = .normal ∨ ex = .ret) (sz : Nat) (hx : resVs e B l rs = some [.v .zsl]) (hR : RowsLt B.length B) {b0 l0 : List Row} (hB : B = b0 ++ l0) (hq : Q (.v (.isl sz [])) b0 l0) :
  Leaves rs Q b0.length ex e B l := by
 refine leave hex hx (y := .v (.isl sz [])) (l' := []) ((Weak.trim (l1 := []) rfl (by intro x hx; simp [one] at hx; subst hx; exact .v _) (by simpa using hR) RowsLt_nil).trans (Weak.le rfl ?_)) hB (by simpa using hq)
 intro i x y h1 h2
 cases i with
 | zero => simp [one] at h1 h2; subst h1; subst h2; exact .v _ _ (.zsl sz)
 | succ i => simp at h2

def a_cloneAsg : AFunc := ⟨1,8,[.tmp 2],(.seq (.region [⟨some 2,.mv (.c (.v .zsl)),none⟩]) (.seq (.seq (.region [⟨some 3,.mv (.t 0),none⟩,⟨some 4,.isnil false (.t 3),none⟩]) (.cond (.t 4) (.seq (.region [⟨some 2,.mv (.c (.v .zsl)),none⟩]) .ret) .skip)) (.seq (.region [⟨some 5,.bslice 2 [(.v (.int .i64 0)),(.v (.int .i64 0))] 0 [],none⟩,⟨some 6,.mv (.t 0),none⟩,⟨some 7,.append 2 16 (.t 5) (.t 6),none⟩,⟨some 2,.mv (.t 7),none⟩]) .ret)))⟩
theorem a_cloneAsg_ok : cFunc Try.prog 84 = some a_cloneAsg := by kernel_rfl
def a_cloneVar : AFunc := ⟨1,8,[.tmp 2],(.seq (.region [⟨some 2,.mv (.c (.v .zsl)),none⟩]) (.seq (.seq (.region [⟨some 3,.mv (.t 0),none⟩,⟨some 4,.isnil false (.t 3),none⟩]) (.cond (.t 4) (.seq (.region [⟨some 2,.mv (.c (.v .zsl)),none⟩]) .ret) .skip)) (.seq (.region [⟨some 5,.bslice 2 [(.v (.str ⟨#[]⟩)),(.v (.int .i64 0))] 0 [],none⟩,⟨some 6,.mv (.t 0),none⟩,⟨some 7,.append 2 24 (.t 5) (.t 6),none⟩,⟨some 2,.mv (.t 7),none⟩]) .ret)))⟩
theorem a_cloneVar_ok : cFunc Try.prog 147 = some a_cloneVar := by kernel_rfl
def a_longVar : AFunc := ⟨1,7,[.tmp 2],(.seq (.region [⟨some 1,.box (.t 0),none⟩,⟨some 2,.mv (.c (.v (.bool false))),none⟩]) (.seq (.region [⟨some 3,.faddr 0 (.t 1),none⟩,⟨some 4,.load none (.t 3),none⟩,⟨some 5,.lenS (.t 4),none⟩,⟨some 6,.bin .gtr (.t 5) (.c (.v (.int .i64 30))),none⟩,⟨some 2,.mv (.t 6),none⟩]) .ret))⟩
theorem a_longVar_ok : cFunc Try.prog 74 = some a_longVar := by kernel_rfl
def a_longEv : AFunc := ⟨1,7,[.tmp 2],(.seq (.region [⟨some 1,.box (.t 0),none⟩,⟨some 2,.mv (.c (.v (.bool false))),none⟩]) (.seq (.region [⟨some 3,.faddr 4 (.t 1),none⟩,⟨some 4,.load none (.t 3),none⟩,⟨some 5,.len (.t 4),none⟩,⟨some 6,.bin .gtr (.t 5) (.c (.v (.int .i64 12))),none⟩,⟨some 2,.mv (.t 6),none⟩]) .ret))⟩
theorem a_longEv_ok : cFunc Try.prog 76 = some a_longEv := by kernel_rfl

theorem cloneAsg_spec (rows : List (List IV)) (b l : List Row) (ht : rows.length ≤ 1000000) : ACalls Try.prog 84 [.v (.isl 2 rows)] b l (fun r b' l' => r = .v (.isl 2 rows) ∧ b' = b ∧ l' = l) := by
 refine calls_of a_cloneAsg_ok rfl ?_
 intro B hB hR _
 simp only [a_cloneAsg, ↓run_skip, ↓run_region, ↓run_draw, ↓run_both, ↓run_seq, ↓run_block, ↓run_exit, ↓run_ret, ↓run_cond, ↓atN_app, ↓seqC_normal, ↓seqC_exit, ↓seqC_ret, ↓seqQ_normal, ↓seqQ_exit, ↓seqQ_ret, ↓blkQ_normal, ↓blkQ_exit, ↓blkQ_ret, ↓runOps_nil, ↓runOps_cons, ↓runD_nil, ↓runD_cons, ↓grdO_true, ↓grdO_false, ↓grdD_true, ↓grdD_false, ↓ifC_true, ↓ifC_false, ↓opS_val, ↓opS_call, ↓opS_two, ↓opK_app, ↓dS_val, ↓dS_call, ↓dS_two, ↓dK_app, rechks_nil, rechks_cons, rechk, gcase_true, gcase_false, ex_val, ex_val0, gd_none, gd_some, nth_zero, nth_succ, upd_zero, upd_succ, put_some, put_none, ev_t, ev_c, evs_nil, evs_cons, evo_some, evo_none, hget_at, hget_first, hsetB_at, hsetB_first, hsetL_at, hsetL_first, ofOpt_some, aop, aload, astore, aslice, aappend, aiaddr, aiaddrA, afaddr, alen, alenS, acopy, amm, acall, alookup, amupdate, alenM, atostr, comma, keyEq, apick, binV, binVB, binVS, isSh, intOp, strOp, boolOp, shOp, eqC, eqF, and2, cellsOf, setFrom, fillA, fillS, rd, rdI, elems, mk, bounds, AV.cell, List.all_cons, List.all_nil, Bool.and_true, Bool.true_and, Bool.and_self, List.length_cons, List.length_nil, List.length_append, Nat.reduceAdd, Nat.reduceSub, Nat.reduceMul, Nat.zero_add, Nat.add_zero, List.replicate_succ, List.replicate_zero, List.cons_append, List.nil_append, List.append_assoc, List.append_nil, List.getElem?_cons_zero, List.getElem?_cons_succ, List.getElem?_nil, List.set_cons_zero, List.set_cons_succ, List.drop_zero, List.drop_succ_cons, List.take_zero, List.take_succ_cons, List.take_nil, List.drop_nil, List.map_cons, List.map_nil, Option.map_some, if_true, if_false, Bool.false_eq_true, and_self, true_and, and_true, Nat.reduceLeDiff, Nat.reduceLT, Nat.le_refl, Nat.reduceEqDiff, ite_true, ite_false, beq_self_eq_true, beq_true, beq_false, Bool.not_true, Bool.not_false, Bool.true_beq, Bool.false_beq]
 refine ⟨fun h => leave_zsl (.inr rfl) 2 rfl hR hB ⟨by rw [List.isEmpty_iff.1 h], rfl, rfl⟩, ?_⟩
 rw [if_pos (by simp only [List.length_map, room]; omega)]
 simp only [↓run_skip, ↓run_region, ↓run_draw, ↓run_both, ↓run_seq, ↓run_block, ↓run_exit, ↓run_ret, ↓run_cond, ↓atN_app, ↓seqC_normal, ↓seqC_exit, ↓seqC_ret, ↓seqQ_normal, ↓seqQ_exit, ↓seqQ_ret, ↓blkQ_normal, ↓blkQ_exit, ↓blkQ_ret, ↓runOps_nil, ↓runOps_cons, ↓runD_nil, ↓runD_cons, ↓grdO_true, ↓grdO_false, ↓grdD_true, ↓grdD_false, ↓ifC_true, ↓ifC_false, ↓opS_val, ↓opS_call, ↓opS_two, ↓opK_app, ↓dS_val, ↓dS_call, ↓dS_two, ↓dK_app, rechks_nil, rechks_cons, rechk, gcase_true, gcase_false, ex_val, ex_val0, gd_none, gd_some, nth_zero, nth_succ, upd_zero, upd_succ, put_some, put_none, ev_t, ev_c, evs_nil, evs_cons, evo_some, evo_none, hget_at, hget_first, hsetB_at, hsetB_first, hsetL_at, hsetL_first, ofOpt_some, aop, aload, astore, aslice, aappend, aiaddr, aiaddrA, afaddr, alen, alenS, acopy, amm, acall, alookup, amupdate, alenM, atostr, comma, keyEq, apick, binV, binVB, binVS, isSh, intOp, strOp, boolOp, shOp, eqC, eqF, and2, cellsOf, setFrom, fillA, fillS, rd, rdI, elems, mk, bounds, AV.cell, List.all_cons, List.all_nil, Bool.and_true, Bool.true_and, Bool.and_self, List.length_cons, List.length_nil, List.length_append, Nat.reduceAdd, Nat.reduceSub, Nat.reduceMul, Nat.zero_add, Nat.add_zero, List.replicate_succ, List.replicate_zero, List.cons_append, List.nil_append, List.append_assoc, List.append_nil, List.getElem?_cons_zero, List.getElem?_cons_succ, List.getElem?_nil, List.set_cons_zero, List.set_cons_succ, List.drop_zero, List.drop_succ_cons, List.take_zero, List.take_succ_cons, List.take_nil, List.drop_nil, List.map_cons, List.map_nil, Option.map_some, if_true, if_false, Bool.false_eq_true, and_self, true_and, and_true, Nat.reduceLeDiff, Nat.reduceLT, Nat.le_refl, Nat.reduceEqDiff, ite_true, ite_false, beq_self_eq_true, beq_true, beq_false, Bool.not_true, Bool.not_false, Bool.true_beq, Bool.false_beq]
 exact leave_frz (i := 0) (.inr rfl) rfl rfl (by simp) hR hB ⟨rfl, rfl, rfl⟩
theorem cloneVar_spec (rows : List (List IV)) (b l : List Row) (ht : rows.length ≤ 1000000) : ACalls Try.prog 147 [.v (.isl 2 rows)] b l (fun r b' l' => r = .v (.isl 2 rows) ∧ b' = b ∧ l' = l) := by
 refine calls_of a_cloneVar_ok rfl ?_
 intro B hB hR _
 simp only [a_cloneVar, ↓run_skip, ↓run_region, ↓run_draw, ↓run_both, ↓run_seq, ↓run_block, ↓run_exit, ↓run_ret, ↓run_cond, ↓atN_app, ↓seqC_normal, ↓seqC_exit, ↓seqC_ret, ↓seqQ_normal, ↓seqQ_exit, ↓seqQ_ret, ↓blkQ_normal, ↓blkQ_exit, ↓blkQ_ret, ↓runOps_nil, ↓runOps_cons, ↓runD_nil, ↓runD_cons, ↓grdO_true, ↓grdO_false, ↓grdD_true, ↓grdD_false, ↓ifC_true, ↓ifC_false, ↓opS_val, ↓opS_call, ↓opS_two, ↓opK_app, ↓dS_val, ↓dS_call, ↓dS_two, ↓dK_app, rechks_nil, rechks_cons, rechk, gcase_true, gcase_false, ex_val, ex_val0, gd_none, gd_some, nth_zero, nth_succ, upd_zero, upd_succ, put_some, put_none, ev_t, ev_c, evs_nil, evs_cons, evo_some, evo_none, hget_at, hget_first, hsetB_at, hsetB_first, hsetL_at, hsetL_first, ofOpt_some, aop, aload, astore, aslice, aappend, aiaddr, aiaddrA, afaddr, alen, alenS, acopy, amm, acall, alookup, amupdate, alenM, atostr, comma, keyEq, apick, binV, binVB, binVS, isSh, intOp, strOp, boolOp, shOp, eqC, eqF, and2, cellsOf, setFrom, fillA, fillS, rd, rdI, elems, mk, bounds, AV.cell, List.all_cons, List.all_nil, Bool.and_true, Bool.true_and, Bool.and_self, List.length_cons, List.length_nil, List.length_append, Nat.reduceAdd, Nat.reduceSub, Nat.reduceMul, Nat.zero_add, Nat.add_zero, List.replicate_succ, List.replicate_zero, List.cons_append, List.nil_append, List.append_assoc, List.append_nil, List.getElem?_cons_zero, List.getElem?_cons_succ, List.getElem?_nil, List.set_cons_zero, List.set_cons_succ, List.drop_zero, List.drop_succ_cons, List.take_zero, List.take_succ_cons, List.take_nil, List.drop_nil, List.map_cons, List.map_nil, Option.map_some, if_true, if_false, Bool.false_eq_true, and_self, true_and, and_true, Nat.reduceLeDiff, Nat.reduceLT, Nat.le_refl, Nat.reduceEqDiff, ite_true, ite_false, beq_self_eq_true, beq_true, beq_false, Bool.not_true, Bool.not_false, Bool.true_beq, Bool.false_beq]
 refine ⟨fun h => leave_zsl (.inr rfl) 2 rfl hR hB ⟨by rw [List.isEmpty_iff.1 h], rfl, rfl⟩, ?_⟩
 rw [if_pos (by simp only [List.length_map, room]; omega)]
 simp only [↓run_skip, ↓run_region, ↓run_draw, ↓run_both, ↓run_seq, ↓run_block, ↓run_exit, ↓run_ret, ↓run_cond, ↓atN_app, ↓seqC_normal, ↓seqC_exit, ↓seqC_ret, ↓seqQ_normal, ↓seqQ_exit, ↓seqQ_ret, ↓blkQ_normal, ↓blkQ_exit, ↓blkQ_ret, ↓runOps_nil, ↓runOps_cons, ↓runD_nil, ↓runD_cons, ↓grdO_true, ↓grdO_false, ↓grdD_true, ↓grdD_false, ↓ifC_true, ↓ifC_false, ↓opS_val, ↓opS_call, ↓opS_two, ↓opK_app, ↓dS_val, ↓dS_call, ↓dS_two, ↓dK_app, rechks_nil, rechks_cons, rechk, gcase_true, gcase_false, ex_val, ex_val0, gd_none, gd_some, nth_zero, nth_succ, upd_zero, upd_succ, put_some, put_none, ev_t, ev_c, evs_nil, evs_cons, evo_some, evo_none, hget_at, hget_first, hsetB_at, hsetB_first, hsetL_at, hsetL_first, ofOpt_some, aop, aload, astore, aslice, aappend, aiaddr, aiaddrA, afaddr, alen, alenS, acopy, amm, acall, alookup, amupdate, alenM, atostr, comma, keyEq, apick, binV, binVB, binVS, isSh, intOp, strOp, boolOp, shOp, eqC, eqF, and2, cellsOf, setFrom, fillA, fillS, rd, rdI, elems, mk, bounds, AV.cell, List.all_cons, List.all_nil, Bool.and_true, Bool.true_and, Bool.and_self, List.length_cons, List.length_nil, List.length_append, Nat.reduceAdd, Nat.reduceSub, Nat.reduceMul, Nat.zero_add, Nat.add_zero, List.replicate_succ, List.replicate_zero, List.cons_append, List.nil_append, List.append_assoc, List.append_nil, List.getElem?_cons_zero, List.getElem?_cons_succ, List.getElem?_nil, List.set_cons_zero, List.set_cons_succ, List.drop_zero, List.drop_succ_cons, List.take_zero, List.take_succ_cons, List.take_nil, List.drop_nil, List.map_cons, List.map_nil, Option.map_some, if_true, if_false, Bool.false_eq_true, and_self, true_and, and_true, Nat.reduceLeDiff, Nat.reduceLT, Nat.le_refl, Nat.reduceEqDiff, ite_true, ite_false, beq_self_eq_true, beq_true, beq_false, Bool.not_true, Bool.not_false, Bool.true_beq, Bool.false_beq]
 exact leave_frz (i := 0) (.inr rfl) rfl rfl (by simp) hR hB ⟨rfl, rfl, rfl⟩
theorem longVar_spec (v : Vr) (b l : List Row) : ACalls Try.prog 74 [.agg ((eVr v).map .v)] b l (fun r b' l' => r = .v (.bool (decide ((v.name.size : Int) > 30))) ∧ b' = b ∧ l' = l) := by
 refine calls_of a_longVar_ok rfl ?_
 intro B hB hR _
 simp only [a_longVar, eVr, ↓run_skip, ↓run_region, ↓run_draw, ↓run_both, ↓run_seq, ↓run_block, ↓run_exit, ↓run_ret, ↓run_cond, ↓atN_app, ↓seqC_normal, ↓seqC_exit, ↓seqC_ret, ↓seqQ_normal, ↓seqQ_exit, ↓seqQ_ret, ↓blkQ_normal, ↓blkQ_exit, ↓blkQ_ret, ↓runOps_nil, ↓runOps_cons, ↓runD_nil, ↓runD_cons, ↓grdO_true, ↓grdO_false, ↓grdD_true, ↓grdD_false, ↓ifC_true, ↓ifC_false, ↓opS_val, ↓opS_call, ↓opS_two, ↓opK_app, ↓dS_val, ↓dS_call, ↓dS_two, ↓dK_app, rechks_nil, rechks_cons, rechk, gcase_true, gcase_false, ex_val, ex_val0, gd_none, gd_some, nth_zero, nth_succ, upd_zero, upd_succ, put_some, put_none, ev_t, ev_c, evs_nil, evs_cons, evo_some, evo_none, hget_at, hget_first, hsetB_at, hsetB_first, hsetL_at, hsetL_first, ofOpt_some, aop, aload, astore, aslice, aappend, aiaddr, aiaddrA, afaddr, alen, alenS, acopy, amm, acall, alookup, amupdate, alenM, atostr, comma, keyEq, apick, binV, binVB, binVS, isSh, intOp, strOp, boolOp, shOp, eqC, eqF, and2, cellsOf, setFrom, fillA, fillS, rd, rdI, elems, mk, bounds, AV.cell, List.all_cons, List.all_nil, Bool.and_true, Bool.true_and, Bool.and_self, List.length_cons, List.length_nil, List.length_append, Nat.reduceAdd, Nat.reduceSub, Nat.reduceMul, Nat.zero_add, Nat.add_zero, List.replicate_succ, List.replicate_zero, List.cons_append, List.nil_append, List.append_assoc, List.append_nil, List.getElem?_cons_zero, List.getElem?_cons_succ, List.getElem?_nil, List.set_cons_zero, List.set_cons_succ, List.drop_zero, List.drop_succ_cons, List.take_zero, List.take_succ_cons, List.take_nil, List.drop_nil, List.map_cons, List.map_nil, Option.map_some, if_true, if_false, Bool.false_eq_true, and_self, true_and, and_true, Nat.reduceLeDiff, Nat.reduceLT, Nat.le_refl, Nat.reduceEqDiff, ite_true, ite_false, beq_self_eq_true, beq_true, beq_false, Bool.not_true, Bool.not_false, Bool.true_beq, Bool.false_beq]
 exact leave_pure (.inr rfl) rfl (.v _) hR hB ⟨rfl, rfl, rfl⟩
theorem longEv_spec (v : Ev) (b l : List Row) : ACalls Try.prog 76 [.agg ((eEv v).map .v)] b l (fun r b' l' => r = .v (.bool (decide ((v.asg.length : Int) > 12))) ∧ b' = b ∧ l' = l) := by
 refine calls_of a_longEv_ok rfl ?_
 intro B hB hR _
 simp only [a_longEv, eEv, ↓run_skip, ↓run_region, ↓run_draw, ↓run_both, ↓run_seq, ↓run_block, ↓run_exit, ↓run_ret, ↓run_cond, ↓atN_app, ↓seqC_normal, ↓seqC_exit, ↓seqC_ret, ↓seqQ_normal, ↓seqQ_exit, ↓seqQ_ret, ↓blkQ_normal, ↓blkQ_exit, ↓blkQ_ret, ↓runOps_nil, ↓runOps_cons, ↓runD_nil, ↓runD_cons, ↓grdO_true, ↓grdO_false, ↓grdD_true, ↓grdD_false, ↓ifC_true, ↓ifC_false, ↓opS_val, ↓opS_call, ↓opS_two, ↓opK_app, ↓dS_val, ↓dS_call, ↓dS_two, ↓dK_app, rechks_nil, rechks_cons, rechk, gcase_true, gcase_false, ex_val, ex_val0, gd_none, gd_some, nth_zero, nth_succ, upd_zero, upd_succ, put_some, put_none, ev_t, ev_c, evs_nil, evs_cons, evo_some, evo_none, hget_at, hget_first, hsetB_at, hsetB_first, hsetL_at, hsetL_first, ofOpt_some, aop, aload, astore, aslice, aappend, aiaddr, aiaddrA, afaddr, alen, alenS, acopy, amm, acall, alookup, amupdate, alenM, atostr, comma, keyEq, apick, binV, binVB, binVS, isSh, intOp, strOp, boolOp, shOp, eqC, eqF, and2, cellsOf, setFrom, fillA, fillS, rd, rdI, elems, mk, bounds, AV.cell, List.all_cons, List.all_nil, Bool.and_true, Bool.true_and, Bool.and_self, List.length_cons, List.length_nil, List.length_append, Nat.reduceAdd, Nat.reduceSub, Nat.reduceMul, Nat.zero_add, Nat.add_zero, List.replicate_succ, List.replicate_zero, List.cons_append, List.nil_append, List.append_assoc, List.append_nil, List.getElem?_cons_zero, List.getElem?_cons_succ, List.getElem?_nil, List.set_cons_zero, List.set_cons_succ, List.drop_zero, List.drop_succ_cons, List.take_zero, List.take_succ_cons, List.take_nil, List.drop_nil, List.map_cons, List.map_nil, Option.map_some, if_true, if_false, Bool.false_eq_true, and_self, true_and, and_true, Nat.reduceLeDiff, Nat.reduceLT, Nat.le_refl, Nat.reduceEqDiff, ite_true, ite_false, beq_self_eq_true, beq_true, beq_false, Bool.not_true, Bool.not_false, Bool.true_beq, Bool.false_beq]
 exact leave_pure (.inr rfl) rfl (.v _) hR hB ⟨by simp [nth, one], rfl, rfl⟩

def a_indexN (sz : Nat) : AFunc := ⟨2, 19, [.tmp 4],
 (.seq (.region [⟨(some 4), .mv (.c (.v (.int .i64 0))), none⟩])
 (.seq (.seq (.region [⟨(some 6), .mv (.t 0), none⟩, ⟨(some 7), .len (.t 6), none⟩, ⟨(some 8), .mv (.c (.v (.int .i64 0))), none⟩])
 (.block 0 (.loop (.seq (.region [⟨(some 9), .bin .lss (.t 8) (.t 7), none⟩])
 (.seq (.cond (.t 9) .skip
 (.exit 0))
 (.seq (.block 1 (.seq (.region [⟨(some 10), .mv (.t 8), none⟩, ⟨(some 5), .mv (.t 10), none⟩])
 (.seq (.region [⟨(some 11), .mv (.t 1), none⟩, ⟨(some 12), .mv (.t 0), none⟩, ⟨(some 13), .mv (.t 5), none⟩, ⟨(some 14), .iaddr sz (.t 12) (.t 13), none⟩, ⟨(some 15), .load (some sz) (.t 14), none⟩, ⟨(some 16), .call (.t 11) [(.t 15)], none⟩])
 (.cond (.t 16) (.seq (.region [⟨(some 17), .mv (.t 5), none⟩, ⟨(some 4), .mv (.t 17), none⟩])
 .ret)
 .skip))))
 (.region [⟨(some 18), .bin .add (.t 8) (.c (.v (.int .i64 1))), none⟩, ⟨(some 8), .mv (.t 18), none⟩])))))))
 (.seq (.region [⟨(some 4), .mv (.c (.v (.int .i64 (-1)))), none⟩])
 .ret)))⟩
def a_containsN (g : Nat) : AFunc := ⟨2, 9, [.tmp 4],
 (.seq (.region [⟨(some 4), .mv (.c (.v (.bool false))), none⟩])
 (.seq (.region [⟨(some 5), .mv (.t 0), none⟩, ⟨(some 6), .mv (.t 1), none⟩, ⟨(some 7), .call (.c (.fn g [])) [(.t 5), (.t 6)], none⟩, ⟨(some 8), .bin .geq (.t 7) (.c (.v (.int .i64 0))), none⟩, ⟨(some 4), .mv (.t 8), none⟩])
 .ret))⟩
theorem a_index5_ok : cFunc Try.prog 141 = some (a_indexN 5) := by kernel_rfl
theorem a_index2_ok : cFunc Try.prog 140 = some (a_indexN 2) := by kernel_rfl
theorem a_contains2_ok : cFunc Try.prog 73 = some (a_containsN 140) := by kernel_rfl
theorem a_contains5_ok : cFunc Try.prog 75 = some (a_containsN 141) := by kernel_rfl

def wIdx (p : Nat → Bool) (n : Nat) : Int := match (List.range n).find? p with
 | some i => i
 | none => -1
theorem wIdx_at {p : Nat → Bool} {n i : Nat} (h : i < n) (h0 : ∀ j, j < i → p j = false) (hi : p i = true) : wIdx p n = i := by
 have hf : (List.range n).find? p = some i := by
  rw [show n = i + (1 + (n - i - 1)) by omega, List.range_add, List.find?_append]
  have : (List.range i).find? p = none := by
   rw [List.find?_eq_none]; intro q hq; simp [h0 q (List.mem_range.1 hq)]
  rw [this, Nat.add_comm 1, List.range_succ_eq_map]
  simp [hi]
 unfold wIdx; rw [hf]
theorem wIdx_none {p : Nat → Bool} {n : Nat} (h0 : ∀ j, j < n → p j = false) : wIdx p n = -1 := by
 have : (List.range n).find? p = none := by
  rw [List.find?_eq_none]; intro q hq; simp [h0 q (List.mem_range.1 hq)]
 unfold wIdx; rw [this]
theorem index_spec {P : Program} {f sz : Nat} (hf : cFunc P f = some (a_indexN sz)) (rows : List (List IV)) (k : Nat) (caps : List AV) (p : Nat → Bool) (hlen : ∀ row ∈ rows, row.length = sz) (hn : rows.length ≤ 1000000) (b l : List Row)
  (hp : ∀ (i : Nat) (row : List IV), rows[i]? = some row → ACalls P k ([.agg (row.map .v)] ++ caps) (b ++ l) [] (fun r b' l' => r = .v (.bool (p i)) ∧ b' = b ++ l ∧ l' = [])) :
  ACalls P f [.v (.isl sz rows), .fn k caps] b l (fun r b' l' => r = .v (.int .i64 (wIdx p rows.length)) ∧ b' = b ∧ l' = l) := by
 refine calls_of hf rfl ?_
 intro B hB hR hA
 simp only [a_indexN, ↓run_skip, ↓run_region, ↓run_draw, ↓run_both, ↓run_seq, ↓run_block, ↓run_exit, ↓run_ret, ↓run_cond, ↓atN_app, ↓seqC_normal, ↓seqC_exit, ↓seqC_ret, ↓seqQ_normal, ↓seqQ_exit, ↓seqQ_ret, ↓blkQ_normal, ↓blkQ_exit, ↓blkQ_ret, ↓runOps_nil, ↓runOps_cons, ↓runD_nil, ↓runD_cons, ↓grdO_true, ↓grdO_false, ↓grdD_true, ↓grdD_false, ↓ifC_true, ↓ifC_false, ↓opS_val, ↓opS_call, ↓opS_two, ↓opK_app, ↓dS_val, ↓dS_call, ↓dS_two, ↓dK_app, rechks_nil, rechks_cons, rechk, gcase_true, gcase_false, ex_val, ex_val0, gd_none, gd_some, nth_zero, nth_succ, upd_zero, upd_succ, put_some, put_none, ev_t, ev_c, evs_nil, evs_cons, evo_some, evo_none, hget_at, hget_first, hsetB_at, hsetB_first, hsetL_at, hsetL_first, ofOpt_some, aop, aload, astore, aslice, aappend, aiaddr, aiaddrA, afaddr, alen, alenS, acopy, amm, acall, alookup, amupdate, alenM, atostr, comma, keyEq, apick, binV, binVB, binVS, isSh, intOp, strOp, boolOp, shOp, eqC, eqF, and2, cellsOf, setFrom, fillA, fillS, rd, rdI, elems, mk, bounds, AV.cell, List.all_cons, List.all_nil, Bool.and_true, Bool.true_and, Bool.and_self, List.length_cons, List.length_nil, List.length_append, Nat.reduceAdd, Nat.reduceSub, Nat.reduceMul, Nat.zero_add, Nat.add_zero, List.replicate_succ, List.replicate_zero, List.cons_append, List.nil_append, List.append_assoc, List.append_nil, List.getElem?_cons_zero, List.getElem?_cons_succ, List.getElem?_nil, List.set_cons_zero, List.set_cons_succ, List.drop_zero, List.drop_succ_cons, List.take_zero, List.take_succ_cons, List.take_nil, List.drop_nil, List.map_cons, List.map_nil, Option.map_some, if_true, if_false, Bool.false_eq_true, and_self, true_and, and_true, Nat.reduceLeDiff, Nat.reduceLT, Nat.le_refl, Nat.reduceEqDiff, ite_true, ite_false, beq_self_eq_true, beq_true, beq_false, Bool.not_true, Bool.not_false, Bool.true_beq, Bool.false_beq]
 refine loop_rule (ι := Nat) (fun i => [.v (.isl sz rows), .fn k caps, .any, .any, .any, .any, .any, .v (.int .i64 rows.length), .v (.int .i64 i), .any, .any, .any, .any, .any, .any, .any, .any, .any, .any])
  (fun _ => B) (fun _ => []) (fun i => i ≤ rows.length ∧ ∀ j, j < i → p j = false) (fun i => rows.length - i) 0 ⟨Nat.zero_le _, fun j hj => by omega⟩ (Weak.forget (by simp [Fgt])) ?_
 rintro i ⟨hi, h0⟩
 by_cases hlt : i < rows.length
 ·have hl := hlen rows[i] (List.getElem_mem hlt)
  have ht : List.take sz rows[i] = rows[i] := List.take_of_length_le oM
  simp (disch := omega) only [ht, ↓run_skip, ↓run_region, ↓run_draw, ↓run_both, ↓run_seq, ↓run_block, ↓run_exit, ↓run_ret, ↓run_cond, ↓atN_app, ↓seqC_normal, ↓seqC_exit, ↓seqC_ret, ↓seqQ_normal, ↓seqQ_exit, ↓seqQ_ret, ↓blkQ_normal, ↓blkQ_exit, ↓blkQ_ret, ↓runOps_nil, ↓runOps_cons, ↓runD_nil, ↓runD_cons, ↓grdO_true, ↓grdO_false, ↓grdD_true, ↓grdD_false, ↓ifC_true, ↓ifC_false, ↓opS_val, ↓opS_call, ↓opS_two, ↓opK_app, ↓dS_val, ↓dS_call, ↓dS_two, ↓dK_app, rechks_nil, rechks_cons, rechk, gcase_true, gcase_false, ex_val, ex_val0, gd_none, gd_some, nth_zero, nth_succ, upd_zero, upd_succ, put_some, put_none, ev_t, ev_c, evs_nil, evs_cons, evo_some, evo_none, hget_at, hget_first, hsetB_at, hsetB_first, hsetL_at, hsetL_first, ofOpt_some, aop, aload, astore, aslice, aappend, aiaddr, aiaddrA, afaddr, alen, alenS, acopy, amm, acall, alookup, amupdate, alenM, atostr, comma, keyEq, apick, binV, binVB, binVS, isSh, intOp, strOp, boolOp, shOp, eqC, eqF, and2, cellsOf, setFrom, fillA, fillS, rd, rdI, elems, mk, bounds, AV.cell, List.all_cons, List.all_nil, Bool.and_true, Bool.true_and, Bool.and_self, List.length_cons, List.length_nil, List.length_append, Nat.reduceAdd, Nat.reduceSub, Nat.reduceMul, Nat.zero_add, Nat.add_zero, List.replicate_succ, List.replicate_zero, List.cons_append, List.nil_append, List.append_assoc, List.append_nil, List.getElem?_cons_zero, List.getElem?_cons_succ, List.getElem?_nil, List.set_cons_zero, List.set_cons_succ, List.drop_zero, List.drop_succ_cons, List.take_zero, List.take_succ_cons, List.take_nil, List.drop_nil, List.map_cons, List.map_nil, Option.map_some, if_true, if_false, Bool.false_eq_true, and_self, true_and, and_true, Nat.reduceLeDiff, Nat.reduceLT, Nat.le_refl, Nat.reduceEqDiff, ite_true, ite_false, beq_self_eq_true, beq_true, beq_false, Bool.not_true, Bool.not_false, Bool.true_beq, Bool.false_beq, map_vs, vs_len, vs_get, vs_take, vs_drop, vs_snoc1, vs_snoc2, vs_snoc3, vs_snoc5, vs_set1, vs_set2, vs_rep, wrap_id, le_T, lt_T, le_F, lt_F, leI_T, ltI_T, leI_F, ltI_F, geI, gtI, get_T, decide_true, decide_false, room, List.getElem?_map, List.length_map, List.length_take, Int.toNat_natCast, Nat.min_def, Nat.min_self]
  refine ACalls_mono _ _ _ _ _ _ (hB ▸ hp i rows[i] (List.getElem?_eq_getElem hlt)) ?_
  rintro r b' l' ⟨rfl, rfl, rfl⟩
  simp (disch := omega) only [↓run_skip, ↓run_region, ↓run_draw, ↓run_both, ↓run_seq, ↓run_block, ↓run_exit, ↓run_ret, ↓run_cond, ↓atN_app, ↓seqC_normal, ↓seqC_exit, ↓seqC_ret, ↓seqQ_normal, ↓seqQ_exit, ↓seqQ_ret, ↓blkQ_normal, ↓blkQ_exit, ↓blkQ_ret, ↓runOps_nil, ↓runOps_cons, ↓runD_nil, ↓runD_cons, ↓grdO_true, ↓grdO_false, ↓grdD_true, ↓grdD_false, ↓ifC_true, ↓ifC_false, ↓opS_val, ↓opS_call, ↓opS_two, ↓opK_app, ↓dS_val, ↓dS_call, ↓dS_two, ↓dK_app, rechks_nil, rechks_cons, rechk, gcase_true, gcase_false, ex_val, ex_val0, gd_none, gd_some, nth_zero, nth_succ, upd_zero, upd_succ, put_some, put_none, ev_t, ev_c, evs_nil, evs_cons, evo_some, evo_none, hget_at, hget_first, hsetB_at, hsetB_first, hsetL_at, hsetL_first, ofOpt_some, aop, aload, astore, aslice, aappend, aiaddr, aiaddrA, afaddr, alen, alenS, acopy, amm, acall, alookup, amupdate, alenM, atostr, comma, keyEq, apick, binV, binVB, binVS, isSh, intOp, strOp, boolOp, shOp, eqC, eqF, and2, cellsOf, setFrom, fillA, fillS, rd, rdI, elems, mk, bounds, AV.cell, List.all_cons, List.all_nil, Bool.and_true, Bool.true_and, Bool.and_self, List.length_cons, List.length_nil, List.length_append, Nat.reduceAdd, Nat.reduceSub, Nat.reduceMul, Nat.zero_add, Nat.add_zero, List.replicate_succ, List.replicate_zero, List.cons_append, List.nil_append, List.append_assoc, List.append_nil, List.getElem?_cons_zero, List.getElem?_cons_succ, List.getElem?_nil, List.set_cons_zero, List.set_cons_succ, List.drop_zero, List.drop_succ_cons, List.take_zero, List.take_succ_cons, List.take_nil, List.drop_nil, List.map_cons, List.map_nil, Option.map_some, if_true, if_false, Bool.false_eq_true, and_self, true_and, and_true, Nat.reduceLeDiff, Nat.reduceLT, Nat.le_refl, Nat.reduceEqDiff, ite_true, ite_false, beq_self_eq_true, beq_true, beq_false, Bool.not_true, Bool.not_false, Bool.true_beq, Bool.false_beq, map_vs, vs_len, vs_get, vs_take, vs_drop, vs_snoc1, vs_snoc2, vs_snoc3, vs_snoc5, vs_set1, vs_set2, vs_rep, wrap_id, le_T, lt_T, le_F, lt_F, leI_T, ltI_T, leI_F, ltI_F, geI, gtI, get_T, decide_true, decide_false, room, List.getElem?_map, List.length_map, List.length_take, Int.toNat_natCast, Nat.min_def, Nat.min_self]
  refine ifC_split (fun h => ?_) (fun h => ?_)
  ·simp (disch := omega) only [↓run_skip, ↓run_region, ↓run_draw, ↓run_both, ↓run_seq, ↓run_block, ↓run_exit, ↓run_ret, ↓run_cond, ↓atN_app, ↓seqC_normal, ↓seqC_exit, ↓seqC_ret, ↓seqQ_normal, ↓seqQ_exit, ↓seqQ_ret, ↓blkQ_normal, ↓blkQ_exit, ↓blkQ_ret, ↓runOps_nil, ↓runOps_cons, ↓runD_nil, ↓runD_cons, ↓grdO_true, ↓grdO_false, ↓grdD_true, ↓grdD_false, ↓ifC_true, ↓ifC_false, ↓opS_val, ↓opS_call, ↓opS_two, ↓opK_app, ↓dS_val, ↓dS_call, ↓dS_two, ↓dK_app, rechks_nil, rechks_cons, rechk, gcase_true, gcase_false, ex_val, ex_val0, gd_none, gd_some, nth_zero, nth_succ, upd_zero, upd_succ, put_some, put_none, ev_t, ev_c, evs_nil, evs_cons, evo_some, evo_none, hget_at, hget_first, hsetB_at, hsetB_first, hsetL_at, hsetL_first, ofOpt_some, aop, aload, astore, aslice, aappend, aiaddr, aiaddrA, afaddr, alen, alenS, acopy, amm, acall, alookup, amupdate, alenM, atostr, comma, keyEq, apick, binV, binVB, binVS, isSh, intOp, strOp, boolOp, shOp, eqC, eqF, and2, cellsOf, setFrom, fillA, fillS, rd, rdI, elems, mk, bounds, AV.cell, List.all_cons, List.all_nil, Bool.and_true, Bool.true_and, Bool.and_self, List.length_cons, List.length_nil, List.length_append, Nat.reduceAdd, Nat.reduceSub, Nat.reduceMul, Nat.zero_add, Nat.add_zero, List.replicate_succ, List.replicate_zero, List.cons_append, List.nil_append, List.append_assoc, List.append_nil, List.getElem?_cons_zero, List.getElem?_cons_succ, List.getElem?_nil, List.set_cons_zero, List.set_cons_succ, List.drop_zero, List.drop_succ_cons, List.take_zero, List.take_succ_cons, List.take_nil, List.drop_nil, List.map_cons, List.map_nil, Option.map_some, if_true, if_false, Bool.false_eq_true, and_self, true_and, and_true, Nat.reduceLeDiff, Nat.reduceLT, Nat.le_refl, Nat.reduceEqDiff, ite_true, ite_false, beq_self_eq_true, beq_true, beq_false, Bool.not_true, Bool.not_false, Bool.true_beq, Bool.false_beq, map_vs, vs_len, vs_get, vs_take, vs_drop, vs_snoc1, vs_snoc2, vs_snoc3, vs_snoc5, vs_set1, vs_set2, vs_rep, wrap_id, le_T, lt_T, le_F, lt_F, leI_T, ltI_T, leI_F, ltI_F, geI, gtI, get_T, decide_true, decide_false, room, List.getElem?_map, List.length_map, List.length_take, Int.toNat_natCast, Nat.min_def, Nat.min_self]
   exact leave_pure (.inr rfl) rfl (.v _) hR hB ⟨by rw [wIdx_at hlt h0 h]; rfl, rfl, rfl⟩
  ·simp (disch := omega) only [↓run_skip, ↓run_region, ↓run_draw, ↓run_both, ↓run_seq, ↓run_block, ↓run_exit, ↓run_ret, ↓run_cond, ↓atN_app, ↓seqC_normal, ↓seqC_exit, ↓seqC_ret, ↓seqQ_normal, ↓seqQ_exit, ↓seqQ_ret, ↓blkQ_normal, ↓blkQ_exit, ↓blkQ_ret, ↓runOps_nil, ↓runOps_cons, ↓runD_nil, ↓runD_cons, ↓grdO_true, ↓grdO_false, ↓grdD_true, ↓grdD_false, ↓ifC_true, ↓ifC_false, ↓opS_val, ↓opS_call, ↓opS_two, ↓opK_app, ↓dS_val, ↓dS_call, ↓dS_two, ↓dK_app, rechks_nil, rechks_cons, rechk, gcase_true, gcase_false, ex_val, ex_val0, gd_none, gd_some, nth_zero, nth_succ, upd_zero, upd_succ, put_some, put_none, ev_t, ev_c, evs_nil, evs_cons, evo_some, evo_none, hget_at, hget_first, hsetB_at, hsetB_first, hsetL_at, hsetL_first, ofOpt_some, aop, aload, astore, aslice, aappend, aiaddr, aiaddrA, afaddr, alen, alenS, acopy, amm, acall, alookup, amupdate, alenM, atostr, comma, keyEq, apick, binV, binVB, binVS, isSh, intOp, strOp, boolOp, shOp, eqC, eqF, and2, cellsOf, setFrom, fillA, fillS, rd, rdI, elems, mk, bounds, AV.cell, List.all_cons, List.all_nil, Bool.and_true, Bool.true_and, Bool.and_self, List.length_cons, List.length_nil, List.length_append, Nat.reduceAdd, Nat.reduceSub, Nat.reduceMul, Nat.zero_add, Nat.add_zero, List.replicate_succ, List.replicate_zero, List.cons_append, List.nil_append, List.append_assoc, List.append_nil, List.getElem?_cons_zero, List.getElem?_cons_succ, List.getElem?_nil, List.set_cons_zero, List.set_cons_succ, List.drop_zero, List.drop_succ_cons, List.take_zero, List.take_succ_cons, List.take_nil, List.drop_nil, List.map_cons, List.map_nil, Option.map_some, if_true, if_false, Bool.false_eq_true, and_self, true_and, and_true, Nat.reduceLeDiff, Nat.reduceLT, Nat.le_refl, Nat.reduceEqDiff, ite_true, ite_false, beq_self_eq_true, beq_true, beq_false, Bool.not_true, Bool.not_false, Bool.true_beq, Bool.false_beq, map_vs, vs_len, vs_get, vs_take, vs_drop, vs_snoc1, vs_snoc2, vs_snoc3, vs_snoc5, vs_set1, vs_set2, vs_rep, wrap_id, le_T, lt_T, le_F, lt_F, leI_T, ltI_T, leI_F, ltI_F, geI, gtI, get_T, decide_true, decide_false, room, List.getElem?_map, List.length_map, List.length_take, Int.toNat_natCast, Nat.min_def, Nat.min_self]
   refine ⟨i + 1, ⟨hlt, fun j hj => ?_⟩, by simp only; omega, Weak.forget (by simp [Fgt])⟩
   rcases Nat.lt_or_ge j i with hji | hji
   ·exact h0 j hji
   ·have : j = i := by omega
    rw [this]; exact h
 ·simp (disch := omega) only [↓run_skip, ↓run_region, ↓run_draw, ↓run_both, ↓run_seq, ↓run_block, ↓run_exit, ↓run_ret, ↓run_cond, ↓atN_app, ↓seqC_normal, ↓seqC_exit, ↓seqC_ret, ↓seqQ_normal, ↓seqQ_exit, ↓seqQ_ret, ↓blkQ_normal, ↓blkQ_exit, ↓blkQ_ret, ↓runOps_nil, ↓runOps_cons, ↓runD_nil, ↓runD_cons, ↓grdO_true, ↓grdO_false, ↓grdD_true, ↓grdD_false, ↓ifC_true, ↓ifC_false, ↓opS_val, ↓opS_call, ↓opS_two, ↓opK_app, ↓dS_val, ↓dS_call, ↓dS_two, ↓dK_app, rechks_nil, rechks_cons, rechk, gcase_true, gcase_false, ex_val, ex_val0, gd_none, gd_some, nth_zero, nth_succ, upd_zero, upd_succ, put_some, put_none, ev_t, ev_c, evs_nil, evs_cons, evo_some, evo_none, hget_at, hget_first, hsetB_at, hsetB_first, hsetL_at, hsetL_first, ofOpt_some, aop, aload, astore, aslice, aappend, aiaddr, aiaddrA, afaddr, alen, alenS, acopy, amm, acall, alookup, amupdate, alenM, atostr, comma, keyEq, apick, binV, binVB, binVS, isSh, intOp, strOp, boolOp, shOp, eqC, eqF, and2, cellsOf, setFrom, fillA, fillS, rd, rdI, elems, mk, bounds, AV.cell, List.all_cons, List.all_nil, Bool.and_true, Bool.true_and, Bool.and_self, List.length_cons, List.length_nil, List.length_append, Nat.reduceAdd, Nat.reduceSub, Nat.reduceMul, Nat.zero_add, Nat.add_zero, List.replicate_succ, List.replicate_zero, List.cons_append, List.nil_append, List.append_assoc, List.append_nil, List.getElem?_cons_zero, List.getElem?_cons_succ, List.getElem?_nil, List.set_cons_zero, List.set_cons_succ, List.drop_zero, List.drop_succ_cons, List.take_zero, List.take_succ_cons, List.take_nil, List.drop_nil, List.map_cons, List.map_nil, Option.map_some, if_true, if_false, Bool.false_eq_true, and_self, true_and, and_true, Nat.reduceLeDiff, Nat.reduceLT, Nat.le_refl, Nat.reduceEqDiff, ite_true, ite_false, beq_self_eq_true, beq_true, beq_false, Bool.not_true, Bool.not_false, Bool.true_beq, Bool.false_beq, map_vs, vs_len, vs_get, vs_take, vs_drop, vs_snoc1, vs_snoc2, vs_snoc3, vs_snoc5, vs_set1, vs_set2, vs_rep, wrap_id, le_T, lt_T, le_F, lt_F, leI_T, ltI_T, leI_F, ltI_F, geI, gtI, get_T, decide_true, decide_false, room, List.getElem?_map, List.length_map, List.length_take, Int.toNat_natCast, Nat.min_def, Nat.min_self]
  obtain rfl : i = rows.length := by omega
  exact leave_pure (.inr rfl) rfl (.v _) hR hB ⟨by rw [wIdx_none h0]; rfl, rfl, rfl⟩

theorem wIdx_ge {p : Nat → Bool} {n : Nat} : decide (wIdx p n ≥ 0) = (List.range n).any p := by
 unfold wIdx
 cases h : (List.range n).find? p with
 | none =>
   have := List.find?_eq_none.1 h
   have hn : (List.range n).any p = false := by rw [List.any_eq_false]; exact this
   rw [hn]; rfl
 | some i =>
   have h1 := List.find?_some h
   have h2 := List.mem_of_find?_eq_some h
   have hn : (List.range n).any p = true := List.any_eq_true.2 ⟨i, h2, h1⟩
   rw [hn]; simp

theorem contains_spec {P : Program} {f g sz : Nat} (hf : cFunc P f = some (a_containsN g)) (hg : cFunc P g = some (a_indexN sz)) (rows : List (List IV)) (k : Nat) (caps : List AV) (p : Nat → Bool) (hlen : ∀ row ∈ rows, row.length = sz) (hn : rows.length ≤ 1000000) (b l : List Row)
  (hp : ∀ (i : Nat) (row : List IV), rows[i]? = some row → ACalls P k ([.agg (row.map .v)] ++ caps) (b ++ l) [] (fun r b' l' => r = .v (.bool (p i)) ∧ b' = b ++ l ∧ l' = [])) :
  ACalls P f [.v (.isl sz rows), .fn k caps] b l (fun r b' l' => r = .v (.bool ((List.range rows.length).any p)) ∧ b' = b ∧ l' = l) := by
 refine calls_of hf rfl ?_
 intro B hB hR hA
 simp only [a_containsN, ↓run_skip, ↓run_region, ↓run_draw, ↓run_both, ↓run_seq, ↓run_block, ↓run_exit, ↓run_ret, ↓run_cond, ↓atN_app, ↓seqC_normal, ↓seqC_exit, ↓seqC_ret, ↓seqQ_normal, ↓seqQ_exit, ↓seqQ_ret, ↓blkQ_normal, ↓blkQ_exit, ↓blkQ_ret, ↓runOps_nil, ↓runOps_cons, ↓runD_nil, ↓runD_cons, ↓grdO_true, ↓grdO_false, ↓grdD_true, ↓grdD_false, ↓ifC_true, ↓ifC_false, ↓opS_val, ↓opS_call, ↓opS_two, ↓opK_app, ↓dS_val, ↓dS_call, ↓dS_two, ↓dK_app, rechks_nil, rechks_cons, rechk, gcase_true, gcase_false, ex_val, ex_val0, gd_none, gd_some, nth_zero, nth_succ, upd_zero, upd_succ, put_some, put_none, ev_t, ev_c, evs_nil, evs_cons, evo_some, evo_none, hget_at, hget_first, hsetB_at, hsetB_first, hsetL_at, hsetL_first, ofOpt_some, aop, aload, astore, aslice, aappend, aiaddr, aiaddrA, afaddr, alen, alenS, acopy, amm, acall, alookup, amupdate, alenM, atostr, comma, keyEq, apick, binV, binVB, binVS, isSh, intOp, strOp, boolOp, shOp, eqC, eqF, and2, cellsOf, setFrom, fillA, fillS, rd, rdI, elems, mk, bounds, AV.cell, List.all_cons, List.all_nil, Bool.and_true, Bool.true_and, Bool.and_self, List.length_cons, List.length_nil, List.length_append, Nat.reduceAdd, Nat.reduceSub, Nat.reduceMul, Nat.zero_add, Nat.add_zero, List.replicate_succ, List.replicate_zero, List.cons_append, List.nil_append, List.append_assoc, List.append_nil, List.getElem?_cons_zero, List.getElem?_cons_succ, List.getElem?_nil, List.set_cons_zero, List.set_cons_succ, List.drop_zero, List.drop_succ_cons, List.take_zero, List.take_succ_cons, List.take_nil, List.drop_nil, List.map_cons, List.map_nil, Option.map_some, if_true, if_false, Bool.false_eq_true, and_self, true_and, and_true, Nat.reduceLeDiff, Nat.reduceLT, Nat.le_refl, Nat.reduceEqDiff, ite_true, ite_false, beq_self_eq_true, beq_true, beq_false, Bool.not_true, Bool.not_false, Bool.true_beq, Bool.false_beq]
 refine ACalls_mono _ _ _ _ _ _ (index_spec hg rows k caps p hlen hn B [] (by rw [List.append_nil, hB]; exact hp)) ?_
 rintro r b' l' ⟨rfl, rfl, rfl⟩
 simp only [↓run_skip, ↓run_region, ↓run_draw, ↓run_both, ↓run_seq, ↓run_block, ↓run_exit, ↓run_ret, ↓run_cond, ↓atN_app, ↓seqC_normal, ↓seqC_exit, ↓seqC_ret, ↓seqQ_normal, ↓seqQ_exit, ↓seqQ_ret, ↓blkQ_normal, ↓blkQ_exit, ↓blkQ_ret, ↓runOps_nil, ↓runOps_cons, ↓runD_nil, ↓runD_cons, ↓grdO_true, ↓grdO_false, ↓grdD_true, ↓grdD_false, ↓ifC_true, ↓ifC_false, ↓opS_val, ↓opS_call, ↓opS_two, ↓opK_app, ↓dS_val, ↓dS_call, ↓dS_two, ↓dK_app, rechks_nil, rechks_cons, rechk, gcase_true, gcase_false, ex_val, ex_val0, gd_none, gd_some, nth_zero, nth_succ, upd_zero, upd_succ, put_some, put_none, ev_t, ev_c, evs_nil, evs_cons, evo_some, evo_none, hget_at, hget_first, hsetB_at, hsetB_first, hsetL_at, hsetL_first, ofOpt_some, aop, aload, astore, aslice, aappend, aiaddr, aiaddrA, afaddr, alen, alenS, acopy, amm, acall, alookup, amupdate, alenM, atostr, comma, keyEq, apick, binV, binVB, binVS, isSh, intOp, strOp, boolOp, shOp, eqC, eqF, and2, cellsOf, setFrom, fillA, fillS, rd, rdI, elems, mk, bounds, AV.cell, List.all_cons, List.all_nil, Bool.and_true, Bool.true_and, Bool.and_self, List.length_cons, List.length_nil, List.length_append, Nat.reduceAdd, Nat.reduceSub, Nat.reduceMul, Nat.zero_add, Nat.add_zero, List.replicate_succ, List.replicate_zero, List.cons_append, List.nil_append, List.append_assoc, List.append_nil, List.getElem?_cons_zero, List.getElem?_cons_succ, List.getElem?_nil, List.set_cons_zero, List.set_cons_succ, List.drop_zero, List.drop_succ_cons, List.take_zero, List.take_succ_cons, List.take_nil, List.drop_nil, List.map_cons, List.map_nil, Option.map_some, if_true, if_false, Bool.false_eq_true, and_self, true_and, and_true, Nat.reduceLeDiff, Nat.reduceLT, Nat.le_refl, Nat.reduceEqDiff, ite_true, ite_false, beq_self_eq_true, beq_true, beq_false, Bool.not_true, Bool.not_false, Bool.true_beq, Bool.false_beq]
 exact leave_pure (.inr rfl) rfl (.v _) hR hB ⟨by rw [← wIdx_ge]; rfl, rfl, rfl⟩
end Go.Proofs.Ytanblnhnfkeffaa
namespace Go.Proofs.Ytanblnhnfkeffaa
set_option linter.unusedVariables false
set_option linter.unusedSimpArgs false
def a_first : AFunc := ⟨2,56,[.cell 4 (some 1)],(.seq (.region [⟨some 2,.box (.t 0),none⟩,⟨some 4,.alloc [(.v .zsl)],none⟩]) (.seq (.region [⟨some 5,.alloc [(.v .zsl)],none⟩]) (.seq (.seq (.region [⟨some 11,.faddr 0 (.t 2),none⟩,⟨some 12,.load none (.t 11),none⟩,⟨some 13,.len (.t 12),none⟩,⟨some 14,.mv (.c (.v (.int .i64 0))),none⟩]) (.block 0 (.loop (.seq (.region [⟨some 15,.bin .lss (.t 14) (.t 13),none⟩]) (.seq (.cond (.t 15) .skip (.exit 0)) (.seq (.block 1 (.seq (.region [⟨some 16,.mv (.t 14),none⟩,⟨some 17,.iaddr 3 (.t 12) (.t 14),none⟩,⟨some 18,.load (some 3) (.t 17),none⟩,⟨some 7,.alloc [(.v (.str ⟨#[]⟩)),(.v .zsl),(.v .zsl)],none⟩,⟨some 6,.mv (.t 16),none⟩,⟨none,.store 3 (.t 7) (.t 18),none⟩]) (.seq (.draw [⟨0,⟨some 19,.faddr 0 (.t 7),none⟩,[]⟩,⟨1,⟨some 20,.load none (.t 19),none⟩,[]⟩,⟨2,⟨some 21,.faddr 1 (.t 7),none⟩,[]⟩,⟨3,⟨some 22,.load none (.t 21),none⟩,[]⟩,⟨4,⟨some 23,.call (.c (.fn 147 [])) [(.t 22)],none⟩,[⟨some 19,.faddr 0 (.t 7),none⟩,⟨some 20,.load none (.t 19),none⟩]⟩,⟨5,⟨some 24,.build [(.v (.str ⟨#[]⟩)),(.v .zsl),(.v .zsl)] [(0,1,(.t 20)),(1,1,(.t 23))],none⟩,[]⟩,⟨6,⟨some 8,.alloc [(.v (.str ⟨#[]⟩)),(.v .zsl),(.v .zsl)],none⟩,[⟨some 19,.faddr 0 (.t 7),none⟩,⟨some 20,.load none (.t 19),none⟩,⟨some 21,.faddr 1 (.t 7),none⟩,⟨some 22,.load none (.t 21),none⟩,⟨some 24,.build [(.v (.str ⟨#[]⟩)),(.v .zsl),(.v .zsl)] [(0,1,(.t 20)),(1,1,(.t 23))],none⟩]⟩,⟨7,⟨none,.store 3 (.t 8) (.t 24),none⟩,[]⟩]) (.seq (.seq (.draw [⟨0,⟨some 25,.faddr 2 (.t 7),none⟩,[]⟩,⟨1,⟨some 26,.load none (.t 25),none⟩,[]⟩,⟨2,⟨some 27,.mv (.t 1),none⟩,[]⟩,⟨3,⟨some 28,.mv (.t 6),none⟩,[]⟩,⟨4,⟨some 29,.iaddr 1 (.t 27) (.t 28),none⟩,[]⟩,⟨5,⟨some 30,.load none (.t 29),none⟩,[]⟩,⟨6,⟨some 31,.slice 5 (.t 26) none (some (.t 30)),none⟩,[]⟩,⟨7,⟨some 32,.len (.t 31),none⟩,[]⟩,⟨8,⟨some 33,.mv (.c (.v (.int .i64 0))),none⟩,[]⟩]) (.block 2 (.loop (.seq (.region [⟨some 34,.bin .lss (.t 33) (.t 32),none⟩]) (.seq (.cond (.t 34) .skip (.exit 2)) (.seq (.block 3 (.seq (.region [⟨some 35,.iaddr 5 (.t 31) (.t 33),none⟩,⟨some 36,.load (some 5) (.t 35),none⟩,⟨some 10,.alloc [(.v (.int .i64 0)),(.v (.int .i64 0)),(.v (.int .i64 0)),(.v (.int .i64 0)),(.v .zsl)],none⟩,⟨none,.store 5 (.t 10) (.t 36),none⟩]) (.seq (.region [⟨some 37,.faddr 4 (.t 10),none⟩,⟨some 38,.load none (.t 37),none⟩,⟨some 39,.call (.c (.fn 84 [])) [(.t 38)],none⟩,⟨some 40,.faddr 4 (.t 10),none⟩,⟨none,.store 1 (.t 40) (.t 39),none⟩]) (.region [⟨some 41,.faddr 2 (.t 8),none⟩,⟨some 42,.load none (.t 41),none⟩,⟨some 43,.load (some 5) (.t 10),none⟩,⟨some 44,.bslice 5 [(.v (.int .i64 0)),(.v (.int .i64 0)),(.v (.int .i64 0)),(.v (.int .i64 0)),(.v .zsl)] 1 [(0,(.t 43))],none⟩,⟨some 45,.append 5 56 (.t 42) (.t 44),none⟩,⟨some 46,.faddr 2 (.t 8),none⟩,⟨none,.store 1 (.t 46) (.t 45),none⟩])))) (.region [⟨some 47,.bin .add (.t 33) (.c (.v (.int .i64 1))),none⟩,⟨some 33,.mv (.t 47),none⟩]))))))) (.region [⟨some 48,.faddr 0 (.t 5),none⟩,⟨some 49,.load none (.t 48),none⟩,⟨some 50,.load (some 3) (.t 8),none⟩,⟨some 51,.bslice 3 [(.v (.str ⟨#[]⟩)),(.v .zsl),(.v .zsl)] 1 [(0,(.t 50))],none⟩,⟨some 52,.append 3 64 (.t 49) (.t 51),none⟩,⟨some 53,.faddr 0 (.t 5),none⟩,⟨none,.store 1 (.t 53) (.t 52),none⟩]))))) (.region [⟨some 54,.bin .add (.t 14) (.c (.v (.int .i64 1))),none⟩,⟨some 14,.mv (.t 54),none⟩]))))))) (.seq (.region [⟨some 55,.load (some 1) (.t 5),none⟩,⟨none,.store 1 (.t 4) (.t 55),none⟩]) .ret))))⟩
theorem a_first_ok : cFunc Try.prog 81 = some a_first := by kernel_rfl

theorem Weak.roundFrz {e e' : List AV} {b l l1 : List Row} {i ver sz : Nat} {rows : List (List IV)} (hf : Fgt e e') (hi : l[i]? = some (.live ver sz (vs rows))) (he0 : e'.map (frz (b.length + i) ver sz rows) = e')
  (hl : List.take l1.length ((l.set i (.dead ver)).map (rowMap (frz0 (b.length + i) ver sz rows))) = l1) (he : ∀ x ∈ e', AVlt (b.length + l1.length) x) (hb : RowsLt b.length b) (h1 : RowsLt (b.length + l1.length) l1) : Weak e b l e' b l1 := by
 have hz := Weak.freezeAll (e := e') (b := b) hi
 rw [he0] at hz
 refine (Weak.forget hf).trans (hz.trans (Weak.trim (junk := List.drop l1.length ((l.set i (.dead ver)).map (rowMap (frz0 (b.length + i) ver sz rows)))) ?_ he (hb.mono oM) h1))
 have := List.take_append_drop l1.length ((l.set i (.dead ver)).map (rowMap (frz0 (b.length + i) ver sz rows)))
 rw [hl] at this
 exact this.symm
theorem vs_frz {id ver sz : Nat} {rows r : List (List IV)} : (vs r).map (List.map (frz0 id ver sz rows)) = vs r := by
 simp [vs, frz0, Function.comp_def]
theorem leave_frzA {rs : List ARes} {Q : AV → List Row → List Row → Prop} {B e l : _} {ex : AExit} (hex : ex = .normal ∨ ex = .ret) {i ver sz n : Nat} {rows : List (List IV)} (hx : resVs e B l rs = some [.agg [.sl (B.length + i) ver 0 n]]) (hi : l[i]? = some (.live ver sz (vs rows))) (hn : n = rows.length)
  (hR : RowsLt B.length B) {b0 l0 : List Row} (hB : B = b0 ++ l0) (hq : Q (.agg [.v (.isl sz rows)]) b0 l0) : Leaves rs Q b0.length ex e B l := by
 refine leave hex hx (y := .agg [.v (.isl sz rows)]) ((Weak.freeze (i := i) (rows := rows) hi).trans ?_) (l' := []) hB (by simpa using hq)
 have h1 : List.map (frz (B.length + i) ver sz rows) [one [.agg [AV.sl (B.length + i) ver 0 n]]] = [.agg [.v (.isl sz rows)]] := by
  simp only [List.map_cons, List.map_nil, one, frz, frz_here hn]
 rw [h1]
 exact Weak.trim (l1 := []) rfl (by intro x hx; simp at hx; subst hx; exact .agg _ (by intro c hc; simp at hc; subst hc; exact .v _)) (by simpa using hR) RowsLt_nil

def cutP (p : Pr) (n : Int) : Pr := ⟨p.name, p.vars, p.evs.take n.toNat⟩
def firstL (t : Tr) (c : List Int) : Tr := List.zipWith cutP t c
structure CutOk (t : Tr) (c : List Int) : Prop where
 len : c.length = t.length
 np : t.length ≤ 1000000
 nv : ∀ x ∈ t, x.vars.length ≤ 1000000
 ne : ∀ x ∈ t, x.evs.length ≤ 1000000
 na : ∀ x ∈ t, ∀ e ∈ x.evs, e.asg.length ≤ 1000000
 le : ∀ (k : Nat) (h : k < t.length) (h2 : k < c.length), 0 ≤ c[k] ∧ c[k] ≤ t[k].evs.length
set_option maxHeartbeats 1000000 in
theorem first_spec (t : Tr) (c : List Int) (hC : CutOk t c) (b l : List Row) : ACalls Try.prog 81 [.agg [.v (eT t)], .v (.isl 1 (c.map eI))] b l (fun r b' l' => r = .agg [.v (eT (firstL t c))] ∧ b' = b ∧ l' = l) := by
 refine calls_of a_first_ok rfl ?_
 intro B hB hR _
 have hnp := hC.np
 have hlen := hC.len
 have hfl : (firstL t c).length = t.length := by simp [firstL]; omega
 simp only [a_first, eT, ↓run_skip, ↓run_region, ↓run_draw, ↓run_both, ↓run_seq, ↓run_block, ↓run_exit, ↓run_ret, ↓run_cond, ↓atN_app, ↓seqC_normal, ↓seqC_exit, ↓seqC_ret, ↓seqQ_normal, ↓seqQ_exit, ↓seqQ_ret, ↓blkQ_normal, ↓blkQ_exit, ↓blkQ_ret, ↓runOps_nil, ↓runOps_cons, ↓runD_nil, ↓runD_cons, ↓grdO_true, ↓grdO_false, ↓grdD_true, ↓grdD_false, ↓ifC_true, ↓ifC_false, ↓opS_val, ↓opS_call, ↓opS_two, ↓opK_app, ↓dS_val, ↓dS_call, ↓dS_two, ↓dK_app, rechks_nil, rechks_cons, rechk, gcase_true, gcase_false, ex_val, ex_val0, gd_none, gd_some, nth_zero, nth_succ, upd_zero, upd_succ, put_some, put_none, ev_t, ev_c, evs_nil, evs_cons, evo_some, evo_none, hget_at, hget_first, hsetB_at, hsetB_first, hsetL_at, hsetL_first, ofOpt_some, aop, aload, astore, aslice, aappend, aiaddr, aiaddrA, afaddr, alen, alenS, acopy, amm, acall, alookup, amupdate, alenM, atostr, comma, keyEq, apick, binV, binVB, binVS, isSh, intOp, strOp, boolOp, shOp, eqC, eqF, and2, cellsOf, setFrom, fillA, fillS, rd, rdI, elems, mk, bounds, AV.cell, List.all_cons, List.all_nil, Bool.and_true, Bool.true_and, Bool.and_self, List.length_cons, List.length_nil, List.length_append, Nat.reduceAdd, Nat.reduceSub, Nat.reduceMul, Nat.zero_add, Nat.add_zero, List.replicate_succ, List.replicate_zero, List.cons_append, List.nil_append, List.append_assoc, List.append_nil, List.getElem?_cons_zero, List.getElem?_cons_succ, List.getElem?_nil, List.set_cons_zero, List.set_cons_succ, List.drop_zero, List.drop_succ_cons, List.take_zero, List.take_succ_cons, List.take_nil, List.drop_nil, List.map_cons, List.map_nil, Option.map_some, if_true, if_false, Bool.false_eq_true, and_self, true_and, and_true, Nat.reduceLeDiff, Nat.reduceLT, Nat.le_refl, Nat.reduceEqDiff, ite_true, ite_false, beq_self_eq_true, beq_true, beq_false, Bool.not_true, Bool.not_false, Bool.true_beq, Bool.false_beq]
 refine loop_rule (ι := Nat × Nat)
  (fun i => [.any, .v (.isl 1 (c.map eI)), .ptr B.length 0 0 0, .any, .ptr (B.length + 1) 0 0 0, .ptr (B.length + 2) 0 0 0, .any, .any, .any, .any, .any, .any, .v (.isl 3 (t.map ePr)), .v (.int .i64 t.length), .v (.int .i64 i.1)] ++ List.replicate 41 .any)
  (fun _ => B) (fun i => [.live 0 1 [[.v (.isl 3 (t.map ePr))]], .live 0 1 [[.v .zsl]], .live 0 1 [[.sl (B.length + 3) i.2 0 i.1]], .live i.2 3 (vs (((firstL t c).take i.1).map ePr))])
  (fun i => i.1 ≤ t.length) (fun i => t.length - i.1) (0, 0) (Nat.zero_le _) ?_ ?_
 ·refine Weak.trans (Weak.nilcell (i := 2) (k := 0) (j := 0) (sz := 3) rfl rfl rfl) ?_
  simp only [List.length_map, ↓run_skip, ↓run_region, ↓run_draw, ↓run_both, ↓run_seq, ↓run_block, ↓run_exit, ↓run_ret, ↓run_cond, ↓atN_app, ↓seqC_normal, ↓seqC_exit, ↓seqC_ret, ↓seqQ_normal, ↓seqQ_exit, ↓seqQ_ret, ↓blkQ_normal, ↓blkQ_exit, ↓blkQ_ret, ↓runOps_nil, ↓runOps_cons, ↓runD_nil, ↓runD_cons, ↓grdO_true, ↓grdO_false, ↓grdD_true, ↓grdD_false, ↓ifC_true, ↓ifC_false, ↓opS_val, ↓opS_call, ↓opS_two, ↓opK_app, ↓dS_val, ↓dS_call, ↓dS_two, ↓dK_app, rechks_nil, rechks_cons, rechk, gcase_true, gcase_false, ex_val, ex_val0, gd_none, gd_some, nth_zero, nth_succ, upd_zero, upd_succ, put_some, put_none, ev_t, ev_c, evs_nil, evs_cons, evo_some, evo_none, hget_at, hget_first, hsetB_at, hsetB_first, hsetL_at, hsetL_first, ofOpt_some, aop, aload, astore, aslice, aappend, aiaddr, aiaddrA, afaddr, alen, alenS, acopy, amm, acall, alookup, amupdate, alenM, atostr, comma, keyEq, apick, binV, binVB, binVS, isSh, intOp, strOp, boolOp, shOp, eqC, eqF, and2, cellsOf, setFrom, fillA, fillS, rd, rdI, elems, mk, bounds, AV.cell, List.all_cons, List.all_nil, Bool.and_true, Bool.true_and, Bool.and_self, List.length_cons, List.length_nil, List.length_append, Nat.reduceAdd, Nat.reduceSub, Nat.reduceMul, Nat.zero_add, Nat.add_zero, List.replicate_succ, List.replicate_zero, List.cons_append, List.nil_append, List.append_assoc, List.append_nil, List.getElem?_cons_zero, List.getElem?_cons_succ, List.getElem?_nil, List.set_cons_zero, List.set_cons_succ, List.drop_zero, List.drop_succ_cons, List.take_zero, List.take_succ_cons, List.take_nil, List.drop_nil, List.map_cons, List.map_nil, Option.map_some, if_true, if_false, Bool.false_eq_true, and_self, true_and, and_true, Nat.reduceLeDiff, Nat.reduceLT, Nat.le_refl, Nat.reduceEqDiff, ite_true, ite_false, beq_self_eq_true, beq_true, beq_false, Bool.not_true, Bool.not_false, Bool.true_beq, Bool.false_beq]
  exact Weak.forget (by simp [Fgt])
 ·rintro ⟨k, v⟩ hk
  dsimp only at hk ⊢
  simp only [List.replicate_succ, List.replicate_zero, List.cons_append, List.nil_append]
  by_cases hlt : k < t.length
  ·have hne := hC.ne t[k] (List.getElem_mem hlt)
   have hnv := hC.nv t[k] (List.getElem_mem hlt)
   have hck : k < c.length := by omega
   obtain ⟨hc0, hc1⟩ := hC.le k hlt hck
   simp (disch := omega) only [ePr, ↓run_skip, ↓run_region, ↓run_draw, ↓run_both, ↓run_seq, ↓run_block, ↓run_exit, ↓run_ret, ↓run_cond, ↓atN_app, ↓seqC_normal, ↓seqC_exit, ↓seqC_ret, ↓seqQ_normal, ↓seqQ_exit, ↓seqQ_ret, ↓blkQ_normal, ↓blkQ_exit, ↓blkQ_ret, ↓runOps_nil, ↓runOps_cons, ↓runD_nil, ↓runD_cons, ↓grdO_true, ↓grdO_false, ↓grdD_true, ↓grdD_false, ↓ifC_true, ↓ifC_false, ↓opS_val, ↓opS_call, ↓opS_two, ↓opK_app, ↓dS_val, ↓dS_call, ↓dS_two, ↓dK_app, rechks_nil, rechks_cons, rechk, gcase_true, gcase_false, ex_val, ex_val0, gd_none, gd_some, nth_zero, nth_succ, upd_zero, upd_succ, put_some, put_none, ev_t, ev_c, evs_nil, evs_cons, evo_some, evo_none, hget_at, hget_first, hsetB_at, hsetB_first, hsetL_at, hsetL_first, ofOpt_some, aop, aload, astore, aslice, aappend, aiaddr, aiaddrA, afaddr, alen, alenS, acopy, amm, acall, alookup, amupdate, alenM, atostr, comma, keyEq, apick, binV, binVB, binVS, isSh, intOp, strOp, boolOp, shOp, eqC, eqF, and2, cellsOf, setFrom, fillA, fillS, rd, rdI, elems, mk, bounds, AV.cell, List.all_cons, List.all_nil, Bool.and_true, Bool.true_and, Bool.and_self, List.length_cons, List.length_nil, List.length_append, Nat.reduceAdd, Nat.reduceSub, Nat.reduceMul, Nat.zero_add, Nat.add_zero, List.replicate_succ, List.replicate_zero, List.cons_append, List.nil_append, List.append_assoc, List.append_nil, List.getElem?_cons_zero, List.getElem?_cons_succ, List.getElem?_nil, List.set_cons_zero, List.set_cons_succ, List.drop_zero, List.drop_succ_cons, List.take_zero, List.take_succ_cons, List.take_nil, List.drop_nil, List.map_cons, List.map_nil, Option.map_some, if_true, if_false, Bool.false_eq_true, and_self, true_and, and_true, Nat.reduceLeDiff, Nat.reduceLT, Nat.le_refl, Nat.reduceEqDiff, ite_true, ite_false, beq_self_eq_true, beq_true, beq_false, Bool.not_true, Bool.not_false, Bool.true_beq, Bool.false_beq, map_vs, vs_len, vs_get, vs_take, vs_drop, vs_snoc1, vs_snoc2, vs_snoc3, vs_snoc5, vs_set1, vs_set2, vs_rep, wrap_id, le_T, lt_T, le_F, lt_F, leI_T, ltI_T, leI_F, ltI_F, geI, gtI, get_T, decide_true, decide_false, room, List.getElem?_map, List.length_map, List.length_take, Int.toNat_natCast, Nat.min_def, Nat.min_self]
   refine ACalls_mono _ _ _ _ _ _ (cloneVar_spec (t[k].vars.map eVr) _ _ (by simp; omega)) ?_
   rintro r b' l' ⟨rfl, rfl, rfl⟩
   simp (disch := omega) only [eI, ↓run_skip, ↓run_region, ↓run_draw, ↓run_both, ↓run_seq, ↓run_block, ↓run_exit, ↓run_ret, ↓run_cond, ↓atN_app, ↓seqC_normal, ↓seqC_exit, ↓seqC_ret, ↓seqQ_normal, ↓seqQ_exit, ↓seqQ_ret, ↓blkQ_normal, ↓blkQ_exit, ↓blkQ_ret, ↓runOps_nil, ↓runOps_cons, ↓runD_nil, ↓runD_cons, ↓grdO_true, ↓grdO_false, ↓grdD_true, ↓grdD_false, ↓ifC_true, ↓ifC_false, ↓opS_val, ↓opS_call, ↓opS_two, ↓opK_app, ↓dS_val, ↓dS_call, ↓dS_two, ↓dK_app, rechks_nil, rechks_cons, rechk, gcase_true, gcase_false, ex_val, ex_val0, gd_none, gd_some, nth_zero, nth_succ, upd_zero, upd_succ, put_some, put_none, ev_t, ev_c, evs_nil, evs_cons, evo_some, evo_none, hget_at, hget_first, hsetB_at, hsetB_first, hsetL_at, hsetL_first, ofOpt_some, aop, aload, astore, aslice, aappend, aiaddr, aiaddrA, afaddr, alen, alenS, acopy, amm, acall, alookup, amupdate, alenM, atostr, comma, keyEq, apick, binV, binVB, binVS, isSh, intOp, strOp, boolOp, shOp, eqC, eqF, and2, cellsOf, setFrom, fillA, fillS, rd, rdI, elems, mk, bounds, AV.cell, List.all_cons, List.all_nil, Bool.and_true, Bool.true_and, Bool.and_self, List.length_cons, List.length_nil, List.length_append, Nat.reduceAdd, Nat.reduceSub, Nat.reduceMul, Nat.zero_add, Nat.add_zero, List.replicate_succ, List.replicate_zero, List.cons_append, List.nil_append, List.append_assoc, List.append_nil, List.getElem?_cons_zero, List.getElem?_cons_succ, List.getElem?_nil, List.set_cons_zero, List.set_cons_succ, List.drop_zero, List.drop_succ_cons, List.take_zero, List.take_succ_cons, List.take_nil, List.drop_nil, List.map_cons, List.map_nil, Option.map_some, if_true, if_false, Bool.false_eq_true, and_self, true_and, and_true, Nat.reduceLeDiff, Nat.reduceLT, Nat.le_refl, Nat.reduceEqDiff, ite_true, ite_false, beq_self_eq_true, beq_true, beq_false, Bool.not_true, Bool.not_false, Bool.true_beq, Bool.false_beq, map_vs, vs_len, vs_get, vs_take, vs_drop, vs_snoc1, vs_snoc2, vs_snoc3, vs_snoc5, vs_set1, vs_set2, vs_rep, wrap_id, le_T, lt_T, le_F, lt_F, leI_T, ltI_T, leI_F, ltI_F, geI, gtI, get_T, decide_true, decide_false, room, List.getElem?_map, List.length_map, List.length_take, Int.toNat_natCast, Nat.min_def, Nat.min_self]
   obtain ⟨ys, hys⟩ : ∃ ys, t[k].evs.take c[k].toNat = ys := ⟨_, rfl⟩
   have hyl : c[k].toNat = ys.length := by rw [← hys]; simp; omega
   have hy1 : ys.length ≤ 1000000 := by omega
   have hya : ∀ e ∈ ys, e.asg.length ≤ 1000000 := fun e he => hC.na t[k] (List.getElem_mem hlt) e (List.mem_of_mem_take (hys ▸ he))
   rw [← List.map_take, hys, hyl]
   refine loop_rule (ι := Nat × Nat)
    (fun i => [.any, .v (.isl 1 (c.map eI)), .ptr b'.length 0 0 0, .any, .ptr (b'.length + 1) 0 0 0, .ptr (b'.length + 2) 0 0 0, .any, .any, .ptr (b'.length + 5) 0 0 0, .any, .any, .any, .v (.isl 3 (t.map ePr)), .v (.int .i64 t.length), .v (.int .i64 k)] ++ (List.replicate 16 .any ++ ([.v (.isl 5 (ys.map eEv)), .v (.int .i64 ys.length), .v (.int .i64 i.1)] ++ List.replicate 22 .any)))
    (fun _ => b') (fun i => [.live 0 1 [[.v (.isl 3 (t.map ePr))]], .live 0 1 [[.v .zsl]], .live 0 1 [[.sl (b'.length + 3) v 0 k]], .live v 3 (vs (((firstL t c).take k).map ePr)),
     .live 0 3 [[.v (.str t[k].name), .v (.isl 2 (t[k].vars.map eVr)), .v (.isl 5 (t[k].evs.map eEv))]], .live 0 3 [[.v (.str t[k].name), .v (.isl 2 (t[k].vars.map eVr)), .sl (b'.length + 6) i.2 0 i.1]], .live i.2 5 (vs ((ys.take i.1).map eEv))])
    (fun i => i.1 ≤ ys.length) (fun i => ys.length - i.1) (0, 0) (Nat.zero_le _) ?_ ?_
   ·refine Weak.trans (Weak.nilcell (i := 5) (k := 0) (j := 2) (sz := 5) rfl rfl rfl) ?_
    simp only [List.length_map, ↓run_skip, ↓run_region, ↓run_draw, ↓run_both, ↓run_seq, ↓run_block, ↓run_exit, ↓run_ret, ↓run_cond, ↓atN_app, ↓seqC_normal, ↓seqC_exit, ↓seqC_ret, ↓seqQ_normal, ↓seqQ_exit, ↓seqQ_ret, ↓blkQ_normal, ↓blkQ_exit, ↓blkQ_ret, ↓runOps_nil, ↓runOps_cons, ↓runD_nil, ↓runD_cons, ↓grdO_true, ↓grdO_false, ↓grdD_true, ↓grdD_false, ↓ifC_true, ↓ifC_false, ↓opS_val, ↓opS_call, ↓opS_two, ↓opK_app, ↓dS_val, ↓dS_call, ↓dS_two, ↓dK_app, rechks_nil, rechks_cons, rechk, gcase_true, gcase_false, ex_val, ex_val0, gd_none, gd_some, nth_zero, nth_succ, upd_zero, upd_succ, put_some, put_none, ev_t, ev_c, evs_nil, evs_cons, evo_some, evo_none, hget_at, hget_first, hsetB_at, hsetB_first, hsetL_at, hsetL_first, ofOpt_some, aop, aload, astore, aslice, aappend, aiaddr, aiaddrA, afaddr, alen, alenS, acopy, amm, acall, alookup, amupdate, alenM, atostr, comma, keyEq, apick, binV, binVB, binVS, isSh, intOp, strOp, boolOp, shOp, eqC, eqF, and2, cellsOf, setFrom, fillA, fillS, rd, rdI, elems, mk, bounds, AV.cell, List.all_cons, List.all_nil, Bool.and_true, Bool.true_and, Bool.and_self, List.length_cons, List.length_nil, List.length_append, Nat.reduceAdd, Nat.reduceSub, Nat.reduceMul, Nat.zero_add, Nat.add_zero, List.replicate_succ, List.replicate_zero, List.cons_append, List.nil_append, List.append_assoc, List.append_nil, List.getElem?_cons_zero, List.getElem?_cons_succ, List.getElem?_nil, List.set_cons_zero, List.set_cons_succ, List.drop_zero, List.drop_succ_cons, List.take_zero, List.take_succ_cons, List.take_nil, List.drop_nil, List.map_cons, List.map_nil, Option.map_some, if_true, if_false, Bool.false_eq_true, and_self, true_and, and_true, Nat.reduceLeDiff, Nat.reduceLT, Nat.le_refl, Nat.reduceEqDiff, ite_true, ite_false, beq_self_eq_true, beq_true, beq_false, Bool.not_true, Bool.not_false, Bool.true_beq, Bool.false_beq]
    exact Weak.forget (by simp [Fgt])
   ·rintro ⟨j, u⟩ hj
    dsimp only at hj ⊢
    simp only [List.replicate_succ, List.replicate_zero, List.cons_append, List.nil_append]
    by_cases hjt : j < ys.length
    ·have hja := hya ys[j] (List.getElem_mem hjt)
     have hel : min j ys.length = j := by omega
     simp (disch := omega) only [hel, eEv, ↓run_skip, ↓run_region, ↓run_draw, ↓run_both, ↓run_seq, ↓run_block, ↓run_exit, ↓run_ret, ↓run_cond, ↓atN_app, ↓seqC_normal, ↓seqC_exit, ↓seqC_ret, ↓seqQ_normal, ↓seqQ_exit, ↓seqQ_ret, ↓blkQ_normal, ↓blkQ_exit, ↓blkQ_ret, ↓runOps_nil, ↓runOps_cons, ↓runD_nil, ↓runD_cons, ↓grdO_true, ↓grdO_false, ↓grdD_true, ↓grdD_false, ↓ifC_true, ↓ifC_false, ↓opS_val, ↓opS_call, ↓opS_two, ↓opK_app, ↓dS_val, ↓dS_call, ↓dS_two, ↓dK_app, rechks_nil, rechks_cons, rechk, gcase_true, gcase_false, ex_val, ex_val0, gd_none, gd_some, nth_zero, nth_succ, upd_zero, upd_succ, put_some, put_none, ev_t, ev_c, evs_nil, evs_cons, evo_some, evo_none, hget_at, hget_first, hsetB_at, hsetB_first, hsetL_at, hsetL_first, ofOpt_some, aop, aload, astore, aslice, aappend, aiaddr, aiaddrA, afaddr, alen, alenS, acopy, amm, acall, alookup, amupdate, alenM, atostr, comma, keyEq, apick, binV, binVB, binVS, isSh, intOp, strOp, boolOp, shOp, eqC, eqF, and2, cellsOf, setFrom, fillA, fillS, rd, rdI, elems, mk, bounds, AV.cell, List.all_cons, List.all_nil, Bool.and_true, Bool.true_and, Bool.and_self, List.length_cons, List.length_nil, List.length_append, Nat.reduceAdd, Nat.reduceSub, Nat.reduceMul, Nat.zero_add, Nat.add_zero, List.replicate_succ, List.replicate_zero, List.cons_append, List.nil_append, List.append_assoc, List.append_nil, List.getElem?_cons_zero, List.getElem?_cons_succ, List.getElem?_nil, List.set_cons_zero, List.set_cons_succ, List.drop_zero, List.drop_succ_cons, List.take_zero, List.take_succ_cons, List.take_nil, List.drop_nil, List.map_cons, List.map_nil, Option.map_some, if_true, if_false, Bool.false_eq_true, and_self, true_and, and_true, Nat.reduceLeDiff, Nat.reduceLT, Nat.le_refl, Nat.reduceEqDiff, ite_true, ite_false, beq_self_eq_true, beq_true, beq_false, Bool.not_true, Bool.not_false, Bool.true_beq, Bool.false_beq, map_vs, vs_len, vs_get, vs_take, vs_drop, vs_snoc1, vs_snoc2, vs_snoc3, vs_snoc5, vs_set1, vs_set2, vs_rep, wrap_id, le_T, lt_T, le_F, lt_F, leI_T, ltI_T, leI_F, ltI_F, geI, gtI, get_T, decide_true, decide_false, room, List.getElem?_map, List.length_map, List.length_take, Int.toNat_natCast, Nat.min_def, Nat.min_self]
     refine ACalls_mono _ _ _ _ _ _ (cloneAsg_spec (ys[j].asg.map eAsg) _ _ (by simp; omega)) ?_
     rintro r b' l' ⟨rfl, rfl, rfl⟩
     simp (disch := omega) only [hel, ↓run_skip, ↓run_region, ↓run_draw, ↓run_both, ↓run_seq, ↓run_block, ↓run_exit, ↓run_ret, ↓run_cond, ↓atN_app, ↓seqC_normal, ↓seqC_exit, ↓seqC_ret, ↓seqQ_normal, ↓seqQ_exit, ↓seqQ_ret, ↓blkQ_normal, ↓blkQ_exit, ↓blkQ_ret, ↓runOps_nil, ↓runOps_cons, ↓runD_nil, ↓runD_cons, ↓grdO_true, ↓grdO_false, ↓grdD_true, ↓grdD_false, ↓ifC_true, ↓ifC_false, ↓opS_val, ↓opS_call, ↓opS_two, ↓opK_app, ↓dS_val, ↓dS_call, ↓dS_two, ↓dK_app, rechks_nil, rechks_cons, rechk, gcase_true, gcase_false, ex_val, ex_val0, gd_none, gd_some, nth_zero, nth_succ, upd_zero, upd_succ, put_some, put_none, ev_t, ev_c, evs_nil, evs_cons, evo_some, evo_none, hget_at, hget_first, hsetB_at, hsetB_first, hsetL_at, hsetL_first, ofOpt_some, aop, aload, astore, aslice, aappend, aiaddr, aiaddrA, afaddr, alen, alenS, acopy, amm, acall, alookup, amupdate, alenM, atostr, comma, keyEq, apick, binV, binVB, binVS, isSh, intOp, strOp, boolOp, shOp, eqC, eqF, and2, cellsOf, setFrom, fillA, fillS, rd, rdI, elems, mk, bounds, AV.cell, List.all_cons, List.all_nil, Bool.and_true, Bool.true_and, Bool.and_self, List.length_cons, List.length_nil, List.length_append, Nat.reduceAdd, Nat.reduceSub, Nat.reduceMul, Nat.zero_add, Nat.add_zero, List.replicate_succ, List.replicate_zero, List.cons_append, List.nil_append, List.append_assoc, List.append_nil, List.getElem?_cons_zero, List.getElem?_cons_succ, List.getElem?_nil, List.set_cons_zero, List.set_cons_succ, List.drop_zero, List.drop_succ_cons, List.take_zero, List.take_succ_cons, List.take_nil, List.drop_nil, List.map_cons, List.map_nil, Option.map_some, if_true, if_false, Bool.false_eq_true, and_self, true_and, and_true, Nat.reduceLeDiff, Nat.reduceLT, Nat.le_refl, Nat.reduceEqDiff, ite_true, ite_false, beq_self_eq_true, beq_true, beq_false, Bool.not_true, Bool.not_false, Bool.true_beq, Bool.false_beq, map_vs, vs_len, vs_get, vs_take, vs_drop, vs_snoc1, vs_snoc2, vs_snoc3, vs_snoc5, vs_set1, vs_set2, vs_rep, wrap_id, le_T, lt_T, le_F, lt_F, leI_T, ltI_T, leI_F, ltI_F, geI, gtI, get_T, decide_true, decide_false, room, List.getElem?_map, List.length_map, List.length_take, Int.toNat_natCast, Nat.min_def, Nat.min_self]
     refine ⟨(j + 1, u + 1), hjt, by simp only; omega, ?_⟩
     have hr2 : List.take j (List.map eEv (List.take j ys)) = (ys.take j).map eEv := List.take_of_length_le (by simp; omega)
     have hr3 := mapw_snoc (f := eEv) hjt
     simp only [eEv] at hr3
     rw [hr2]
     simp only [eEv]
     rw [hr3]
     exact Weak.round (by simp [Fgt]) rfl kL hR kL
    ·simp (disch := omega) only [↓run_skip, ↓run_region, ↓run_draw, ↓run_both, ↓run_seq, ↓run_block, ↓run_exit, ↓run_ret, ↓run_cond, ↓atN_app, ↓seqC_normal, ↓seqC_exit, ↓seqC_ret, ↓seqQ_normal, ↓seqQ_exit, ↓seqQ_ret, ↓blkQ_normal, ↓blkQ_exit, ↓blkQ_ret, ↓runOps_nil, ↓runOps_cons, ↓runD_nil, ↓runD_cons, ↓grdO_true, ↓grdO_false, ↓grdD_true, ↓grdD_false, ↓ifC_true, ↓ifC_false, ↓opS_val, ↓opS_call, ↓opS_two, ↓opK_app, ↓dS_val, ↓dS_call, ↓dS_two, ↓dK_app, rechks_nil, rechks_cons, rechk, gcase_true, gcase_false, ex_val, ex_val0, gd_none, gd_some, nth_zero, nth_succ, upd_zero, upd_succ, put_some, put_none, ev_t, ev_c, evs_nil, evs_cons, evo_some, evo_none, hget_at, hget_first, hsetB_at, hsetB_first, hsetL_at, hsetL_first, ofOpt_some, aop, aload, astore, aslice, aappend, aiaddr, aiaddrA, afaddr, alen, alenS, acopy, amm, acall, alookup, amupdate, alenM, atostr, comma, keyEq, apick, binV, binVB, binVS, isSh, intOp, strOp, boolOp, shOp, eqC, eqF, and2, cellsOf, setFrom, fillA, fillS, rd, rdI, elems, mk, bounds, AV.cell, List.all_cons, List.all_nil, Bool.and_true, Bool.true_and, Bool.and_self, List.length_cons, List.length_nil, List.length_append, Nat.reduceAdd, Nat.reduceSub, Nat.reduceMul, Nat.zero_add, Nat.add_zero, List.replicate_succ, List.replicate_zero, List.cons_append, List.nil_append, List.append_assoc, List.append_nil, List.getElem?_cons_zero, List.getElem?_cons_succ, List.getElem?_nil, List.set_cons_zero, List.set_cons_succ, List.drop_zero, List.drop_succ_cons, List.take_zero, List.take_succ_cons, List.take_nil, List.drop_nil, List.map_cons, List.map_nil, Option.map_some, if_true, if_false, Bool.false_eq_true, and_self, true_and, and_true, Nat.reduceLeDiff, Nat.reduceLT, Nat.le_refl, Nat.reduceEqDiff, ite_true, ite_false, beq_self_eq_true, beq_true, beq_false, Bool.not_true, Bool.not_false, Bool.true_beq, Bool.false_beq, map_vs, vs_len, vs_get, vs_take, vs_drop, vs_snoc1, vs_snoc2, vs_snoc3, vs_snoc5, vs_set1, vs_set2, vs_rep, wrap_id, le_T, lt_T, le_F, lt_F, leI_T, ltI_T, leI_F, ltI_F, geI, gtI, get_T, decide_true, decide_false, room, List.getElem?_map, List.length_map, List.length_take, Int.toNat_natCast, Nat.min_def, Nat.min_self]
     obtain rfl : j = ys.length := by omega
     have hF : (firstL t c)[k] = ⟨t[k].name, t[k].vars, ys⟩ := by simp [firstL, cutP, hys]
     have hr2 : List.take k (List.map ePr (List.take k (firstL t c))) = ((firstL t c).take k).map ePr := List.take_of_length_le (by simp; omega)
     have hr3 := mapw_snoc (f := ePr) (l := firstL t c) (k := k) oM
     rw [hF] at hr3
     simp only [ePr] at hr3
     refine ⟨(k + 1, v + 1), hlt, by simp only; omega, ?_⟩
     rw [hr2, List.take_of_length_le (Nat.le_refl ys.length)]
     refine Weak.roundFrz (i := 6) (ver := u) (sz := 5) (rows := ys.map eEv) (by simp [Fgt]) rfl (by simp [frz, frz0]) ?_ kL hR kL
     simp only [List.set_cons_succ, List.set_cons_zero, List.map_cons, List.map_nil, rowMap, List.map_append, vs_frz, List.length_cons, List.length_nil, Nat.reduceAdd, List.take_succ_cons, List.take_zero]
     have hh : frz0 (b'.length + 6) u 5 (ys.map eEv) (.sl (b'.length + 6) u 0 ys.length) = .v (.isl 5 (ys.map eEv)) := frz_here (by simp)
     have hn3 : frz0 (b'.length + 6) u 5 (ys.map eEv) (.sl (b'.length + 3) (v + 1) 0 (k + 1)) = .sl (b'.length + 3) (v + 1) 0 (k + 1) := by simp [frz0]
     rw [hh, hn3]
     simp only [frz0, vs_snoc3, hr3]
  ·simp (disch := omega) only [↓run_skip, ↓run_region, ↓run_draw, ↓run_both, ↓run_seq, ↓run_block, ↓run_exit, ↓run_ret, ↓run_cond, ↓atN_app, ↓seqC_normal, ↓seqC_exit, ↓seqC_ret, ↓seqQ_normal, ↓seqQ_exit, ↓seqQ_ret, ↓blkQ_normal, ↓blkQ_exit, ↓blkQ_ret, ↓runOps_nil, ↓runOps_cons, ↓runD_nil, ↓runD_cons, ↓grdO_true, ↓grdO_false, ↓grdD_true, ↓grdD_false, ↓ifC_true, ↓ifC_false, ↓opS_val, ↓opS_call, ↓opS_two, ↓opK_app, ↓dS_val, ↓dS_call, ↓dS_two, ↓dK_app, rechks_nil, rechks_cons, rechk, gcase_true, gcase_false, ex_val, ex_val0, gd_none, gd_some, nth_zero, nth_succ, upd_zero, upd_succ, put_some, put_none, ev_t, ev_c, evs_nil, evs_cons, evo_some, evo_none, hget_at, hget_first, hsetB_at, hsetB_first, hsetL_at, hsetL_first, ofOpt_some, aop, aload, astore, aslice, aappend, aiaddr, aiaddrA, afaddr, alen, alenS, acopy, amm, acall, alookup, amupdate, alenM, atostr, comma, keyEq, apick, binV, binVB, binVS, isSh, intOp, strOp, boolOp, shOp, eqC, eqF, and2, cellsOf, setFrom, fillA, fillS, rd, rdI, elems, mk, bounds, AV.cell, List.all_cons, List.all_nil, Bool.and_true, Bool.true_and, Bool.and_self, List.length_cons, List.length_nil, List.length_append, Nat.reduceAdd, Nat.reduceSub, Nat.reduceMul, Nat.zero_add, Nat.add_zero, List.replicate_succ, List.replicate_zero, List.cons_append, List.nil_append, List.append_assoc, List.append_nil, List.getElem?_cons_zero, List.getElem?_cons_succ, List.getElem?_nil, List.set_cons_zero, List.set_cons_succ, List.drop_zero, List.drop_succ_cons, List.take_zero, List.take_succ_cons, List.take_nil, List.drop_nil, List.map_cons, List.map_nil, Option.map_some, if_true, if_false, Bool.false_eq_true, and_self, true_and, and_true, Nat.reduceLeDiff, Nat.reduceLT, Nat.le_refl, Nat.reduceEqDiff, ite_true, ite_false, beq_self_eq_true, beq_true, beq_false, Bool.not_true, Bool.not_false, Bool.true_beq, Bool.false_beq, map_vs, vs_len, vs_get, vs_take, vs_drop, vs_snoc1, vs_snoc2, vs_snoc3, vs_snoc5, vs_set1, vs_set2, vs_rep, wrap_id, le_T, lt_T, le_F, lt_F, leI_T, ltI_T, leI_F, ltI_F, geI, gtI, get_T, decide_true, decide_false, room, List.getElem?_map, List.length_map, List.length_take, Int.toNat_natCast, Nat.min_def, Nat.min_self]
   obtain rfl : k = t.length := by omega
   refine leave_frzA (i := 3) (n := t.length) (.inr rfl) (by simp (disch := omega) only [resVs, resV, ↓run_skip, ↓run_region, ↓run_draw, ↓run_both, ↓run_seq, ↓run_block, ↓run_exit, ↓run_ret, ↓run_cond, ↓atN_app, ↓seqC_normal, ↓seqC_exit, ↓seqC_ret, ↓seqQ_normal, ↓seqQ_exit, ↓seqQ_ret, ↓blkQ_normal, ↓blkQ_exit, ↓blkQ_ret, ↓runOps_nil, ↓runOps_cons, ↓runD_nil, ↓runD_cons, ↓grdO_true, ↓grdO_false, ↓grdD_true, ↓grdD_false, ↓ifC_true, ↓ifC_false, ↓opS_val, ↓opS_call, ↓opS_two, ↓opK_app, ↓dS_val, ↓dS_call, ↓dS_two, ↓dK_app, rechks_nil, rechks_cons, rechk, gcase_true, gcase_false, ex_val, ex_val0, gd_none, gd_some, nth_zero, nth_succ, upd_zero, upd_succ, put_some, put_none, ev_t, ev_c, evs_nil, evs_cons, evo_some, evo_none, hget_at, hget_first, hsetB_at, hsetB_first, hsetL_at, hsetL_first, ofOpt_some, aop, aload, astore, aslice, aappend, aiaddr, aiaddrA, afaddr, alen, alenS, acopy, amm, acall, alookup, amupdate, alenM, atostr, comma, keyEq, apick, binV, binVB, binVS, isSh, intOp, strOp, boolOp, shOp, eqC, eqF, and2, cellsOf, setFrom, fillA, fillS, rd, rdI, elems, mk, bounds, AV.cell, List.all_cons, List.all_nil, Bool.and_true, Bool.true_and, Bool.and_self, List.length_cons, List.length_nil, List.length_append, Nat.reduceAdd, Nat.reduceSub, Nat.reduceMul, Nat.zero_add, Nat.add_zero, List.replicate_succ, List.replicate_zero, List.cons_append, List.nil_append, List.append_assoc, List.append_nil, List.getElem?_cons_zero, List.getElem?_cons_succ, List.getElem?_nil, List.set_cons_zero, List.set_cons_succ, List.drop_zero, List.drop_succ_cons, List.take_zero, List.take_succ_cons, List.take_nil, List.drop_nil, List.map_cons, List.map_nil, Option.map_some, if_true, if_false, Bool.false_eq_true, and_self, true_and, and_true, Nat.reduceLeDiff, Nat.reduceLT, Nat.le_refl, Nat.reduceEqDiff, ite_true, ite_false, beq_self_eq_true, beq_true, beq_false, Bool.not_true, Bool.not_false, Bool.true_beq, Bool.false_beq, map_vs, vs_len, vs_get, vs_take, vs_drop, vs_snoc1, vs_snoc2, vs_snoc3, vs_snoc5, vs_set1, vs_set2, vs_rep, wrap_id, le_T, lt_T, le_F, lt_F, leI_T, ltI_T, leI_F, ltI_F, geI, gtI, get_T, decide_true, decide_false, room, List.getElem?_map, List.length_map, List.length_take, Int.toNat_natCast, Nat.min_def, Nat.min_self]) rfl (by simp [hfl]) hR hB ⟨?_, rfl, rfl⟩
   rw [List.take_of_length_le oM]
end Go.Proofs.Ytanblnhnfkeffaa
namespace Go.Proofs.Ytanblnhnfkeffaa
open Go.RowKit
set_option linter.unusedVariables false
attribute [local go_sem] Oper.semAt_some

def RInt (w : World) (b o : Nat) (x : Int) : Prop := w.cell? ⟨b, o, none⟩ = some (.int .i64 x)
theorem RInt.keeps : Keeps RInt := fun _ _ _ _ _ he h => he.cellAt h
def cAt (cs : List Int) (p : Nat) : Int := cs.getD p 0
def rangeB (t : Tr) (cs : List Int) (p : Nat) : Bool := inB (cAt cs p) 0 (evsOf t p).length
def badL (t : Tr) (cs : List Int) (x : Nat × Nat) : Bool :=
 (evAt t x).kind == 3 && (!decide ((x.2 : Int) > cAt cs x.1) && decide (((firstOf t (ids t) 2 (evAt t x).msg).2 : Int) > cAt cs (firstOf t (ids t) 2 (evAt t x).msg).1))
noncomputable def prefC (t : Tr) (cs : List Int) : Nat :=
 if validL t = false ∨ cs.length ≠ t.length then 1 else if (List.range cs.length).all (rangeB t cs) = false then 2 else if (ids t).any (badL t cs) = true then 18 else 0
def PfPost (t : Tr) (cs : List Int) (F : Nat → Prop) (w : World) (e : Ending) (w' : World) : Prop := Ext w w' ∧
 ∃ v, e = .returned (.tuple #[v, .int .i64 (prefC t cs)]) ∧
  ((prefC t cs ≠ 0 ∧ ∃ s, v = .agg #[.slice s 0 0]) ∨ (prefC t cs = 0 ∧ ∃ F' : Nat → Prop, (∀ b, F b → F' b) ∧ (∀ b, b < w.heap.size → F' b → F b) ∧ (∀ b, F' b → b < w'.heap.size) ∧ RepA w' F' (fun _ _ => none) (.agg [.v (eT (firstL t cs))]) v))

theorem repL_cons' {w : World} {F : Nat → Prop} {L : LMap} {x : AV} {xs : List AV} {vs : List Value} (h : RepL w F L (x :: xs) vs) : ∃ v us, vs = v :: us ∧ RepA w F L x v ∧ RepL w F L xs us := by
 obtain ⟨h1, h2⟩ := h
 cases vs with
 | nil => simp at h1
 | cons v us => exact ⟨v, us, rfl, h2 0 x v rfl rfl, by simpa using h1, fun i a u ha hu => h2 (i + 1) a u ha hu⟩
theorem repL_nil' {w : World} {F : Nat → Prop} {L : LMap} {vs : List Value} (h : RepL w F L [] vs) : vs = [] := by
 have := h.1
 exact List.eq_nil_of_length_eq_zero (by simpa using this.symm)
structure ValidOk (t : Tr) : Prop where
 lo : 1 ≤ t.length
 hi : t.length ≤ 8
 head : ∀ p, p < t.length → headF t p = 0
 form : ∀ x ∈ ids t, formF t x = 0
 pair : ∀ x ∈ ids t, pairF t x = 0
 acyc : ∀ x ∈ ids t, ¬ Hb t x x
theorem valid_ok {t : Tr} (h : validL t = true) : ValidOk t := by
 unfold validL faultL at h
 split at h
 ·simp at h
 rename_i hl
 split at h
 ·rename_i p hp
  have := List.find?_some hp
  simp at h this; exact absurd h this
 rename_i h1
 split at h
 ·rename_i p hp
  have := List.find?_some hp
  simp at h this; exact absurd h this
 rename_i h2
 split at h
 ·rename_i p hp
  have := List.find?_some hp
  simp at h this; exact absurd h this
 rename_i h3
 split at h
 ·simp at h
 rename_i h4
 rw [List.find?_eq_none] at h1 h2 h3 h4
 refine ⟨by omega, by omega, fun p hp => ?_, fun x hx => ?_, fun x hx => ?_, fun x hx => ?_⟩
 ·simpa using h1 p (List.mem_range.2 hp)
 ·simpa using h2 x hx
 ·simpa using h3 x hx
 ·simpa using h4 x hx
theorem valid_form {t : Tr} (h : validL t = true) : ∀ x ∈ ids t, formedB t.length x.1 (evAt t x) = true := fun x hx => formF_formed ((valid_ok h).form x hx)
theorem valid_pairs {t : Tr} (h : validL t = true) : (ids t).find? (fun x => pairF t x != 0) = none := by
 rw [List.find?_eq_none]; intro x hx; simp [(valid_ok h).pair x hx]

theorem first_mem (t : Tr) (cs : List Int) (hC : CutOk t cs) (F : Nat → Prop) (w : World) (hF : ∀ b, F b → b < w.heap.size) {u uc : Value} (hu : RepI w F (eT t) u) (huc : RepI w F (.isl 1 (cs.map eI)) uc) :
  Calls Try.prog 81 #[.agg #[u], uc] w fun e w' => ∃ v F1, e = .returned (.agg #[v]) ∧ Ext w w' ∧ (∀ b, F b → F1 b) ∧ (∀ b, b < w.heap.size → F1 b → F b) ∧ (∀ b, F1 b → b < w'.heap.size) ∧ RepA w' F1 (fun _ _ => none) (.agg [.v (eT (firstL t cs))]) (.agg #[v]) ∧ ∃ A n c, v = .slice A n c := by
 refine Calls.mono ((first_spec t cs hC [] []).2 F (fun _ _ => none) w _ (sim_nil hF) (RepL.cons (RepL.agg (vs := #[u]) (RepL.cons (.v _ _ hu) RepL.nil)) (RepL.cons (.v _ _ huc) RepL.nil))) ?_
 rintro en w' ⟨v, x, b', l', F', L', rfl, h2, h3, h4, h5, rfl, rfl, rfl⟩
 obtain ⟨vs, rfl, hl⟩ := h2.aggL
 obtain ⟨v, us, h6, h7, h8⟩ := repL_cons' hl
 have := repL_nil' h8
 subst this
 have hvs : vs = #[v] := Array.toList_inj.1 (by rw [h6])
 subst hvs
 refine ⟨v, F', rfl, step_nil_block h4, h4.imm, fun b hb hf => (h4.fnew b hb hf).elim id (fun ho => ?_), fun b hb => (h3.imm b hb).1, h2.cut (m := 0) (.agg _ (by intro c hc; simp at hc; subst hc; exact .v _)) (fun _ _ h => absurd h (Nat.not_lt_zero _)), ?_⟩
 case refine_2 =>
  obtain ⟨A, c, hv, _⟩ := repI_isl h7.vI
  exact ⟨A, _, c, hv⟩
 obtain ⟨i, v, s, e1, q, g1, g2, g3⟩ := ho
 cases g2
def PfI (t : Tr) (cs : List Int) (W0 : World) (l : List (Nat × Nat)) (W : World) : Prop := Ext W0 W ∧ ∀ x ∈ l, badL t cs x = false
def CellsAt (b : Nat) (p : Array Value → Prop) (W : World) : Prop := ∃ T c, BoxN W b T c ∧ p c
theorem cellsAt_from {β : Type} (b n : Nat) (p : Array Value → Prop) : OwnFrom n (fun (_ : β) W => CellsAt b p W) := by
 rintro s X Y row ⟨T, c, h, hp⟩ hg hrow
 exact ⟨T, c, h.kept hg (fun e' => by obtain ⟨_, o, ho, hc⟩ := hrow b e'.symm; rw [show X.heap[b]? = _ from h] at ho; cases ho; cases hc), hp⟩
def PfX (t : Tr) (cs : List Int) (w : World) (l : List (Nat × Nat)) (W : World) : Prop :=
 (∃ x, x ∈ l ∧ badL t cs x = true) ∧ CellsAt (w.heap.size + 1 + 1) (fun c => ∃ s, c[0]? = some (.slice s 0 0)) W ∧ CellsAt (w.heap.size + 1 + 1 + 1) (fun c => c[0]? = some (.int .i64 18)) W ∧ Ext w W
theorem pfi_from (t : Tr) (cs : List Int) (W0 : World) {n : Nat} (hn : W0.heap.size ≤ n) : OwnFrom n (fun (pre : List (Idt t)) W => PfI t cs W0 (pre.map (·.1)) W) :=
 OwnFrom.and (ext_from hn) (ownFrom_pure _ _)
theorem pfx_from (t : Tr) (cs : List Int) (w : World) {n : Nat} (hn : w.heap.size ≤ n) : OwnFrom n (fun (pre : List (Idt t)) W => PfX t cs w (pre.map (·.1)) W) :=
 OwnFrom.and (ownFrom_pure _ _) (OwnFrom.and (cellsAt_from _ _ _) (OwnFrom.and (cellsAt_from _ _ _) (ext_from hn)))

set_option maxRecDepth 100000 in
set_option maxHeartbeats 4000000 in
theorem Prefix_any (u uc : Value) (t : Tr) (cs : List Int) (F : Nat → Prop) (w : World) (hS : Small t) (hc : cs.length ≤ 1000000) (hN : Nm t) (hF : ∀ b, F b → b < w.heap.size) (hu : RepI w F (eT t) u) (huc : RepI w F (.isl 1 (cs.map eI)) uc) :
  Calls Try.prog 16 #[.agg #[u], uc] w fun e w' => PfPost t cs F w e w' := by
 have hs : SlR 3 RPr w u t := tr_in hN hu
 have hsc : SlR 1 RInt w uc cs := slr_of_rep (fun b o x _ h => rowInt (j := 0) h rfl) huc
 have HV := hide (fun w' (he : Ext w w') => callsIn_wide (n := 8).2 (Valid_any u t w' hS.sm (hs.ext RPr.keeps he)))
 have HI := hide (fun x lo hi w => callsIn_wide (n := 8).2 (in_any x lo hi w))
 have HU := hide hu
 have HUC := hide huc
 refine callsIn_wide (n := 9).1 ?_
 refine callsIn_of_wp_marks Try.func16 rfl trivial ?_ rfl
 simp only [Try.ntmps16, List.size_toArray, List.length_cons, List.length_nil, Nat.reduceAdd, Nat.reduceSub, Array.replicate_succ, Array.replicate_zero, List.push_toArray, List.append_toArray, List.nil_append, List.cons_append]
 obtain ⟨A, c, rfl, _, hcm, _⟩ := hs.at_
 obtain ⟨A2, c2, rfl, _, hcm2, _⟩ := hsc.at_
 gi_wp2_with fail
 refine ⟨trivial, ?_⟩
 have hx1 : Ext w (((((w).alloc (.cells #[.slice A t.length c] 24)).alloc (.cells #[.slice A2 cs.length c2] 28)).alloc (.cells #[.slice none 0 0] 24)).alloc (.cells #[.int .i64 0] 29)) := ((((Ext.refl w).alloc _).alloc _).alloc _).alloc _
 have bT : BoxN (((((w).alloc (.cells #[.slice A t.length c] 24)).alloc (.cells #[.slice A2 cs.length c2] 28)).alloc (.cells #[.slice none 0 0] 24)).alloc (.cells #[.int .i64 0] 29)) (w.heap.size) 24 #[.slice A t.length c] := (((BoxN.new _ _ _).alloc _).alloc _).alloc _
 have bC : BoxN (((((w).alloc (.cells #[.slice A t.length c] 24)).alloc (.cells #[.slice A2 cs.length c2] 28)).alloc (.cells #[.slice none 0 0] 24)).alloc (.cells #[.int .i64 0] 29)) (w.heap.size + 1) 28 #[.slice A2 cs.length c2] := ((BoxN.newAt _ _ (by simp)).alloc _).alloc _
 have b3 : BoxN (((((w).alloc (.cells #[.slice A t.length c] 24)).alloc (.cells #[.slice A2 cs.length c2] 28)).alloc (.cells #[.slice none 0 0] 24)).alloc (.cells #[.int .i64 0] 29)) (w.heap.size + 1 + 1) 24 #[.slice none 0 0] := (BoxN.newAt _ _ (by simp)).alloc _
 have b4 : BoxN (((((w).alloc (.cells #[.slice A t.length c] 24)).alloc (.cells #[.slice A2 cs.length c2] 28)).alloc (.cells #[.slice none 0 0] 24)).alloc (.cells #[.int .i64 0] 29)) (w.heap.size + 1 + 1 + 1) 29 #[.int .i64 0] := BoxN.newAt _ _ (by simp)
 generalize ((((w).alloc (.cells #[.slice A t.length c] 24)).alloc (.cells #[.slice A2 cs.length c2] 28)).alloc (.cells #[.slice none 0 0] 24)).alloc (.cells #[.int .i64 0] 29) = W1 at *
 refine (HV.out _ hx1).mono ?_
 rintro e w2 ⟨rfl, he2⟩
 replace hx1 := hx1.trans he2
 replace b3 := b3.ext he2
 replace b4 := b4.ext he2
 replace bT := bT.ext he2
 replace bC := bC.ext he2
 clear he2
 have f3 := b3.frozen 0
 have f4 := b4.frozen 0
 have r3 : w2.cell? ⟨w.heap.size + 1 + 1, 0, none⟩ = some (.slice none 0 0) := b3.cell (j := 0) rfl
 have r4 : w2.cell? ⟨w.heap.size + 1 + 1 + 1, 0, none⟩ = some (.int .i64 0) := b4.cell (j := 0) rfl
 have t0 : w2.cell? ⟨w.heap.size, 0, none⟩ = some (.slice A t.length c) := bT.cell (j := 0) rfl
 have tc : w2.cell? ⟨w.heap.size + 1, 0, none⟩ = some (.slice A2 cs.length c2) := bC.cell (j := 0) rfl
 have FIN : ∀ (wr : World) (k : Nat), Ext w wr → BoxN wr (w.heap.size + 1 + 1) 24 #[.slice none 0 0] → BoxN wr (w.heap.size + 1 + 1 + 1) 29 #[.int .i64 k] → k ≠ 0 → prefC t cs = k → PfPost t cs F w (.returned (.tuple #[.agg #[.slice none 0 0], .int .i64 k])) wr := by
  intro wr k h1 _ _ h2 h3
  exact ⟨h1, _, by rw [h3], .inl ⟨by rw [h3]; exact h2, _, rfl⟩⟩
 cases hv : validL t
 ·have HC := hide (show prefC t cs = 1 by unfold prefC; rw [if_pos (.inl hv)])
  clear hv
  gi_wp2_with fail
  obtain ⟨Wr, hWr⟩ : ∃ Wr, (w2.setCell ⟨w.heap.size + 1 + 1, 0, none⟩ (Value.slice none 0 0)).setCell ⟨w.heap.size + 1 + 1 + 1, 0, none⟩ (Value.int .i64 1) = Wr := ⟨_, rfl⟩
  rw [hWr]
  have s1 : BoxN Wr (w.heap.size + 1 + 1) 24 #[.slice none 0 0] := by rw [← hWr]; exact kW1
  have s2 : BoxN Wr (w.heap.size + 1 + 1 + 1) 29 #[.int .i64 1] := by rw [← hWr]; exact kW1
  have sx : Ext w Wr := by rw [← hWr]; exact kW1
  clear hWr
  exact ⟨.tuple #[.agg #[.slice none 0 0], .int .i64 1], by simp [results, Try.f16, go_sem, s1.cell (j := 0) rfl, s2.cell (j := 0) rfl], FIN Wr 1 sx s1 s2 (by decide) HC.out⟩
 ·have HVL := hide hv
  clear hv
  by_cases hlen : cs.length = t.length
  case neg =>
   have hd : ((cs.length : Int) != (t.length : Int)) = true := by simp; omega
   have HC := hide (show prefC t cs = 1 by unfold prefC; rw [if_pos (.inr hlen)])
   clear hlen
   gi_wp2_with fail
   obtain ⟨Wr, hWr⟩ : ∃ Wr, (w2.setCell ⟨w.heap.size + 1 + 1, 0, none⟩ (Value.slice none 0 0)).setCell ⟨w.heap.size + 1 + 1 + 1, 0, none⟩ (Value.int .i64 1) = Wr := ⟨_, rfl⟩
   rw [hWr]
   have s1 : BoxN Wr (w.heap.size + 1 + 1) 24 #[.slice none 0 0] := by rw [← hWr]; exact kW1
   have s2 : BoxN Wr (w.heap.size + 1 + 1 + 1) 29 #[.int .i64 1] := by rw [← hWr]; exact kW1
   have sx : Ext w Wr := by rw [← hWr]; exact kW1
   clear hWr
   exact ⟨.tuple #[.agg #[.slice none 0 0], .int .i64 1], by simp [results, Try.f16, go_sem, s1.cell (j := 0) rfl, s2.cell (j := 0) rfl], FIN Wr 1 sx s1 s2 (by decide) HC.out⟩
  case pos =>
   have hd : ((cs.length : Int) != (t.length : Int)) = false := by simp; omega
   have HLEN := hide hlen
   clear hlen
   have hnp := hS.np
   have hsz2 := hx1.size
   gi_wp2_with fail
   gi_loopw [28] (fun i wr => ∃ k : Nat, k ≤ cs.length ∧ i = .int .i64 k ∧ (∀ q, q < k → rangeB t cs q = true) ∧ wr = w2) (fun i _ => cs.length - (intOf i).toNat)
   case atStart => exact ⟨0, Nat.zero_le _, rfl, fun q hq => absurd hq (Nat.not_lt_zero _), rfl⟩
   case round =>
    obtain ⟨k, hk, rfl, h0, rfl⟩ := hrel
    have H0 := hide h0
    clear h0
    by_cases hlt : k < cs.length
    ·have hlt2 : k < t.length := by rw [← HLEN.out]; exact hlt
     obtain ⟨A', c', hA', _, _, hc'⟩ := (hs.ext RPr.keeps hx1).at_
     obtain ⟨b', off', hb', hel⟩ := hc' oM
     cases hA'
     subst hb'
     obtain ⟨_, _, v2, d2, hs2⟩ := hel k hlt2
     obtain ⟨A3, c3, rfl, _, _, _⟩ := hs2.at_
     obtain ⟨A'', c'', hA'', _, _, hcc⟩ := (hsc.ext RInt.keeps hx1).at_
     obtain ⟨b'', off'', hb'', helc⟩ := hcc oM
     cases hA''
     subst hb''
     have hck := helc k hlt
     unfold RInt at hck
     rw [Nat.mul_one] at hck
     have hnk := hS.ne _ (List.getElem_mem hlt2)
     have HRB := hide (show rangeB t cs k = inB cs[k] 0 t[k].evs.length by unfold rangeB cAt evsOf; simp [List.getD, hlt, hlt2])
     clear hs2 hel hc' hcc helc
     have HIk := hide (HI.out cs[k] 0 t[k].evs.length)
     cases hr : inB cs[k] 0 t[k].evs.length
     ·rw [hr] at HIk
      have HC := hide (show prefC t cs = 2 by
       unfold prefC
       rw [if_neg (by rw [HVL.out, HLEN.out]; simp), if_pos]
       rw [List.all_eq_false]
       exact ⟨k, List.mem_range.2 hlt, by rw [HRB.out, hr]; simp⟩)
      clear hr
      gi_wp2_with (refine ⟨trivial, ?_⟩; gi_at_call 78; refine (HIk.out _).mono ?_; rintro e w' ⟨rfl, rfl⟩)
      obtain ⟨Wr, hWr⟩ : ∃ Wr, (wr.setCell ⟨w.heap.size + 1 + 1, 0, none⟩ (Value.slice none 0 0)).setCell ⟨w.heap.size + 1 + 1 + 1, 0, none⟩ (Value.int .i64 2) = Wr := ⟨_, rfl⟩
      rw [hWr]
      have s1 : BoxN Wr (w.heap.size + 1 + 1) 24 #[.slice none 0 0] := by rw [← hWr]; exact kW1
      have s2 : BoxN Wr (w.heap.size + 1 + 1 + 1) 29 #[.int .i64 2] := by rw [← hWr]; exact kW1
      have sx : Ext w Wr := by rw [← hWr]; exact kW1
      clear hWr
      exact ⟨.tuple #[.agg #[.slice none 0 0], .int .i64 2], by simp [results, Try.f16, go_sem, s1.cell (j := 0) rfl, s2.cell (j := 0) rfl], FIN Wr 2 sx s1 s2 (by decide) HC.out⟩
     ·rw [hr] at HIk
      have HRT := hide (show rangeB t cs k = true by rw [HRB.out, hr])
      clear hr
      gi_wp2_with (refine ⟨trivial, ?_⟩; gi_at_call 78; refine (HIk.out _).mono ?_; rintro e w' ⟨rfl, rfl⟩)
      go_roundw
      case rel => exact ⟨k + 1, hlt, by go_num, fun q hq => (Nat.lt_succ_iff_lt_or_eq.1 hq).elim (H0.out q) (fun e => e ▸ HRT.out), by first | rfl | exact trivial⟩
      case measure => simp [intOf]; omega
    ·obtain rfl : k = cs.length := by omega
     have HALL := hide (show (List.range cs.length).all (rangeB t cs) = true from List.all_eq_true.2 (fun q hq => H0.out q (List.mem_range.1 hq)))
     have hform := (valid_form HVL.out)
     have HM := hide (fun w' (he : Ext w w') => callsIn_wide (n := 8).2 (messageFault_any (.slice A t.length c) t w' hnp hS.ne (hs.ext RPr.keeps he) hform))
     gi_wp2_with fail
     refine ⟨trivial, ?_⟩
     refine (HM.out _ hx1).mono ?_
     rintro e w3 ⟨he3, hcase⟩
     have hlt4 := b4.lt
     rcases hcase with ⟨x, hx, _⟩ | ⟨_, bL, ls, hbL, hL, hA, rfl⟩
     ·rw [valid_pairs HVL.out] at hx; cases hx
     replace hx1 := hx1.trans he3
     replace b3 := b3.ext he3
     replace b4 := b4.ext he3
     replace bT := bT.ext he3
     replace bC := bC.ext he3
     have hlt5 := b4.lt
     clear f3 f4 r3 r4 t0 tc he3
     have t0 : w3.cell? ⟨w.heap.size, 0, none⟩ = some (.slice A t.length c) := bT.cell (j := 0) rfl
     have lt0 := bT.lt
     have HFORM := hide hform
     clear hform
     have HA := hide hA
     clear hA
     unfold idVal
     gi_wp2_with (refine ⟨trivial, ?_⟩; gi_at_call 80; refine (callsIn_wide.2 (events_any _ _)).mono ?_; rintro e w' ⟨rfl, rfl⟩)
     have bt : BoxN (((w3.alloc (.cells #[.pointer (some ⟨bL, 0, none⟩)] 134)).alloc (.cells #[.int .i64 ((0 : Nat) : Int), .int .i64 ((0 : Nat) : Int)] 40)).alloc (.cells #[.slice A t.length c] 24)) (w3.heap.size + 1 + 1) 24 #[.slice A t.length c] := BoxN.newAt _ _ (by simp)
     have b8 : BoxN (((w3.alloc (.cells #[.pointer (some ⟨bL, 0, none⟩)] 134)).alloc (.cells #[.int .i64 ((0 : Nat) : Int), .int .i64 ((0 : Nat) : Int)] 40)).alloc (.cells #[.slice A t.length c] 24)) (w3.heap.size) 134 #[.pointer (some ⟨bL, 0, none⟩)] := ((BoxN.new _ _ _).alloc _).alloc _
     have hx0 : Ext w (((w3.alloc (.cells #[.pointer (some ⟨bL, 0, none⟩)] 134)).alloc (.cells #[.int .i64 ((0 : Nat) : Int), .int .i64 ((0 : Nat) : Int)] 40)).alloc (.cells #[.slice A t.length c] 24)) := ((hx1.alloc _).alloc _).alloc _
     replace b3 := (((b3.alloc (.cells #[.pointer (some ⟨bL, 0, none⟩)] 134)).alloc (.cells #[.int .i64 ((0 : Nat) : Int), .int .i64 ((0 : Nat) : Int)] 40)).alloc (.cells #[.slice A t.length c] 24))
     replace b4 := (((b4.alloc (.cells #[.pointer (some ⟨bL, 0, none⟩)] 134)).alloc (.cells #[.int .i64 ((0 : Nat) : Int), .int .i64 ((0 : Nat) : Int)] 40)).alloc (.cells #[.slice A t.length c] 24))
     replace bC := (((bC.alloc (.cells #[.pointer (some ⟨bL, 0, none⟩)] 134)).alloc (.cells #[.int .i64 ((0 : Nat) : Int), .int .i64 ((0 : Nat) : Int)] 40)).alloc (.cells #[.slice A t.length c] 24))
     replace hL := (((hL.alloc (.cells #[.pointer (some ⟨bL, 0, none⟩)] 134)).alloc (.cells #[.int .i64 ((0 : Nat) : Int), .int .i64 ((0 : Nat) : Int)] 40)).alloc (.cells #[.slice A t.length c] 24))
     replace bT := (((bT.alloc (.cells #[.pointer (some ⟨bL, 0, none⟩)] 134)).alloc (.cells #[.int .i64 ((0 : Nat) : Int), .int .i64 ((0 : Nat) : Int)] 40)).alloc (.cells #[.slice A t.length c] 24))
     have hsz0 : (((w3.alloc (.cells #[.pointer (some ⟨bL, 0, none⟩)] 134)).alloc (.cells #[.int .i64 ((0 : Nat) : Int), .int .i64 ((0 : Nat) : Int)] 40)).alloc (.cells #[.slice A t.length c] 24)).heap.size = w3.heap.size + 1 + 1 + 1 := by simp
     have hw3 := hx1.size
     generalize (((w3.alloc (.cells #[.pointer (some ⟨bL, 0, none⟩)] 134)).alloc (.cells #[.int .i64 ((0 : Nat) : Int), .int .i64 ((0 : Nat) : Int)] 40)).alloc (.cells #[.slice A t.length c] 24)) = W0 at *
     have hw0 : w.heap.size ≤ W0.heap.size := by omega
     clear t0 lt0
     refine wpIn_rangeFunc_ownH rfl oM (gf := 146) (lb := #[.pointer (some ⟨w3.heap.size + 1 + 1, 0, none⟩)]) rfl trivial (callFunc_enter Try.func146 (by decide) rfl)
      (events_stops 8 oM w (.slice A t.length c) t (w3.heap.size + 1 + 1) W0 hnp hS.ne hs hx0 (bt.cell rfl) oM) belowK_t (belowK_b hw0) (Below.refl _ _) (fun _ => rfl)
      (fun pre W => PfI t cs W0 (pre.map (·.1)) W) (fun c pre W => c = .ret ∧ PfX t cs w (pre.map (·.1)) W) (pfi_from t cs W0 (Nat.le_refl _)) (fun c => OwnFrom.and (ownFrom_pure _ _) (pfx_from t cs w hw0)) ⟨Ext.refl _, fun x hx => by cases hx⟩
      (fun x a' W => ∃ B6 B7 A4 n4 c4 v13 v14, (w3.heap.size < B6 ∧ w3.heap.size < B7) ∧ BoxN W B6 40 #[.int .i64 x.1.1, .int .i64 x.1.2] ∧ BoxN W B7 34 #[.int .i64 (evAt t x.1).kind, .int .i64 (evAt t x.1).peer, .int .i64 (evAt t x.1).msg, .int .i64 (evAt t x.1).time, .slice A4 n4 c4] ∧
       a' = { tmps := #[.agg #[.slice A t.length c], .slice A2 cs.length c2, .pointer (some ⟨w.heap.size, 0, none⟩), .pointer (some ⟨w.heap.size + 1, 0, none⟩), .pointer (some ⟨w.heap.size + 1 + 1, 0, none⟩), .pointer (some ⟨w.heap.size + 1 + 1 + 1, 0, none⟩), u6, u7, .pointer (some ⟨w3.heap.size, 0, none⟩), .pointer (some ⟨w3.heap.size + 1, 0, none⟩), .int .i64 0, .pointer (some ⟨B6, 0, none⟩), .pointer (some ⟨B7, 0, none⟩), undef, .agg #[.slice A t.length c], .bool true, .bool false, .bool false, .slice A2 cs.length c2, .int .i64 cs.length, .pointer (some ⟨w.heap.size, 0, none⟩), .slice A t.length c, .int .i64 t.length, .bool false, .bool false, undef, .slice A2 cs.length c2, .int .i64 cs.length, .int .i64 cs.length, .bool false, u30, u31, u32, u33, u34, u35, u36, u37, u38, u39, u40, u41, u42, u43, u44, .tuple #[.pointer (some ⟨bL, 0, none⟩), .agg #[.int .i64 ((0 : Nat) : Int), .int .i64 ((0 : Nat) : Int)], .int .i64 0], .agg #[.slice A t.length c], .tuple #[.pointer (some ⟨bL, 0, none⟩), .agg #[.int .i64 ((0 : Nat) : Int), .int .i64 ((0 : Nat) : Int)], .int .i64 0], .pointer (some ⟨bL, 0, none⟩), .agg #[.int .i64 ((0 : Nat) : Int), .int .i64 ((0 : Nat) : Int)], .int .i64 0, .agg #[.slice A t.length c], .func (.func 146) #[] #[.pointer (some ⟨w3.heap.size + 1 + 1, 0, none⟩)], v13, v14, undef, undef, undef, undef, undef, undef, undef, undef, undef, undef, undef, undef, undef, undef, undef, undef, undef, undef, undef, undef, undef, undef, undef, undef, undef, undef, undef, undef, undef, undef, undef, undef], defers := [] })
      ?hax ?assign ?body ?done ?stop
     case hax =>
      rintro x a' _ X Y row ⟨B6, B7, A4, n4, c4, v13, v14, hB, b6, b7, ha⟩ hg hr
      exact ⟨B6, B7, A4, n4, c4, v13, v14, hB, boxN1_from B6 _ _ (fun (_ : Unit) => _) () X Y row b6 hg hr, boxN1_from B7 _ _ (fun (_ : Unit) => _) () X Y row b7 hg hr, ha⟩
     case assign =>
      rintro l pre x W K hI hK
      obtain ⟨a, hv, hsa⟩ := evVal_ok hs x.2
      obtain ⟨A4, c4, rfl, _, _, _⟩ := hsa.at_
      clear hsa
      simp only [hv]
      have hsW := hI.1.size
      unfold idVal
      gi_wp2
      exact hK _ _ (((KeepsOthers.alloc _ _).trans (KeepsOthers.alloc _ _)).from _) (((Below.refl _ W).alloc oM _).alloc (by simp; omega) _) ((pfi_from t cs W0 (Nat.le_refl _)).alloc _ ((pfi_from t cs W0 (Nat.le_refl _)).alloc _ hI))
       ⟨W.heap.size, W.heap.size + 1, A4, _, c4, _, _, ⟨by omega, by omega⟩, (BoxN.new _ _ _).alloc _, BoxN.newAt _ _ (by simp), rfl⟩
     case body =>
      rintro l pre x a' W hlW ⟨r, hr⟩ hI ⟨B6, B7, A4, n4, c4, v13, v14, ⟨hB6, hB7⟩, b6, b7, rfl⟩ hlen
      obtain ⟨hxW, hno⟩ := hI
      have hsW := hxW.size
      have hxw := hx0.trans hxW
      replace b3 := b3.ext hxW
      replace b4 := b4.ext hxW
      replace bC := bC.ext hxW
      replace hL := hL.ext hxW
      replace b8 := b8.ext hxW
      obtain ⟨hx1p, hx1i, hx1l⟩ := mem_ids.1 x.2
      have hpc : x.1.1 < cs.length := by rw [HLEN.out]; exact hx1p
      have hcat : cAt cs x.1.1 = cs[x.1.1] := by unfold cAt; simp [List.getD, hpc]
      obtain ⟨F', hF'⟩ : ∃ F' : Nat → Prop, F' = fun b => F b ∨ b = w.heap.size + 1 ∨ b = w3.heap.size ∨ b = bL ∨ b = B6 ∨ b = B7 := ⟨_, rfl⟩
      have hFm : ∀ b, F b → F' b := fun b hb => by rw [hF']; exact .inl hb
      have hF1 : F' (w.heap.size + 1) := by rw [hF']; exact .inr (.inl rfl)
      have hF2 : F' w3.heap.size := by rw [hF']; exact .inr (.inr (.inl rfl))
      have hF3 : F' bL := by rw [hF']; exact .inr (.inr (.inr (.inl rfl)))
      have hF4 : F' B6 := by rw [hF']; exact .inr (.inr (.inr (.inr (.inl rfl))))
      have hF5 : F' B7 := by rw [hF']; exact .inr (.inr (.inr (.inr (.inr rfl))))
      have g1 := bC.lt
      have g2 := b8.lt
      have g3 := hL.lt
      have g4 := b6.lt
      have g5 := b7.lt
      have hbig := hx1.size
      have hFlt : ∀ b, F' b → b < W.heap.size ∧ b ≠ w.heap.size + 1 + 1 ∧ b ≠ w.heap.size + 1 + 1 + 1 := by
       intro b hb
       rw [hF'] at hb
       rcases hb with h | rfl | rfl | rfl | rfl | rfl
       ·have := hF b h; exact ⟨by omega, by omega, by omega⟩
       all_goals exact ⟨by omega, by omega, by omega⟩
      have hcs : RepI W F' (.isl 1 (cs.map eI)) (.slice A2 cs.length c2) := HUC.out.mono hFm (fun b hb => hxw.block b (hF b hb))
      have p3 : RepI W F' (.iptr [.isl 1 (cs.map eI)] 0) (.pointer (some ⟨w.heap.size + 1, 0, none⟩)) := box_rep bC hF1 (fun j a hj => by
       cases j with
       | zero => simp at hj; subst hj; exact ⟨_, rfl, hcs⟩
       | succ j => simp at hj)
      have pL : RepI W F' (.iptr (letRow t) 0) (.pointer (some ⟨bL, 0, none⟩)) := letRow_rep hL HA.out hF3
      have p8 : RepI W F' (.iptr [.iptr (letRow t) 0] 0) (.pointer (some ⟨w3.heap.size, 0, none⟩)) := box_rep b8 hF2 (fun j a hj => by
       cases j with
       | zero => simp at hj; subst hj; exact ⟨_, rfl, pL⟩
       | succ j => simp at hj)
      have p11 : RepI W F' (.iptr [.int .i64 (x.1.1 : Int), .int .i64 (x.1.2 : Int)] 0) (.pointer (some ⟨B6, 0, none⟩)) := box_rep b6 hF4 (fun j a hj => by
       match j, hj with
       | 0, hj => cases hj; exact ⟨_, rfl, .int _ _⟩
       | 1, hj => cases hj; exact ⟨_, rfl, .int _ _⟩)
      have p12 : RepI W F' (.iptr [.int .i64 (evAt t x.1).kind, .int .i64 (evAt t x.1).peer, .int .i64 (evAt t x.1).msg] 0) (.pointer (some ⟨B7, 0, none⟩)) := box_rep b7 hF5 (fun j a hj => by
       match j, hj with
       | 0, hj => cases hj; exact ⟨_, rfl, .int _ _⟩
       | 1, hj => cases hj; exact ⟨_, rfl, .int _ _⟩
       | 2, hj => cases hj; exact ⟨_, rfl, .int _ _⟩)
      have hE : ∀ (L : LMap) (x4 x5 : AV), RepA W F' L x4 (.pointer (some ⟨w.heap.size + 1 + 1, 0, none⟩)) → RepA W F' L x5 (.pointer (some ⟨w.heap.size + 1 + 1 + 1, 0, none⟩)) →
        EnvR W F' L (envP cs (letRow t) x.1.1 x.1.2 (evAt t x.1).kind (evAt t x.1).peer (evAt t x.1).msg x4 x5) { tmps := #[.agg #[.slice A t.length c], .slice A2 cs.length c2, .pointer (some ⟨w.heap.size, 0, none⟩), .pointer (some ⟨w.heap.size + 1, 0, none⟩), .pointer (some ⟨w.heap.size + 1 + 1, 0, none⟩), .pointer (some ⟨w.heap.size + 1 + 1 + 1, 0, none⟩), u6, u7, .pointer (some ⟨w3.heap.size, 0, none⟩), .pointer (some ⟨w3.heap.size + 1, 0, none⟩), .int .i64 0, .pointer (some ⟨B6, 0, none⟩), .pointer (some ⟨B7, 0, none⟩), undef, .agg #[.slice A t.length c], .bool true, .bool false, .bool false, .slice A2 cs.length c2, .int .i64 cs.length, .pointer (some ⟨w.heap.size, 0, none⟩), .slice A t.length c, .int .i64 t.length, .bool false, .bool false, undef, .slice A2 cs.length c2, .int .i64 cs.length, .int .i64 cs.length, .bool false, u30, u31, u32, u33, u34, u35, u36, u37, u38, u39, u40, u41, u42, u43, u44, .tuple #[.pointer (some ⟨bL, 0, none⟩), .agg #[.int .i64 ((0 : Nat) : Int), .int .i64 ((0 : Nat) : Int)], .int .i64 0], .agg #[.slice A t.length c], .tuple #[.pointer (some ⟨bL, 0, none⟩), .agg #[.int .i64 ((0 : Nat) : Int), .int .i64 ((0 : Nat) : Int)], .int .i64 0], .pointer (some ⟨bL, 0, none⟩), .agg #[.int .i64 ((0 : Nat) : Int), .int .i64 ((0 : Nat) : Int)], .int .i64 0, .agg #[.slice A t.length c], .func (.func 146) #[] #[.pointer (some ⟨w3.heap.size + 1 + 1, 0, none⟩)], v13, v14, undef, undef, undef, undef, undef, undef, undef, undef, undef, undef, undef, undef, undef, undef, undef, undef, undef, undef, undef, undef, undef, undef, undef, undef, undef, undef, undef, undef, undef, undef, undef, undef], defers := [] } := by
       intro L x4 x5 h4 h5
       refine envR_of ?_
       unfold envP
       repeat (first | exact RepL.nil | refine RepL.cons (.any _) ?_ | refine RepL.cons (.v _ _ p3) ?_ | refine RepL.cons h4 ?_ | refine RepL.cons h5 ?_ | refine RepL.cons (.v _ _ p8) ?_ | refine RepL.cons (.v _ _ p11) ?_ | refine RepL.cons (.v _ _ p12) ?_)
      have hv3 : ∀ {b : Bool}, ((evAt t x.1).kind != 3) = b → ((evAt t x.1).kind == 3) = !b := by
       intro b h; cases b <;> simp_all [bne]
      have hcase : (badL t cs x.1 = false ∧ run (ACalls Try.prog) Weak a_pfBody (envP cs (letRow t) x.1.1 x.1.2 (evAt t x.1).kind (evAt t x.1).peer (evAt t x.1).msg .any .any) [] [] (fun ax e b l' => ax = .normal ∧ b = [])) ∨
        (badL t cs x.1 = true ∧ run (ACalls Try.prog) Weak a_pfBody (envP cs (letRow t) x.1.1 x.1.2 (evAt t x.1).kind (evAt t x.1).peer (evAt t x.1).msg (.ptr 0 0 0 0) (.ptr 1 0 0 0)) [.live 0 1 [[.v .zsl]], .live 0 1 [[.v (.int .i64 0)]]] []
         (fun ax e b l' => ax = .ret ∧ b = [.live 0 1 [[.v .zsl]], .live 0 1 [[.v (.int .i64 18)]]])) := by
       cases hk : ((evAt t x.1).kind != 3)
       ·have hk3 := hv3 hk
        by_cases hi : (x.1.2 : Int) > cs[x.1.1]
        ·refine .inl ⟨?_, run_mono' ACalls_mono (pfBody_out cs (letRow t) x.1.1 x.1.2 _ _ _ .any .any [] [] hk hpc hi) (fun _ _ _ _ h => ⟨h.1, h.2.1⟩)⟩
         unfold badL; rw [hcat, decide_eq_true hi]; simp
        ·obtain ⟨m, q, hm, hm2, _, _, _⟩ := formed_open (HFORM.out x.1 x.2) (by simp at hk3; rw [hk3]; rfl)
         obtain ⟨hf1, hf2⟩ : (firstOf t (ids t) 2 m).1 < cs.length ∧ cAt cs (firstOf t (ids t) 2 m).1 = cAt cs (firstOf t (ids t) 2 m).1 := by
          refine ⟨?_, rfl⟩
          unfold firstOf
          cases hf : (ids t).find? (keyB t 2 m) with
          | none => simp; omega
          | some y => simp; rw [HLEN.out]; exact (mem_ids.1 (List.mem_of_find?_eq_some hf)).1
         have hcf : cAt cs (firstOf t (ids t) 2 m).1 = cs[(firstOf t (ids t) 2 m).1] := by unfold cAt; simp [List.getD, hf1]
         by_cases hg : ((firstOf t (ids t) 2 m).2 : Int) > cs[(firstOf t (ids t) 2 m).1]
         ·refine .inr ⟨?_, pfBody_bad cs (letRow t) x.1.1 x.1.2 _ _ _ m _ _ hk hpc hi hm hm2 (letRow_len t) (letRow_from hm2) hf1 hg⟩
          unfold badL; rw [hcat, hm, hcf, decide_eq_true hg, decide_eq_false hi, hk3]; rfl
         ·refine .inl ⟨?_, pfBody_in cs (letRow t) x.1.1 x.1.2 _ _ _ .any .any [] [] m _ _ hk hpc hi hm hm2 (letRow_len t) (letRow_from hm2) hf1 hg (by simpa using RowsLt_nil) rfl⟩
          unfold badL; rw [hcat, hm, hcf, decide_eq_false hg]; simp
       ·have hk3 := hv3 hk
        refine .inl ⟨?_, run_mono' ACalls_mono (pfBody_kind cs (letRow t) x.1.1 x.1.2 _ _ _ .any .any [] [] hk) (fun _ _ _ _ h => ⟨h.1, h.2.1⟩)⟩
        unfold badL; rw [hk3]; rfl
      rcases hcase with ⟨hb, hrun⟩ | ⟨hb, hrun⟩
      ·refine wpIn_mono (run_soundR (lp := l) (fun _ _ _ _ _ h => h) ACalls_mono _ a_pfBody (by kernel_rfl) _ [] [] _ hrun F' (fun _ _ => none) W _ (sim_nil (fun b hb => (hFlt b hb).1)) (hE _ _ _ (.any _) (.any _))) ?_
       rintro ex a1 w1 ⟨ax, e1, b1, l1, F1, L1, hex, s1, he1, st1, hb1, rfl, _⟩
       cases ex <;> first | exact hex.elim | skip
       have he := step_nil_block st1
       refine ⟨KF.ext (KeepsFrom.refl _ _) he, BL.ext (Below.refl _ _) he oM, hxW.trans he, fun y hy => ?_⟩
       rw [map_snoc] at hy
       rcases List.mem_append.1 hy with h | h
       ·exact hno y h
       ·simp at h; rw [h]; exact hb
      ·refine wpIn_mono (run_soundR (lp := l) (fun _ _ _ _ _ h => h) ACalls_mono _ a_pfBody (by kernel_rfl) _ _ [] _ hrun F' (L2 (w.heap.size + 1 + 1) (w.heap.size + 1 + 1 + 1)) W _ (sim_two b3 b4 oM rfl rfl (.v _ _ (.zsl _)) (.v _ _ (.int _ _)) hFlt) (hE _ _ _ (RepA.ptr 0 0 0 0 _ 0 1 1 rfl) (RepA.ptr 1 0 0 0 _ 0 1 1 rfl))) ?_
       rintro ex a1 w1 ⟨ax, e1, b1, l1, F1, L1, hex, s1, he1, st1, hb1, rfl, rfl⟩
       cases ex <;> first | exact hex.elim | skip
       have hblk : ∀ b, b < W.heap.size → b ≠ w.heap.size + 1 + 1 → b ≠ w.heap.size + 1 + 1 + 1 → w1.heap[b]? = W.heap[b]? := fun b hb h1 h2 => st1.block b hb (fun ho => (owned_two ho).elim h1 h2)
       have kf : KeepsFrom W0.heap.size W w1 := ⟨st1.size, fun k o hB hk ho => by
        refine (hblk k (Array.getElem?_eq_some_iff.1 hk).1 oM oM).trans hk⟩
       have ex1 : Ext w w1 := ⟨st1.os.trans hxw.os, st1.tape.trans hxw.tape, st1.output.trans hxw.output, Nat.le_trans hxw.size st1.size, fun b hb => (hblk b oM oM oM).trans (hxw.block b hb)⟩
       have hL0 : L1 0 0 = some (.pl (w.heap.size + 1 + 1) 0 1 1) := st1.loc 0 0 _ (by simp) rfl
       have hL1 : L1 1 0 = some (.pl (w.heap.size + 1 + 1 + 1) 0 1 1) := st1.loc 1 0 _ (by simp) rfl
       refine ⟨kf, rfl, ⟨x.1, by rw [map_snoc]; simp, hb⟩, ?_, ?_, ex1⟩
       ·obtain ⟨q, q1, q2⟩ := s1.row 0 0 1 [[.v .zsl]] rfl
        rw [hL0] at q1; cases q1
        obtain ⟨_, _, _, cur, T, k4, _, _, k7⟩ := q2
        obtain ⟨_, v, k8, k9⟩ := k7 0 [.v .zsl] 0 (.v .zsl) rfl rfl
        refine ⟨T, cur, k4, ?_⟩
        cases k9.vI
        exact ⟨_, k8⟩
       ·obtain ⟨q, q1, q2⟩ := s1.row 1 0 1 [[.v (.int .i64 18)]] rfl
        rw [hL1] at q1; cases q1
        obtain ⟨_, _, _, cur, T, k4, _, _, k7⟩ := q2
        obtain ⟨_, v, k8, k9⟩ := k7 0 [.v (.int .i64 18)] 0 (.v (.int .i64 18)) rfl rfl
        refine ⟨T, cur, k4, ?_⟩
        cases k9.vI
        exact k8
     case done =>
      rintro D ys W hD hys ⟨hxW, hno⟩ hK
      rw [hys] at hno
      have hxw := hx0.trans hxW
      have hsW := hxW.size
      replace b3 := b3.ext hxW
      replace b4 := b4.ext hxW
      replace bC := bC.ext hxW
      replace bT := bT.ext hxW
      have HC0 := hide (show prefC t cs = 0 by
       unfold prefC
       rw [if_neg (by rw [HVL.out, HLEN.out]; simp), if_neg (by rw [HALL.out]; simp), if_neg]
       rw [Bool.not_eq_true, List.any_eq_false]
       intro x hx; rw [hno x hx]; simp)
      clear hno hys
      have hC : CutOk t cs := ⟨HLEN.out, hnp, hS.nv, hS.ne, hS.na, fun k h h2 => by
       have := List.all_eq_true.1 HALL.out k (List.mem_range.2 h2)
       unfold rangeB cAt evsOf inB at this
       simp [List.getD, h, h2] at this
       exact ⟨this.1, this.2⟩⟩
      have HFI := hide (fun W' (he : Ext w W') => callsIn_wide (n := 8).2 (first_mem t cs hC F W' (fun b hb => Nat.lt_of_lt_of_le (hF b hb) he.size) (HU.out.mono (fun _ h => h) (fun b hb => he.block b (hF b hb))) (HUC.out.mono (fun _ h => h) (fun b hb => he.block b (hF b hb)))))
      clear hC
      have t0 := bT.cell (j := 0) rfl
      have tc := bC.cell (j := 0) rfl
      have g0 := bT.lt
      gi_wp2_with fail
      refine ⟨trivial, ?_⟩
      refine (HFI.out _ hxw).mono ?_
      rintro e w5 ⟨u, F1, rfl, he5, k1, k2, k3, k4, A5, n5, c5, rfl⟩
      replace b3 := b3.ext he5
      replace b4 := b4.ext he5
      have hK5 : w5.heap[D]? = some (.deferred (some [])) := (he5.block D (Array.getElem?_eq_some_iff.1 hK).1).trans hK
      have hx5 := hxw.trans he5
      have hs5 := he5.size
      have f3 := b3.frozen 0
      have f4 := b4.frozen 0
      have r3 := b3.cell (j := 0) rfl
      have r4 := b4.cell (j := 0) rfl
      have HK4 := hide k4
      clear k4
      have HK1 := hide k1
      have HK2 := hide k2
      have HK3 := hide k3
      clear k1 k2 k3
      gi_wp2
      obtain ⟨Wr, hWr⟩ : ∃ Wr, (w5.setCell ⟨w.heap.size + 1 + 1, 0, none⟩ (Value.slice A5 n5 c5)).setCell ⟨w.heap.size + 1 + 1 + 1, 0, none⟩ (Value.int .i64 0) = Wr := ⟨_, rfl⟩
      rw [hWr]
      have s1 : BoxN Wr (w.heap.size + 1 + 1) 24 #[.slice A5 n5 c5] := by rw [← hWr]; exact kW1
      have s2 : BoxN Wr (w.heap.size + 1 + 1 + 1) 29 #[.int .i64 0] := by rw [← hWr]; exact kW1
      have sx : Ext w Wr := by rw [← hWr]; exact kW1
      have hkf : KeepsFrom W0.heap.size w5 Wr := by rw [← hWr]; exact kW1
      have hKW : Wr.heap[D]? = some (.deferred (some [])) := hkf.same D _ hD hK5 rfl
      have hDlt := (Array.getElem?_eq_some_iff.1 hK).1
      have hfar : ∀ b, F1 b → b < w5.heap.size ∧ b ≠ D ∧ b ≠ w.heap.size + 1 + 1 ∧ b ≠ w.heap.size + 1 + 1 + 1 := by
       intro b hb
       by_cases hbW : b < W.heap.size
       ·have := hF b (HK2.out b hbW hb)
        exact ⟨HK3.out b hb, by omega, by omega, by omega⟩
       ·exact ⟨HK3.out b hb, by omega, by omega, by omega⟩
      have hsame : ∀ b, F1 b → Wr.heap[b]? = w5.heap[b]? := by
       intro b hb
       obtain ⟨_, _, h1, h2⟩ := hfar b hb
       rw [← hWr]
       exact (Below.heap_setCell _ _ _ _ h2).trans (Below.heap_setCell _ _ _ _ h1)
      have hszr : Wr.heap.size = w5.heap.size := by rw [← hWr]; simp
      clear hWr
      have e2 := (s1.putObj hKW rfl (.deferred none)).cell (j := 0) rfl
      have e3 := (s2.putObj hKW rfl (.deferred none)).cell (j := 0) rfl
      refine ⟨by simp, .inl ⟨_, _, rfl, run_takeDeferred hKW, ?_⟩⟩
      refine ⟨.tuple #[.agg #[.slice A5 n5 c5], .int .i64 0], by simp [results, Try.f16, go_sem, e2, e3], sx.putObj oM hKW _, _, by rw [HC0.out]; rfl, .inr ⟨HC0.out, F1, HK1.out, fun b hb hf => HK2.out b oM hf, fun b hb => ?_, ?_⟩⟩
      ·have := (hfar b hb).1
       rw [World.putObj_size]; omega
      ·refine HK4.out.mono (fun _ h => h) (fun b hb => ?_) (fun _ _ _ h => h)
       obtain ⟨h0, h1, _, _⟩ := hfar b hb
       exact ((grownBy_putObj' Wr D (.deferred none)).block b oM (by simpa using h1)).trans (hsame b hb)
     case stop =>
      rintro D c' pre W hD hpre ⟨rfl, ⟨x, hx, hb⟩, ⟨T4, c4, s4, s, q4⟩, ⟨T5, c5, s5, q5⟩, hxW⟩ hK
      have HC := hide (show prefC t cs = 18 by
       unfold prefC
       rw [if_neg (by rw [HVL.out, HLEN.out]; simp), if_neg (by rw [HALL.out]; simp), if_pos]
       exact List.any_eq_true.2 ⟨x, hpre.subset hx, hb⟩)
      clear hb hx hpre
      gi_wp2
      have e2 := (s4.putObj hK rfl (.deferred none)).cell q4
      have e3 := (s5.putObj hK rfl (.deferred none)).cell q5
      refine ⟨by simp, .inl ⟨_, _, rfl, run_takeDeferred hK, ?_⟩⟩
      refine ⟨.tuple #[.agg #[.slice s 0 0], .int .i64 18], ?_, hxW.putObj oM hK _, _, by rw [HC.out]; rfl, .inl ⟨by rw [HC.out]; decide, _, rfl⟩⟩
      simp [results, Try.f16, go_sem, e2, e3]
end Go.Proofs.Ytanblnhnfkeffaa
namespace Go.Proofs.Ytanblnhnfkeffaa
set_option linter.unusedVariables false
set_option linter.unusedSimpArgs false
def a_few : AFunc := ⟨1,51,[.tmp 2],(.seq (.region [⟨some 1,.box (.t 0),none⟩,⟨some 2,.mv (.c (.v (.bool false))),none⟩]) (.seq (.seq (.region [⟨some 6,.faddr 0 (.t 1),none⟩,⟨some 7,.load none (.t 6),none⟩,⟨some 8,.len (.t 7),none⟩,⟨some 9,.bin .gtr (.t 8) (.c (.v (.int .i64 12))),none⟩]) (.cond (.t 9) (.seq (.region [⟨some 2,.mv (.c (.v (.bool false))),none⟩]) .ret) .skip)) (.seq (.region [⟨some 3,.mv (.c (.v (.int .i64 0))),none⟩]) (.seq (.seq (.region [⟨some 10,.faddr 0 (.t 1),none⟩,⟨some 11,.load none (.t 10),none⟩,⟨some 12,.len (.t 11),none⟩,⟨some 13,.mv (.c (.v (.int .i64 0))),none⟩]) (.block 0 (.loop (.seq (.region [⟨some 14,.bin .lss (.t 13) (.t 12),none⟩]) (.seq (.cond (.t 14) .skip (.exit 0)) (.seq (.block 1 (.seq (.region [⟨some 15,.iaddr 3 (.t 11) (.t 13),none⟩,⟨some 16,.load (some 3) (.t 15),none⟩,⟨some 5,.alloc [(.v (.str ⟨#[]⟩)),(.v .zsl),(.v .zsl)],none⟩,⟨none,.store 3 (.t 5) (.t 16),none⟩]) (.seq (.region [⟨some 17,.mv (.t 3),none⟩,⟨some 18,.faddr 2 (.t 5),none⟩,⟨some 19,.load none (.t 18),none⟩,⟨some 20,.len (.t 19),none⟩,⟨some 21,.bin .add (.t 17) (.t 20),none⟩,⟨some 3,.mv (.t 21),none⟩]) (.seq (.seq (.region [⟨some 22,.faddr 2 (.t 5),none⟩,⟨some 23,.load none (.t 22),none⟩,⟨some 24,.len (.t 23),none⟩,⟨some 25,.bin .gtr (.t 24) (.c (.v (.int .i64 70))),none⟩,⟨some 26,.mv (.t 25),none⟩,⟨some 27,.faddr 1 (.t 5),some (26,false)⟩,⟨some 28,.load none (.t 27),some (26,false)⟩,⟨some 29,.len (.t 28),some (26,false)⟩,⟨some 30,.bin .gtr (.t 29) (.c (.v (.int .i64 12))),some (26,false)⟩,⟨some 31,.pick (.t 26) (.c (.v (.bool true))) (.t 30),none⟩,⟨some 32,.mv (.t 31),none⟩,⟨some 33,.faddr 0 (.t 5),some (32,false)⟩,⟨some 34,.load none (.t 33),some (32,false)⟩,⟨some 35,.lenS (.t 34),some (32,false)⟩,⟨some 36,.bin .gtr (.t 35) (.c (.v (.int .i64 30))),some (32,false)⟩,⟨some 37,.pick (.t 32) (.c (.v (.bool true))) (.t 36),none⟩,⟨some 38,.mv (.t 37),none⟩,⟨some 39,.mv (.t 3),some (38,false)⟩,⟨some 40,.bin .gtr (.t 39) (.c (.v (.int .i64 120))),some (38,false)⟩,⟨some 41,.pick (.t 38) (.c (.v (.bool true))) (.t 40),none⟩]) (.cond (.t 41) (.seq (.region [⟨some 2,.mv (.c (.v (.bool false))),none⟩]) .ret) .skip)) (.seq (.region [⟨some 42,.faddr 1 (.t 5),none⟩,⟨some 43,.load none (.t 42),none⟩,⟨some 44,.call (.c (.fn 73 [])) [(.t 43),(.c (.fn 74 []))],none⟩,⟨some 45,.mv (.t 44),none⟩,⟨some 46,.faddr 2 (.t 5),some (45,false)⟩,⟨some 47,.load none (.t 46),some (45,false)⟩,⟨some 48,.call (.c (.fn 75 [])) [(.t 47),(.c (.fn 76 []))],some (45,false)⟩,⟨some 49,.pick (.t 45) (.c (.v (.bool true))) (.t 48),none⟩]) (.cond (.t 49) (.seq (.region [⟨some 2,.mv (.c (.v (.bool false))),none⟩]) .ret) .skip)))))) (.region [⟨some 50,.bin .add (.t 13) (.c (.v (.int .i64 1))),none⟩,⟨some 13,.mv (.t 50),none⟩]))))))) (.seq (.region [⟨some 2,.mv (.c (.v (.bool true))),none⟩]) .ret)))))⟩
theorem a_few_ok : cFunc Try.prog 14 = some a_few := by kernel_rfl

structure Fits (t : Tr) : Prop where
 np : t.length ≤ 9223372036854775807
 nv : ∀ x ∈ t, x.vars.length ≤ 9223372036854775807
 ne : ∀ x ∈ t, x.evs.length ≤ 9223372036854775807
 nm : ∀ x ∈ t, x.name.size ≤ 9223372036854775807

def wSum (t : Tr) : Nat → Nat
 | 0 => 0
 | k + 1 => wSum t k + (match t[k]? with
   | some p => p.evs.length
   | none => 0)
def longP (p : Pr) : Bool := decide (70 < p.evs.length) || decide (12 < p.vars.length) || decide (30 < p.name.size)
def longV (p : Pr) (j : Nat) : Bool := match p.vars[j]? with
 | some v => decide (30 < v.name.size)
 | none => false
def longE (p : Pr) (j : Nat) : Bool := match p.evs[j]? with
 | some e => decide (12 < e.asg.length)
 | none => false
def longIn (p : Pr) : Bool := (List.range p.vars.length).any (longV p) || (List.range p.evs.length).any (longE p)
def badAt (t : Tr) (i : Nat) : Bool := match t[i]? with
 | some p => longP p || decide (120 < wSum t (i + 1)) || longIn p
 | none => false
def fewB (t : Tr) : Bool := decide (t.length ≤ 12) && (List.range t.length).all (fun i => !badAt t i)
theorem few_bad {t : Tr} {i : Nat} (h : i < t.length) (hb : badAt t i = true) : fewB t = false := by
 unfold fewB
 have : (List.range t.length).all (fun i => !badAt t i) = false := by
  rw [List.all_eq_false]; exact ⟨i, List.mem_range.2 h, by rw [hb]; simp⟩
 rw [this, Bool.and_false]
theorem few_good {t : Tr} (h : t.length ≤ 12) (h0 : ∀ i, i < t.length → badAt t i = false) : fewB t = true := by
 unfold fewB
 have : (List.range t.length).all (fun i => !badAt t i) = true := by
  rw [List.all_eq_true]; intro i hi; rw [h0 i (List.mem_range.1 hi)]; rfl
 rw [this, decide_eq_true h]; rfl
theorem wSum_succ {t : Tr} {k : Nat} (h : k < t.length) : wSum t (k + 1) = wSum t k + t[k].evs.length := by
 simp [wSum, h]

theorem longV_ok (p : Pr) (B : List Row) (i : Nat) (row : List IV) (h : (p.vars.map eVr)[i]? = some row) : ACalls Try.prog 74 ([.agg (row.map .v)] ++ []) B [] (fun r b' l' => r = .v (.bool (longV p i)) ∧ b' = B ∧ l' = []) := by
 rw [List.getElem?_map] at h
 cases hv : p.vars[i]? with
 | none => rw [hv] at h; cases h
 | some v =>
   rw [hv] at h; cases h
   refine ACalls_mono _ _ _ _ _ _ (longVar_spec v B []) ?_
   rintro r b' l' ⟨rfl, rfl, rfl⟩
   refine ⟨?_, rfl, rfl⟩
   unfold longV; rw [hv]
   have : ((v.name.size : Int) > 30) = (30 < v.name.size) := by rw [eq_iff_iff]; omega
   simp only [this]
theorem longE_ok (p : Pr) (B : List Row) (i : Nat) (row : List IV) (h : (p.evs.map eEv)[i]? = some row) : ACalls Try.prog 76 ([.agg (row.map .v)] ++ []) B [] (fun r b' l' => r = .v (.bool (longE p i)) ∧ b' = B ∧ l' = []) := by
 rw [List.getElem?_map] at h
 cases hv : p.evs[i]? with
 | none => rw [hv] at h; cases h
 | some v =>
   rw [hv] at h; cases h
   refine ACalls_mono _ _ _ _ _ _ (longEv_spec v B []) ?_
   rintro r b' l' ⟨rfl, rfl, rfl⟩
   refine ⟨?_, rfl, rfl⟩
   unfold longE; rw [hv]
   have : ((v.asg.length : Int) > 12) = (12 < v.asg.length) := by rw [eq_iff_iff]; omega
   simp only [this]

theorem few_spec (t : Tr) (hF : Fits t) (b l : List Row) : ACalls Try.prog 14 [.agg [.v (eT t)]] b l (fun r b' l' => r = .v (.bool (fewB t)) ∧ b' = b ∧ l' = l) := by
 refine calls_of a_few_ok rfl ?_
 intro B hB hR _
 have hnp := hF.np
 simp only [a_few, eT, ↓run_skip, ↓run_region, ↓run_draw, ↓run_both, ↓run_seq, ↓run_block, ↓run_exit, ↓run_ret, ↓run_cond, ↓atN_app, ↓seqC_normal, ↓seqC_exit, ↓seqC_ret, ↓seqQ_normal, ↓seqQ_exit, ↓seqQ_ret, ↓blkQ_normal, ↓blkQ_exit, ↓blkQ_ret, ↓runOps_nil, ↓runOps_cons, ↓runD_nil, ↓runD_cons, ↓grdO_true, ↓grdO_false, ↓grdD_true, ↓grdD_false, ↓ifC_true, ↓ifC_false, ↓opS_val, ↓opS_call, ↓opS_two, ↓opK_app, ↓dS_val, ↓dS_call, ↓dS_two, ↓dK_app, rechks_nil, rechks_cons, rechk, gcase_true, gcase_false, ex_val, ex_val0, gd_none, gd_some, nth_zero, nth_succ, upd_zero, upd_succ, put_some, put_none, ev_t, ev_c, evs_nil, evs_cons, evo_some, evo_none, hget_at, hget_first, hsetB_at, hsetB_first, hsetL_at, hsetL_first, ofOpt_some, aop, aload, astore, aslice, aappend, aiaddr, aiaddrA, afaddr, alen, alenS, acopy, amm, acall, alookup, amupdate, alenM, atostr, comma, keyEq, apick, binV, binVB, binVS, isSh, intOp, strOp, boolOp, shOp, eqC, eqF, and2, cellsOf, setFrom, fillA, fillS, rd, rdI, elems, mk, bounds, AV.cell, List.all_cons, List.all_nil, Bool.and_true, Bool.true_and, Bool.and_self, List.length_cons, List.length_nil, List.length_append, Nat.reduceAdd, Nat.reduceSub, Nat.reduceMul, Nat.zero_add, Nat.add_zero, List.replicate_succ, List.replicate_zero, List.cons_append, List.nil_append, List.append_assoc, List.append_nil, List.getElem?_cons_zero, List.getElem?_cons_succ, List.getElem?_nil, List.set_cons_zero, List.set_cons_succ, List.drop_zero, List.drop_succ_cons, List.take_zero, List.take_succ_cons, List.take_nil, List.drop_nil, List.map_cons, List.map_nil, Option.map_some, if_true, if_false, Bool.false_eq_true, and_self, true_and, and_true, Nat.reduceLeDiff, Nat.reduceLT, Nat.le_refl, Nat.reduceEqDiff, ite_true, ite_false, beq_self_eq_true, beq_true, beq_false, Bool.not_true, Bool.not_false, Bool.true_beq, Bool.false_beq]
 by_cases h12 : 12 < t.length
 ·simp (disch := omega) only [↓run_skip, ↓run_region, ↓run_draw, ↓run_both, ↓run_seq, ↓run_block, ↓run_exit, ↓run_ret, ↓run_cond, ↓atN_app, ↓seqC_normal, ↓seqC_exit, ↓seqC_ret, ↓seqQ_normal, ↓seqQ_exit, ↓seqQ_ret, ↓blkQ_normal, ↓blkQ_exit, ↓blkQ_ret, ↓runOps_nil, ↓runOps_cons, ↓runD_nil, ↓runD_cons, ↓grdO_true, ↓grdO_false, ↓grdD_true, ↓grdD_false, ↓ifC_true, ↓ifC_false, ↓opS_val, ↓opS_call, ↓opS_two, ↓opK_app, ↓dS_val, ↓dS_call, ↓dS_two, ↓dK_app, rechks_nil, rechks_cons, rechk, gcase_true, gcase_false, ex_val, ex_val0, gd_none, gd_some, nth_zero, nth_succ, upd_zero, upd_succ, put_some, put_none, ev_t, ev_c, evs_nil, evs_cons, evo_some, evo_none, hget_at, hget_first, hsetB_at, hsetB_first, hsetL_at, hsetL_first, ofOpt_some, aop, aload, astore, aslice, aappend, aiaddr, aiaddrA, afaddr, alen, alenS, acopy, amm, acall, alookup, amupdate, alenM, atostr, comma, keyEq, apick, binV, binVB, binVS, isSh, intOp, strOp, boolOp, shOp, eqC, eqF, and2, cellsOf, setFrom, fillA, fillS, rd, rdI, elems, mk, bounds, AV.cell, List.all_cons, List.all_nil, Bool.and_true, Bool.true_and, Bool.and_self, List.length_cons, List.length_nil, List.length_append, Nat.reduceAdd, Nat.reduceSub, Nat.reduceMul, Nat.zero_add, Nat.add_zero, List.replicate_succ, List.replicate_zero, List.cons_append, List.nil_append, List.append_assoc, List.append_nil, List.getElem?_cons_zero, List.getElem?_cons_succ, List.getElem?_nil, List.set_cons_zero, List.set_cons_succ, List.drop_zero, List.drop_succ_cons, List.take_zero, List.take_succ_cons, List.take_nil, List.drop_nil, List.map_cons, List.map_nil, Option.map_some, if_true, if_false, Bool.false_eq_true, and_self, true_and, and_true, Nat.reduceLeDiff, Nat.reduceLT, Nat.le_refl, Nat.reduceEqDiff, ite_true, ite_false, beq_self_eq_true, beq_true, beq_false, Bool.not_true, Bool.not_false, Bool.true_beq, Bool.false_beq, map_vs, vs_len, vs_get, vs_take, vs_drop, vs_snoc1, vs_snoc2, vs_snoc3, vs_snoc5, vs_set1, vs_set2, vs_rep, wrap_id, le_T, lt_T, le_F, lt_F, leI_T, ltI_T, leI_F, ltI_F, geI, gtI, get_T, decide_true, decide_false, room, List.getElem?_map, List.length_map, List.length_take, Int.toNat_natCast, Nat.min_def, Nat.min_self]
  exact leave_pure (.inr rfl) rfl (.v _) hR hB ⟨by simp only [fewB, nth, one]; rw [decide_eq_false oM]; rfl, rfl, rfl⟩
 simp (disch := omega) only [↓run_skip, ↓run_region, ↓run_draw, ↓run_both, ↓run_seq, ↓run_block, ↓run_exit, ↓run_ret, ↓run_cond, ↓atN_app, ↓seqC_normal, ↓seqC_exit, ↓seqC_ret, ↓seqQ_normal, ↓seqQ_exit, ↓seqQ_ret, ↓blkQ_normal, ↓blkQ_exit, ↓blkQ_ret, ↓runOps_nil, ↓runOps_cons, ↓runD_nil, ↓runD_cons, ↓grdO_true, ↓grdO_false, ↓grdD_true, ↓grdD_false, ↓ifC_true, ↓ifC_false, ↓opS_val, ↓opS_call, ↓opS_two, ↓opK_app, ↓dS_val, ↓dS_call, ↓dS_two, ↓dK_app, rechks_nil, rechks_cons, rechk, gcase_true, gcase_false, ex_val, ex_val0, gd_none, gd_some, nth_zero, nth_succ, upd_zero, upd_succ, put_some, put_none, ev_t, ev_c, evs_nil, evs_cons, evo_some, evo_none, hget_at, hget_first, hsetB_at, hsetB_first, hsetL_at, hsetL_first, ofOpt_some, aop, aload, astore, aslice, aappend, aiaddr, aiaddrA, afaddr, alen, alenS, acopy, amm, acall, alookup, amupdate, alenM, atostr, comma, keyEq, apick, binV, binVB, binVS, isSh, intOp, strOp, boolOp, shOp, eqC, eqF, and2, cellsOf, setFrom, fillA, fillS, rd, rdI, elems, mk, bounds, AV.cell, List.all_cons, List.all_nil, Bool.and_true, Bool.true_and, Bool.and_self, List.length_cons, List.length_nil, List.length_append, Nat.reduceAdd, Nat.reduceSub, Nat.reduceMul, Nat.zero_add, Nat.add_zero, List.replicate_succ, List.replicate_zero, List.cons_append, List.nil_append, List.append_assoc, List.append_nil, List.getElem?_cons_zero, List.getElem?_cons_succ, List.getElem?_nil, List.set_cons_zero, List.set_cons_succ, List.drop_zero, List.drop_succ_cons, List.take_zero, List.take_succ_cons, List.take_nil, List.drop_nil, List.map_cons, List.map_nil, Option.map_some, if_true, if_false, Bool.false_eq_true, and_self, true_and, and_true, Nat.reduceLeDiff, Nat.reduceLT, Nat.le_refl, Nat.reduceEqDiff, ite_true, ite_false, beq_self_eq_true, beq_true, beq_false, Bool.not_true, Bool.not_false, Bool.true_beq, Bool.false_beq, map_vs, vs_len, vs_get, vs_take, vs_drop, vs_snoc1, vs_snoc2, vs_snoc3, vs_snoc5, vs_set1, vs_set2, vs_rep, wrap_id, le_T, lt_T, le_F, lt_F, leI_T, ltI_T, leI_F, ltI_F, geI, gtI, get_T, decide_true, decide_false, room, List.getElem?_map, List.length_map, List.length_take, Int.toNat_natCast, Nat.min_def, Nat.min_self]
 refine loop_rule (ι := Nat)
  (fun i => [.any, .ptr B.length 0 0 0, .v (.bool false), .v (.int .i64 (wSum t i)), .any, .any, .any, .any, .any, .any, .any, .v (.isl 3 (t.map ePr)), .v (.int .i64 t.length), .v (.int .i64 i)] ++ List.replicate 37 .any)
  (fun _ => B) (fun _ => [.live 0 1 [[.v (.isl 3 (t.map ePr))]]])
  (fun i => (i ≤ t.length ∧ wSum t i ≤ 120) ∧ ∀ j, j < i → badAt t j = false) (fun i => t.length - i) 0 ⟨⟨Nat.zero_le _, by simp [wSum]⟩, fun j hj => by omega⟩ ?_ ?_
 ·exact Weak.forget (by simp [Fgt, wSum])
 ·rintro i ⟨⟨hi, hs⟩, h0⟩
  simp only [List.replicate_succ, List.replicate_zero, List.cons_append, List.nil_append]
  by_cases hlt : i < t.length
  ·have hne := hF.ne t[i] (List.getElem_mem hlt)
   have hnv := hF.nv t[i] (List.getElem_mem hlt)
   have hnm := hF.nm t[i] (List.getElem_mem hlt)
   have hsum := wSum_succ hlt
   have bad : badAt t i = (longP t[i] || decide (120 < wSum t (i + 1)) || longIn t[i]) := by simp [badAt, hlt]
   by_cases q1 : 70 < t[i].evs.length
   ·simp (disch := omega) only [ePr, ↓run_skip, ↓run_region, ↓run_draw, ↓run_both, ↓run_seq, ↓run_block, ↓run_exit, ↓run_ret, ↓run_cond, ↓atN_app, ↓seqC_normal, ↓seqC_exit, ↓seqC_ret, ↓seqQ_normal, ↓seqQ_exit, ↓seqQ_ret, ↓blkQ_normal, ↓blkQ_exit, ↓blkQ_ret, ↓runOps_nil, ↓runOps_cons, ↓runD_nil, ↓runD_cons, ↓grdO_true, ↓grdO_false, ↓grdD_true, ↓grdD_false, ↓ifC_true, ↓ifC_false, ↓opS_val, ↓opS_call, ↓opS_two, ↓opK_app, ↓dS_val, ↓dS_call, ↓dS_two, ↓dK_app, rechks_nil, rechks_cons, rechk, gcase_true, gcase_false, ex_val, ex_val0, gd_none, gd_some, nth_zero, nth_succ, upd_zero, upd_succ, put_some, put_none, ev_t, ev_c, evs_nil, evs_cons, evo_some, evo_none, hget_at, hget_first, hsetB_at, hsetB_first, hsetL_at, hsetL_first, ofOpt_some, aop, aload, astore, aslice, aappend, aiaddr, aiaddrA, afaddr, alen, alenS, acopy, amm, acall, alookup, amupdate, alenM, atostr, comma, keyEq, apick, binV, binVB, binVS, isSh, intOp, strOp, boolOp, shOp, eqC, eqF, and2, cellsOf, setFrom, fillA, fillS, rd, rdI, elems, mk, bounds, AV.cell, List.all_cons, List.all_nil, Bool.and_true, Bool.true_and, Bool.and_self, List.length_cons, List.length_nil, List.length_append, Nat.reduceAdd, Nat.reduceSub, Nat.reduceMul, Nat.zero_add, Nat.add_zero, List.replicate_succ, List.replicate_zero, List.cons_append, List.nil_append, List.append_assoc, List.append_nil, List.getElem?_cons_zero, List.getElem?_cons_succ, List.getElem?_nil, List.set_cons_zero, List.set_cons_succ, List.drop_zero, List.drop_succ_cons, List.take_zero, List.take_succ_cons, List.take_nil, List.drop_nil, List.map_cons, List.map_nil, Option.map_some, if_true, if_false, Bool.false_eq_true, and_self, true_and, and_true, Nat.reduceLeDiff, Nat.reduceLT, Nat.le_refl, Nat.reduceEqDiff, ite_true, ite_false, beq_self_eq_true, beq_true, beq_false, Bool.not_true, Bool.not_false, Bool.true_beq, Bool.false_beq, map_vs, vs_len, vs_get, vs_take, vs_drop, vs_snoc1, vs_snoc2, vs_snoc3, vs_snoc5, vs_set1, vs_set2, vs_rep, wrap_id, le_T, lt_T, le_F, lt_F, leI_T, ltI_T, leI_F, ltI_F, geI, gtI, get_T, decide_true, decide_false, room, List.getElem?_map, List.length_map, List.length_take, Int.toNat_natCast, Nat.min_def, Nat.min_self]
    exact leave_pure (.inr rfl) rfl (.v _) hR hB ⟨by rw [few_bad hlt (by rw [bad]; simp [longP, q1])]; rfl, rfl, rfl⟩
   by_cases q2 : 12 < t[i].vars.length
   ·simp (disch := omega) only [ePr, ↓run_skip, ↓run_region, ↓run_draw, ↓run_both, ↓run_seq, ↓run_block, ↓run_exit, ↓run_ret, ↓run_cond, ↓atN_app, ↓seqC_normal, ↓seqC_exit, ↓seqC_ret, ↓seqQ_normal, ↓seqQ_exit, ↓seqQ_ret, ↓blkQ_normal, ↓blkQ_exit, ↓blkQ_ret, ↓runOps_nil, ↓runOps_cons, ↓runD_nil, ↓runD_cons, ↓grdO_true, ↓grdO_false, ↓grdD_true, ↓grdD_false, ↓ifC_true, ↓ifC_false, ↓opS_val, ↓opS_call, ↓opS_two, ↓opK_app, ↓dS_val, ↓dS_call, ↓dS_two, ↓dK_app, rechks_nil, rechks_cons, rechk, gcase_true, gcase_false, ex_val, ex_val0, gd_none, gd_some, nth_zero, nth_succ, upd_zero, upd_succ, put_some, put_none, ev_t, ev_c, evs_nil, evs_cons, evo_some, evo_none, hget_at, hget_first, hsetB_at, hsetB_first, hsetL_at, hsetL_first, ofOpt_some, aop, aload, astore, aslice, aappend, aiaddr, aiaddrA, afaddr, alen, alenS, acopy, amm, acall, alookup, amupdate, alenM, atostr, comma, keyEq, apick, binV, binVB, binVS, isSh, intOp, strOp, boolOp, shOp, eqC, eqF, and2, cellsOf, setFrom, fillA, fillS, rd, rdI, elems, mk, bounds, AV.cell, List.all_cons, List.all_nil, Bool.and_true, Bool.true_and, Bool.and_self, List.length_cons, List.length_nil, List.length_append, Nat.reduceAdd, Nat.reduceSub, Nat.reduceMul, Nat.zero_add, Nat.add_zero, List.replicate_succ, List.replicate_zero, List.cons_append, List.nil_append, List.append_assoc, List.append_nil, List.getElem?_cons_zero, List.getElem?_cons_succ, List.getElem?_nil, List.set_cons_zero, List.set_cons_succ, List.drop_zero, List.drop_succ_cons, List.take_zero, List.take_succ_cons, List.take_nil, List.drop_nil, List.map_cons, List.map_nil, Option.map_some, if_true, if_false, Bool.false_eq_true, and_self, true_and, and_true, Nat.reduceLeDiff, Nat.reduceLT, Nat.le_refl, Nat.reduceEqDiff, ite_true, ite_false, beq_self_eq_true, beq_true, beq_false, Bool.not_true, Bool.not_false, Bool.true_beq, Bool.false_beq, map_vs, vs_len, vs_get, vs_take, vs_drop, vs_snoc1, vs_snoc2, vs_snoc3, vs_snoc5, vs_set1, vs_set2, vs_rep, wrap_id, le_T, lt_T, le_F, lt_F, leI_T, ltI_T, leI_F, ltI_F, geI, gtI, get_T, decide_true, decide_false, room, List.getElem?_map, List.length_map, List.length_take, Int.toNat_natCast, Nat.min_def, Nat.min_self]
    exact leave_pure (.inr rfl) rfl (.v _) hR hB ⟨by rw [few_bad hlt (by rw [bad]; simp [longP, q2])]; rfl, rfl, rfl⟩
   by_cases q3 : 30 < t[i].name.size
   ·simp (disch := omega) only [ePr, ↓run_skip, ↓run_region, ↓run_draw, ↓run_both, ↓run_seq, ↓run_block, ↓run_exit, ↓run_ret, ↓run_cond, ↓atN_app, ↓seqC_normal, ↓seqC_exit, ↓seqC_ret, ↓seqQ_normal, ↓seqQ_exit, ↓seqQ_ret, ↓blkQ_normal, ↓blkQ_exit, ↓blkQ_ret, ↓runOps_nil, ↓runOps_cons, ↓runD_nil, ↓runD_cons, ↓grdO_true, ↓grdO_false, ↓grdD_true, ↓grdD_false, ↓ifC_true, ↓ifC_false, ↓opS_val, ↓opS_call, ↓opS_two, ↓opK_app, ↓dS_val, ↓dS_call, ↓dS_two, ↓dK_app, rechks_nil, rechks_cons, rechk, gcase_true, gcase_false, ex_val, ex_val0, gd_none, gd_some, nth_zero, nth_succ, upd_zero, upd_succ, put_some, put_none, ev_t, ev_c, evs_nil, evs_cons, evo_some, evo_none, hget_at, hget_first, hsetB_at, hsetB_first, hsetL_at, hsetL_first, ofOpt_some, aop, aload, astore, aslice, aappend, aiaddr, aiaddrA, afaddr, alen, alenS, acopy, amm, acall, alookup, amupdate, alenM, atostr, comma, keyEq, apick, binV, binVB, binVS, isSh, intOp, strOp, boolOp, shOp, eqC, eqF, and2, cellsOf, setFrom, fillA, fillS, rd, rdI, elems, mk, bounds, AV.cell, List.all_cons, List.all_nil, Bool.and_true, Bool.true_and, Bool.and_self, List.length_cons, List.length_nil, List.length_append, Nat.reduceAdd, Nat.reduceSub, Nat.reduceMul, Nat.zero_add, Nat.add_zero, List.replicate_succ, List.replicate_zero, List.cons_append, List.nil_append, List.append_assoc, List.append_nil, List.getElem?_cons_zero, List.getElem?_cons_succ, List.getElem?_nil, List.set_cons_zero, List.set_cons_succ, List.drop_zero, List.drop_succ_cons, List.take_zero, List.take_succ_cons, List.take_nil, List.drop_nil, List.map_cons, List.map_nil, Option.map_some, if_true, if_false, Bool.false_eq_true, and_self, true_and, and_true, Nat.reduceLeDiff, Nat.reduceLT, Nat.le_refl, Nat.reduceEqDiff, ite_true, ite_false, beq_self_eq_true, beq_true, beq_false, Bool.not_true, Bool.not_false, Bool.true_beq, Bool.false_beq, map_vs, vs_len, vs_get, vs_take, vs_drop, vs_snoc1, vs_snoc2, vs_snoc3, vs_snoc5, vs_set1, vs_set2, vs_rep, wrap_id, le_T, lt_T, le_F, lt_F, leI_T, ltI_T, leI_F, ltI_F, geI, gtI, get_T, decide_true, decide_false, room, List.getElem?_map, List.length_map, List.length_take, Int.toNat_natCast, Nat.min_def, Nat.min_self]
    exact leave_pure (.inr rfl) rfl (.v _) hR hB ⟨by rw [few_bad hlt (by rw [bad]; simp [longP, q3])]; rfl, rfl, rfl⟩
   by_cases q4 : 120 < wSum t i + t[i].evs.length
   ·simp (disch := omega) only [ePr, ↓run_skip, ↓run_region, ↓run_draw, ↓run_both, ↓run_seq, ↓run_block, ↓run_exit, ↓run_ret, ↓run_cond, ↓atN_app, ↓seqC_normal, ↓seqC_exit, ↓seqC_ret, ↓seqQ_normal, ↓seqQ_exit, ↓seqQ_ret, ↓blkQ_normal, ↓blkQ_exit, ↓blkQ_ret, ↓runOps_nil, ↓runOps_cons, ↓runD_nil, ↓runD_cons, ↓grdO_true, ↓grdO_false, ↓grdD_true, ↓grdD_false, ↓ifC_true, ↓ifC_false, ↓opS_val, ↓opS_call, ↓opS_two, ↓opK_app, ↓dS_val, ↓dS_call, ↓dS_two, ↓dK_app, rechks_nil, rechks_cons, rechk, gcase_true, gcase_false, ex_val, ex_val0, gd_none, gd_some, nth_zero, nth_succ, upd_zero, upd_succ, put_some, put_none, ev_t, ev_c, evs_nil, evs_cons, evo_some, evo_none, hget_at, hget_first, hsetB_at, hsetB_first, hsetL_at, hsetL_first, ofOpt_some, aop, aload, astore, aslice, aappend, aiaddr, aiaddrA, afaddr, alen, alenS, acopy, amm, acall, alookup, amupdate, alenM, atostr, comma, keyEq, apick, binV, binVB, binVS, isSh, intOp, strOp, boolOp, shOp, eqC, eqF, and2, cellsOf, setFrom, fillA, fillS, rd, rdI, elems, mk, bounds, AV.cell, List.all_cons, List.all_nil, Bool.and_true, Bool.true_and, Bool.and_self, List.length_cons, List.length_nil, List.length_append, Nat.reduceAdd, Nat.reduceSub, Nat.reduceMul, Nat.zero_add, Nat.add_zero, List.replicate_succ, List.replicate_zero, List.cons_append, List.nil_append, List.append_assoc, List.append_nil, List.getElem?_cons_zero, List.getElem?_cons_succ, List.getElem?_nil, List.set_cons_zero, List.set_cons_succ, List.drop_zero, List.drop_succ_cons, List.take_zero, List.take_succ_cons, List.take_nil, List.drop_nil, List.map_cons, List.map_nil, Option.map_some, if_true, if_false, Bool.false_eq_true, and_self, true_and, and_true, Nat.reduceLeDiff, Nat.reduceLT, Nat.le_refl, Nat.reduceEqDiff, ite_true, ite_false, beq_self_eq_true, beq_true, beq_false, Bool.not_true, Bool.not_false, Bool.true_beq, Bool.false_beq, map_vs, vs_len, vs_get, vs_take, vs_drop, vs_snoc1, vs_snoc2, vs_snoc3, vs_snoc5, vs_set1, vs_set2, vs_rep, wrap_id, le_T, lt_T, le_F, lt_F, leI_T, ltI_T, leI_F, ltI_F, geI, gtI, get_T, decide_true, decide_false, room, List.getElem?_map, List.length_map, List.length_take, Int.toNat_natCast, Nat.min_def, Nat.min_self]
    exact leave_pure (.inr rfl) rfl (.v _) hR hB ⟨by rw [few_bad hlt (by rw [bad]; simp [hsum, q4])]; rfl, rfl, rfl⟩
   simp (disch := omega) only [ePr, ↓run_skip, ↓run_region, ↓run_draw, ↓run_both, ↓run_seq, ↓run_block, ↓run_exit, ↓run_ret, ↓run_cond, ↓atN_app, ↓seqC_normal, ↓seqC_exit, ↓seqC_ret, ↓seqQ_normal, ↓seqQ_exit, ↓seqQ_ret, ↓blkQ_normal, ↓blkQ_exit, ↓blkQ_ret, ↓runOps_nil, ↓runOps_cons, ↓runD_nil, ↓runD_cons, ↓grdO_true, ↓grdO_false, ↓grdD_true, ↓grdD_false, ↓ifC_true, ↓ifC_false, ↓opS_val, ↓opS_call, ↓opS_two, ↓opK_app, ↓dS_val, ↓dS_call, ↓dS_two, ↓dK_app, rechks_nil, rechks_cons, rechk, gcase_true, gcase_false, ex_val, ex_val0, gd_none, gd_some, nth_zero, nth_succ, upd_zero, upd_succ, put_some, put_none, ev_t, ev_c, evs_nil, evs_cons, evo_some, evo_none, hget_at, hget_first, hsetB_at, hsetB_first, hsetL_at, hsetL_first, ofOpt_some, aop, aload, astore, aslice, aappend, aiaddr, aiaddrA, afaddr, alen, alenS, acopy, amm, acall, alookup, amupdate, alenM, atostr, comma, keyEq, apick, binV, binVB, binVS, isSh, intOp, strOp, boolOp, shOp, eqC, eqF, and2, cellsOf, setFrom, fillA, fillS, rd, rdI, elems, mk, bounds, AV.cell, List.all_cons, List.all_nil, Bool.and_true, Bool.true_and, Bool.and_self, List.length_cons, List.length_nil, List.length_append, Nat.reduceAdd, Nat.reduceSub, Nat.reduceMul, Nat.zero_add, Nat.add_zero, List.replicate_succ, List.replicate_zero, List.cons_append, List.nil_append, List.append_assoc, List.append_nil, List.getElem?_cons_zero, List.getElem?_cons_succ, List.getElem?_nil, List.set_cons_zero, List.set_cons_succ, List.drop_zero, List.drop_succ_cons, List.take_zero, List.take_succ_cons, List.take_nil, List.drop_nil, List.map_cons, List.map_nil, Option.map_some, if_true, if_false, Bool.false_eq_true, and_self, true_and, and_true, Nat.reduceLeDiff, Nat.reduceLT, Nat.le_refl, Nat.reduceEqDiff, ite_true, ite_false, beq_self_eq_true, beq_true, beq_false, Bool.not_true, Bool.not_false, Bool.true_beq, Bool.false_beq, map_vs, vs_len, vs_get, vs_take, vs_drop, vs_snoc1, vs_snoc2, vs_snoc3, vs_snoc5, vs_set1, vs_set2, vs_rep, wrap_id, le_T, lt_T, le_F, lt_F, leI_T, ltI_T, leI_F, ltI_F, geI, gtI, get_T, decide_true, decide_false, room, List.getElem?_map, List.length_map, List.length_take, Int.toNat_natCast, Nat.min_def, Nat.min_self]
   refine ACalls_mono _ _ _ _ _ _ (contains_spec a_contains2_ok a_index2_ok (t[i].vars.map eVr) _ [] (longV t[i]) (by simp [eVr]) (by simp; omega) _ _ (longV_ok _ _)) ?_
   rintro r b' l' ⟨rfl, rfl, rfl⟩
   simp only [List.length_map]
   have hin : longIn t[i] = ((List.range t[i].vars.length).any (longV t[i]) || (List.range t[i].evs.length).any (longE t[i])) := rfl
   cases q5 : (List.range t[i].vars.length).any (longV t[i])
   case true =>
    simp (disch := omega) only [↓run_skip, ↓run_region, ↓run_draw, ↓run_both, ↓run_seq, ↓run_block, ↓run_exit, ↓run_ret, ↓run_cond, ↓atN_app, ↓seqC_normal, ↓seqC_exit, ↓seqC_ret, ↓seqQ_normal, ↓seqQ_exit, ↓seqQ_ret, ↓blkQ_normal, ↓blkQ_exit, ↓blkQ_ret, ↓runOps_nil, ↓runOps_cons, ↓runD_nil, ↓runD_cons, ↓grdO_true, ↓grdO_false, ↓grdD_true, ↓grdD_false, ↓ifC_true, ↓ifC_false, ↓opS_val, ↓opS_call, ↓opS_two, ↓opK_app, ↓dS_val, ↓dS_call, ↓dS_two, ↓dK_app, rechks_nil, rechks_cons, rechk, gcase_true, gcase_false, ex_val, ex_val0, gd_none, gd_some, nth_zero, nth_succ, upd_zero, upd_succ, put_some, put_none, ev_t, ev_c, evs_nil, evs_cons, evo_some, evo_none, hget_at, hget_first, hsetB_at, hsetB_first, hsetL_at, hsetL_first, ofOpt_some, aop, aload, astore, aslice, aappend, aiaddr, aiaddrA, afaddr, alen, alenS, acopy, amm, acall, alookup, amupdate, alenM, atostr, comma, keyEq, apick, binV, binVB, binVS, isSh, intOp, strOp, boolOp, shOp, eqC, eqF, and2, cellsOf, setFrom, fillA, fillS, rd, rdI, elems, mk, bounds, AV.cell, List.all_cons, List.all_nil, Bool.and_true, Bool.true_and, Bool.and_self, List.length_cons, List.length_nil, List.length_append, Nat.reduceAdd, Nat.reduceSub, Nat.reduceMul, Nat.zero_add, Nat.add_zero, List.replicate_succ, List.replicate_zero, List.cons_append, List.nil_append, List.append_assoc, List.append_nil, List.getElem?_cons_zero, List.getElem?_cons_succ, List.getElem?_nil, List.set_cons_zero, List.set_cons_succ, List.drop_zero, List.drop_succ_cons, List.take_zero, List.take_succ_cons, List.take_nil, List.drop_nil, List.map_cons, List.map_nil, Option.map_some, if_true, if_false, Bool.false_eq_true, and_self, true_and, and_true, Nat.reduceLeDiff, Nat.reduceLT, Nat.le_refl, Nat.reduceEqDiff, ite_true, ite_false, beq_self_eq_true, beq_true, beq_false, Bool.not_true, Bool.not_false, Bool.true_beq, Bool.false_beq, map_vs, vs_len, vs_get, vs_take, vs_drop, vs_snoc1, vs_snoc2, vs_snoc3, vs_snoc5, vs_set1, vs_set2, vs_rep, wrap_id, le_T, lt_T, le_F, lt_F, leI_T, ltI_T, leI_F, ltI_F, geI, gtI, get_T, decide_true, decide_false, room, List.getElem?_map, List.length_map, List.length_take, Int.toNat_natCast, Nat.min_def, Nat.min_self]
    exact leave_pure (.inr rfl) rfl (.v _) hR hB ⟨by rw [few_bad hlt (by rw [bad, hin, q5]; simp)]; rfl, rfl, rfl⟩
   simp (disch := omega) only [↓run_skip, ↓run_region, ↓run_draw, ↓run_both, ↓run_seq, ↓run_block, ↓run_exit, ↓run_ret, ↓run_cond, ↓atN_app, ↓seqC_normal, ↓seqC_exit, ↓seqC_ret, ↓seqQ_normal, ↓seqQ_exit, ↓seqQ_ret, ↓blkQ_normal, ↓blkQ_exit, ↓blkQ_ret, ↓runOps_nil, ↓runOps_cons, ↓runD_nil, ↓runD_cons, ↓grdO_true, ↓grdO_false, ↓grdD_true, ↓grdD_false, ↓ifC_true, ↓ifC_false, ↓opS_val, ↓opS_call, ↓opS_two, ↓opK_app, ↓dS_val, ↓dS_call, ↓dS_two, ↓dK_app, rechks_nil, rechks_cons, rechk, gcase_true, gcase_false, ex_val, ex_val0, gd_none, gd_some, nth_zero, nth_succ, upd_zero, upd_succ, put_some, put_none, ev_t, ev_c, evs_nil, evs_cons, evo_some, evo_none, hget_at, hget_first, hsetB_at, hsetB_first, hsetL_at, hsetL_first, ofOpt_some, aop, aload, astore, aslice, aappend, aiaddr, aiaddrA, afaddr, alen, alenS, acopy, amm, acall, alookup, amupdate, alenM, atostr, comma, keyEq, apick, binV, binVB, binVS, isSh, intOp, strOp, boolOp, shOp, eqC, eqF, and2, cellsOf, setFrom, fillA, fillS, rd, rdI, elems, mk, bounds, AV.cell, List.all_cons, List.all_nil, Bool.and_true, Bool.true_and, Bool.and_self, List.length_cons, List.length_nil, List.length_append, Nat.reduceAdd, Nat.reduceSub, Nat.reduceMul, Nat.zero_add, Nat.add_zero, List.replicate_succ, List.replicate_zero, List.cons_append, List.nil_append, List.append_assoc, List.append_nil, List.getElem?_cons_zero, List.getElem?_cons_succ, List.getElem?_nil, List.set_cons_zero, List.set_cons_succ, List.drop_zero, List.drop_succ_cons, List.take_zero, List.take_succ_cons, List.take_nil, List.drop_nil, List.map_cons, List.map_nil, Option.map_some, if_true, if_false, Bool.false_eq_true, and_self, true_and, and_true, Nat.reduceLeDiff, Nat.reduceLT, Nat.le_refl, Nat.reduceEqDiff, ite_true, ite_false, beq_self_eq_true, beq_true, beq_false, Bool.not_true, Bool.not_false, Bool.true_beq, Bool.false_beq, map_vs, vs_len, vs_get, vs_take, vs_drop, vs_snoc1, vs_snoc2, vs_snoc3, vs_snoc5, vs_set1, vs_set2, vs_rep, wrap_id, le_T, lt_T, le_F, lt_F, leI_T, ltI_T, leI_F, ltI_F, geI, gtI, get_T, decide_true, decide_false, room, List.getElem?_map, List.length_map, List.length_take, Int.toNat_natCast, Nat.min_def, Nat.min_self]
   refine ACalls_mono _ _ _ _ _ _ (contains_spec a_contains5_ok a_index5_ok (t[i].evs.map eEv) _ [] (longE t[i]) (by simp [eEv]) (by simp; omega) _ _ (longE_ok _ _)) ?_
   rintro r b' l' ⟨rfl, rfl, rfl⟩
   simp only [List.length_map]
   cases q6 : (List.range t[i].evs.length).any (longE t[i])
   case true =>
    simp (disch := omega) only [↓run_skip, ↓run_region, ↓run_draw, ↓run_both, ↓run_seq, ↓run_block, ↓run_exit, ↓run_ret, ↓run_cond, ↓atN_app, ↓seqC_normal, ↓seqC_exit, ↓seqC_ret, ↓seqQ_normal, ↓seqQ_exit, ↓seqQ_ret, ↓blkQ_normal, ↓blkQ_exit, ↓blkQ_ret, ↓runOps_nil, ↓runOps_cons, ↓runD_nil, ↓runD_cons, ↓grdO_true, ↓grdO_false, ↓grdD_true, ↓grdD_false, ↓ifC_true, ↓ifC_false, ↓opS_val, ↓opS_call, ↓opS_two, ↓opK_app, ↓dS_val, ↓dS_call, ↓dS_two, ↓dK_app, rechks_nil, rechks_cons, rechk, gcase_true, gcase_false, ex_val, ex_val0, gd_none, gd_some, nth_zero, nth_succ, upd_zero, upd_succ, put_some, put_none, ev_t, ev_c, evs_nil, evs_cons, evo_some, evo_none, hget_at, hget_first, hsetB_at, hsetB_first, hsetL_at, hsetL_first, ofOpt_some, aop, aload, astore, aslice, aappend, aiaddr, aiaddrA, afaddr, alen, alenS, acopy, amm, acall, alookup, amupdate, alenM, atostr, comma, keyEq, apick, binV, binVB, binVS, isSh, intOp, strOp, boolOp, shOp, eqC, eqF, and2, cellsOf, setFrom, fillA, fillS, rd, rdI, elems, mk, bounds, AV.cell, List.all_cons, List.all_nil, Bool.and_true, Bool.true_and, Bool.and_self, List.length_cons, List.length_nil, List.length_append, Nat.reduceAdd, Nat.reduceSub, Nat.reduceMul, Nat.zero_add, Nat.add_zero, List.replicate_succ, List.replicate_zero, List.cons_append, List.nil_append, List.append_assoc, List.append_nil, List.getElem?_cons_zero, List.getElem?_cons_succ, List.getElem?_nil, List.set_cons_zero, List.set_cons_succ, List.drop_zero, List.drop_succ_cons, List.take_zero, List.take_succ_cons, List.take_nil, List.drop_nil, List.map_cons, List.map_nil, Option.map_some, if_true, if_false, Bool.false_eq_true, and_self, true_and, and_true, Nat.reduceLeDiff, Nat.reduceLT, Nat.le_refl, Nat.reduceEqDiff, ite_true, ite_false, beq_self_eq_true, beq_true, beq_false, Bool.not_true, Bool.not_false, Bool.true_beq, Bool.false_beq, map_vs, vs_len, vs_get, vs_take, vs_drop, vs_snoc1, vs_snoc2, vs_snoc3, vs_snoc5, vs_set1, vs_set2, vs_rep, wrap_id, le_T, lt_T, le_F, lt_F, leI_T, ltI_T, leI_F, ltI_F, geI, gtI, get_T, decide_true, decide_false, room, List.getElem?_map, List.length_map, List.length_take, Int.toNat_natCast, Nat.min_def, Nat.min_self]
    exact leave_pure (.inr rfl) rfl (.v _) hR hB ⟨by rw [few_bad hlt (by rw [bad, hin, q5, q6]; simp)]; rfl, rfl, rfl⟩
   simp (disch := omega) only [↓run_skip, ↓run_region, ↓run_draw, ↓run_both, ↓run_seq, ↓run_block, ↓run_exit, ↓run_ret, ↓run_cond, ↓atN_app, ↓seqC_normal, ↓seqC_exit, ↓seqC_ret, ↓seqQ_normal, ↓seqQ_exit, ↓seqQ_ret, ↓blkQ_normal, ↓blkQ_exit, ↓blkQ_ret, ↓runOps_nil, ↓runOps_cons, ↓runD_nil, ↓runD_cons, ↓grdO_true, ↓grdO_false, ↓grdD_true, ↓grdD_false, ↓ifC_true, ↓ifC_false, ↓opS_val, ↓opS_call, ↓opS_two, ↓opK_app, ↓dS_val, ↓dS_call, ↓dS_two, ↓dK_app, rechks_nil, rechks_cons, rechk, gcase_true, gcase_false, ex_val, ex_val0, gd_none, gd_some, nth_zero, nth_succ, upd_zero, upd_succ, put_some, put_none, ev_t, ev_c, evs_nil, evs_cons, evo_some, evo_none, hget_at, hget_first, hsetB_at, hsetB_first, hsetL_at, hsetL_first, ofOpt_some, aop, aload, astore, aslice, aappend, aiaddr, aiaddrA, afaddr, alen, alenS, acopy, amm, acall, alookup, amupdate, alenM, atostr, comma, keyEq, apick, binV, binVB, binVS, isSh, intOp, strOp, boolOp, shOp, eqC, eqF, and2, cellsOf, setFrom, fillA, fillS, rd, rdI, elems, mk, bounds, AV.cell, List.all_cons, List.all_nil, Bool.and_true, Bool.true_and, Bool.and_self, List.length_cons, List.length_nil, List.length_append, Nat.reduceAdd, Nat.reduceSub, Nat.reduceMul, Nat.zero_add, Nat.add_zero, List.replicate_succ, List.replicate_zero, List.cons_append, List.nil_append, List.append_assoc, List.append_nil, List.getElem?_cons_zero, List.getElem?_cons_succ, List.getElem?_nil, List.set_cons_zero, List.set_cons_succ, List.drop_zero, List.drop_succ_cons, List.take_zero, List.take_succ_cons, List.take_nil, List.drop_nil, List.map_cons, List.map_nil, Option.map_some, if_true, if_false, Bool.false_eq_true, and_self, true_and, and_true, Nat.reduceLeDiff, Nat.reduceLT, Nat.le_refl, Nat.reduceEqDiff, ite_true, ite_false, beq_self_eq_true, beq_true, beq_false, Bool.not_true, Bool.not_false, Bool.true_beq, Bool.false_beq, map_vs, vs_len, vs_get, vs_take, vs_drop, vs_snoc1, vs_snoc2, vs_snoc3, vs_snoc5, vs_set1, vs_set2, vs_rep, wrap_id, le_T, lt_T, le_F, lt_F, leI_T, ltI_T, leI_F, ltI_F, geI, gtI, get_T, decide_true, decide_false, room, List.getElem?_map, List.length_map, List.length_take, Int.toNat_natCast, Nat.min_def, Nat.min_self]
   refine ⟨i + 1, ⟨⟨hlt, by omega⟩, fun j hj => ?_⟩, by simp only; omega, ?_⟩
   ·rcases Nat.lt_or_ge j i with hji | hji
    ·exact h0 j hji
    ·have : j = i := by omega
     subst this
     rw [bad, hin, q5, q6, hsum]
     simp [longP]; omega
   ·have e1 : ((wSum t (i + 1) : Nat) : Int) = (wSum t i : Int) + t[i].evs.length := by omega
    dsimp only; rw [e1]
    exact Weak.round (l1 := [.live 0 1 [[.v (.isl 3 (t.map ePr))]]]) (by simp [Fgt]) rfl kL hR kL
  ·simp (disch := omega) only [↓run_skip, ↓run_region, ↓run_draw, ↓run_both, ↓run_seq, ↓run_block, ↓run_exit, ↓run_ret, ↓run_cond, ↓atN_app, ↓seqC_normal, ↓seqC_exit, ↓seqC_ret, ↓seqQ_normal, ↓seqQ_exit, ↓seqQ_ret, ↓blkQ_normal, ↓blkQ_exit, ↓blkQ_ret, ↓runOps_nil, ↓runOps_cons, ↓runD_nil, ↓runD_cons, ↓grdO_true, ↓grdO_false, ↓grdD_true, ↓grdD_false, ↓ifC_true, ↓ifC_false, ↓opS_val, ↓opS_call, ↓opS_two, ↓opK_app, ↓dS_val, ↓dS_call, ↓dS_two, ↓dK_app, rechks_nil, rechks_cons, rechk, gcase_true, gcase_false, ex_val, ex_val0, gd_none, gd_some, nth_zero, nth_succ, upd_zero, upd_succ, put_some, put_none, ev_t, ev_c, evs_nil, evs_cons, evo_some, evo_none, hget_at, hget_first, hsetB_at, hsetB_first, hsetL_at, hsetL_first, ofOpt_some, aop, aload, astore, aslice, aappend, aiaddr, aiaddrA, afaddr, alen, alenS, acopy, amm, acall, alookup, amupdate, alenM, atostr, comma, keyEq, apick, binV, binVB, binVS, isSh, intOp, strOp, boolOp, shOp, eqC, eqF, and2, cellsOf, setFrom, fillA, fillS, rd, rdI, elems, mk, bounds, AV.cell, List.all_cons, List.all_nil, Bool.and_true, Bool.true_and, Bool.and_self, List.length_cons, List.length_nil, List.length_append, Nat.reduceAdd, Nat.reduceSub, Nat.reduceMul, Nat.zero_add, Nat.add_zero, List.replicate_succ, List.replicate_zero, List.cons_append, List.nil_append, List.append_assoc, List.append_nil, List.getElem?_cons_zero, List.getElem?_cons_succ, List.getElem?_nil, List.set_cons_zero, List.set_cons_succ, List.drop_zero, List.drop_succ_cons, List.take_zero, List.take_succ_cons, List.take_nil, List.drop_nil, List.map_cons, List.map_nil, Option.map_some, if_true, if_false, Bool.false_eq_true, and_self, true_and, and_true, Nat.reduceLeDiff, Nat.reduceLT, Nat.le_refl, Nat.reduceEqDiff, ite_true, ite_false, beq_self_eq_true, beq_true, beq_false, Bool.not_true, Bool.not_false, Bool.true_beq, Bool.false_beq, map_vs, vs_len, vs_get, vs_take, vs_drop, vs_snoc1, vs_snoc2, vs_snoc3, vs_snoc5, vs_set1, vs_set2, vs_rep, wrap_id, le_T, lt_T, le_F, lt_F, leI_T, ltI_T, leI_F, ltI_F, geI, gtI, get_T, decide_true, decide_false, room, List.getElem?_map, List.length_map, List.length_take, Int.toNat_natCast, Nat.min_def, Nat.min_self]
   obtain rfl : i = t.length := by omega
   exact leave_pure (.inr rfl) rfl (.v _) hR hB ⟨by rw [few_good oM h0]; rfl, rfl, rfl⟩
end Go.Proofs.Ytanblnhnfkeffaa
namespace Go.Proofs.Ytanblnhnfkeffaa
set_option linter.unusedVariables false

section
theorem sender_spec (t : Tr) (hS : Small t) (hN : Nm t) (b l : List Row) (m : Int) : ACalls Try.prog 18 [.agg [.v (eT t)], .v (.int .i64 m)] b l (fun r b' l' => r = .tup [idA (findR t 2 m), .v (.bool (decide (0 < (findR t 2 m).2)))] ∧ b' = b ∧ l' = l) := by
 refine ACalls.of_ext ⟨_, Try.func18, by kernel_rfl, by kernel_rfl⟩ (fun F L w vs hr => ?_)
 obtain ⟨u, us, rfl, hs, hr2⟩ := repL_tr hN hr
 obtain ⟨v, us, rfl, h3, hr2⟩ := repL_cons hr2
 obtain rfl := repL_nil hr2
 cases h3.vI
 refine (Sender_any u t m w hS hs).mono ?_
 rintro e w' ⟨rfl, he⟩
 exact ⟨he, _, _, rfl, RepL.tup (RepL.cons (idA_rep _ _ _ _) (RepL.cons (.v _ _ (.bool _)) RepL.nil)), rfl, rfl, rfl⟩
theorem count_spec (t : Tr) (hS : Small t) (hN : Nm t) (b l : List Row) (hM : (ids t).length ≤ 1000000) : ACalls Try.prog 72 [.agg [.v (eT t)]] b l (fun r b' l' => r = .v (.int .i64 (countR t)) ∧ b' = b ∧ l' = l) := by
 refine ACalls.of_ext ⟨_, Try.func72, by kernel_rfl, by kernel_rfl⟩ (fun F L w vs hr => ?_)
 obtain ⟨u, us, rfl, hs, hr2⟩ := repL_tr hN hr
 obtain rfl := repL_nil hr2
 refine (Count_any u t w hS hM hs).mono ?_
 rintro e w' ⟨rfl, he⟩
 exact ⟨he, _, _, rfl, .v _ _ (.int _ _), rfl, rfl, rfl⟩
end
end Go.Proofs.Ytanblnhnfkeffaa
namespace Go.Proofs.Ytanblnhnfkeffaa
set_option linter.unusedVariables false
set_option linter.unusedSimpArgs false
theorem ACalls.frz {P : Program} {f i ver sz : Nat} {args : List AV} {rows : List (List IV)} {b l : List Row} {Q : AV → List Row → List Row → Prop} (hi : l[i]? = some (.live ver sz (vs rows))) (h : ACalls P f (args.map (frz (b.length + i) ver sz rows)) b (l.set i (.dead ver)) Q) : ACalls P f args b l Q := by
 refine ⟨h.1, fun F L w us s hr => ?_⟩
 obtain ⟨F', s1, he1, st1, _⟩ := freeze_core (e := args) hi F L w { tmps := us, defers := [] } s ⟨rfl, by have := hr.1; simpa using this.symm, fun j x v hx hv => hr.2 j x v hx (by simpa using hv)⟩
 refine Calls.mono (h.2 F' L w us s1 ⟨by have := hr.1; simpa using this, fun j x v hx hv => he1.2.2 j x v hx (by simpa using hv)⟩) ?_
 rintro en w' ⟨v, x, b', l', F2, L2, h1, h2, h3, h4, h5, h6⟩
 have hlen : (b ++ l.set i (.dead ver)).length = (b ++ l).length := by simp
 have st : Step (b ++ l).length F L (b ++ l) w F' L (b ++ l.set i (.dead ver)) w := by
  refine ⟨st1.imm, fun _ _ _ _ hl => hl, rfl, rfl, rfl, Nat.le_refl _, fun _ _ _ => rfl, st1.own, fun id hid v hv => ?_, st1.fnew⟩
  by_cases hj : id < b.length
  ·rw [List.getElem?_append_left hj] at hv ⊢; exact hv
  ·rw [List.getElem?_append_right oM] at hv ⊢
   by_cases hji : i = id - b.length
   ·rw [← hji, hi] at hv; cases hv
   ·rw [List.getElem?_set_ne hji]; exact hv
 exact ⟨v, x, b', l', F2, L2, h1, h2, h3, st.trans (hlen ▸ h4), h5, h6⟩

theorem few_small {t : Tr} (h : fewB t = true) : Small t := by
 unfold fewB at h
 simp only [Bool.and_eq_true, decide_eq_true_eq, List.all_eq_true, List.mem_range, Bool.not_eq_true'] at h
 obtain ⟨h1, h2⟩ := h
 have key : ∀ x ∈ t, (x.evs.length ≤ 70 ∧ x.vars.length ≤ 12) ∧ ∀ e ∈ x.evs, e.asg.length ≤ 12 := by
  intro x hx
  obtain ⟨i, hi⟩ := List.mem_iff_getElem?.1 hx
  have hb := h2 i (List.getElem?_eq_some_iff.1 hi).1
  unfold badAt at hb
  rw [hi] at hb
  simp only [longP, longIn, Bool.or_eq_false_iff, decide_eq_false_iff_not] at hb
  refine ⟨⟨by omega, by omega⟩, fun e he => ?_⟩
  obtain ⟨j, hj⟩ := List.mem_iff_getElem?.1 he
  have := List.any_eq_false.1 hb.2.2 j (List.mem_range.2 (List.getElem?_eq_some_iff.1 hj).1)
  unfold longE at this
  rw [hj] at this
  simp at this
  omega
 exact ⟨by omega, fun x hx => by have := (key x hx).1.2; omega, fun x hx => by have := (key x hx).1.1; omega, fun x hx e he => by have := (key x hx).2 e he; omega⟩

end Go.Proofs.Ytanblnhnfkeffaa
namespace Go.Proofs.Ytanblnhnfkeffaa
set_option linter.unusedVariables false
set_option linter.unusedSimpArgs false
def a_pair : AFunc := ⟨0,9,[.cell 0 (some 1)],(.seq (.region [⟨some 0,.alloc [(.v .zsl)],none⟩]) (.seq (.region [⟨some 1,.build [(.v (.int .i64 0)),(.v (.int .i64 0)),(.v (.int .i64 0)),(.v (.int .i64 0)),(.v .zsl)] [(0,1,(.c (.v (.int .i64 2)))),(1,1,(.c (.v (.int .i64 1)))),(2,1,(.c (.v (.int .i64 5))))],none⟩,⟨some 2,.bslice 5 [(.v (.int .i64 0)),(.v (.int .i64 0)),(.v (.int .i64 0)),(.v (.int .i64 0)),(.v .zsl)] 1 [(0,(.t 1))],none⟩,⟨some 3,.build [(.v (.str ⟨#[]⟩)),(.v .zsl),(.v .zsl)] [(0,1,(.c (.v (.str ⟨#[97]⟩)))),(2,1,(.t 2))],none⟩,⟨some 4,.build [(.v (.int .i64 0)),(.v (.int .i64 0)),(.v (.int .i64 0)),(.v (.int .i64 0)),(.v .zsl)] [(0,1,(.c (.v (.int .i64 3)))),(1,1,(.c (.v (.int .i64 0)))),(2,1,(.c (.v (.int .i64 5))))],none⟩,⟨some 5,.bslice 5 [(.v (.int .i64 0)),(.v (.int .i64 0)),(.v (.int .i64 0)),(.v (.int .i64 0)),(.v .zsl)] 1 [(0,(.t 4))],none⟩,⟨some 6,.build [(.v (.str ⟨#[]⟩)),(.v .zsl),(.v .zsl)] [(0,1,(.c (.v (.str ⟨#[98]⟩)))),(2,1,(.t 5))],none⟩,⟨some 7,.bslice 3 [(.v (.str ⟨#[]⟩)),(.v .zsl),(.v .zsl)] 2 [(0,(.t 3)),(1,(.t 6))],none⟩,⟨some 8,.build [(.v .zsl)] [(0,1,(.t 7))],none⟩,⟨none,.store 1 (.t 0) (.t 8),none⟩]) .ret))⟩
theorem a_pair_ok : cFunc Try.prog 71 = some a_pair := by kernel_rfl

def pairT : Tr := [⟨⟨#[97]⟩, [], [⟨2, 1, 5, 0, []⟩]⟩, ⟨⟨#[98]⟩, [], [⟨3, 0, 5, 0, []⟩]⟩]
def pairR : List (List IV) := [[.str ⟨#[97]⟩, .zsl, .isl 5 [[.int .i64 2, .int .i64 1, .int .i64 5, .int .i64 0, .zsl]]], [.str ⟨#[98]⟩, .zsl, .isl 5 [[.int .i64 3, .int .i64 0, .int .i64 5, .int .i64 0, .zsl]]]]
theorem getLe_nil {f : IV → IV → Prop} : ∀ (j : Nat) (a a' : IV), ([] : List IV)[j]? = some a → ([] : List IV)[j]? = some a' → f a a' := fun j a a' h => by simp at h
theorem getLe_cons {f : IV → IV → Prop} {x y : IV} {xs ys : List IV} (h : f x y) (hs : ∀ (j : Nat) (a a' : IV), xs[j]? = some a → ys[j]? = some a' → f a a') : ∀ (j : Nat) (a a' : IV), (x :: xs)[j]? = some a → (y :: ys)[j]? = some a' → f a a' := by
 intro j a a' h1 h2
 cases j with
 | zero => simp at h1 h2; subst h1; subst h2; exact h
 | succ j => simp at h1 h2; exact hs j a a' h1 h2
theorem pair_le : RowsLe pairR (pairT.map ePr) := by
 have ev : ∀ (a c d e : Int), IVle (.isl 5 [[.int .i64 a, .int .i64 c, .int .i64 d, .int .i64 e, .zsl]]) (.isl 5 [[.int .i64 a, .int .i64 c, .int .i64 d, .int .i64 e, .isl 2 []]]) := fun a c d e =>
  .rows ⟨⟨rfl, getLe_cons (.refl _) (getLe_cons (.refl _) (getLe_cons (.refl _) (getLe_cons (.refl _) (getLe_cons (.zsl 2) getLe_nil))))⟩, trivial⟩
 exact ⟨⟨rfl, getLe_cons (.refl _) (getLe_cons (.zsl 2) (getLe_cons (ev _ _ _ _) getLe_nil))⟩, ⟨rfl, getLe_cons (.refl _) (getLe_cons (.zsl 2) (getLe_cons (ev _ _ _ _) getLe_nil))⟩, trivial⟩
theorem pair_spec (b l : List Row) : ACalls Try.prog 71 [] b l (fun r b' l' => r = .agg [.v (eT pairT)] ∧ b' = b ∧ l' = l) := by
 refine calls_of a_pair_ok rfl ?_
 intro B hB hR _
 simp only [a_pair, ↓run_skip, ↓run_region, ↓run_draw, ↓run_both, ↓run_seq, ↓run_block, ↓run_exit, ↓run_ret, ↓run_cond, ↓atN_app, ↓seqC_normal, ↓seqC_exit, ↓seqC_ret, ↓seqQ_normal, ↓seqQ_exit, ↓seqQ_ret, ↓blkQ_normal, ↓blkQ_exit, ↓blkQ_ret, ↓runOps_nil, ↓runOps_cons, ↓runD_nil, ↓runD_cons, ↓grdO_true, ↓grdO_false, ↓grdD_true, ↓grdD_false, ↓ifC_true, ↓ifC_false, ↓opS_val, ↓opS_call, ↓opS_two, ↓opK_app, ↓dS_val, ↓dS_call, ↓dS_two, ↓dK_app, rechks_nil, rechks_cons, rechk, gcase_true, gcase_false, ex_val, ex_val0, gd_none, gd_some, nth_zero, nth_succ, upd_zero, upd_succ, put_some, put_none, ev_t, ev_c, evs_nil, evs_cons, evo_some, evo_none, hget_at, hget_first, hsetB_at, hsetB_first, hsetL_at, hsetL_first, ofOpt_some, aop, aload, astore, aslice, aappend, aiaddr, aiaddrA, afaddr, alen, alenS, acopy, amm, acall, alookup, amupdate, alenM, atostr, comma, keyEq, apick, binV, binVB, binVS, isSh, intOp, strOp, boolOp, shOp, eqC, eqF, and2, cellsOf, setFrom, fillA, fillS, rd, rdI, elems, mk, bounds, AV.cell, List.all_cons, List.all_nil, Bool.and_true, Bool.true_and, Bool.and_self, List.length_cons, List.length_nil, List.length_append, Nat.reduceAdd, Nat.reduceSub, Nat.reduceMul, Nat.zero_add, Nat.add_zero, List.replicate_succ, List.replicate_zero, List.cons_append, List.nil_append, List.append_assoc, List.append_nil, List.getElem?_cons_zero, List.getElem?_cons_succ, List.getElem?_nil, List.set_cons_zero, List.set_cons_succ, List.drop_zero, List.drop_succ_cons, List.take_zero, List.take_succ_cons, List.take_nil, List.drop_nil, List.map_cons, List.map_nil, Option.map_some, if_true, if_false, Bool.false_eq_true, and_self, true_and, and_true, Nat.reduceLeDiff, Nat.reduceLT, Nat.le_refl, Nat.reduceEqDiff, ite_true, ite_false, beq_self_eq_true, beq_true, beq_false, Bool.not_true, Bool.not_false, Bool.true_beq, Bool.false_beq]
 refine leave (.inr rfl) (xs := [.agg [.sl (B.length + 3) 0 0 2]]) (by simp only [resVs, resV, ↓run_skip, ↓run_region, ↓run_draw, ↓run_both, ↓run_seq, ↓run_block, ↓run_exit, ↓run_ret, ↓run_cond, ↓atN_app, ↓seqC_normal, ↓seqC_exit, ↓seqC_ret, ↓seqQ_normal, ↓seqQ_exit, ↓seqQ_ret, ↓blkQ_normal, ↓blkQ_exit, ↓blkQ_ret, ↓runOps_nil, ↓runOps_cons, ↓runD_nil, ↓runD_cons, ↓grdO_true, ↓grdO_false, ↓grdD_true, ↓grdD_false, ↓ifC_true, ↓ifC_false, ↓opS_val, ↓opS_call, ↓opS_two, ↓opK_app, ↓dS_val, ↓dS_call, ↓dS_two, ↓dK_app, rechks_nil, rechks_cons, rechk, gcase_true, gcase_false, ex_val, ex_val0, gd_none, gd_some, nth_zero, nth_succ, upd_zero, upd_succ, put_some, put_none, ev_t, ev_c, evs_nil, evs_cons, evo_some, evo_none, hget_at, hget_first, hsetB_at, hsetB_first, hsetL_at, hsetL_first, ofOpt_some, aop, aload, astore, aslice, aappend, aiaddr, aiaddrA, afaddr, alen, alenS, acopy, amm, acall, alookup, amupdate, alenM, atostr, comma, keyEq, apick, binV, binVB, binVS, isSh, intOp, strOp, boolOp, shOp, eqC, eqF, and2, cellsOf, setFrom, fillA, fillS, rd, rdI, elems, mk, bounds, AV.cell, List.all_cons, List.all_nil, Bool.and_true, Bool.true_and, Bool.and_self, List.length_cons, List.length_nil, List.length_append, Nat.reduceAdd, Nat.reduceSub, Nat.reduceMul, Nat.zero_add, Nat.add_zero, List.replicate_succ, List.replicate_zero, List.cons_append, List.nil_append, List.append_assoc, List.append_nil, List.getElem?_cons_zero, List.getElem?_cons_succ, List.getElem?_nil, List.set_cons_zero, List.set_cons_succ, List.drop_zero, List.drop_succ_cons, List.take_zero, List.take_succ_cons, List.take_nil, List.drop_nil, List.map_cons, List.map_nil, Option.map_some, if_true, if_false, Bool.false_eq_true, and_self, true_and, and_true, Nat.reduceLeDiff, Nat.reduceLT, Nat.le_refl, Nat.reduceEqDiff, ite_true, ite_false, beq_self_eq_true, beq_true, beq_false, Bool.not_true, Bool.not_false, Bool.true_beq, Bool.false_beq]) (y := .agg [.v (eT pairT)]) (l' := []) ?_ hB ⟨rfl, by simp, by simp⟩
 refine (Weak.freezeAll (i := 1) (rows := [[.int .i64 2, .int .i64 1, .int .i64 5, .int .i64 0, .zsl]]) rfl).trans ?_
 refine (Weak.freezeAll (i := 2) (ver := 0) (sz := 5) (rows := [[.int .i64 3, .int .i64 0, .int .i64 5, .int .i64 0, .zsl]]) rfl).trans ?_
 have e1 : ∀ (i : Nat) (r : List (List IV)), i < 3 → List.map (frz (B.length + i) 0 5 r) [one [.agg [.sl (B.length + 3) 0 0 2]]] = [.agg [.sl (B.length + 3) 0 0 2]] := by
  intro i r hi
  have : ¬ (3 = i) := by omega
  simp [one, frz, frz0, this]
 have e2 : ∀ (i : Nat) (r : List (List IV)), i < 3 → List.map (frz (B.length + i) 0 5 r) [.agg [.sl (B.length + 3) 0 0 2]] = [.agg [.sl (B.length + 3) 0 0 2]] := by
  intro i r hi
  have : ¬ (3 = i) := by omega
  simp [frz, frz0, this]
 rw [e1 1 _ oM, e2 2 _ oM]
 refine (Weak.freeze (i := 3) (ver := 0) (sz := 3) (rows := pairR) ?_).trans ?_
 ·simp [rowMap, frz0, pairR]
 ·have e3 : List.map (frz (B.length + 3) 0 3 pairR) [.agg [.sl (B.length + 3) 0 0 2]] = [.agg [.v (.isl 3 pairR)]] := by
   simp [frz, frz0, pairR]
  rw [e3]
  refine (Weak.trim (l1 := []) rfl ?_ (by simpa using hR) RowsLt_nil).trans (Weak.le rfl ?_)
  ·intro x hx; simp at hx; subst hx; exact .agg _ (by intro c hc; simp at hc; subst hc; exact .v _)
  ·intro i x y h1 h2
   cases i with
   | zero =>
     simp at h1 h2; subst h1; subst h2
     refine .agg _ _ rfl (fun i a c ha hc => ?_)
     cases i with
     | zero => simp at ha hc; subst ha; subst hc; exact .v _ _ (.rows pair_le)
     | succ i => simp at ha
   | succ i => simp at h2
end Go.Proofs.Ytanblnhnfkeffaa
namespace Go.Proofs.Ytanblnhnfkeffaa
set_option linter.unusedVariables false
set_option linter.unusedSimpArgs false
def a_awake : AFunc := ⟨0,54,[.tmp 0],(.seq (.region [⟨some 0,.mv (.c (.v (.bool false))),none⟩]) (.seq (.region [⟨some 8,.call (.c (.fn 71 [])) [],none⟩,⟨some 1,.alloc [(.v .zsl)],none⟩,⟨none,.store 1 (.t 1) (.t 8),none⟩]) (.seq (.region [⟨some 10,.load (some 1) (.t 1),none⟩,⟨some 11,.bslice 1 [(.v (.int .i64 0))] 2 [(0,(.c (.v (.int .i64 0)))),(1,(.c (.v (.int .i64 1))))],none⟩,⟨some 12,.call (.c (.fn 16 [])) [(.t 10),(.t 11)],none⟩,⟨some 9,.mv (.t 12),none⟩,⟨some 13,.extract 0 (.t 9),none⟩,⟨some 14,.extract 1 (.t 9),none⟩,⟨some 2,.alloc [(.v .zsl)],none⟩,⟨none,.store 1 (.t 2) (.t 13),none⟩,⟨some 3,.mv (.t 14),none⟩]) (.seq (.region [⟨some 16,.load (some 1) (.t 1),none⟩,⟨some 17,.bslice 1 [(.v (.int .i64 0))] 2 [(0,(.c (.v (.int .i64 1)))),(1,(.c (.v (.int .i64 0))))],none⟩,⟨some 18,.call (.c (.fn 16 [])) [(.t 16),(.t 17)],none⟩,⟨some 15,.mv (.t 18),none⟩,⟨some 19,.extract 0 (.t 15),none⟩,⟨some 20,.extract 1 (.t 15),none⟩,⟨some 4,.alloc [(.v .zsl)],none⟩,⟨none,.store 1 (.t 4) (.t 19),none⟩,⟨some 5,.mv (.t 20),none⟩]) (.seq (.region [⟨some 22,.load (some 1) (.t 1),none⟩,⟨some 23,.call (.c (.fn 18 [])) [(.t 22),(.c (.v (.int .i64 5)))],none⟩,⟨some 21,.mv (.t 23),none⟩,⟨some 24,.extract 0 (.t 21),none⟩,⟨some 25,.extract 1 (.t 21),none⟩,⟨some 6,.alloc [(.v (.int .i64 0)),(.v (.int .i64 0))],none⟩,⟨none,.store 2 (.t 6) (.t 24),none⟩,⟨some 7,.mv (.t 25),none⟩]) (.seq (.region [⟨some 26,.load (some 1) (.t 1),none⟩,⟨some 27,.call (.c (.fn 15 [])) [(.t 26)],none⟩,⟨some 28,.mv (.t 27),none⟩,⟨some 29,.mv (.t 3),some (28,true)⟩,⟨some 30,.bin .eql (.t 29) (.c (.v (.int .i64 18))),some (28,true)⟩,⟨some 31,.pick (.t 28) (.t 30) (.c (.v (.bool false))),none⟩,⟨some 32,.mv (.t 31),none⟩,⟨some 33,.mv (.t 5),some (32,true)⟩,⟨some 34,.bin .eql (.t 33) (.c (.v (.int .i64 0))),some (32,true)⟩,⟨some 35,.pick (.t 32) (.t 34) (.c (.v (.bool false))),none⟩,⟨some 36,.mv (.t 35),none⟩,⟨some 37,.load (some 1) (.t 4),some (36,true)⟩,⟨some 38,.call (.c (.fn 72 [])) [(.t 37)],some (36,true)⟩,⟨some 39,.bin .eql (.t 38) (.c (.v (.int .i64 1))),some (36,true)⟩,⟨some 40,.pick (.t 36) (.t 39) (.c (.v (.bool false))),none⟩,⟨some 41,.mv (.t 40),none⟩,⟨some 42,.mv (.t 7),some (41,true)⟩,⟨some 43,.pick (.t 41) (.t 42) (.c (.v (.bool false))),none⟩,⟨some 44,.mv (.t 43),none⟩,⟨some 45,.load (some 2) (.t 6),some (44,true)⟩,⟨some 46,.build [(.v (.int .i64 0)),(.v (.int .i64 0))] [(0,1,(.c (.v (.int .i64 0)))),(1,1,(.c (.v (.int .i64 1))))],some (44,true)⟩,⟨some 47,.eqs false [.i,.i] (.t 45) (.t 46),some (44,true)⟩,⟨some 48,.pick (.t 44) (.t 47) (.c (.v (.bool false))),none⟩,⟨some 49,.mv (.t 48),none⟩,⟨some 50,.build [(.v .zsl)] [],some (49,true)⟩,⟨some 51,.call (.c (.fn 15 [])) [(.t 50)],some (49,true)⟩,⟨some 52,.not (.t 51),some (49,true)⟩,⟨some 53,.pick (.t 49) (.t 52) (.c (.v (.bool false))),none⟩,⟨some 0,.mv (.t 53),none⟩]) .ret))))))⟩
theorem a_awake_ok : cFunc Try.prog 13 = some a_awake := by kernel_rfl

theorem pair_small : Small pairT := ⟨by decide, by decide, by decide, by decide⟩
theorem awake_run (p : Tr) (hp : Small p ∧ Nm p ∧ (ids p).length ≤ 1000000) (hN : Nm pairT) (hv : validL pairT = true) (hv0 : validL [] = false) (hs : findR pairT 2 5 = (0, 1)) (hc : countR p = 1)
  (h1 : ∀ b l, ACalls Try.prog 16 [.agg [.v (eT pairT)], .v (.isl 1 [[.int .i64 0], [.int .i64 1]])] b l (fun r b' l' => r = .tup [.agg [.v .zsl], .v (.int .i64 18)] ∧ b' = b ∧ l' = l))
  (h2 : ∀ b l, ACalls Try.prog 16 [.agg [.v (eT pairT)], .v (.isl 1 [[.int .i64 1], [.int .i64 0]])] b l (fun r b' l' => r = .tup [.agg [.v (eT p)], .v (.int .i64 0)] ∧ b' = b ∧ l' = l)) (b l : List Row) :
  ACalls Try.prog 13 [] b l (fun r b' l' => r = .v (.bool true) ∧ b' = b ∧ l' = l) := by
 refine calls_of a_awake_ok rfl ?_
 intro B hB hR _
 simp only [a_awake, ↓run_skip, ↓run_region, ↓run_draw, ↓run_both, ↓run_seq, ↓run_block, ↓run_exit, ↓run_ret, ↓run_cond, ↓atN_app, ↓seqC_normal, ↓seqC_exit, ↓seqC_ret, ↓seqQ_normal, ↓seqQ_exit, ↓seqQ_ret, ↓blkQ_normal, ↓blkQ_exit, ↓blkQ_ret, ↓runOps_nil, ↓runOps_cons, ↓runD_nil, ↓runD_cons, ↓grdO_true, ↓grdO_false, ↓grdD_true, ↓grdD_false, ↓ifC_true, ↓ifC_false, ↓opS_val, ↓opS_call, ↓opS_two, ↓opK_app, ↓dS_val, ↓dS_call, ↓dS_two, ↓dK_app, rechks_nil, rechks_cons, rechk, gcase_true, gcase_false, ex_val, ex_val0, gd_none, gd_some, nth_zero, nth_succ, upd_zero, upd_succ, put_some, put_none, ev_t, ev_c, evs_nil, evs_cons, evo_some, evo_none, hget_at, hget_first, hsetB_at, hsetB_first, hsetL_at, hsetL_first, ofOpt_some, aop, aload, astore, aslice, aappend, aiaddr, aiaddrA, afaddr, alen, alenS, acopy, amm, acall, alookup, amupdate, alenM, atostr, comma, keyEq, apick, binV, binVB, binVS, isSh, intOp, strOp, boolOp, shOp, eqC, eqF, and2, cellsOf, setFrom, fillA, fillS, rd, rdI, elems, mk, bounds, AV.cell, List.all_cons, List.all_nil, Bool.and_true, Bool.true_and, Bool.and_self, List.length_cons, List.length_nil, List.length_append, Nat.reduceAdd, Nat.reduceSub, Nat.reduceMul, Nat.zero_add, Nat.add_zero, List.replicate_succ, List.replicate_zero, List.cons_append, List.nil_append, List.append_assoc, List.append_nil, List.getElem?_cons_zero, List.getElem?_cons_succ, List.getElem?_nil, List.set_cons_zero, List.set_cons_succ, List.drop_zero, List.drop_succ_cons, List.take_zero, List.take_succ_cons, List.take_nil, List.drop_nil, List.map_cons, List.map_nil, Option.map_some, if_true, if_false, Bool.false_eq_true, and_self, true_and, and_true, Nat.reduceLeDiff, Nat.reduceLT, Nat.le_refl, Nat.reduceEqDiff, ite_true, ite_false, beq_self_eq_true, beq_true, beq_false, Bool.not_true, Bool.not_false, Bool.true_beq, Bool.false_beq]
 refine ACalls_mono _ _ _ _ _ _ (pair_spec _ _) ?_
 rintro r b' l' ⟨rfl, rfl, rfl⟩
 obtain ⟨T, hT⟩ : ∃ T, eT pairT = T := ⟨_, rfl⟩
 rw [hT] at h1 h2
 simp only [hT, ↓run_skip, ↓run_region, ↓run_draw, ↓run_both, ↓run_seq, ↓run_block, ↓run_exit, ↓run_ret, ↓run_cond, ↓atN_app, ↓seqC_normal, ↓seqC_exit, ↓seqC_ret, ↓seqQ_normal, ↓seqQ_exit, ↓seqQ_ret, ↓blkQ_normal, ↓blkQ_exit, ↓blkQ_ret, ↓runOps_nil, ↓runOps_cons, ↓runD_nil, ↓runD_cons, ↓grdO_true, ↓grdO_false, ↓grdD_true, ↓grdD_false, ↓ifC_true, ↓ifC_false, ↓opS_val, ↓opS_call, ↓opS_two, ↓opK_app, ↓dS_val, ↓dS_call, ↓dS_two, ↓dK_app, rechks_nil, rechks_cons, rechk, gcase_true, gcase_false, ex_val, ex_val0, gd_none, gd_some, nth_zero, nth_succ, upd_zero, upd_succ, put_some, put_none, ev_t, ev_c, evs_nil, evs_cons, evo_some, evo_none, hget_at, hget_first, hsetB_at, hsetB_first, hsetL_at, hsetL_first, ofOpt_some, aop, aload, astore, aslice, aappend, aiaddr, aiaddrA, afaddr, alen, alenS, acopy, amm, acall, alookup, amupdate, alenM, atostr, comma, keyEq, apick, binV, binVB, binVS, isSh, intOp, strOp, boolOp, shOp, eqC, eqF, and2, cellsOf, setFrom, fillA, fillS, rd, rdI, elems, mk, bounds, AV.cell, List.all_cons, List.all_nil, Bool.and_true, Bool.true_and, Bool.and_self, List.length_cons, List.length_nil, List.length_append, Nat.reduceAdd, Nat.reduceSub, Nat.reduceMul, Nat.zero_add, Nat.add_zero, List.replicate_succ, List.replicate_zero, List.cons_append, List.nil_append, List.append_assoc, List.append_nil, List.getElem?_cons_zero, List.getElem?_cons_succ, List.getElem?_nil, List.set_cons_zero, List.set_cons_succ, List.drop_zero, List.drop_succ_cons, List.take_zero, List.take_succ_cons, List.take_nil, List.drop_nil, List.map_cons, List.map_nil, Option.map_some, if_true, if_false, Bool.false_eq_true, and_self, true_and, and_true, Nat.reduceLeDiff, Nat.reduceLT, Nat.le_refl, Nat.reduceEqDiff, ite_true, ite_false, beq_self_eq_true, beq_true, beq_false, Bool.not_true, Bool.not_false, Bool.true_beq, Bool.false_beq]
 refine ACalls.frz (i := 1) (ver := 0) (sz := 1) (rows := [[.int .i64 0], [.int .i64 1]]) rfl ?_
 have ea : ∀ (n : Nat) (x y : Int), List.map (frz n 0 1 [[.int .i64 x], [.int .i64 y]]) [AV.agg [AV.v T], AV.sl n 0 0 2] = [.agg [.v T], .v (.isl 1 [[.int .i64 x], [.int .i64 y]])] := by
  intro n x y; simp [frz, frz0]
 rw [ea]
 refine ACalls_mono _ _ _ _ _ _ (h1 _ _) ?_
 rintro r b' l' ⟨rfl, rfl, rfl⟩
 simp only [↓run_skip, ↓run_region, ↓run_draw, ↓run_both, ↓run_seq, ↓run_block, ↓run_exit, ↓run_ret, ↓run_cond, ↓atN_app, ↓seqC_normal, ↓seqC_exit, ↓seqC_ret, ↓seqQ_normal, ↓seqQ_exit, ↓seqQ_ret, ↓blkQ_normal, ↓blkQ_exit, ↓blkQ_ret, ↓runOps_nil, ↓runOps_cons, ↓runD_nil, ↓runD_cons, ↓grdO_true, ↓grdO_false, ↓grdD_true, ↓grdD_false, ↓ifC_true, ↓ifC_false, ↓opS_val, ↓opS_call, ↓opS_two, ↓opK_app, ↓dS_val, ↓dS_call, ↓dS_two, ↓dK_app, rechks_nil, rechks_cons, rechk, gcase_true, gcase_false, ex_val, ex_val0, gd_none, gd_some, nth_zero, nth_succ, upd_zero, upd_succ, put_some, put_none, ev_t, ev_c, evs_nil, evs_cons, evo_some, evo_none, hget_at, hget_first, hsetB_at, hsetB_first, hsetL_at, hsetL_first, ofOpt_some, aop, aload, astore, aslice, aappend, aiaddr, aiaddrA, afaddr, alen, alenS, acopy, amm, acall, alookup, amupdate, alenM, atostr, comma, keyEq, apick, binV, binVB, binVS, isSh, intOp, strOp, boolOp, shOp, eqC, eqF, and2, cellsOf, setFrom, fillA, fillS, rd, rdI, elems, mk, bounds, AV.cell, List.all_cons, List.all_nil, Bool.and_true, Bool.true_and, Bool.and_self, List.length_cons, List.length_nil, List.length_append, Nat.reduceAdd, Nat.reduceSub, Nat.reduceMul, Nat.zero_add, Nat.add_zero, List.replicate_succ, List.replicate_zero, List.cons_append, List.nil_append, List.append_assoc, List.append_nil, List.getElem?_cons_zero, List.getElem?_cons_succ, List.getElem?_nil, List.set_cons_zero, List.set_cons_succ, List.drop_zero, List.drop_succ_cons, List.take_zero, List.take_succ_cons, List.take_nil, List.drop_nil, List.map_cons, List.map_nil, Option.map_some, if_true, if_false, Bool.false_eq_true, and_self, true_and, and_true, Nat.reduceLeDiff, Nat.reduceLT, Nat.le_refl, Nat.reduceEqDiff, ite_true, ite_false, beq_self_eq_true, beq_true, beq_false, Bool.not_true, Bool.not_false, Bool.true_beq, Bool.false_beq]
 refine ACalls.frz (i := 3) (ver := 0) (sz := 1) (rows := [[.int .i64 1], [.int .i64 0]]) rfl ?_
 rw [ea]
 refine ACalls_mono _ _ _ _ _ _ (h2 _ _) ?_
 rintro r b' l' ⟨rfl, rfl, rfl⟩
 simp only [↓run_skip, ↓run_region, ↓run_draw, ↓run_both, ↓run_seq, ↓run_block, ↓run_exit, ↓run_ret, ↓run_cond, ↓atN_app, ↓seqC_normal, ↓seqC_exit, ↓seqC_ret, ↓seqQ_normal, ↓seqQ_exit, ↓seqQ_ret, ↓blkQ_normal, ↓blkQ_exit, ↓blkQ_ret, ↓runOps_nil, ↓runOps_cons, ↓runD_nil, ↓runD_cons, ↓grdO_true, ↓grdO_false, ↓grdD_true, ↓grdD_false, ↓ifC_true, ↓ifC_false, ↓opS_val, ↓opS_call, ↓opS_two, ↓opK_app, ↓dS_val, ↓dS_call, ↓dS_two, ↓dK_app, rechks_nil, rechks_cons, rechk, gcase_true, gcase_false, ex_val, ex_val0, gd_none, gd_some, nth_zero, nth_succ, upd_zero, upd_succ, put_some, put_none, ev_t, ev_c, evs_nil, evs_cons, evo_some, evo_none, hget_at, hget_first, hsetB_at, hsetB_first, hsetL_at, hsetL_first, ofOpt_some, aop, aload, astore, aslice, aappend, aiaddr, aiaddrA, afaddr, alen, alenS, acopy, amm, acall, alookup, amupdate, alenM, atostr, comma, keyEq, apick, binV, binVB, binVS, isSh, intOp, strOp, boolOp, shOp, eqC, eqF, and2, cellsOf, setFrom, fillA, fillS, rd, rdI, elems, mk, bounds, AV.cell, List.all_cons, List.all_nil, Bool.and_true, Bool.true_and, Bool.and_self, List.length_cons, List.length_nil, List.length_append, Nat.reduceAdd, Nat.reduceSub, Nat.reduceMul, Nat.zero_add, Nat.add_zero, List.replicate_succ, List.replicate_zero, List.cons_append, List.nil_append, List.append_assoc, List.append_nil, List.getElem?_cons_zero, List.getElem?_cons_succ, List.getElem?_nil, List.set_cons_zero, List.set_cons_succ, List.drop_zero, List.drop_succ_cons, List.take_zero, List.take_succ_cons, List.take_nil, List.drop_nil, List.map_cons, List.map_nil, Option.map_some, if_true, if_false, Bool.false_eq_true, and_self, true_and, and_true, Nat.reduceLeDiff, Nat.reduceLT, Nat.le_refl, Nat.reduceEqDiff, ite_true, ite_false, beq_self_eq_true, beq_true, beq_false, Bool.not_true, Bool.not_false, Bool.true_beq, Bool.false_beq]
 refine ACalls_mono _ _ _ _ _ _ (hT ▸ sender_spec pairT pair_small hN _ _ 5) ?_
 rintro r b' l' ⟨rfl, rfl, rfl⟩
 simp only [idA, hs, (show ((0 : Nat) : Int) = 0 from rfl), (show ((1 : Nat) : Int) = 1 from rfl), Nat.zero_lt_one, decide_true, ↓run_skip, ↓run_region, ↓run_draw, ↓run_both, ↓run_seq, ↓run_block, ↓run_exit, ↓run_ret, ↓run_cond, ↓atN_app, ↓seqC_normal, ↓seqC_exit, ↓seqC_ret, ↓seqQ_normal, ↓seqQ_exit, ↓seqQ_ret, ↓blkQ_normal, ↓blkQ_exit, ↓blkQ_ret, ↓runOps_nil, ↓runOps_cons, ↓runD_nil, ↓runD_cons, ↓grdO_true, ↓grdO_false, ↓grdD_true, ↓grdD_false, ↓ifC_true, ↓ifC_false, ↓opS_val, ↓opS_call, ↓opS_two, ↓opK_app, ↓dS_val, ↓dS_call, ↓dS_two, ↓dK_app, rechks_nil, rechks_cons, rechk, gcase_true, gcase_false, ex_val, ex_val0, gd_none, gd_some, nth_zero, nth_succ, upd_zero, upd_succ, put_some, put_none, ev_t, ev_c, evs_nil, evs_cons, evo_some, evo_none, hget_at, hget_first, hsetB_at, hsetB_first, hsetL_at, hsetL_first, ofOpt_some, aop, aload, astore, aslice, aappend, aiaddr, aiaddrA, afaddr, alen, alenS, acopy, amm, acall, alookup, amupdate, alenM, atostr, comma, keyEq, apick, binV, binVB, binVS, isSh, intOp, strOp, boolOp, shOp, eqC, eqF, and2, cellsOf, setFrom, fillA, fillS, rd, rdI, elems, mk, bounds, AV.cell, List.all_cons, List.all_nil, Bool.and_true, Bool.true_and, Bool.and_self, List.length_cons, List.length_nil, List.length_append, Nat.reduceAdd, Nat.reduceSub, Nat.reduceMul, Nat.zero_add, Nat.add_zero, List.replicate_succ, List.replicate_zero, List.cons_append, List.nil_append, List.append_assoc, List.append_nil, List.getElem?_cons_zero, List.getElem?_cons_succ, List.getElem?_nil, List.set_cons_zero, List.set_cons_succ, List.drop_zero, List.drop_succ_cons, List.take_zero, List.take_succ_cons, List.take_nil, List.drop_nil, List.map_cons, List.map_nil, Option.map_some, if_true, if_false, Bool.false_eq_true, and_self, true_and, and_true, Nat.reduceLeDiff, Nat.reduceLT, Nat.le_refl, Nat.reduceEqDiff, ite_true, ite_false, beq_self_eq_true, beq_true, beq_false, Bool.not_true, Bool.not_false, Bool.true_beq, Bool.false_beq]
 refine ACalls_mono _ _ _ _ _ _ (hT ▸ valid_spec pairT pair_small hN _ _) ?_
 rintro r b' l' ⟨rfl, rfl, rfl⟩
 obtain ⟨U, hU⟩ : ∃ U, eT p = U := ⟨_, rfl⟩
 simp only [hv, hU, ↓run_skip, ↓run_region, ↓run_draw, ↓run_both, ↓run_seq, ↓run_block, ↓run_exit, ↓run_ret, ↓run_cond, ↓atN_app, ↓seqC_normal, ↓seqC_exit, ↓seqC_ret, ↓seqQ_normal, ↓seqQ_exit, ↓seqQ_ret, ↓blkQ_normal, ↓blkQ_exit, ↓blkQ_ret, ↓runOps_nil, ↓runOps_cons, ↓runD_nil, ↓runD_cons, ↓grdO_true, ↓grdO_false, ↓grdD_true, ↓grdD_false, ↓ifC_true, ↓ifC_false, ↓opS_val, ↓opS_call, ↓opS_two, ↓opK_app, ↓dS_val, ↓dS_call, ↓dS_two, ↓dK_app, rechks_nil, rechks_cons, rechk, gcase_true, gcase_false, ex_val, ex_val0, gd_none, gd_some, nth_zero, nth_succ, upd_zero, upd_succ, put_some, put_none, ev_t, ev_c, evs_nil, evs_cons, evo_some, evo_none, hget_at, hget_first, hsetB_at, hsetB_first, hsetL_at, hsetL_first, ofOpt_some, aop, aload, astore, aslice, aappend, aiaddr, aiaddrA, afaddr, alen, alenS, acopy, amm, acall, alookup, amupdate, alenM, atostr, comma, keyEq, apick, binV, binVB, binVS, isSh, intOp, strOp, boolOp, shOp, eqC, eqF, and2, cellsOf, setFrom, fillA, fillS, rd, rdI, elems, mk, bounds, AV.cell, List.all_cons, List.all_nil, Bool.and_true, Bool.true_and, Bool.and_self, List.length_cons, List.length_nil, List.length_append, Nat.reduceAdd, Nat.reduceSub, Nat.reduceMul, Nat.zero_add, Nat.add_zero, List.replicate_succ, List.replicate_zero, List.cons_append, List.nil_append, List.append_assoc, List.append_nil, List.getElem?_cons_zero, List.getElem?_cons_succ, List.getElem?_nil, List.set_cons_zero, List.set_cons_succ, List.drop_zero, List.drop_succ_cons, List.take_zero, List.take_succ_cons, List.take_nil, List.drop_nil, List.map_cons, List.map_nil, Option.map_some, if_true, if_false, Bool.false_eq_true, and_self, true_and, and_true, Nat.reduceLeDiff, Nat.reduceLT, Nat.le_refl, Nat.reduceEqDiff, ite_true, ite_false, beq_self_eq_true, beq_true, beq_false, Bool.not_true, Bool.not_false, Bool.true_beq, Bool.false_beq]
 refine ACalls_mono _ _ _ _ _ _ (hU ▸ count_spec p hp.1 hp.2.1 _ _ hp.2.2) ?_
 rintro r b' l' ⟨rfl, rfl, rfl⟩
 simp only [hc, (show ((1 : Nat) : Int) = 1 from rfl), ↓run_skip, ↓run_region, ↓run_draw, ↓run_both, ↓run_seq, ↓run_block, ↓run_exit, ↓run_ret, ↓run_cond, ↓atN_app, ↓seqC_normal, ↓seqC_exit, ↓seqC_ret, ↓seqQ_normal, ↓seqQ_exit, ↓seqQ_ret, ↓blkQ_normal, ↓blkQ_exit, ↓blkQ_ret, ↓runOps_nil, ↓runOps_cons, ↓runD_nil, ↓runD_cons, ↓grdO_true, ↓grdO_false, ↓grdD_true, ↓grdD_false, ↓ifC_true, ↓ifC_false, ↓opS_val, ↓opS_call, ↓opS_two, ↓opK_app, ↓dS_val, ↓dS_call, ↓dS_two, ↓dK_app, rechks_nil, rechks_cons, rechk, gcase_true, gcase_false, ex_val, ex_val0, gd_none, gd_some, nth_zero, nth_succ, upd_zero, upd_succ, put_some, put_none, ev_t, ev_c, evs_nil, evs_cons, evo_some, evo_none, hget_at, hget_first, hsetB_at, hsetB_first, hsetL_at, hsetL_first, ofOpt_some, aop, aload, astore, aslice, aappend, aiaddr, aiaddrA, afaddr, alen, alenS, acopy, amm, acall, alookup, amupdate, alenM, atostr, comma, keyEq, apick, binV, binVB, binVS, isSh, intOp, strOp, boolOp, shOp, eqC, eqF, and2, cellsOf, setFrom, fillA, fillS, rd, rdI, elems, mk, bounds, AV.cell, List.all_cons, List.all_nil, Bool.and_true, Bool.true_and, Bool.and_self, List.length_cons, List.length_nil, List.length_append, Nat.reduceAdd, Nat.reduceSub, Nat.reduceMul, Nat.zero_add, Nat.add_zero, List.replicate_succ, List.replicate_zero, List.cons_append, List.nil_append, List.append_assoc, List.append_nil, List.getElem?_cons_zero, List.getElem?_cons_succ, List.getElem?_nil, List.set_cons_zero, List.set_cons_succ, List.drop_zero, List.drop_succ_cons, List.take_zero, List.take_succ_cons, List.take_nil, List.drop_nil, List.map_cons, List.map_nil, Option.map_some, if_true, if_false, Bool.false_eq_true, and_self, true_and, and_true, Nat.reduceLeDiff, Nat.reduceLT, Nat.le_refl, Nat.reduceEqDiff, ite_true, ite_false, beq_self_eq_true, beq_true, beq_false, Bool.not_true, Bool.not_false, Bool.true_beq, Bool.false_beq]
 have hnil : Small [] := ⟨by decide, by simp, by simp, by simp⟩
 refine ACalls_mono _ _ _ _ _ _ (ACalls.le (valid_spec [] hnil (by intro p hp; simp at hp) _ _) rfl ?_) ?_
 ·intro i a c ha hc
  cases i with
  | zero =>
    simp at ha hc; subst ha; subst hc
    refine .agg _ _ rfl (fun i a c ha hc => ?_)
    cases i with
    | zero => simp at ha hc; subst ha; subst hc; exact .v _ _ (.zsl 3)
    | succ i => simp at ha
  | succ i => simp at ha
 rintro r b' l' ⟨rfl, rfl, rfl⟩
 simp only [hv0, ↓run_skip, ↓run_region, ↓run_draw, ↓run_both, ↓run_seq, ↓run_block, ↓run_exit, ↓run_ret, ↓run_cond, ↓atN_app, ↓seqC_normal, ↓seqC_exit, ↓seqC_ret, ↓seqQ_normal, ↓seqQ_exit, ↓seqQ_ret, ↓blkQ_normal, ↓blkQ_exit, ↓blkQ_ret, ↓runOps_nil, ↓runOps_cons, ↓runD_nil, ↓runD_cons, ↓grdO_true, ↓grdO_false, ↓grdD_true, ↓grdD_false, ↓ifC_true, ↓ifC_false, ↓opS_val, ↓opS_call, ↓opS_two, ↓opK_app, ↓dS_val, ↓dS_call, ↓dS_two, ↓dK_app, rechks_nil, rechks_cons, rechk, gcase_true, gcase_false, ex_val, ex_val0, gd_none, gd_some, nth_zero, nth_succ, upd_zero, upd_succ, put_some, put_none, ev_t, ev_c, evs_nil, evs_cons, evo_some, evo_none, hget_at, hget_first, hsetB_at, hsetB_first, hsetL_at, hsetL_first, ofOpt_some, aop, aload, astore, aslice, aappend, aiaddr, aiaddrA, afaddr, alen, alenS, acopy, amm, acall, alookup, amupdate, alenM, atostr, comma, keyEq, apick, binV, binVB, binVS, isSh, intOp, strOp, boolOp, shOp, eqC, eqF, and2, cellsOf, setFrom, fillA, fillS, rd, rdI, elems, mk, bounds, AV.cell, List.all_cons, List.all_nil, Bool.and_true, Bool.true_and, Bool.and_self, List.length_cons, List.length_nil, List.length_append, Nat.reduceAdd, Nat.reduceSub, Nat.reduceMul, Nat.zero_add, Nat.add_zero, List.replicate_succ, List.replicate_zero, List.cons_append, List.nil_append, List.append_assoc, List.append_nil, List.getElem?_cons_zero, List.getElem?_cons_succ, List.getElem?_nil, List.set_cons_zero, List.set_cons_succ, List.drop_zero, List.drop_succ_cons, List.take_zero, List.take_succ_cons, List.take_nil, List.drop_nil, List.map_cons, List.map_nil, Option.map_some, if_true, if_false, Bool.false_eq_true, and_self, true_and, and_true, Nat.reduceLeDiff, Nat.reduceLT, Nat.le_refl, Nat.reduceEqDiff, ite_true, ite_false, beq_self_eq_true, beq_true, beq_false, Bool.not_true, Bool.not_false, Bool.true_beq, Bool.false_beq]
 exact leave_pure (.inr rfl) rfl (.v _) hR hB ⟨rfl, rfl, rfl⟩
end Go.Proofs.Ytanblnhnfkeffaa
namespace Go.Proofs.Ytanblnhnfkeffaa
set_option linter.unusedVariables false
theorem pair_nm : Nm pairT := by
 intro p hp
 simp [pairT] at hp
 rcases hp with rfl | rfl <;> exact ⟨by decide, by simp⟩
theorem valid_nil : validL [] = false := by simp [validL, faultL]
theorem pair_dir {x y : Nat × Nat} (h : Dir pairT x y) (hx : 1 ≤ x.2) : y = (1, 1) ∧ x ≠ (1, 1) := by
 have hlen : ∀ p, (evsOf pairT p).length ≤ 1 := by
  intro p
  match p with
  | 0 => decide
  | 1 => decide
  | p + 2 => simp [evsOf, pairT, dfPr]
 rcases h with ⟨_, h⟩ | ⟨h1, h2⟩
 ·have := hlen x.1; omega
 ·unfold findL at h2
  have h3 := List.mem_of_find?_eq_some h2
  have h4 := List.find?_some h2
  have hid : ids pairT = [(0, 1), (1, 1)] := by kernel_rfl
  rw [hid] at h3
  refine ⟨?_, fun hx1 => ?_⟩
  ·simp at h3
   rcases h3 with rfl | rfl
   ·simp [evAt, evsOf, pairT] at h4
   ·rfl
  ·subst hx1
   simp [evAt, evsOf, pairT] at h1
theorem pair_hb {x y : Nat × Nat} (h : Hb pairT x y) (hx : 1 ≤ x.2) : y = (1, 1) ∧ x ≠ (1, 1) := by
 induction h with
 | one h => exact pair_dir h hx
 | more h k ih => exact absurd ih.1 (pair_dir k (by rw [ih.1]; exact Nat.le_refl 1)).2
theorem pair_fault : faultL pairT = ((0, 0), 0) := by
 unfold faultL
 rw [if_neg (by decide)]
 have h1 : (List.range pairT.length).find? (fun p => headF pairT p != 0) = none := by kernel_rfl
 have h2 : (ids pairT).find? (fun x => formF pairT x != 0) = none := by kernel_rfl
 have h3 : (ids pairT).find? (fun x => pairF pairT x != 0) = none := by kernel_rfl
 rw [h1]; simp only
 rw [h2]; simp only
 rw [h3]; simp only
 have hid : ids pairT = [(0, 1), (1, 1)] := by kernel_rfl
 have h4 : (ids pairT).find? (fun x => @decide (Hb pairT x x) (Classical.propDecidable _)) = none := by
  rw [List.find?_eq_none]
  intro x hx
  rw [hid] at hx
  simp at hx
  simp only [decide_eq_true_eq]
  intro h
  rcases hx with rfl | rfl
  ·have := (pair_hb h (Nat.le_refl 1)).1; cases this
  ·exact (pair_hb h (Nat.le_refl 1)).2 rfl
 rw [h4]
theorem pair_valid : validL pairT = true := by simp [validL, pair_fault]
theorem pair_find : findR pairT 2 5 = (0, 1) := by
 unfold findR
 rw [if_pos pair_valid]
 kernel_rfl

def preT : Tr := [⟨⟨#[97]⟩, [], [⟨2, 1, 5, 0, []⟩]⟩, ⟨⟨#[98]⟩, [], []⟩]
theorem pre_ids : ids preT = [(0, 1)] := by kernel_rfl
theorem pre_dir {x y : Nat × Nat} (h : Dir preT x y) (hx : 1 ≤ x.2) : False := by
 have hlen : ∀ p, (evsOf preT p).length ≤ 1 := by
  intro p
  match p with
  | 0 => decide
  | 1 => decide
  | p + 2 => simp [evsOf, preT, dfPr]
 rcases h with ⟨_, h⟩ | ⟨h1, h2⟩
 ·have := hlen x.1; omega
 ·unfold findL at h2
  have h3 := List.mem_of_find?_eq_some h2
  have h4 := List.find?_some h2
  rw [pre_ids] at h3
  simp at h3
  subst h3
  simp [evAt, evsOf, preT] at h4
theorem pre_hb {x y : Nat × Nat} (h : Hb preT x y) (hx : 1 ≤ x.2) : False := by
 induction h with
 | one h => exact pre_dir h hx
 | more h k ih => exact ih
theorem pre_fault : faultL preT = ((0, 0), 0) := by
 unfold faultL
 rw [if_neg (by decide)]
 have h1 : (List.range preT.length).find? (fun p => headF preT p != 0) = none := by kernel_rfl
 have h2 : (ids preT).find? (fun x => formF preT x != 0) = none := by kernel_rfl
 have h3 : (ids preT).find? (fun x => pairF preT x != 0) = none := by kernel_rfl
 rw [h1]; simp only
 rw [h2]; simp only
 rw [h3]; simp only
 have h4 : (ids preT).find? (fun x => @decide (Hb preT x x) (Classical.propDecidable _)) = none := by
  rw [List.find?_eq_none]
  intro x hx
  rw [pre_ids] at hx
  simp at hx
  simp only [decide_eq_true_eq]
  intro h
  subst hx
  exact pre_hb h (Nat.le_refl 1)
 rw [h4]
theorem pre_count : countR preT = 1 := by
 unfold countR
 rw [if_pos (by simp [validL, pre_fault]), pre_ids]
 rfl
theorem pre_ok : Small preT ∧ Nm preT ∧ (ids preT).length ≤ 1000000 := by
 refine ⟨⟨by decide, by decide, by decide, by decide⟩, ?_, by rw [pre_ids]; decide⟩
 intro p hp
 simp [preT] at hp
 rcases hp with rfl | rfl <;> exact ⟨by decide, by simp⟩
theorem awake_of
  (h1 : ∀ b l, ACalls Try.prog 16 [.agg [.v (eT pairT)], .v (.isl 1 [[.int .i64 0], [.int .i64 1]])] b l (fun r b' l' => r = .tup [.agg [.v .zsl], .v (.int .i64 18)] ∧ b' = b ∧ l' = l))
  (h2 : ∀ b l, ACalls Try.prog 16 [.agg [.v (eT pairT)], .v (.isl 1 [[.int .i64 1], [.int .i64 0]])] b l (fun r b' l' => r = .tup [.agg [.v (eT preT)], .v (.int .i64 0)] ∧ b' = b ∧ l' = l)) (b l : List Row) :
  ACalls Try.prog 13 [] b l (fun r b' l' => r = .v (.bool true) ∧ b' = b ∧ l' = l) :=
 awake_run preT pre_ok pair_nm pair_valid valid_nil pair_find pre_count h1 h2 b l
end Go.Proofs.Ytanblnhnfkeffaa
namespace Go.Proofs.Ytanblnhnfkeffaa
set_option linter.unusedVariables false

theorem ACalls.of_new {P : Program} {f : Nat} {args : List AV} {b l : List Row} {Q : AV → List Row → List Row → Prop} (hf : ∃ fn, P.funcs[f]? = some fn ∧ (fn.name == "runtime.NumGoroutine") = false ∧ fn.body.isSome = true)
  (h : ∀ F L w (vs : Array Value), (∀ b, F b → b < w.heap.size) → RepL w F L args vs.toList → Calls P f vs w fun en w' => Ext w w' ∧ ∃ v x F', en = .returned v ∧ (∀ b, F b → F' b) ∧ (∀ b, b < w.heap.size → F' b → F b) ∧ (∀ b, F' b → b < w'.heap.size) ∧ RepA w' F' (fun _ _ => none) x v ∧ Q x b l) : ACalls P f args b l Q := by
 refine ⟨hf, fun F L w vs s hr => Calls.mono (h F L w vs (fun b hb => (s.imm b hb).1) hr) ?_⟩
 rintro en w' ⟨he, v, x, F', h1, h2, h3, h4, h5, h6⟩
 have hblk : ∀ k, k < w.heap.size → w'.heap[k]? = w.heap[k]? := he.block
 have hown : ∀ k, Owned L (b ++ l) k → k < w.heap.size := by
  rintro k ⟨id, ver, sz, els, q0, k1, k2, k3⟩
  obtain ⟨q, q1, q2⟩ := s.row id ver sz els k1
  rw [k2] at q1; cases q1
  exact q2.lt k3
 refine ⟨v, x, b, l, F', L, h1, h5.mono (fun _ h => h) (fun _ _ => rfl) (fun _ _ _ h => by cases h), ⟨fun i v z els hi => ?_, s.born, s.apart, fun k hk => ⟨h4 k hk, fun ho => (s.imm k (h3 k (hown k ho) hk)).2 ho⟩⟩,
  ⟨h2, fun _ _ _ _ h => h, he.os, he.tape, he.output, he.size, fun k hk _ => hblk k hk, fun _ _ h => h, fun _ _ _ h => h, fun k hk hf => .inl (h3 k hk hf)⟩, rfl, h6⟩
 obtain ⟨q, g1, g2⟩ := s.row i v z els hi
 exact ⟨q, g1, g2.mono (fun k hk => hblk k (g2.lt hk)) (fun _ _ hx => hx.mono h2 (fun k hk => hblk k (s.imm k hk).1) (fun _ _ _ h => h))⟩

noncomputable def prefV (t : Tr) (cs : List Int) : AV := if prefC t cs = 0 then .agg [.v (eT (firstL t cs))] else .agg [.v .zsl]
theorem prefix_spec (t : Tr) (hS : Small t) (hN : Nm t) (cs : List Int) (hc : cs.length ≤ 1000000) (b l : List Row) :
  ACalls Try.prog 16 [.agg [.v (eT t)], .v (.isl 1 (cs.map eI))] b l (fun r b' l' => r = .tup [prefV t cs, .v (.int .i64 (prefC t cs))] ∧ b' = b ∧ l' = l) := by
 refine ACalls.of_new ⟨_, Try.func16, by kernel_rfl, by kernel_rfl⟩ (fun F L w vs hF hr => ?_)
 obtain ⟨v, us, h1, h2, h3⟩ := repL_cons hr
 obtain ⟨v2, us2, rfl, h4, h5⟩ := repL_cons h3
 obtain rfl := repL_nil h5
 obtain ⟨vs1, rfl, hl⟩ := h2.aggL
 obtain ⟨u, us3, h6, h7, h8⟩ := repL_cons hl
 obtain rfl := repL_nil h8
 have hvs1 : vs1 = #[u] := Array.toList_inj.1 (by rw [h6])
 subst hvs1
 have hvs : vs = #[.agg #[u], v2] := Array.toList_inj.1 (by rw [h1])
 subst hvs
 refine (Prefix_any u v2 t cs F w hS hc hN hF h7.vI h4.vI).mono ?_
 rintro e w' ⟨he, v, rfl, hcase⟩
 refine ⟨he, ?_⟩
 rcases hcase with ⟨hne, s, rfl⟩ | ⟨h0, F', g1, g2, g3, g4⟩
 ·refine ⟨_, _, F, rfl, fun _ h => h, fun _ _ h => h, fun b hb => Nat.lt_of_lt_of_le (hF b hb) he.size, RepL.tup (RepL.cons (RepL.agg (vs := #[.slice s 0 0]) (RepL.cons (.v _ _ (.zsl s)) RepL.nil)) (RepL.cons (.v _ _ (.int _ _)) RepL.nil)), ?_, rfl, rfl⟩
  unfold prefV; rw [if_neg hne]
 ·refine ⟨_, _, F', rfl, g1, g2, g3, RepL.tup (RepL.cons g4 (RepL.cons (.v _ _ (.int _ _)) RepL.nil)), ?_, rfl, rfl⟩
  unfold prefV; rw [if_pos h0]

theorem pref_18 : prefC pairT [0, 1] = 18 := by
 unfold prefC
 rw [if_neg (by rw [pair_valid]; decide), if_neg (by decide), if_pos]
 kernel_rfl
theorem pref_0 : prefC pairT [1, 0] = 0 := by
 unfold prefC
 rw [if_neg (by rw [pair_valid]; decide), if_neg (by decide), if_neg]
 rw [Bool.not_eq_true]
 kernel_rfl
theorem awake_spec (b l : List Row) : ACalls Try.prog 13 [] b l (fun r b' l' => r = .v (.bool true) ∧ b' = b ∧ l' = l) := by
 refine awake_of (fun b l => ?_) (fun b l => ?_) b l
 ·refine ACalls_mono _ _ _ _ _ _ (prefix_spec pairT pair_small pair_nm [0, 1] (by decide) b l) ?_
  rintro r b' l' ⟨rfl, rfl, rfl⟩
  refine ⟨?_, rfl, rfl⟩
  unfold prefV; rw [pref_18]; rfl
 ·refine ACalls_mono _ _ _ _ _ _ (prefix_spec pairT pair_small pair_nm [1, 0] (by decide) b l) ?_
  rintro r b' l' ⟨rfl, rfl, rfl⟩
  refine ⟨?_, rfl, rfl⟩
  unfold prefV; rw [pref_0]; rfl
end Go.Proofs.Ytanblnhnfkeffaa
namespace Go.Proofs.Ytanblnhnfkeffaa
set_option linter.unusedVariables false
theorem OkTr.fits {t : Tr} (h : OkTr t) : Fits t := by
 have e := maxLen_eq
 refine ⟨by have := h.1; omega, fun x hx => ?_, fun x hx => ?_, fun x hx => ?_⟩
 ·have := (h.2 x hx).2.1; omega
 ·have := (h.2 x hx).2.2; omega
 ·have := (h.2 x hx).1.1; omega
end Go.Proofs.Ytanblnhnfkeffaa
