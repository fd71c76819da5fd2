/- TracecodeFrames returns true for every input, and its arguments read as before. No condition. -/
import Derived.Test.YtenlagddfgociaaRows
import Derived.Test.YtenlagddfgociaaCA
import Derived.Test.YtenlagddfgociaaR
import Derived.WalkKit
import Derived.ProofKit
import Derived.OpenShut
import Derived.ShutString
import Derived.ChangeOld
import Derived.Below
namespace Go.Proofs.Ytenlagddfgociaa.tracecodeFrames
open Go.ChangeShapes Go.WideShapes Go.ChangeAt Go.RowKit
open Go.ChangeMaps (open_string shut_string)
set_option linter.unusedVariables false

theorem own : ownKnob Try.prog.godebug = none := by kernel_rfl
theorem laidOut : laidOutB Try.prog = true := by kernel_rfl

set_option maxRecDepth 100000 in
set_option maxHeartbeats 1000000 in
theorem walk_big (A : Option Addr) (len cap : Nat) (A' : Option Addr) (len' cap' : Nat) (w : World) (hl : 20001 ≤ len ∨ 20001 ≤ len') :
    Calls Try.prog 4 #[.slice A len cap, .slice A' len' cap'] w fun e w' => e = .returned (.bool true) ∧ Ext w w' := by
  have hd : decide ((20000 : Int) < (len : Int)) = true ∨ (decide ((20000 : Int) < (len : Int)) = false ∧ decide ((20000 : Int) < (len' : Int)) = true) := by
    simp only [decide_eq_true_eq, decide_eq_false_iff_not]; omega
  clear hl
  rcases hd with hd | ⟨hd, hd2⟩
  all_goals
    go_enter Try.func4, Try.ntmps4
    go_wp2_with (go_at_call 9; refine (awake_any _).mono ?_; rintro e w1 ⟨rfl, he1⟩)
    go_ret
    exact ⟨rfl, he1⟩

set_option maxRecDepth 100000 in
set_option maxHeartbeats 2000000 in
theorem walk_full (v v' : Value) (xs ys : List UInt8) (w : World) (hl : xs.length ≤ 20000) (hl' : ys.length ≤ 20000) (hs : Sl byt w v xs) (hs' : Sl byt w v' ys) (hb : 16384 < xs.length) :
    Calls Try.prog 4 #[v, v'] w fun e w' => e = .returned (.bool true) ∧ Ext w w' := by
  obtain ⟨A, c, hv, _, _, hc⟩ := hs.form
  obtain ⟨A', c', hv', _, _, hc'⟩ := hs'.form
  subst hv
  subst hv'
  clear hc hc'
  have hd : decide ((20000 : Int) < (xs.length : Int)) = false := by simp; omega
  have hd' : decide ((20000 : Int) < (ys.length : Int)) = false := by simp; omega
  have hq : decide ((16384 : Int) < (xs.length : Int)) = true := by simp; omega
  have P := hide (fun w (hs : Sl byt w (.slice A xs.length c) xs) => Frame_big _ xs w (by omega) hb hs)
  clear hb
  go_enter Try.func4, Try.ntmps4
  go_wp2_with fail
  refine (awake_any _).mono ?_
  rintro e w1 ⟨rfl, he1⟩
  go_wp2_with fail
  refine (P.out _ (hs.ext he1)).mono ?_
  rintro e w2 ⟨rfl, rfl⟩
  have he := he1
  go_wp2_with fail
  refine (Unframe_any _ ys _ (by omega) (hs'.ext he)).mono ?_
  rintro e w5 ⟨u5, v5, rfl, su5, sv5, he5⟩
  go_wp2_with fail
  refine (rUnframe_any _ ys _ (by omega) (hs'.ext (he.trans he5))).mono ?_
  rintro e w6 ⟨u6, v6, rfl, su6, sv6, he6⟩
  go_wp2_with fail
  refine (equal_any _ _ _ _ _ (su5.ext he6) su6).mono ?_
  rintro e w7 ⟨rfl, rfl⟩
  rw [beq_self_eq_true]
  go_wp2_with fail
  refine (equal_any _ _ _ _ _ (sv5.ext he6) sv6).mono ?_
  rintro e w7 ⟨rfl, rfl⟩
  rw [beq_self_eq_true]
  go_wp2_with fail
  go_ret
  exact ⟨rfl, he.trans (he5.trans he6)⟩

set_option maxRecDepth 100000 in
set_option maxHeartbeats 2000000 in
theorem walk_ok (v v' : Value) (xs ys : List UInt8) (w : World) (hl : xs.length ≤ 20000) (hl' : ys.length ≤ 20000) (hs : Sl byt w v xs) (hs' : Sl byt w v' ys) (hb : xs.length ≤ 16384) :
    Calls Try.prog 4 #[v, v'] w fun e w' => e = .returned (.bool true) ∧ Ext w w' := by
  obtain ⟨A, c, hv, _, _, hc⟩ := hs.form
  obtain ⟨A', c', hv', _, _, hc'⟩ := hs'.form
  subst hv
  subst hv'
  clear hc hc'
  have hd : decide ((20000 : Int) < (xs.length : Int)) = false := by simp; omega
  have hd' : decide ((20000 : Int) < (ys.length : Int)) = false := by simp; omega
  have hq : decide ((16384 : Int) < (xs.length : Int)) = false := by simp; omega
  have P := hide (fun w (hs : Sl byt w (.slice A xs.length c) xs) => Frame_ok _ xs w hb hs)
  have R := hide (fun w (hs : Sl byt w (.slice A xs.length c) xs) => rFrame_ok _ xs w hb hs)
  clear hb
  go_enter Try.func4, Try.ntmps4
  go_wp2_with fail
  refine (awake_any _).mono ?_
  rintro e w1 ⟨rfl, he1⟩
  go_wp2_with fail
  refine (P.out _ (hs.ext he1)).mono ?_
  rintro e w2 ⟨v2, rfl, hown2, he2⟩
  go_wp2_with fail
  refine (R.out _ (hs.ext (he1.trans he2))).mono ?_
  rintro e w3 ⟨v3, rfl, hs3, he3⟩
  go_wp2_with fail
  refine (equal_any _ _ _ _ _ (hown2.sl.ext he3) hs3).mono ?_
  rintro e w4 ⟨rfl, rfl⟩
  rw [beq_self_eq_true]
  have he := he1.trans (he2.trans he3)
  go_wp2_with fail
  refine (Unframe_any _ ys _ (by omega) (hs'.ext he)).mono ?_
  rintro e w5 ⟨u5, v5, rfl, su5, sv5, he5⟩
  go_wp2_with fail
  refine (rUnframe_any _ ys _ (by omega) (hs'.ext (he.trans he5))).mono ?_
  rintro e w6 ⟨u6, v6, rfl, su6, sv6, he6⟩
  go_wp2_with fail
  refine (equal_any _ _ _ _ _ (su5.ext he6) su6).mono ?_
  rintro e w7 ⟨rfl, rfl⟩
  rw [beq_self_eq_true]
  go_wp2_with fail
  refine (equal_any _ _ _ _ _ (sv5.ext he6) sv6).mono ?_
  rintro e w7 ⟨rfl, rfl⟩
  rw [beq_self_eq_true]
  go_wp2_with fail
  go_ret
  exact ⟨rfl, he.trans (he5.trans he6)⟩

theorem walk (a0 : Option Addr) (len0 cap0 : Nat) (z0 : List Int) (a1 : Option Addr) (len1 cap1 : Nat) (z1 : List Int) (w : World) (w0 : IsRow .u8 w a0 len0 cap0 z0) (w1 : IsRow .u8 w a1 len1 cap1 z1) :
    Calls Try.prog 4 #[.slice a0 len0 cap0, .slice a1 len1 cap1] w fun e w' => e = .returned (.bool true) ∧ Below w.heap.size w w' := by
  by_cases hl : 20001 ≤ len0 ∨ 20001 ≤ len1
  · exact walk_big a0 len0 cap0 a1 len1 cap1 w hl
  · obtain ⟨xs, rfl, hs⟩ := w0.sl
    obtain ⟨ys, rfl, hs'⟩ := w1.sl
    by_cases hb : 16384 < xs.length
    · exact walk_full _ _ xs ys w (by omega) (by omega) hs hs' hb
    · exact walk_ok _ _ xs ys w (by omega) (by omega) hs hs' (by omega)

/-! ### THE ROW's STEP: WRITTEN OUT: LEAVE IT -/
set_option maxRecDepth 100000 in
theorem lifted (os : Os) (started : os.Started) (H : Type) (enc : TypeId × Value → H) :
    ReturnsInHanded {} Try.checked os 4 .any (Rows.tracecodeFramesSpec.pre6 enc Try.prog Try.f4 Rows.tracecodeFramesRow.domain false) (Rows.tracecodeFramesSpec.post enc Try.prog Try.f4 false true false false) := by
  refine returnsInHanded_of_change (C := Try.checked) own started (by kernel_rfl) Try.func4
    (ChangeSpec.witness6 (enc := enc) (C := Try.checked) false ⟨#[], #[.slice none 0 0, .slice none 0 0], []⟩ 8 (by kernel_rfl) (by kernel_rfl) (by kernel_rfl) (by kernel_rfl)) ?_
  intro W base args ds gs before hval0 hW hcnd _
  have hval : ∀ (j : Nat) t v, Try.f4.params[j]? = some t → args[j]? = some v → Value.okWide Try.prog W .any base t v := hval0
  have hW' := hW
  obtain ⟨p, q, hA0, hV, rfl, hfz, hnd⟩ := hW
  have hA : DataW.TrodAll enc Try.prog W 0 (fun _ => true) true Try.f4.params.toList args.toList ds p := hA0
  rw [Try.params4] at hA hval
  obtain ⟨v0, vs0, d0, ds0, p0, q0, hargs, rfl, rfl, h0, r0⟩ := trodAll_cons hA
  obtain ⟨v1, vs1, d1, ds1, p1, q1, rfl, rfl, rfl, h1, r1⟩ := trodAll_cons r0
  obtain ⟨rfl, rfl, rfl⟩ := trodAll_nil r1
  obtain rfl : args = #[v0, v1] := by cases args; simp_all
  obtain ⟨rfl, rfl⟩ := trodVars_none hV
  obtain ⟨a0, len0, cap0, rfl⟩ := okWide_slice Try.underlying22 (hval 0 22 v0 rfl rfl)
  have k0 := h0
  have lt0 : ∀ x ∈ p0, x.block < W.heap.size := by obtain ⟨m, hm⟩ := k0; exact DataW.trod_lt m _ _ _ hm
  obtain ⟨z0, w0⟩ : ∃ zs, IsRow .u8 W a0 len0 cap0 zs := by
    obtain ⟨fuel, hf⟩ := h0
    rcases open_ints Try.underlying22 Try.underlying5 (by kernel_rfl) hf with ⟨hcs, _⟩ | ⟨x, l, c, zs, hcs, _, hl, hm, hz, _, hcell, hwz⟩
    · simp [Value.cells] at hcs
      obtain ⟨rfl, rfl, rfl⟩ := hcs
      exact ⟨[], .inl ⟨rfl, rfl, rfl, rfl⟩⟩
    · simp [Value.cells] at hcs
      obtain ⟨rfl, rfl, rfl⟩ := hcs
      exact ⟨zs, .inr ⟨_, rfl, hl, hm, by simpa using hz, hcell, hwz⟩⟩
  obtain ⟨a1, len1, cap1, rfl⟩ := okWide_slice Try.underlying22 (hval 1 22 v1 rfl rfl)
  have k1 := h1
  have lt1 : ∀ x ∈ p1, x.block < W.heap.size := by obtain ⟨m, hm⟩ := k1; exact DataW.trod_lt m _ _ _ hm
  obtain ⟨z1, w1⟩ : ∃ zs, IsRow .u8 W a1 len1 cap1 zs := by
    obtain ⟨fuel, hf⟩ := h1
    rcases open_ints Try.underlying22 Try.underlying5 (by kernel_rfl) hf with ⟨hcs, _⟩ | ⟨x, l, c, zs, hcs, _, hl, hm, hz, _, hcell, hwz⟩
    · simp [Value.cells] at hcs
      obtain ⟨rfl, rfl, rfl⟩ := hcs
      exact ⟨[], .inl ⟨rfl, rfl, rfl, rfl⟩⟩
    · simp [Value.cells] at hcs
      obtain ⟨rfl, rfl, rfl⟩ := hcs
      exact ⟨zs, .inr ⟨_, rfl, hl, hm, by simpa using hz, hcell, hwz⟩⟩
  clear hA0 hval0
  refine (walk a0 len0 cap0 z0 a1 len1 cap1 z1 W w0 w1).mono fun e W' ⟨he, bel⟩ => ?_
  subst he
  exact ⟨_, rfl, _, _, _, [], _, [], hW', trodAll_mk1 (shut_bool Try.underlying4 _), (trodAll_cons_mk (Below.trod laidOut (by kernel_rfl) (of_decide_eq_true (by kernel_rfl)) k0 bel lt0) (trodAll_cons_mk (Below.trod laidOut (by kernel_rfl) (of_decide_eq_true (by kernel_rfl)) k1 bel lt1) trodAll_mk0)), rfl, bel.frame _, fun h => by cases h⟩

theorem over : Rows.tracecodeFramesRow.holds Try.pinned (OpenSpec.ofChange Rows.tracecodeFramesSpec) :=
  OpenClaim.holds_of_wide 4 Try.f4 rfl rfl rfl rfl rfl rfl rfl ⟨rfl, rfl, rfl, rfl, rfl⟩ rfl rfl rfl rfl rfl (by kernel_rfl) Try.func4 (by kernel_rfl)
    (of_decide_eq_true (by kernel_rfl)) (by unfold Func.isWrapper; first | (rw [if_pos (by decide +kernel)]; kernel_rfl) | (rw [if_neg (by decide +kernel)]; exact ⟨rfl, rfl⟩))
    (fun os started H enc _ => lifted os started H enc)

/-- ████ THE STATEMENT ████ -/
theorem proved : Rows.TracecodeFramesSaid := over
#print axioms proved
end Go.Proofs.Ytenlagddfgociaa.tracecodeFrames

