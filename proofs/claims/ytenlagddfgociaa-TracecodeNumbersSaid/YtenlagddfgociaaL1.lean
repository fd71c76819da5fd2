/- TracecodeNumbers returns true for every input, and its arguments read as before. No condition. -/
import Derived.Test.YtenlagddfgociaaRows
import Derived.Test.YtenlagddfgociaaCA
import Derived.Test.YtenlagddfgociaaR
import Derived.WalkKit
import Derived.ProofKit
import Derived.OpenShut
import Derived.ShutString
import Derived.ChangeOld
import Derived.Below
namespace Go.Proofs.Ytenlagddfgociaa.tracecodeNumbers
open Go.ChangeShapes Go.WideShapes Go.ChangeAt Go.RowKit
open Go.ChangeMaps (open_string shut_string)
set_option linter.unusedVariables false

theorem own : ownKnob Try.prog.godebug = none := by kernel_rfl
theorem laidOut : laidOutB Try.prog = true := by kernel_rfl

set_option maxRecDepth 100000 in
set_option maxHeartbeats 1000000 in
theorem walk_big (n : Int) (A : Option Addr) (len cap : Nat) (w : World) (hl : 20001 ≤ len) :
    Calls Try.prog 3 #[.int .i64 n, .slice A len cap] w fun e w' => e = .returned (.bool true) ∧ Ext w w' := by
  have hd : decide ((20000 : Int) < (len : Int)) = true := by simp; omega
  clear hl
  go_enter Try.func3, Try.ntmps3
  go_wp2_with (go_at_call 9; refine (awake_any _).mono ?_; rintro e w1 ⟨rfl, he1⟩)
  go_ret
  exact ⟨rfl, he1⟩

set_option maxRecDepth 100000 in
set_option maxHeartbeats 1000000 in
theorem walk_far (n : Int) (v : Value) (xs : List UInt8) (w : World) (hl : xs.length ≤ 20000) (hs : Sl byt w v xs) (hf : far n = true) :
    Calls Try.prog 3 #[.int .i64 n, v] w fun e w' => e = .returned (.bool true) ∧ Ext w w' := by
  obtain ⟨A, c, hv, _, _, hc⟩ := hs.form
  subst hv
  clear hc
  have P := hide (fun w => Put_far n w hf)
  have hd : decide ((20000 : Int) < (xs.length : Int)) = false := by simp; omega
  have hfar : decide (n < -1125899906842624) = true ∨ (decide (n < -1125899906842624) = false ∧ decide (1125899906842624 < n) = true) := by
    have := far_true.1 hf
    simp only [decide_eq_true_eq, decide_eq_false_iff_not]; omega
  clear hf
  rcases hfar with h1 | ⟨h1, h2⟩
  all_goals
    go_enter Try.func3, Try.ntmps3
    go_wp2_with fail
    refine (awake_any _).mono ?_
    rintro e w1 ⟨rfl, he1⟩
    go_wp2_with fail
    refine (P.out _).mono ?_
    rintro e w2 ⟨rfl, rfl⟩
    go_wp2_with fail
    refine (get_any _ xs _ (by omega) (hs.ext he1)).mono ?_
    rintro e w2 ⟨rfl, rfl⟩
    go_wp2_with fail
    refine (rget_any _ xs _ (by omega) (hs.ext he1)).mono ?_
    rintro e w2 ⟨rfl, rfl⟩
    go_wp2_with fail
    refine (sum_any _ xs _ (by omega) (hs.ext he1)).mono ?_
    rintro e w2 ⟨rfl, rfl⟩
    go_wp2_with fail
    refine (rsum_any _ xs _ (by omega) (hs.ext he1)).mono ?_
    rintro e w2 ⟨rfl, rfl⟩
    go_wp2_with fail
    go_ret
    exact ⟨rfl, he1⟩

set_option maxRecDepth 100000 in
set_option maxHeartbeats 1000000 in
theorem walk_near (n : Int) (v : Value) (xs : List UInt8) (w : World) (hl : xs.length ≤ 20000) (hs : Sl byt w v xs) (hf : far n = false) :
    Calls Try.prog 3 #[.int .i64 n, v] w fun e w' => e = .returned (.bool true) ∧ Ext w w' := by
  obtain ⟨A, c, hv, _, _, hc⟩ := hs.form
  subst hv
  clear hc
  have P := hide (fun w => Put_near n w hf)
  obtain ⟨f1, f2⟩ := far_false.1 hf
  have R := hide (fun w => rput_any n w (by omega) (by omega))
  have hd : decide ((20000 : Int) < (xs.length : Int)) = false := by simp; omega
  have h1 : decide (n < -1125899906842624) = false := by simp; omega
  have h2 : decide (1125899906842624 < n) = false := by simp; omega
  clear hf f1 f2
  go_enter Try.func3, Try.ntmps3
  go_wp2_with fail
  refine (awake_any _).mono ?_
  rintro e w1 ⟨rfl, he1⟩
  go_wp2_with fail
  refine (P.out _).mono ?_
  rintro e w2 ⟨v2, rfl, hown2, he2⟩
  go_wp2_with fail
  refine (R.out _).mono ?_
  rintro e w3 ⟨v3, rfl, hown3, he3⟩
  go_wp2_with fail
  refine (equal_any _ _ _ _ _ (hown2.sl.ext he3) hown3.sl).mono ?_
  rintro e w4 ⟨rfl, rfl⟩
  rw [beq_self_eq_true]
  have hs3 := hs.ext (he1.trans (he2.trans he3))
  go_wp2_with fail
  refine (get_any _ xs _ (by omega) hs3).mono ?_
  rintro e w2 ⟨rfl, rfl⟩
  go_wp2_with fail
  refine (rget_any _ xs _ (by omega) hs3).mono ?_
  rintro e w2 ⟨rfl, rfl⟩
  go_wp2_with fail
  refine (sum_any _ xs _ (by omega) hs3).mono ?_
  rintro e w2 ⟨rfl, rfl⟩
  go_wp2_with fail
  refine (rsum_any _ xs _ (by omega) hs3).mono ?_
  rintro e w2 ⟨rfl, rfl⟩
  go_wp2_with fail
  go_ret
  exact ⟨rfl, he1.trans (he2.trans he3)⟩

theorem walk (a0 : Int) (a1 : Option Addr) (len1 cap1 : Nat) (z1 : List Int) (w : World) (w0 : (Lit.int .i64 a0).wf = true) (w1 : IsRow .u8 w a1 len1 cap1 z1) :
    Calls Try.prog 3 #[.int .i64 a0, .slice a1 len1 cap1] w fun e w' => e = .returned (.bool true) ∧ Below w.heap.size w w' := by
  by_cases hl : 20001 ≤ len1
  · exact walk_big a0 a1 len1 cap1 w hl
  · obtain ⟨xs, rfl, hs⟩ := w1.sl
    cases hf : far a0
    · exact walk_near a0 _ xs w (by omega) hs hf
    · exact walk_far a0 _ xs w (by omega) hs hf

/-! ### THE ROW's STEP: WRITTEN OUT: LEAVE IT -/
set_option maxRecDepth 100000 in
theorem lifted (os : Os) (started : os.Started) (H : Type) (enc : TypeId × Value → H) :
    ReturnsInHanded {} Try.checked os 3 .any (Rows.tracecodeNumbersSpec.pre6 enc Try.prog Try.f3 Rows.tracecodeNumbersRow.domain false) (Rows.tracecodeNumbersSpec.post enc Try.prog Try.f3 false true false false) := by
  refine returnsInHanded_of_change (C := Try.checked) own started (by kernel_rfl) Try.func3
    (ChangeSpec.witness6 (enc := enc) (C := Try.checked) false ⟨#[], #[.int .i64 0, .slice none 0 0], []⟩ 8 (by kernel_rfl) (by kernel_rfl) (by kernel_rfl) (by kernel_rfl)) ?_
  intro W base args ds gs before hval0 hW hcnd _
  have hval : ∀ (j : Nat) t v, Try.f3.params[j]? = some t → args[j]? = some v → Value.okWide Try.prog W .any base t v := hval0
  have hW' := hW
  obtain ⟨p, q, hA0, hV, rfl, hfz, hnd⟩ := hW
  have hA : DataW.TrodAll enc Try.prog W 0 (fun _ => true) true Try.f3.params.toList args.toList ds p := hA0
  rw [Try.params3] at hA hval
  obtain ⟨v0, vs0, d0, ds0, p0, q0, hargs, rfl, rfl, h0, r0⟩ := trodAll_cons hA
  obtain ⟨v1, vs1, d1, ds1, p1, q1, rfl, rfl, rfl, h1, r1⟩ := trodAll_cons r0
  obtain ⟨rfl, rfl, rfl⟩ := trodAll_nil r1
  obtain rfl : args = #[v0, v1] := by cases args; simp_all
  obtain ⟨rfl, rfl⟩ := trodVars_none hV
  obtain ⟨a0, rfl, rfl, rfl, w0⟩ := open_int Try.underlying3 (hval 0 3 v0 rfl rfl) h0
  obtain ⟨a1, len1, cap1, rfl⟩ := okWide_slice Try.underlying22 (hval 1 22 v1 rfl rfl)
  have k1 := h1
  have lt1 : ∀ x ∈ p1, x.block < W.heap.size := by obtain ⟨m, hm⟩ := k1; exact DataW.trod_lt m _ _ _ hm
  obtain ⟨z1, w1⟩ : ∃ zs, IsRow .u8 W a1 len1 cap1 zs := by
    obtain ⟨fuel, hf⟩ := h1
    rcases open_ints Try.underlying22 Try.underlying5 (by kernel_rfl) hf with ⟨hcs, _⟩ | ⟨x, l, c, zs, hcs, _, hl, hm, hz, _, hcell, hwz⟩
    · simp [Value.cells] at hcs
      obtain ⟨rfl, rfl, rfl⟩ := hcs
      exact ⟨[], .inl ⟨rfl, rfl, rfl, rfl⟩⟩
    · simp [Value.cells] at hcs
      obtain ⟨rfl, rfl, rfl⟩ := hcs
      exact ⟨zs, .inr ⟨_, rfl, hl, hm, by simpa using hz, hcell, hwz⟩⟩
  clear hA0 hval0
  refine (walk a0 a1 len1 cap1 z1 W w0 w1).mono fun e W' ⟨he, bel⟩ => ?_
  subst he
  exact ⟨_, rfl, _, _, _, [], _, [], hW', trodAll_mk1 (shut_bool Try.underlying4 _), (trodAll_cons_mk (shut_int Try.underlying3 w0) (trodAll_cons_mk (Below.trod laidOut (by kernel_rfl) (of_decide_eq_true (by kernel_rfl)) k1 bel lt1) trodAll_mk0)), rfl, bel.frame _, fun h => by cases h⟩

theorem over : Rows.tracecodeNumbersRow.holds Try.pinned (OpenSpec.ofChange Rows.tracecodeNumbersSpec) :=
  OpenClaim.holds_of_wide 3 Try.f3 rfl rfl rfl rfl rfl rfl rfl ⟨rfl, rfl, rfl, rfl, rfl⟩ rfl rfl rfl rfl rfl (by kernel_rfl) Try.func3 (by kernel_rfl)
    (of_decide_eq_true (by kernel_rfl)) (by unfold Func.isWrapper; first | (rw [if_pos (by decide +kernel)]; kernel_rfl) | (rw [if_neg (by decide +kernel)]; exact ⟨rfl, rfl⟩))
    (fun os started H enc _ => lifted os started H enc)

/-- ████ THE STATEMENT ████ -/
theorem proved : Rows.TracecodeNumbersSaid := over
#print axioms proved
end Go.Proofs.Ytenlagddfgociaa.tracecodeNumbers
