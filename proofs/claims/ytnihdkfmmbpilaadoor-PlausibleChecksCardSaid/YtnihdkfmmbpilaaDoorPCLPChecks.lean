/- PlausibleChecks returns true for every input, and its arguments read as before. No condition. -/
import Derived.Test.YtnihdkfmmbpilaaDoorRows
import Derived.Test.YtnihdkfmmbpilaaDoorCards
import Derived.Test.YtnihdkfmmbpilaaDoorTie
import Derived.Lib.LaidTab
import Derived.LaidMore
import Derived.Stop.Joined
import Derived.SevenTiedAt
import Derived.Test.YtnihdkfmmbpilaaDoorPC10
import Derived.Test.YtnihdkfmmbpilaaDoorPC22
import Derived.Test.YtnihdkfmmbpilaaDoorPC20
import Derived.WalkKit
import Derived.ProofKit
import Derived.OpenShut
import Derived.ShutString
import Derived.ChangeOld
import Derived.Below
namespace Go.Proofs.YtnihdkfmmbpilaaDoor.plausibleChecks
open Go.ChangeShapes Go.WideShapes Go.ChangeAt Go.RowKit
open Go.ChangeMaps (open_string shut_string)
set_option linter.unusedVariables false
set_option linter.unusedSimpArgs false
theorem own : ownKnob Tryd.prog.godebug = none := by kernel_rfl
theorem laidOut : laidOutB Tryd.prog = true := by kernel_rfl
set_option maxRecDepth 100000 in
theorem door_met (os : Os) (args : Array Value) : laidMetH Tryd.prog Rows.plausibleChecksRow.laid ((World.doorLaid Tryd.prog 400 os).forCall (fun _ _ => 0) ⟨#[], args, []⟩).memory :=
  laidMetH_of_parts3 (fuel := 8) (laidMet_of_run' 8 (by kernel_rfl) (by kernel_rfl)) (by kernel_rfl) (by kernel_rfl)
theorem gTab : Tryd.prog.globalNamed "math/bits.deBruijn64tab" = some 0 := by kernel_rfl
/-- The table stands in each world of the row. -/
theorem glob_of (W : World) (h : laidMetH Tryd.prog Rows.plausibleChecksRow.laid W) : Glob W (fun b => b < W.heap.size) := by
  rw [MakeChecks.laidMetH_plain _ _ _ (by kernel_rfl)] at h
  intro g tab e
  cases e
  have ht := Lib.tabIs_of_head (g := 0) (t := 187) (e := 5) (n := 64) (zs := Lib.deBruijn64tab.map Int.ofNat) (by kernel_rfl) (by kernel_rfl) (by kernel_rfl) (by kernel_rfl) (by kernel_rfl) (by kernel_rfl) h
  have hc : ∀ j, j < Lib.deBruijn64tab.length → W.cell? ⟨0, j, none⟩ = some (.int .u8 (Lib.deBruijn64tab.getD j 0)) := fun j hj => by
    rw [ht.cell gTab j (by rw [List.length_map]; exact hj)]
    congr 2
    rw [List.getD_eq_getElem?_getD, List.getElem?_map, List.getD_eq_getElem?_getD, List.getElem?_eq_getElem hj]; rfl
  exact ⟨lt_of_cell (hc 0 (by decide)), hc⟩
set_option maxRecDepth 100000 in
theorem lifted (os : Os) (started : os.Started) (H : Type) (enc : TypeId × Value → H) :
    ReturnsInHanded {} Tryd.checked os 3 .any (fun w args => (Rows.plausibleChecksSpec.pre enc Tryd.prog Tryd.f3 [] false w args ∧ laidMetH Tryd.prog Rows.plausibleChecksRow.laid w) ∧ sizedMet enc Tryd.prog Tryd.f3 (OpenSpec.ofChange Rows.plausibleChecksSpec) false w args) (Rows.plausibleChecksSpec.post enc Tryd.prog Tryd.f3 false true false false) := by
  refine returnsInHanded_of_change_and (C := Tryd.checked) (X := fun w _ => laidMetH Tryd.prog Rows.plausibleChecksRow.laid w) (fun _ _ _ hh h => h.of_heap hh) own started (by kernel_rfl) Tryd.func3
    (ChangeSpec.witness_shaped (enc := enc) (C := Tryd.checked) (os := os) (X := fun w _ => laidMetH Tryd.prog Rows.plausibleChecksRow.laid w) false (World.doorLaid Tryd.prog 400 os) #[.agg #[.slice none 0 0], .int .i64 0, .slice none 0 0] 8 rfl (World.shaped_of_RefB (by kernel_rfl) (by kernel_rfl)) (by kernel_rfl) (by kernel_rfl) (by kernel_rfl) (door_met os _)) ?_
  intro W base args ds gs before hval0 hW hcnd _ hL _
  have hval : ∀ (j : Nat) t v, Tryd.f3.params[j]? = some t → args[j]? = some v → Value.okWide Tryd.prog W .any base t v := hval0
  have hW' := hW
  obtain ⟨p, q, hA0, hV, rfl, hfz, hnd⟩ := hW
  have hA : DataW.TrodAll enc Tryd.prog W 0 (fun _ => true) true Tryd.f3.params.toList args.toList ds p := hA0
  rw [Tryd.params3] at hA hval
  obtain ⟨v0, vs0, d0, ds0, p0, q0, hargs, rfl, rfl, k0, r0⟩ := trodAll_cons hA
  obtain ⟨v1, vs1, d1, ds1, p1, q1, rfl, rfl, rfl, k1, r1⟩ := trodAll_cons r0
  obtain ⟨v2, vs2, d2, ds2, p2, q2, rfl, rfl, rfl, k2, r2⟩ := trodAll_cons r1
  obtain ⟨rfl, rfl, rfl⟩ := trodAll_nil r2
  obtain rfl : args = #[v0, v1, v2] := by cases args; simp_all
  obtain ⟨rfl, rfl⟩ := trodVars_none hV
  have lt0 : ∀ x ∈ p0, x.block < W.heap.size := by obtain ⟨m, hm⟩ := k0; exact DataW.trod_lt m _ _ _ hm
  obtain ⟨x0, g0, h0⟩ := TR.agg tr_trace Tryd.underlying24 (by kernel_rfl) (hval 0 24 v0 rfl rfl) k0
  have lt1 : ∀ x ∈ p1, x.block < W.heap.size := by obtain ⟨m, hm⟩ := k1; exact DataW.trod_lt m _ _ _ hm
  have c1 : v1.cells = #[v1] := by obtain ⟨_, rfl⟩ := okWide_int Tryd.underlying3 (hval 1 3 v1 rfl rfl); rfl
  obtain ⟨x1, g1, i1⟩ := TR.one tr_i c1 k1
  have h1 : RepA W (Low W) (fun _ _ => none) _ v1 := .v _ _ i1
  have lt2 : ∀ x ∈ p2, x.block < W.heap.size := by obtain ⟨m, hm⟩ := k2; exact DataW.trod_lt m _ _ _ hm
  have c2 : v2.cells = #[v2] := by obtain ⟨_, _, _, rfl⟩ := okWide_slice Tryd.underlying25 (hval 2 25 v2 rfl rfl); rfl
  obtain ⟨x2, g2, i2⟩ := TR.one tr_cubeQ c2 k2
  have h2 : RepA W (Low W) (fun _ _ => none) _ v2 := .v _ _ i2
  clear hA0 hval0
  refine (ACalls.calls (plausibleChecks_run x0 x1 x2 (by have := g0.1; rw [maxLen_eq] at this; exact this) (fun p hp => by have := (g0.2 p hp).2.2; rw [maxLen_eq] at this; exact this) g0.nm [] []) (RepL.cons h0 (RepL.cons h1 (RepL.cons h2 RepL.nil))) (hG := glob_of W hL)).mono fun e W' ⟨v, x, b', l', F', L', he, hx, bel, hq⟩ => ?_
  obtain ⟨rfl, _⟩ := hq
  cases hx.vI
  subst he
  exact ⟨_, rfl, _, _, _, [], _, [], hW', trodAll_mk1 (shut_bool Tryd.underlying4 _), (trodAll_cons_mk (Below.trod laidOut (by kernel_rfl) (of_decide_eq_true (by kernel_rfl)) k0 bel lt0) (trodAll_cons_mk (Below.trod laidOut (by kernel_rfl) (of_decide_eq_true (by kernel_rfl)) k1 bel lt1) (trodAll_cons_mk (Below.trod laidOut (by kernel_rfl) (of_decide_eq_true (by kernel_rfl)) k2 bel lt2) trodAll_mk0))), rfl, bel.frame _, fun h => by cases h⟩

theorem over : Rows.plausibleChecksRow.holds Tryd.pinned (OpenSpec.ofChange Rows.plausibleChecksSpec) :=
  OpenClaim.holds_of_wide 3 Tryd.f3 rfl rfl rfl rfl rfl rfl rfl ⟨rfl, rfl, rfl, rfl, rfl⟩ rfl rfl rfl rfl rfl (by kernel_rfl) Tryd.func3 (by kernel_rfl)
    (of_decide_eq_true (by kernel_rfl)) (by unfold Func.isWrapper; first | (rw [if_pos (by decide +kernel)]; kernel_rfl) | (rw [if_neg (by decide +kernel)]; exact ⟨rfl, rfl⟩))
    (fun os started H enc _ => lifted os started H enc)

/-- The statement. -/
theorem proved : Rows.PlausibleChecksCardSaid :=
  Claim7.holds_tied_plain_at .later [] [.data] true (true, "581fa603ebea3f379f761ae78f6fdf3342efd9fa757a1808a990280fc79ba8bb") false
    over (fun _ h => by cases h) (by kernel_rfl) (fun _ h => by cases h) plausibleChecks_row_tie rfl ⟨rfl, rfl⟩ (by kernel_rfl) rfl
    (fun f fn hf hfn => by
      obtain rfl : f = 3 := Option.some.inj ((show Tryd.prog.funcNamed "antecede/antecedelaw18.PlausibleChecks" = some 3 by kernel_rfl).symm.trans hf) |>.symm
      obtain rfl : fn = Tryd.f3 := (Option.some.inj (Tryd.func3.symm.trans hfn)).symm
      exact ⟨by kernel_rfl, fun j t ht => by
        rw [Tryd.params3] at ht
        have hm : t ∈ [24, 3, 25] := by simpa using Array.mem_of_getElem? ht
        have hall : ([24, 3, 25].all fun u => !Tryd.prog.wantsStandIn u) = true := by kernel_rfl
        exact (show Tryd.prog.wantsStandIn t = false by simpa using List.all_eq_true.1 hall t hm)⟩)
    (by kernel_rfl)
#print axioms proved
end Go.Proofs.YtnihdkfmmbpilaaDoor.plausibleChecks
