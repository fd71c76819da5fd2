/-
  No cell of these rows narrows 'for every input' (looked for: loops, veiled, ifaces, maps, wideKeys, modest, calm, conditions, laid).
  DERIVED. THE GIVEN ROWS OF THIS SEAT. 12 by the template 'for every input the law returns true; each argument reads behind the call as it read before'; 0 by the template 'total and deterministic' (their statements: YtiiflkcebikecaaTotals.lean).
  GIVEN WITH THE SEED: the statements are not yours to turn. If you find one false, say at which input.
  Laid BY PROGRAM, IN A SANDBOX (cutbox-rows.mjs): the forced cells as the released guide's own fill.sh prints them over the translation bb20613fc6b847b9… (all of the seat's roots in one cut). By AI agents, Wed Nov 11 2026. No macro, syntax, notation, axiom, sorry.
-/
import Derived.Test.YtiiflkcebikecaaChecked
import GoSem.Claim
import GoSem.ClaimJoined
import GoSem.ClaimMapViews
import Derived.JoinedTies
import Derived.KernelRfl
namespace Go.Proofs.Ytiiflkcebikecaa
/- THE CELL 'sum', in the pinned program and in every row, IS THE sha256 OF THE DUMP (.gsa) THAT YtiiflkcebikecaaProg.lean LOADS. Nothing in Lean hashes anything: it is a label: what it is worth is what the hold of that sum in a sandbox is worth. -/
noncomputable def Try.pinned : Pinned := { name := "ytiiflkcebikecaa", sum := "bb20613fc6b847b9eea43eb678964f32a1bdb41a7c5ecaf4eb36a4a865c6d372", checked := Try.checked }
namespace Rows
def none {H : Type} : Left H := { results := [], args := [] }

/-- 'antecedelaw15.VectorStamps': WHATEVER THE INPUT: true; the input reads as it did. -/
def vectorStampsSpec : ChangeSpec := { name := "vectorStamps", fn := fun _ => fun
  | [d1, d2] => { results := [.lit (.bool true)], args := [d1, d2] }
  | _ => none }
def vectorStampsRow : OpenClaim := { program := "ytiiflkcebikecaa", sum := "bb20613fc6b847b9eea43eb678964f32a1bdb41a7c5ecaf4eb36a4a865c6d372", func := "antecede/antecedelaw15.VectorStamps", spec := "vectorStamps", unfollowed := true, recurses := true, plainKeys := false, apart := false }
def VectorStampsSaid : Prop := vectorStampsRow.holds Try.pinned (OpenSpec.ofChange vectorStampsSpec)

/-- ITS FALSE NEIGHBOUR: 'it returns false'. Refute it at one input. -/
def vectorStampsWrong : ChangeSpec := { name := "vectorStamps", fn := fun _ => fun
  | [d1, d2] => { results := [.lit (.bool false)], args := [d1, d2] }
  | _ => none }
def VectorStampsWrongFalsely : Prop := vectorStampsRow.holds Try.pinned (OpenSpec.ofChange vectorStampsWrong)

/-- 'antecedelaw15.VectorChanges': WHATEVER THE INPUT: true; the input reads as it did. -/
def vectorChangesSpec : ChangeSpec := { name := "vectorChanges", fn := fun _ => fun
  | [d1, d2, d3] => { results := [.lit (.bool true)], args := [d1, d2, d3] }
  | _ => none }
def vectorChangesRow : OpenClaim := { program := "ytiiflkcebikecaa", sum := "bb20613fc6b847b9eea43eb678964f32a1bdb41a7c5ecaf4eb36a4a865c6d372", func := "antecede/antecedelaw15.VectorChanges", spec := "vectorChanges", unfollowed := true, recurses := true, plainKeys := false, apart := false }
def VectorChangesSaid : Prop := vectorChangesRow.holds Try.pinned (OpenSpec.ofChange vectorChangesSpec)

/-- ITS FALSE NEIGHBOUR: 'it returns false'. Refute it at one input. -/
def vectorChangesWrong : ChangeSpec := { name := "vectorChanges", fn := fun _ => fun
  | [d1, d2, d3] => { results := [.lit (.bool false)], args := [d1, d2, d3] }
  | _ => none }
def VectorChangesWrongFalsely : Prop := vectorChangesRow.holds Try.pinned (OpenSpec.ofChange vectorChangesWrong)

/-- 'antecedelaw15.VectorLattice': WHATEVER THE INPUT: true; the input reads as it did. -/
def vectorLatticeSpec : ChangeSpec := { name := "vectorLattice", fn := fun _ => fun
  | [d1, d2, d3, d4] => { results := [.lit (.bool true)], args := [d1, d2, d3, d4] }
  | _ => none }
def vectorLatticeRow : OpenClaim := { program := "ytiiflkcebikecaa", sum := "bb20613fc6b847b9eea43eb678964f32a1bdb41a7c5ecaf4eb36a4a865c6d372", func := "antecede/antecedelaw15.VectorLattice", spec := "vectorLattice", unfollowed := true, recurses := true, plainKeys := false, apart := false }
def VectorLatticeSaid : Prop := vectorLatticeRow.holds Try.pinned (OpenSpec.ofChange vectorLatticeSpec)

/-- ITS FALSE NEIGHBOUR: 'it returns false'. Refute it at one input. -/
def vectorLatticeWrong : ChangeSpec := { name := "vectorLattice", fn := fun _ => fun
  | [d1, d2, d3, d4] => { results := [.lit (.bool false)], args := [d1, d2, d3, d4] }
  | _ => none }
def VectorLatticeWrongFalsely : Prop := vectorLatticeRow.holds Try.pinned (OpenSpec.ofChange vectorLatticeWrong)

/-- 'antecedelaw15.VectorSteps': WHATEVER THE INPUT: true; the input reads as it did. -/
def vectorStepsSpec : ChangeSpec := { name := "vectorSteps", fn := fun _ => fun
  | [d1, d2, d3, d4] => { results := [.lit (.bool true)], args := [d1, d2, d3, d4] }
  | _ => none }
def vectorStepsRow : OpenClaim := { program := "ytiiflkcebikecaa", sum := "bb20613fc6b847b9eea43eb678964f32a1bdb41a7c5ecaf4eb36a4a865c6d372", func := "antecede/antecedelaw15.VectorSteps", spec := "vectorSteps", unfollowed := true, recurses := true, plainKeys := false, apart := false }
def VectorStepsSaid : Prop := vectorStepsRow.holds Try.pinned (OpenSpec.ofChange vectorStepsSpec)

/-- ITS FALSE NEIGHBOUR: 'it returns false'. Refute it at one input. -/
def vectorStepsWrong : ChangeSpec := { name := "vectorSteps", fn := fun _ => fun
  | [d1, d2, d3, d4] => { results := [.lit (.bool false)], args := [d1, d2, d3, d4] }
  | _ => none }
def VectorStepsWrongFalsely : Prop := vectorStepsRow.holds Try.pinned (OpenSpec.ofChange vectorStepsWrong)

/-- 'antecedelaw15.VectorCounts': WHATEVER THE INPUT: true; the input reads as it did. -/
def vectorCountsSpec : ChangeSpec := { name := "vectorCounts", fn := fun _ => fun
  | [d1, d2] => { results := [.lit (.bool true)], args := [d1, d2] }
  | _ => none }
def vectorCountsRow : OpenClaim := { program := "ytiiflkcebikecaa", sum := "bb20613fc6b847b9eea43eb678964f32a1bdb41a7c5ecaf4eb36a4a865c6d372", func := "antecede/antecedelaw15.VectorCounts", spec := "vectorCounts", unfollowed := true, recurses := true, plainKeys := false, apart := false }
def VectorCountsSaid : Prop := vectorCountsRow.holds Try.pinned (OpenSpec.ofChange vectorCountsSpec)

/-- ITS FALSE NEIGHBOUR: 'it returns false'. Refute it at one input. -/
def vectorCountsWrong : ChangeSpec := { name := "vectorCounts", fn := fun _ => fun
  | [d1, d2] => { results := [.lit (.bool false)], args := [d1, d2] }
  | _ => none }
def VectorCountsWrongFalsely : Prop := vectorCountsRow.holds Try.pinned (OpenSpec.ofChange vectorCountsWrong)

/-- 'antecedelaw15.VectorExact': WHATEVER THE INPUT: true; the input reads as it did. -/
def vectorExactSpec : ChangeSpec := { name := "vectorExact", fn := fun _ => fun
  | [d1, d2, d3] => { results := [.lit (.bool true)], args := [d1, d2, d3] }
  | _ => none }
def vectorExactRow : OpenClaim := { program := "ytiiflkcebikecaa", sum := "bb20613fc6b847b9eea43eb678964f32a1bdb41a7c5ecaf4eb36a4a865c6d372", func := "antecede/antecedelaw15.VectorExact", spec := "vectorExact", unfollowed := true, recurses := true, plainKeys := false, apart := false }
def VectorExactSaid : Prop := vectorExactRow.holds Try.pinned (OpenSpec.ofChange vectorExactSpec)

/-- ITS FALSE NEIGHBOUR: 'it returns false'. Refute it at one input. -/
def vectorExactWrong : ChangeSpec := { name := "vectorExact", fn := fun _ => fun
  | [d1, d2, d3] => { results := [.lit (.bool false)], args := [d1, d2, d3] }
  | _ => none }
def VectorExactWrongFalsely : Prop := vectorExactRow.holds Try.pinned (OpenSpec.ofChange vectorExactWrong)

/-- 'antecedelaw16.MatrixTicks': WHATEVER THE INPUT: true; the input reads as it did. -/
def matrixTicksSpec : ChangeSpec := { name := "matrixTicks", fn := fun _ => fun
  | [d1, d2, d3] => { results := [.lit (.bool true)], args := [d1, d2, d3] }
  | _ => none }
def matrixTicksRow : OpenClaim := { program := "ytiiflkcebikecaa", sum := "bb20613fc6b847b9eea43eb678964f32a1bdb41a7c5ecaf4eb36a4a865c6d372", func := "antecede/antecedelaw16.MatrixTicks", spec := "matrixTicks", unfollowed := true, recurses := true, plainKeys := false, apart := false }
def MatrixTicksSaid : Prop := matrixTicksRow.holds Try.pinned (OpenSpec.ofChange matrixTicksSpec)

/-- ITS FALSE NEIGHBOUR: 'it returns false'. Refute it at one input. -/
def matrixTicksWrong : ChangeSpec := { name := "matrixTicks", fn := fun _ => fun
  | [d1, d2, d3] => { results := [.lit (.bool false)], args := [d1, d2, d3] }
  | _ => none }
def MatrixTicksWrongFalsely : Prop := matrixTicksRow.holds Try.pinned (OpenSpec.ofChange matrixTicksWrong)

/-- 'antecedelaw16.MatrixReceives': WHATEVER THE INPUT: true; the input reads as it did. -/
def matrixReceivesSpec : ChangeSpec := { name := "matrixReceives", fn := fun _ => fun
  | [d1, d2, d3, d4] => { results := [.lit (.bool true)], args := [d1, d2, d3, d4] }
  | _ => none }
def matrixReceivesRow : OpenClaim := { program := "ytiiflkcebikecaa", sum := "bb20613fc6b847b9eea43eb678964f32a1bdb41a7c5ecaf4eb36a4a865c6d372", func := "antecede/antecedelaw16.MatrixReceives", spec := "matrixReceives", unfollowed := true, recurses := true, plainKeys := false, apart := false }
def MatrixReceivesSaid : Prop := matrixReceivesRow.holds Try.pinned (OpenSpec.ofChange matrixReceivesSpec)

/-- ITS FALSE NEIGHBOUR: 'it returns false'. Refute it at one input. -/
def matrixReceivesWrong : ChangeSpec := { name := "matrixReceives", fn := fun _ => fun
  | [d1, d2, d3, d4] => { results := [.lit (.bool false)], args := [d1, d2, d3, d4] }
  | _ => none }
def MatrixReceivesWrongFalsely : Prop := matrixReceivesRow.holds Try.pinned (OpenSpec.ofChange matrixReceivesWrong)

/-- 'antecedelaw16.MatrixTraces': WHATEVER THE INPUT: true; the input reads as it did. -/
def matrixTracesSpec : ChangeSpec := { name := "matrixTraces", fn := fun _ => fun
  | [d1, d2] => { results := [.lit (.bool true)], args := [d1, d2] }
  | _ => none }
def matrixTracesRow : OpenClaim := { program := "ytiiflkcebikecaa", sum := "bb20613fc6b847b9eea43eb678964f32a1bdb41a7c5ecaf4eb36a4a865c6d372", func := "antecede/antecedelaw16.MatrixTraces", spec := "matrixTraces", unfollowed := true, recurses := true, plainKeys := false, apart := false }
def MatrixTracesSaid : Prop := matrixTracesRow.holds Try.pinned (OpenSpec.ofChange matrixTracesSpec)

/-- ITS FALSE NEIGHBOUR: 'it returns false'. Refute it at one input. -/
def matrixTracesWrong : ChangeSpec := { name := "matrixTraces", fn := fun _ => fun
  | [d1, d2] => { results := [.lit (.bool false)], args := [d1, d2] }
  | _ => none }
def MatrixTracesWrongFalsely : Prop := matrixTracesRow.holds Try.pinned (OpenSpec.ofChange matrixTracesWrong)

/-- 'antecedelaw16.MatrixRows': WHATEVER THE INPUT: true; the input reads as it did. -/
def matrixRowsSpec : ChangeSpec := { name := "matrixRows", fn := fun _ => fun
  | [d1, d2] => { results := [.lit (.bool true)], args := [d1, d2] }
  | _ => none }
def matrixRowsRow : OpenClaim := { program := "ytiiflkcebikecaa", sum := "bb20613fc6b847b9eea43eb678964f32a1bdb41a7c5ecaf4eb36a4a865c6d372", func := "antecede/antecedelaw16.MatrixRows", spec := "matrixRows", unfollowed := true, recurses := true, plainKeys := false, apart := false }
def MatrixRowsSaid : Prop := matrixRowsRow.holds Try.pinned (OpenSpec.ofChange matrixRowsSpec)

/-- ITS FALSE NEIGHBOUR: 'it returns false'. Refute it at one input. -/
def matrixRowsWrong : ChangeSpec := { name := "matrixRows", fn := fun _ => fun
  | [d1, d2] => { results := [.lit (.bool false)], args := [d1, d2] }
  | _ => none }
def MatrixRowsWrongFalsely : Prop := matrixRowsRow.holds Try.pinned (OpenSpec.ofChange matrixRowsWrong)

/-- 'antecedelaw16.MatrixGrows': WHATEVER THE INPUT: true; the input reads as it did. -/
def matrixGrowsSpec : ChangeSpec := { name := "matrixGrows", fn := fun _ => fun
  | [d1, d2, d3] => { results := [.lit (.bool true)], args := [d1, d2, d3] }
  | _ => none }
def matrixGrowsRow : OpenClaim := { program := "ytiiflkcebikecaa", sum := "bb20613fc6b847b9eea43eb678964f32a1bdb41a7c5ecaf4eb36a4a865c6d372", func := "antecede/antecedelaw16.MatrixGrows", spec := "matrixGrows", unfollowed := true, recurses := true, plainKeys := false, apart := false }
def MatrixGrowsSaid : Prop := matrixGrowsRow.holds Try.pinned (OpenSpec.ofChange matrixGrowsSpec)

/-- ITS FALSE NEIGHBOUR: 'it returns false'. Refute it at one input. -/
def matrixGrowsWrong : ChangeSpec := { name := "matrixGrows", fn := fun _ => fun
  | [d1, d2, d3] => { results := [.lit (.bool false)], args := [d1, d2, d3] }
  | _ => none }
def MatrixGrowsWrongFalsely : Prop := matrixGrowsRow.holds Try.pinned (OpenSpec.ofChange matrixGrowsWrong)

/-- 'antecedelaw16.MatrixKnown': WHATEVER THE INPUT: true; the input reads as it did. -/
def matrixKnownSpec : ChangeSpec := { name := "matrixKnown", fn := fun _ => fun
  | [d1, d2] => { results := [.lit (.bool true)], args := [d1, d2] }
  | _ => none }
def matrixKnownRow : OpenClaim := { program := "ytiiflkcebikecaa", sum := "bb20613fc6b847b9eea43eb678964f32a1bdb41a7c5ecaf4eb36a4a865c6d372", func := "antecede/antecedelaw16.MatrixKnown", spec := "matrixKnown", unfollowed := true, recurses := true, plainKeys := false, apart := false }
def MatrixKnownSaid : Prop := matrixKnownRow.holds Try.pinned (OpenSpec.ofChange matrixKnownSpec)

/-- ITS FALSE NEIGHBOUR: 'it returns false'. Refute it at one input. -/
def matrixKnownWrong : ChangeSpec := { name := "matrixKnown", fn := fun _ => fun
  | [d1, d2] => { results := [.lit (.bool false)], args := [d1, d2] }
  | _ => none }
def MatrixKnownWrongFalsely : Prop := matrixKnownRow.holds Try.pinned (OpenSpec.ofChange matrixKnownWrong)

/- THE SECOND FORM. 'bulk': how many values and letters a reading holds, each counted each time it is reached (what is shared counts as often as it is met; a slice's spare places count too). A statement '..UptoSaid' is the law's where the arguments, and the package variables that the reading takes, are together of bulk at most 1048576: NARROWER than '..Said'. Prove '..Said' where nothing that the law and all that it calls make is longer than what came in: it says more and counts as full. Else prove '..UptoSaid'. A law counts once. -/
mutual
def uptoBulk {H : Type} : DataW H → Nat
  | .lit (.string bytes) => bytes.length + 1
  | .lit _ => 1
  | .nil => 1
  | .ptr d => uptoBulk d + 1
  | .slice elems spare => uptoBulkAll elems + uptoBulkAll spare + 1
  | .agg parts => uptoBulkAll parts + 1
  | .iface _ d => uptoBulk d + 1
  | .map entries => uptoBulkEntries entries + 1
  | .held _ => 1
def uptoBulkAll {H : Type} : List (DataW H) → Nat
  | [] => 0
  | d :: r => uptoBulk d + uptoBulkAll r
def uptoBulkEntries {H : Type} : List (Lit × DataW H) → Nat
  | [] => 0
  | x :: r => uptoBulkEntry x + uptoBulkEntries r
def uptoBulkEntry {H : Type} : Lit × DataW H → Nat
  | (.string bytes, d) => bytes.length + uptoBulk d + 1
  | (_, d) => uptoBulk d + 1
 end
def uptoSmall : (H : Type) → List (DataW H) → Bool := fun _ ds => decide (uptoBulkAll ds ≤ 1048576)
def OpenSpec.upto (s : _root_.Go.ChangeSpec) : _root_.Go.OpenSpec := { _root_.Go.OpenSpec.ofChange s with cond := some uptoSmall }

/-- 'antecedelaw15.VectorStamps', WHERE WHAT IT READS IS OF BULK AT MOST 1048576: true; the input reads as it did. -/
def vectorStampsUptoRow : OpenClaim := { program := "ytiiflkcebikecaa", sum := "bb20613fc6b847b9eea43eb678964f32a1bdb41a7c5ecaf4eb36a4a865c6d372", func := "antecede/antecedelaw15.VectorStamps", spec := "vectorStamps", unfollowed := true, recurses := true, plainKeys := false, apart := false, narrowed := true }
def VectorStampsUptoSaid : Prop := vectorStampsUptoRow.holds Try.pinned (OpenSpec.upto vectorStampsSpec)

/-- 'antecedelaw15.VectorChanges', WHERE WHAT IT READS IS OF BULK AT MOST 1048576: true; the input reads as it did. -/
def vectorChangesUptoRow : OpenClaim := { program := "ytiiflkcebikecaa", sum := "bb20613fc6b847b9eea43eb678964f32a1bdb41a7c5ecaf4eb36a4a865c6d372", func := "antecede/antecedelaw15.VectorChanges", spec := "vectorChanges", unfollowed := true, recurses := true, plainKeys := false, apart := false, narrowed := true }
def VectorChangesUptoSaid : Prop := vectorChangesUptoRow.holds Try.pinned (OpenSpec.upto vectorChangesSpec)

/-- 'antecedelaw15.VectorLattice', WHERE WHAT IT READS IS OF BULK AT MOST 1048576: true; the input reads as it did. -/
def vectorLatticeUptoRow : OpenClaim := { program := "ytiiflkcebikecaa", sum := "bb20613fc6b847b9eea43eb678964f32a1bdb41a7c5ecaf4eb36a4a865c6d372", func := "antecede/antecedelaw15.VectorLattice", spec := "vectorLattice", unfollowed := true, recurses := true, plainKeys := false, apart := false, narrowed := true }
def VectorLatticeUptoSaid : Prop := vectorLatticeUptoRow.holds Try.pinned (OpenSpec.upto vectorLatticeSpec)

/-- 'antecedelaw15.VectorSteps', WHERE WHAT IT READS IS OF BULK AT MOST 1048576: true; the input reads as it did. -/
def vectorStepsUptoRow : OpenClaim := { program := "ytiiflkcebikecaa", sum := "bb20613fc6b847b9eea43eb678964f32a1bdb41a7c5ecaf4eb36a4a865c6d372", func := "antecede/antecedelaw15.VectorSteps", spec := "vectorSteps", unfollowed := true, recurses := true, plainKeys := false, apart := false, narrowed := true }
def VectorStepsUptoSaid : Prop := vectorStepsUptoRow.holds Try.pinned (OpenSpec.upto vectorStepsSpec)

/-- 'antecedelaw15.VectorCounts', WHERE WHAT IT READS IS OF BULK AT MOST 1048576: true; the input reads as it did. -/
def vectorCountsUptoRow : OpenClaim := { program := "ytiiflkcebikecaa", sum := "bb20613fc6b847b9eea43eb678964f32a1bdb41a7c5ecaf4eb36a4a865c6d372", func := "antecede/antecedelaw15.VectorCounts", spec := "vectorCounts", unfollowed := true, recurses := true, plainKeys := false, apart := false, narrowed := true }
def VectorCountsUptoSaid : Prop := vectorCountsUptoRow.holds Try.pinned (OpenSpec.upto vectorCountsSpec)

/-- 'antecedelaw15.VectorExact', WHERE WHAT IT READS IS OF BULK AT MOST 1048576: true; the input reads as it did. -/
def vectorExactUptoRow : OpenClaim := { program := "ytiiflkcebikecaa", sum := "bb20613fc6b847b9eea43eb678964f32a1bdb41a7c5ecaf4eb36a4a865c6d372", func := "antecede/antecedelaw15.VectorExact", spec := "vectorExact", unfollowed := true, recurses := true, plainKeys := false, apart := false, narrowed := true }
def VectorExactUptoSaid : Prop := vectorExactUptoRow.holds Try.pinned (OpenSpec.upto vectorExactSpec)

/-- 'antecedelaw16.MatrixTicks', WHERE WHAT IT READS IS OF BULK AT MOST 1048576: true; the input reads as it did. -/
def matrixTicksUptoRow : OpenClaim := { program := "ytiiflkcebikecaa", sum := "bb20613fc6b847b9eea43eb678964f32a1bdb41a7c5ecaf4eb36a4a865c6d372", func := "antecede/antecedelaw16.MatrixTicks", spec := "matrixTicks", unfollowed := true, recurses := true, plainKeys := false, apart := false, narrowed := true }
def MatrixTicksUptoSaid : Prop := matrixTicksUptoRow.holds Try.pinned (OpenSpec.upto matrixTicksSpec)

/-- 'antecedelaw16.MatrixReceives', WHERE WHAT IT READS IS OF BULK AT MOST 1048576: true; the input reads as it did. -/
def matrixReceivesUptoRow : OpenClaim := { program := "ytiiflkcebikecaa", sum := "bb20613fc6b847b9eea43eb678964f32a1bdb41a7c5ecaf4eb36a4a865c6d372", func := "antecede/antecedelaw16.MatrixReceives", spec := "matrixReceives", unfollowed := true, recurses := true, plainKeys := false, apart := false, narrowed := true }
def MatrixReceivesUptoSaid : Prop := matrixReceivesUptoRow.holds Try.pinned (OpenSpec.upto matrixReceivesSpec)

/-- 'antecedelaw16.MatrixTraces', WHERE WHAT IT READS IS OF BULK AT MOST 1048576: true; the input reads as it did. -/
def matrixTracesUptoRow : OpenClaim := { program := "ytiiflkcebikecaa", sum := "bb20613fc6b847b9eea43eb678964f32a1bdb41a7c5ecaf4eb36a4a865c6d372", func := "antecede/antecedelaw16.MatrixTraces", spec := "matrixTraces", unfollowed := true, recurses := true, plainKeys := false, apart := false, narrowed := true }
def MatrixTracesUptoSaid : Prop := matrixTracesUptoRow.holds Try.pinned (OpenSpec.upto matrixTracesSpec)

/-- 'antecedelaw16.MatrixRows', WHERE WHAT IT READS IS OF BULK AT MOST 1048576: true; the input reads as it did. -/
def matrixRowsUptoRow : OpenClaim := { program := "ytiiflkcebikecaa", sum := "bb20613fc6b847b9eea43eb678964f32a1bdb41a7c5ecaf4eb36a4a865c6d372", func := "antecede/antecedelaw16.MatrixRows", spec := "matrixRows", unfollowed := true, recurses := true, plainKeys := false, apart := false, narrowed := true }
def MatrixRowsUptoSaid : Prop := matrixRowsUptoRow.holds Try.pinned (OpenSpec.upto matrixRowsSpec)

/-- 'antecedelaw16.MatrixGrows', WHERE WHAT IT READS IS OF BULK AT MOST 1048576: true; the input reads as it did. -/
def matrixGrowsUptoRow : OpenClaim := { program := "ytiiflkcebikecaa", sum := "bb20613fc6b847b9eea43eb678964f32a1bdb41a7c5ecaf4eb36a4a865c6d372", func := "antecede/antecedelaw16.MatrixGrows", spec := "matrixGrows", unfollowed := true, recurses := true, plainKeys := false, apart := false, narrowed := true }
def MatrixGrowsUptoSaid : Prop := matrixGrowsUptoRow.holds Try.pinned (OpenSpec.upto matrixGrowsSpec)

/-- 'antecedelaw16.MatrixKnown', WHERE WHAT IT READS IS OF BULK AT MOST 1048576: true; the input reads as it did. -/
def matrixKnownUptoRow : OpenClaim := { program := "ytiiflkcebikecaa", sum := "bb20613fc6b847b9eea43eb678964f32a1bdb41a7c5ecaf4eb36a4a865c6d372", func := "antecede/antecedelaw16.MatrixKnown", spec := "matrixKnown", unfollowed := true, recurses := true, plainKeys := false, apart := false, narrowed := true }
def MatrixKnownUptoSaid : Prop := matrixKnownUptoRow.holds Try.pinned (OpenSpec.upto matrixKnownSpec)

end Rows
end Go.Proofs.Ytiiflkcebikecaa
