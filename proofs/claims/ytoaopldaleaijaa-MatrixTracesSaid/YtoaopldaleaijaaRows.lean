/-
  No cell of these rows narrows 'for every input' (looked for: loops, veiled, ifaces, maps, wideKeys, modest, calm, conditions, laid).
  DERIVED. THE GIVEN ROWS OF THIS SEAT. 12 by the template 'for every input the law returns true; each argument reads behind the call as it read before'; 0 by the template 'total and deterministic' (their statements: YtoaopldaleaijaaTotals.lean).
  GIVEN WITH THE SEED: the statements are not yours to turn. If you find one false, say at which input.
  Laid BY PROGRAM, IN A SANDBOX (cutbox-rows.mjs): the forced cells as the released guide's own fill.sh prints them over the translation 62d6beb70d2c4428… (all of the seat's roots in one cut). By AI agents, Wed Nov 11 2026. No macro, syntax, notation, axiom, sorry.
-/
import Derived.Test.YtoaopldaleaijaaChecked
import GoSem.Claim
import GoSem.ClaimJoined
import GoSem.ClaimMapViews
import Derived.JoinedTies
import Derived.KernelRfl
namespace Go.Proofs.Ytoaopldaleaijaa
/- THE CELL 'sum', in the pinned program and in every row, IS THE sha256 OF THE DUMP (.gsa) THAT YtoaopldaleaijaaProg.lean LOADS. Nothing in Lean hashes anything: it is a label: what it is worth is what the hold of that sum in a sandbox is worth. -/
noncomputable def Try.pinned : Pinned := { name := "ytoaopldaleaijaa", sum := "62d6beb70d2c4428bddf170048a572dee0cbebedca12734cef062292641f83c5", checked := Try.checked }
namespace Rows
def none {H : Type} : Left H := { results := [], args := [] }

/-- 'antecedelaw13.CausalityHalves': WHATEVER THE INPUT: true; the input reads as it did. -/
def causalityHalvesSpec : ChangeSpec := { name := "causalityHalves", fn := fun _ => fun
  | [d1, d2] => { results := [.lit (.bool true)], args := [d1, d2] }
  | _ => none }
def causalityHalvesRow : OpenClaim := { program := "ytoaopldaleaijaa", sum := "62d6beb70d2c4428bddf170048a572dee0cbebedca12734cef062292641f83c5", func := "antecede/antecedelaw13.CausalityHalves", spec := "causalityHalves", unfollowed := true, recurses := true, plainKeys := false, apart := false }
def CausalityHalvesSaid : Prop := causalityHalvesRow.holds Try.pinned (OpenSpec.ofChange causalityHalvesSpec)

/-- ITS FALSE NEIGHBOUR: 'it returns false'. Refute it at one input. -/
def causalityHalvesWrong : ChangeSpec := { name := "causalityHalves", fn := fun _ => fun
  | [d1, d2] => { results := [.lit (.bool false)], args := [d1, d2] }
  | _ => none }
def CausalityHalvesWrongFalsely : Prop := causalityHalvesRow.holds Try.pinned (OpenSpec.ofChange causalityHalvesWrong)

/-- 'antecedelaw13.CausalityLeast': WHATEVER THE INPUT: true; the input reads as it did. -/
def causalityLeastSpec : ChangeSpec := { name := "causalityLeast", fn := fun _ => fun
  | [d] => { results := [.lit (.bool true)], args := [d] }
  | _ => none }
def causalityLeastRow : OpenClaim := { program := "ytoaopldaleaijaa", sum := "62d6beb70d2c4428bddf170048a572dee0cbebedca12734cef062292641f83c5", func := "antecede/antecedelaw13.CausalityLeast", spec := "causalityLeast", unfollowed := true, recurses := true, plainKeys := false, apart := false }
def CausalityLeastSaid : Prop := causalityLeastRow.holds Try.pinned (OpenSpec.ofChange causalityLeastSpec)

/-- ITS FALSE NEIGHBOUR: 'it returns false'. Refute it at one input. -/
def causalityLeastWrong : ChangeSpec := { name := "causalityLeast", fn := fun _ => fun
  | [d] => { results := [.lit (.bool false)], args := [d] }
  | _ => none }
def CausalityLeastWrongFalsely : Prop := causalityLeastRow.holds Try.pinned (OpenSpec.ofChange causalityLeastWrong)

/-- 'antecedelaw13.CausalityQuestions': WHATEVER THE INPUT: true; the input reads as it did. -/
def causalityQuestionsSpec : ChangeSpec := { name := "causalityQuestions", fn := fun _ => fun
  | [d1, d2, d3] => { results := [.lit (.bool true)], args := [d1, d2, d3] }
  | _ => none }
def causalityQuestionsRow : OpenClaim := { program := "ytoaopldaleaijaa", sum := "62d6beb70d2c4428bddf170048a572dee0cbebedca12734cef062292641f83c5", func := "antecede/antecedelaw13.CausalityQuestions", spec := "causalityQuestions", unfollowed := true, recurses := true, plainKeys := false, apart := false }
def CausalityQuestionsSaid : Prop := causalityQuestionsRow.holds Try.pinned (OpenSpec.ofChange causalityQuestionsSpec)

/-- ITS FALSE NEIGHBOUR: 'it returns false'. Refute it at one input. -/
def causalityQuestionsWrong : ChangeSpec := { name := "causalityQuestions", fn := fun _ => fun
  | [d1, d2, d3] => { results := [.lit (.bool false)], args := [d1, d2, d3] }
  | _ => none }
def CausalityQuestionsWrongFalsely : Prop := causalityQuestionsRow.holds Try.pinned (OpenSpec.ofChange causalityQuestionsWrong)

/-- 'antecedelaw13.CausalityNumbers': WHATEVER THE INPUT: true; the input reads as it did. -/
def causalityNumbersSpec : ChangeSpec := { name := "causalityNumbers", fn := fun _ => fun
  | [d1, d2, d3] => { results := [.lit (.bool true)], args := [d1, d2, d3] }
  | _ => none }
def causalityNumbersRow : OpenClaim := { program := "ytoaopldaleaijaa", sum := "62d6beb70d2c4428bddf170048a572dee0cbebedca12734cef062292641f83c5", func := "antecede/antecedelaw13.CausalityNumbers", spec := "causalityNumbers", unfollowed := true, recurses := true, plainKeys := false, apart := false }
def CausalityNumbersSaid : Prop := causalityNumbersRow.holds Try.pinned (OpenSpec.ofChange causalityNumbersSpec)

/-- ITS FALSE NEIGHBOUR: 'it returns false'. Refute it at one input. -/
def causalityNumbersWrong : ChangeSpec := { name := "causalityNumbers", fn := fun _ => fun
  | [d1, d2, d3] => { results := [.lit (.bool false)], args := [d1, d2, d3] }
  | _ => none }
def CausalityNumbersWrongFalsely : Prop := causalityNumbersRow.holds Try.pinned (OpenSpec.ofChange causalityNumbersWrong)

/-- 'antecedelaw13.CausalityPaths': WHATEVER THE INPUT: true; the input reads as it did. -/
def causalityPathsSpec : ChangeSpec := { name := "causalityPaths", fn := fun _ => fun
  | [d1, d2, d3] => { results := [.lit (.bool true)], args := [d1, d2, d3] }
  | _ => none }
def causalityPathsRow : OpenClaim := { program := "ytoaopldaleaijaa", sum := "62d6beb70d2c4428bddf170048a572dee0cbebedca12734cef062292641f83c5", func := "antecede/antecedelaw13.CausalityPaths", spec := "causalityPaths", unfollowed := true, recurses := true, plainKeys := false, apart := false }
def CausalityPathsSaid : Prop := causalityPathsRow.holds Try.pinned (OpenSpec.ofChange causalityPathsSpec)

/-- ITS FALSE NEIGHBOUR: 'it returns false'. Refute it at one input. -/
def causalityPathsWrong : ChangeSpec := { name := "causalityPaths", fn := fun _ => fun
  | [d1, d2, d3] => { results := [.lit (.bool false)], args := [d1, d2, d3] }
  | _ => none }
def CausalityPathsWrongFalsely : Prop := causalityPathsRow.holds Try.pinned (OpenSpec.ofChange causalityPathsWrong)

/-- 'antecedelaw15.VectorCounts': WHATEVER THE INPUT: true; the input reads as it did. -/
def vectorCountsSpec : ChangeSpec := { name := "vectorCounts", fn := fun _ => fun
  | [d1, d2] => { results := [.lit (.bool true)], args := [d1, d2] }
  | _ => none }
def vectorCountsRow : OpenClaim := { program := "ytoaopldaleaijaa", sum := "62d6beb70d2c4428bddf170048a572dee0cbebedca12734cef062292641f83c5", func := "antecede/antecedelaw15.VectorCounts", spec := "vectorCounts", unfollowed := true, recurses := true, plainKeys := false, apart := false }
def VectorCountsSaid : Prop := vectorCountsRow.holds Try.pinned (OpenSpec.ofChange vectorCountsSpec)

/-- ITS FALSE NEIGHBOUR: 'it returns false'. Refute it at one input. -/
def vectorCountsWrong : ChangeSpec := { name := "vectorCounts", fn := fun _ => fun
  | [d1, d2] => { results := [.lit (.bool false)], args := [d1, d2] }
  | _ => none }
def VectorCountsWrongFalsely : Prop := vectorCountsRow.holds Try.pinned (OpenSpec.ofChange vectorCountsWrong)

/-- 'antecedelaw15.VectorExact': WHATEVER THE INPUT: true; the input reads as it did. -/
def vectorExactSpec : ChangeSpec := { name := "vectorExact", fn := fun _ => fun
  | [d1, d2, d3] => { results := [.lit (.bool true)], args := [d1, d2, d3] }
  | _ => none }
def vectorExactRow : OpenClaim := { program := "ytoaopldaleaijaa", sum := "62d6beb70d2c4428bddf170048a572dee0cbebedca12734cef062292641f83c5", func := "antecede/antecedelaw15.VectorExact", spec := "vectorExact", unfollowed := true, recurses := true, plainKeys := false, apart := false }
def VectorExactSaid : Prop := vectorExactRow.holds Try.pinned (OpenSpec.ofChange vectorExactSpec)

/-- ITS FALSE NEIGHBOUR: 'it returns false'. Refute it at one input. -/
def vectorExactWrong : ChangeSpec := { name := "vectorExact", fn := fun _ => fun
  | [d1, d2, d3] => { results := [.lit (.bool false)], args := [d1, d2, d3] }
  | _ => none }
def VectorExactWrongFalsely : Prop := vectorExactRow.holds Try.pinned (OpenSpec.ofChange vectorExactWrong)

/-- 'antecedelaw16.MatrixTraces': WHATEVER THE INPUT: true; the input reads as it did. -/
def matrixTracesSpec : ChangeSpec := { name := "matrixTraces", fn := fun _ => fun
  | [d1, d2] => { results := [.lit (.bool true)], args := [d1, d2] }
  | _ => none }
def matrixTracesRow : OpenClaim := { program := "ytoaopldaleaijaa", sum := "62d6beb70d2c4428bddf170048a572dee0cbebedca12734cef062292641f83c5", func := "antecede/antecedelaw16.MatrixTraces", spec := "matrixTraces", unfollowed := true, recurses := true, plainKeys := false, apart := false }
def MatrixTracesSaid : Prop := matrixTracesRow.holds Try.pinned (OpenSpec.ofChange matrixTracesSpec)

/-- ITS FALSE NEIGHBOUR: 'it returns false'. Refute it at one input. -/
def matrixTracesWrong : ChangeSpec := { name := "matrixTraces", fn := fun _ => fun
  | [d1, d2] => { results := [.lit (.bool false)], args := [d1, d2] }
  | _ => none }
def MatrixTracesWrongFalsely : Prop := matrixTracesRow.holds Try.pinned (OpenSpec.ofChange matrixTracesWrong)

/-- 'antecedelaw16.MatrixRows': WHATEVER THE INPUT: true; the input reads as it did. -/
def matrixRowsSpec : ChangeSpec := { name := "matrixRows", fn := fun _ => fun
  | [d1, d2] => { results := [.lit (.bool true)], args := [d1, d2] }
  | _ => none }
def matrixRowsRow : OpenClaim := { program := "ytoaopldaleaijaa", sum := "62d6beb70d2c4428bddf170048a572dee0cbebedca12734cef062292641f83c5", func := "antecede/antecedelaw16.MatrixRows", spec := "matrixRows", unfollowed := true, recurses := true, plainKeys := false, apart := false }
def MatrixRowsSaid : Prop := matrixRowsRow.holds Try.pinned (OpenSpec.ofChange matrixRowsSpec)

/-- ITS FALSE NEIGHBOUR: 'it returns false'. Refute it at one input. -/
def matrixRowsWrong : ChangeSpec := { name := "matrixRows", fn := fun _ => fun
  | [d1, d2] => { results := [.lit (.bool false)], args := [d1, d2] }
  | _ => none }
def MatrixRowsWrongFalsely : Prop := matrixRowsRow.holds Try.pinned (OpenSpec.ofChange matrixRowsWrong)

/-- 'antecedelaw16.MatrixGrows': WHATEVER THE INPUT: true; the input reads as it did. -/
def matrixGrowsSpec : ChangeSpec := { name := "matrixGrows", fn := fun _ => fun
  | [d1, d2, d3] => { results := [.lit (.bool true)], args := [d1, d2, d3] }
  | _ => none }
def matrixGrowsRow : OpenClaim := { program := "ytoaopldaleaijaa", sum := "62d6beb70d2c4428bddf170048a572dee0cbebedca12734cef062292641f83c5", func := "antecede/antecedelaw16.MatrixGrows", spec := "matrixGrows", unfollowed := true, recurses := true, plainKeys := false, apart := false }
def MatrixGrowsSaid : Prop := matrixGrowsRow.holds Try.pinned (OpenSpec.ofChange matrixGrowsSpec)

/-- ITS FALSE NEIGHBOUR: 'it returns false'. Refute it at one input. -/
def matrixGrowsWrong : ChangeSpec := { name := "matrixGrows", fn := fun _ => fun
  | [d1, d2, d3] => { results := [.lit (.bool false)], args := [d1, d2, d3] }
  | _ => none }
def MatrixGrowsWrongFalsely : Prop := matrixGrowsRow.holds Try.pinned (OpenSpec.ofChange matrixGrowsWrong)

/-- 'antecedelaw16.MatrixKnown': WHATEVER THE INPUT: true; the input reads as it did. -/
def matrixKnownSpec : ChangeSpec := { name := "matrixKnown", fn := fun _ => fun
  | [d1, d2] => { results := [.lit (.bool true)], args := [d1, d2] }
  | _ => none }
def matrixKnownRow : OpenClaim := { program := "ytoaopldaleaijaa", sum := "62d6beb70d2c4428bddf170048a572dee0cbebedca12734cef062292641f83c5", func := "antecede/antecedelaw16.MatrixKnown", spec := "matrixKnown", unfollowed := true, recurses := true, plainKeys := false, apart := false }
def MatrixKnownSaid : Prop := matrixKnownRow.holds Try.pinned (OpenSpec.ofChange matrixKnownSpec)

/-- ITS FALSE NEIGHBOUR: 'it returns false'. Refute it at one input. -/
def matrixKnownWrong : ChangeSpec := { name := "matrixKnown", fn := fun _ => fun
  | [d1, d2] => { results := [.lit (.bool false)], args := [d1, d2] }
  | _ => none }
def MatrixKnownWrongFalsely : Prop := matrixKnownRow.holds Try.pinned (OpenSpec.ofChange matrixKnownWrong)

/-- 'antecedelaw12.TraceParts': WHATEVER THE INPUT: true; the input reads as it did. -/
def tracePartsSpec : ChangeSpec := { name := "traceParts", fn := fun _ => fun
  | [d1, d2, d3] => { results := [.lit (.bool true)], args := [d1, d2, d3] }
  | _ => none }
def tracePartsRow : OpenClaim := { program := "ytoaopldaleaijaa", sum := "62d6beb70d2c4428bddf170048a572dee0cbebedca12734cef062292641f83c5", func := "antecede/antecedelaw12.TraceParts", spec := "traceParts", unfollowed := true, recurses := true, plainKeys := false, apart := false }
def TracePartsSaid : Prop := tracePartsRow.holds Try.pinned (OpenSpec.ofChange tracePartsSpec)

/-- ITS FALSE NEIGHBOUR: 'it returns false'. Refute it at one input. -/
def tracePartsWrong : ChangeSpec := { name := "traceParts", fn := fun _ => fun
  | [d1, d2, d3] => { results := [.lit (.bool false)], args := [d1, d2, d3] }
  | _ => none }
def TracePartsWrongFalsely : Prop := tracePartsRow.holds Try.pinned (OpenSpec.ofChange tracePartsWrong)

/- THE SECOND FORM. 'bulk': how many values and letters a reading holds, each counted each time it is reached (what is shared counts as often as it is met; a slice's spare places count too). A statement '..UptoSaid' is the law's where the arguments, and the package variables that the reading takes, are together of bulk at most 1048576: NARROWER than '..Said'. Prove '..Said' where nothing that the law and all that it calls make is longer than what came in: it says more and counts as full. Else prove '..UptoSaid'. A law counts once. -/
mutual
def uptoBulk {H : Type} : DataW H → Nat
  | .lit (.string bytes) => bytes.length + 1
  | .lit _ => 1
  | .nil => 1
  | .ptr d => uptoBulk d + 1
  | .slice elems spare => uptoBulkAll elems + uptoBulkAll spare + 1
  | .agg parts => uptoBulkAll parts + 1
  | .iface _ d => uptoBulk d + 1
  | .map entries => uptoBulkEntries entries + 1
  | .held _ => 1
def uptoBulkAll {H : Type} : List (DataW H) → Nat
  | [] => 0
  | d :: r => uptoBulk d + uptoBulkAll r
def uptoBulkEntries {H : Type} : List (Lit × DataW H) → Nat
  | [] => 0
  | x :: r => uptoBulkEntry x + uptoBulkEntries r
def uptoBulkEntry {H : Type} : Lit × DataW H → Nat
  | (.string bytes, d) => bytes.length + uptoBulk d + 1
  | (_, d) => uptoBulk d + 1
 end
def uptoSmall : (H : Type) → List (DataW H) → Bool := fun _ ds => decide (uptoBulkAll ds ≤ 1048576)
def OpenSpec.upto (s : _root_.Go.ChangeSpec) : _root_.Go.OpenSpec := { _root_.Go.OpenSpec.ofChange s with cond := some uptoSmall }

/-- 'antecedelaw13.CausalityHalves', WHERE WHAT IT READS IS OF BULK AT MOST 1048576: true; the input reads as it did. -/
def causalityHalvesUptoRow : OpenClaim := { program := "ytoaopldaleaijaa", sum := "62d6beb70d2c4428bddf170048a572dee0cbebedca12734cef062292641f83c5", func := "antecede/antecedelaw13.CausalityHalves", spec := "causalityHalves", unfollowed := true, recurses := true, plainKeys := false, apart := false, narrowed := true }
def CausalityHalvesUptoSaid : Prop := causalityHalvesUptoRow.holds Try.pinned (OpenSpec.upto causalityHalvesSpec)

/-- 'antecedelaw13.CausalityLeast', WHERE WHAT IT READS IS OF BULK AT MOST 1048576: true; the input reads as it did. -/
def causalityLeastUptoRow : OpenClaim := { program := "ytoaopldaleaijaa", sum := "62d6beb70d2c4428bddf170048a572dee0cbebedca12734cef062292641f83c5", func := "antecede/antecedelaw13.CausalityLeast", spec := "causalityLeast", unfollowed := true, recurses := true, plainKeys := false, apart := false, narrowed := true }
def CausalityLeastUptoSaid : Prop := causalityLeastUptoRow.holds Try.pinned (OpenSpec.upto causalityLeastSpec)

/-- 'antecedelaw13.CausalityQuestions', WHERE WHAT IT READS IS OF BULK AT MOST 1048576: true; the input reads as it did. -/
def causalityQuestionsUptoRow : OpenClaim := { program := "ytoaopldaleaijaa", sum := "62d6beb70d2c4428bddf170048a572dee0cbebedca12734cef062292641f83c5", func := "antecede/antecedelaw13.CausalityQuestions", spec := "causalityQuestions", unfollowed := true, recurses := true, plainKeys := false, apart := false, narrowed := true }
def CausalityQuestionsUptoSaid : Prop := causalityQuestionsUptoRow.holds Try.pinned (OpenSpec.upto causalityQuestionsSpec)

/-- 'antecedelaw13.CausalityNumbers', WHERE WHAT IT READS IS OF BULK AT MOST 1048576: true; the input reads as it did. -/
def causalityNumbersUptoRow : OpenClaim := { program := "ytoaopldaleaijaa", sum := "62d6beb70d2c4428bddf170048a572dee0cbebedca12734cef062292641f83c5", func := "antecede/antecedelaw13.CausalityNumbers", spec := "causalityNumbers", unfollowed := true, recurses := true, plainKeys := false, apart := false, narrowed := true }
def CausalityNumbersUptoSaid : Prop := causalityNumbersUptoRow.holds Try.pinned (OpenSpec.upto causalityNumbersSpec)

/-- 'antecedelaw13.CausalityPaths', WHERE WHAT IT READS IS OF BULK AT MOST 1048576: true; the input reads as it did. -/
def causalityPathsUptoRow : OpenClaim := { program := "ytoaopldaleaijaa", sum := "62d6beb70d2c4428bddf170048a572dee0cbebedca12734cef062292641f83c5", func := "antecede/antecedelaw13.CausalityPaths", spec := "causalityPaths", unfollowed := true, recurses := true, plainKeys := false, apart := false, narrowed := true }
def CausalityPathsUptoSaid : Prop := causalityPathsUptoRow.holds Try.pinned (OpenSpec.upto causalityPathsSpec)

/-- 'antecedelaw15.VectorCounts', WHERE WHAT IT READS IS OF BULK AT MOST 1048576: true; the input reads as it did. -/
def vectorCountsUptoRow : OpenClaim := { program := "ytoaopldaleaijaa", sum := "62d6beb70d2c4428bddf170048a572dee0cbebedca12734cef062292641f83c5", func := "antecede/antecedelaw15.VectorCounts", spec := "vectorCounts", unfollowed := true, recurses := true, plainKeys := false, apart := false, narrowed := true }
def VectorCountsUptoSaid : Prop := vectorCountsUptoRow.holds Try.pinned (OpenSpec.upto vectorCountsSpec)

/-- 'antecedelaw15.VectorExact', WHERE WHAT IT READS IS OF BULK AT MOST 1048576: true; the input reads as it did. -/
def vectorExactUptoRow : OpenClaim := { program := "ytoaopldaleaijaa", sum := "62d6beb70d2c4428bddf170048a572dee0cbebedca12734cef062292641f83c5", func := "antecede/antecedelaw15.VectorExact", spec := "vectorExact", unfollowed := true, recurses := true, plainKeys := false, apart := false, narrowed := true }
def VectorExactUptoSaid : Prop := vectorExactUptoRow.holds Try.pinned (OpenSpec.upto vectorExactSpec)

/-- 'antecedelaw16.MatrixTraces', WHERE WHAT IT READS IS OF BULK AT MOST 1048576: true; the input reads as it did. -/
def matrixTracesUptoRow : OpenClaim := { program := "ytoaopldaleaijaa", sum := "62d6beb70d2c4428bddf170048a572dee0cbebedca12734cef062292641f83c5", func := "antecede/antecedelaw16.MatrixTraces", spec := "matrixTraces", unfollowed := true, recurses := true, plainKeys := false, apart := false, narrowed := true }
def MatrixTracesUptoSaid : Prop := matrixTracesUptoRow.holds Try.pinned (OpenSpec.upto matrixTracesSpec)

/-- 'antecedelaw16.MatrixRows', WHERE WHAT IT READS IS OF BULK AT MOST 1048576: true; the input reads as it did. -/
def matrixRowsUptoRow : OpenClaim := { program := "ytoaopldaleaijaa", sum := "62d6beb70d2c4428bddf170048a572dee0cbebedca12734cef062292641f83c5", func := "antecede/antecedelaw16.MatrixRows", spec := "matrixRows", unfollowed := true, recurses := true, plainKeys := false, apart := false, narrowed := true }
def MatrixRowsUptoSaid : Prop := matrixRowsUptoRow.holds Try.pinned (OpenSpec.upto matrixRowsSpec)

/-- 'antecedelaw16.MatrixGrows', WHERE WHAT IT READS IS OF BULK AT MOST 1048576: true; the input reads as it did. -/
def matrixGrowsUptoRow : OpenClaim := { program := "ytoaopldaleaijaa", sum := "62d6beb70d2c4428bddf170048a572dee0cbebedca12734cef062292641f83c5", func := "antecede/antecedelaw16.MatrixGrows", spec := "matrixGrows", unfollowed := true, recurses := true, plainKeys := false, apart := false, narrowed := true }
def MatrixGrowsUptoSaid : Prop := matrixGrowsUptoRow.holds Try.pinned (OpenSpec.upto matrixGrowsSpec)

/-- 'antecedelaw16.MatrixKnown', WHERE WHAT IT READS IS OF BULK AT MOST 1048576: true; the input reads as it did. -/
def matrixKnownUptoRow : OpenClaim := { program := "ytoaopldaleaijaa", sum := "62d6beb70d2c4428bddf170048a572dee0cbebedca12734cef062292641f83c5", func := "antecede/antecedelaw16.MatrixKnown", spec := "matrixKnown", unfollowed := true, recurses := true, plainKeys := false, apart := false, narrowed := true }
def MatrixKnownUptoSaid : Prop := matrixKnownUptoRow.holds Try.pinned (OpenSpec.upto matrixKnownSpec)

/-- 'antecedelaw12.TraceParts', WHERE WHAT IT READS IS OF BULK AT MOST 1048576: true; the input reads as it did. -/
def tracePartsUptoRow : OpenClaim := { program := "ytoaopldaleaijaa", sum := "62d6beb70d2c4428bddf170048a572dee0cbebedca12734cef062292641f83c5", func := "antecede/antecedelaw12.TraceParts", spec := "traceParts", unfollowed := true, recurses := true, plainKeys := false, apart := false, narrowed := true }
def TracePartsUptoSaid : Prop := tracePartsUptoRow.holds Try.pinned (OpenSpec.upto tracePartsSpec)

end Rows
end Go.Proofs.Ytoaopldaleaijaa
