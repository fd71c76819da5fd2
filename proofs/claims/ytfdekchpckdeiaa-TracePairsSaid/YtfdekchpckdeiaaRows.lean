/-
  No cell of these rows narrows 'for every input' (looked for: loops, veiled, ifaces, maps, wideKeys, modest, calm, conditions, laid).
  DERIVED. THE GIVEN ROWS OF THIS SEAT. 12 by the template 'for every input the law returns true; each argument reads behind the call as it read before'; 0 by the template 'total and deterministic' (their statements: YtfdekchpckdeiaaTotals.lean).
  GIVEN WITH THE SEED: the statements are not yours to turn. If you find one false, say at which input.
  Laid BY PROGRAM, IN A SANDBOX (cutbox-rows.mjs): the forced cells as the released guide's own fill.sh prints them over the translation e8c8e5f8b20a47f4… (all of the seat's roots in one cut). By AI agents, Wed Nov 11 2026. No macro, syntax, notation, axiom, sorry.
-/
import Derived.Test.YtfdekchpckdeiaaChecked
import GoSem.Claim
import GoSem.ClaimJoined
import GoSem.ClaimMapViews
import Derived.JoinedTies
import Derived.KernelRfl
namespace Go.Proofs.Ytfdekchpckdeiaa
/- THE CELL 'sum', in the pinned program and in every row, IS THE sha256 OF THE DUMP (.gsa) THAT YtfdekchpckdeiaaProg.lean LOADS. Nothing in Lean hashes anything: it is a label: what it is worth is what the hold of that sum in a sandbox is worth. -/
noncomputable def Try.pinned : Pinned := { name := "ytfdekchpckdeiaa", sum := "e8c8e5f8b20a47f46230fd13146570434fa9e6cc0a5eba7e2cc214b98608194b", checked := Try.checked }
namespace Rows
def none {H : Type} : Left H := { results := [], args := [] }

/-- 'antecedelaw12.TraceFaults': WHATEVER THE INPUT: true; the input reads as it did. -/
def traceFaultsSpec : ChangeSpec := { name := "traceFaults", fn := fun _ => fun
  | [d] => { results := [.lit (.bool true)], args := [d] }
  | _ => none }
def traceFaultsRow : OpenClaim := { program := "ytfdekchpckdeiaa", sum := "e8c8e5f8b20a47f46230fd13146570434fa9e6cc0a5eba7e2cc214b98608194b", func := "antecede/antecedelaw12.TraceFaults", spec := "traceFaults", unfollowed := true, recurses := true, plainKeys := false, apart := false }
def TraceFaultsSaid : Prop := traceFaultsRow.holds Try.pinned (OpenSpec.ofChange traceFaultsSpec)

/-- ITS FALSE NEIGHBOUR: 'it returns false'. Refute it at one input. -/
def traceFaultsWrong : ChangeSpec := { name := "traceFaults", fn := fun _ => fun
  | [d] => { results := [.lit (.bool false)], args := [d] }
  | _ => none }
def TraceFaultsWrongFalsely : Prop := traceFaultsRow.holds Try.pinned (OpenSpec.ofChange traceFaultsWrong)

/-- 'antecedelaw12.TracePrefixes': WHATEVER THE INPUT: true; the input reads as it did. -/
def tracePrefixesSpec : ChangeSpec := { name := "tracePrefixes", fn := fun _ => fun
  | [d1, d2] => { results := [.lit (.bool true)], args := [d1, d2] }
  | _ => none }
def tracePrefixesRow : OpenClaim := { program := "ytfdekchpckdeiaa", sum := "e8c8e5f8b20a47f46230fd13146570434fa9e6cc0a5eba7e2cc214b98608194b", func := "antecede/antecedelaw12.TracePrefixes", spec := "tracePrefixes", unfollowed := true, recurses := true, plainKeys := false, apart := false }
def TracePrefixesSaid : Prop := tracePrefixesRow.holds Try.pinned (OpenSpec.ofChange tracePrefixesSpec)

/-- ITS FALSE NEIGHBOUR: 'it returns false'. Refute it at one input. -/
def tracePrefixesWrong : ChangeSpec := { name := "tracePrefixes", fn := fun _ => fun
  | [d1, d2] => { results := [.lit (.bool false)], args := [d1, d2] }
  | _ => none }
def TracePrefixesWrongFalsely : Prop := tracePrefixesRow.holds Try.pinned (OpenSpec.ofChange tracePrefixesWrong)

/-- 'antecedelaw12.TraceOrders': WHATEVER THE INPUT: true; the input reads as it did. -/
def traceOrdersSpec : ChangeSpec := { name := "traceOrders", fn := fun _ => fun
  | [d1, d2, d3] => { results := [.lit (.bool true)], args := [d1, d2, d3] }
  | _ => none }
def traceOrdersRow : OpenClaim := { program := "ytfdekchpckdeiaa", sum := "e8c8e5f8b20a47f46230fd13146570434fa9e6cc0a5eba7e2cc214b98608194b", func := "antecede/antecedelaw12.TraceOrders", spec := "traceOrders", unfollowed := true, recurses := true, plainKeys := false, apart := false }
def TraceOrdersSaid : Prop := traceOrdersRow.holds Try.pinned (OpenSpec.ofChange traceOrdersSpec)

/-- ITS FALSE NEIGHBOUR: 'it returns false'. Refute it at one input. -/
def traceOrdersWrong : ChangeSpec := { name := "traceOrders", fn := fun _ => fun
  | [d1, d2, d3] => { results := [.lit (.bool false)], args := [d1, d2, d3] }
  | _ => none }
def TraceOrdersWrongFalsely : Prop := traceOrdersRow.holds Try.pinned (OpenSpec.ofChange traceOrdersWrong)

/-- 'antecedelaw12.TracePairs': WHATEVER THE INPUT: true; the input reads as it did. -/
def tracePairsSpec : ChangeSpec := { name := "tracePairs", fn := fun _ => fun
  | [d] => { results := [.lit (.bool true)], args := [d] }
  | _ => none }
def tracePairsRow : OpenClaim := { program := "ytfdekchpckdeiaa", sum := "e8c8e5f8b20a47f46230fd13146570434fa9e6cc0a5eba7e2cc214b98608194b", func := "antecede/antecedelaw12.TracePairs", spec := "tracePairs", unfollowed := true, recurses := true, plainKeys := false, apart := false }
def TracePairsSaid : Prop := tracePairsRow.holds Try.pinned (OpenSpec.ofChange tracePairsSpec)

/-- ITS FALSE NEIGHBOUR: 'it returns false'. Refute it at one input. -/
def tracePairsWrong : ChangeSpec := { name := "tracePairs", fn := fun _ => fun
  | [d] => { results := [.lit (.bool false)], args := [d] }
  | _ => none }
def TracePairsWrongFalsely : Prop := tracePairsRow.holds Try.pinned (OpenSpec.ofChange tracePairsWrong)

/-- 'antecedelaw12.TraceBuilt': WHATEVER THE INPUT: true; the input reads as it did. -/
def traceBuiltSpec : ChangeSpec := { name := "traceBuilt", fn := fun _ => fun
  | [d1, d2] => { results := [.lit (.bool true)], args := [d1, d2] }
  | _ => none }
def traceBuiltRow : OpenClaim := { program := "ytfdekchpckdeiaa", sum := "e8c8e5f8b20a47f46230fd13146570434fa9e6cc0a5eba7e2cc214b98608194b", func := "antecede/antecedelaw12.TraceBuilt", spec := "traceBuilt", unfollowed := true, recurses := true, plainKeys := false, apart := false }
def TraceBuiltSaid : Prop := traceBuiltRow.holds Try.pinned (OpenSpec.ofChange traceBuiltSpec)

/-- ITS FALSE NEIGHBOUR: 'it returns false'. Refute it at one input. -/
def traceBuiltWrong : ChangeSpec := { name := "traceBuilt", fn := fun _ => fun
  | [d1, d2] => { results := [.lit (.bool false)], args := [d1, d2] }
  | _ => none }
def TraceBuiltWrongFalsely : Prop := traceBuiltRow.holds Try.pinned (OpenSpec.ofChange traceBuiltWrong)

/-- 'antecedelaw12.TraceParts': WHATEVER THE INPUT: true; the input reads as it did. -/
def tracePartsSpec : ChangeSpec := { name := "traceParts", fn := fun _ => fun
  | [d1, d2, d3] => { results := [.lit (.bool true)], args := [d1, d2, d3] }
  | _ => none }
def tracePartsRow : OpenClaim := { program := "ytfdekchpckdeiaa", sum := "e8c8e5f8b20a47f46230fd13146570434fa9e6cc0a5eba7e2cc214b98608194b", func := "antecede/antecedelaw12.TraceParts", spec := "traceParts", unfollowed := true, recurses := true, plainKeys := false, apart := false }
def TracePartsSaid : Prop := tracePartsRow.holds Try.pinned (OpenSpec.ofChange tracePartsSpec)

/-- ITS FALSE NEIGHBOUR: 'it returns false'. Refute it at one input. -/
def tracePartsWrong : ChangeSpec := { name := "traceParts", fn := fun _ => fun
  | [d1, d2, d3] => { results := [.lit (.bool false)], args := [d1, d2, d3] }
  | _ => none }
def TracePartsWrongFalsely : Prop := tracePartsRow.holds Try.pinned (OpenSpec.ofChange tracePartsWrong)

/-- 'antecedelaw12.TraceMessages': WHATEVER THE INPUT: true; the input reads as it did. -/
def traceMessagesSpec : ChangeSpec := { name := "traceMessages", fn := fun _ => fun
  | [d1, d2] => { results := [.lit (.bool true)], args := [d1, d2] }
  | _ => none }
def traceMessagesRow : OpenClaim := { program := "ytfdekchpckdeiaa", sum := "e8c8e5f8b20a47f46230fd13146570434fa9e6cc0a5eba7e2cc214b98608194b", func := "antecede/antecedelaw12.TraceMessages", spec := "traceMessages", unfollowed := true, recurses := true, plainKeys := false, apart := false }
def TraceMessagesSaid : Prop := traceMessagesRow.holds Try.pinned (OpenSpec.ofChange traceMessagesSpec)

/-- ITS FALSE NEIGHBOUR: 'it returns false'. Refute it at one input. -/
def traceMessagesWrong : ChangeSpec := { name := "traceMessages", fn := fun _ => fun
  | [d1, d2] => { results := [.lit (.bool false)], args := [d1, d2] }
  | _ => none }
def TraceMessagesWrongFalsely : Prop := traceMessagesRow.holds Try.pinned (OpenSpec.ofChange traceMessagesWrong)

/-- 'antecedelaw13.CausalityHalves': WHATEVER THE INPUT: true; the input reads as it did. -/
def causalityHalvesSpec : ChangeSpec := { name := "causalityHalves", fn := fun _ => fun
  | [d1, d2] => { results := [.lit (.bool true)], args := [d1, d2] }
  | _ => none }
def causalityHalvesRow : OpenClaim := { program := "ytfdekchpckdeiaa", sum := "e8c8e5f8b20a47f46230fd13146570434fa9e6cc0a5eba7e2cc214b98608194b", func := "antecede/antecedelaw13.CausalityHalves", spec := "causalityHalves", unfollowed := true, recurses := true, plainKeys := false, apart := false }
def CausalityHalvesSaid : Prop := causalityHalvesRow.holds Try.pinned (OpenSpec.ofChange causalityHalvesSpec)

/-- ITS FALSE NEIGHBOUR: 'it returns false'. Refute it at one input. -/
def causalityHalvesWrong : ChangeSpec := { name := "causalityHalves", fn := fun _ => fun
  | [d1, d2] => { results := [.lit (.bool false)], args := [d1, d2] }
  | _ => none }
def CausalityHalvesWrongFalsely : Prop := causalityHalvesRow.holds Try.pinned (OpenSpec.ofChange causalityHalvesWrong)

/-- 'antecedelaw13.CausalityLeast': WHATEVER THE INPUT: true; the input reads as it did. -/
def causalityLeastSpec : ChangeSpec := { name := "causalityLeast", fn := fun _ => fun
  | [d] => { results := [.lit (.bool true)], args := [d] }
  | _ => none }
def causalityLeastRow : OpenClaim := { program := "ytfdekchpckdeiaa", sum := "e8c8e5f8b20a47f46230fd13146570434fa9e6cc0a5eba7e2cc214b98608194b", func := "antecede/antecedelaw13.CausalityLeast", spec := "causalityLeast", unfollowed := true, recurses := true, plainKeys := false, apart := false }
def CausalityLeastSaid : Prop := causalityLeastRow.holds Try.pinned (OpenSpec.ofChange causalityLeastSpec)

/-- ITS FALSE NEIGHBOUR: 'it returns false'. Refute it at one input. -/
def causalityLeastWrong : ChangeSpec := { name := "causalityLeast", fn := fun _ => fun
  | [d] => { results := [.lit (.bool false)], args := [d] }
  | _ => none }
def CausalityLeastWrongFalsely : Prop := causalityLeastRow.holds Try.pinned (OpenSpec.ofChange causalityLeastWrong)

/-- 'antecedelaw13.CausalityQuestions': WHATEVER THE INPUT: true; the input reads as it did. -/
def causalityQuestionsSpec : ChangeSpec := { name := "causalityQuestions", fn := fun _ => fun
  | [d1, d2, d3] => { results := [.lit (.bool true)], args := [d1, d2, d3] }
  | _ => none }
def causalityQuestionsRow : OpenClaim := { program := "ytfdekchpckdeiaa", sum := "e8c8e5f8b20a47f46230fd13146570434fa9e6cc0a5eba7e2cc214b98608194b", func := "antecede/antecedelaw13.CausalityQuestions", spec := "causalityQuestions", unfollowed := true, recurses := true, plainKeys := false, apart := false }
def CausalityQuestionsSaid : Prop := causalityQuestionsRow.holds Try.pinned (OpenSpec.ofChange causalityQuestionsSpec)

/-- ITS FALSE NEIGHBOUR: 'it returns false'. Refute it at one input. -/
def causalityQuestionsWrong : ChangeSpec := { name := "causalityQuestions", fn := fun _ => fun
  | [d1, d2, d3] => { results := [.lit (.bool false)], args := [d1, d2, d3] }
  | _ => none }
def CausalityQuestionsWrongFalsely : Prop := causalityQuestionsRow.holds Try.pinned (OpenSpec.ofChange causalityQuestionsWrong)

/-- 'antecedelaw13.CausalityNumbers': WHATEVER THE INPUT: true; the input reads as it did. -/
def causalityNumbersSpec : ChangeSpec := { name := "causalityNumbers", fn := fun _ => fun
  | [d1, d2, d3] => { results := [.lit (.bool true)], args := [d1, d2, d3] }
  | _ => none }
def causalityNumbersRow : OpenClaim := { program := "ytfdekchpckdeiaa", sum := "e8c8e5f8b20a47f46230fd13146570434fa9e6cc0a5eba7e2cc214b98608194b", func := "antecede/antecedelaw13.CausalityNumbers", spec := "causalityNumbers", unfollowed := true, recurses := true, plainKeys := false, apart := false }
def CausalityNumbersSaid : Prop := causalityNumbersRow.holds Try.pinned (OpenSpec.ofChange causalityNumbersSpec)

/-- ITS FALSE NEIGHBOUR: 'it returns false'. Refute it at one input. -/
def causalityNumbersWrong : ChangeSpec := { name := "causalityNumbers", fn := fun _ => fun
  | [d1, d2, d3] => { results := [.lit (.bool false)], args := [d1, d2, d3] }
  | _ => none }
def CausalityNumbersWrongFalsely : Prop := causalityNumbersRow.holds Try.pinned (OpenSpec.ofChange causalityNumbersWrong)

/-- 'antecedelaw13.CausalityPaths': WHATEVER THE INPUT: true; the input reads as it did. -/
def causalityPathsSpec : ChangeSpec := { name := "causalityPaths", fn := fun _ => fun
  | [d1, d2, d3] => { results := [.lit (.bool true)], args := [d1, d2, d3] }
  | _ => none }
def causalityPathsRow : OpenClaim := { program := "ytfdekchpckdeiaa", sum := "e8c8e5f8b20a47f46230fd13146570434fa9e6cc0a5eba7e2cc214b98608194b", func := "antecede/antecedelaw13.CausalityPaths", spec := "causalityPaths", unfollowed := true, recurses := true, plainKeys := false, apart := false }
def CausalityPathsSaid : Prop := causalityPathsRow.holds Try.pinned (OpenSpec.ofChange causalityPathsSpec)

/-- ITS FALSE NEIGHBOUR: 'it returns false'. Refute it at one input. -/
def causalityPathsWrong : ChangeSpec := { name := "causalityPaths", fn := fun _ => fun
  | [d1, d2, d3] => { results := [.lit (.bool false)], args := [d1, d2, d3] }
  | _ => none }
def CausalityPathsWrongFalsely : Prop := causalityPathsRow.holds Try.pinned (OpenSpec.ofChange causalityPathsWrong)

/- THE SECOND FORM. 'bulk': how many values and letters a reading holds, each counted each time it is reached (what is shared counts as often as it is met; a slice's spare places count too). A statement '..UptoSaid' is the law's where the arguments, and the package variables that the reading takes, are together of bulk at most 1048576: NARROWER than '..Said'. Prove '..Said' where nothing that the law and all that it calls make is longer than what came in: it says more and counts as full. Else prove '..UptoSaid'. A law counts once. -/
mutual
def uptoBulk {H : Type} : DataW H → Nat
  | .lit (.string bytes) => bytes.length + 1
  | .lit _ => 1
  | .nil => 1
  | .ptr d => uptoBulk d + 1
  | .slice elems spare => uptoBulkAll elems + uptoBulkAll spare + 1
  | .agg parts => uptoBulkAll parts + 1
  | .iface _ d => uptoBulk d + 1
  | .map entries => uptoBulkEntries entries + 1
  | .held _ => 1
def uptoBulkAll {H : Type} : List (DataW H) → Nat
  | [] => 0
  | d :: r => uptoBulk d + uptoBulkAll r
def uptoBulkEntries {H : Type} : List (Lit × DataW H) → Nat
  | [] => 0
  | x :: r => uptoBulkEntry x + uptoBulkEntries r
def uptoBulkEntry {H : Type} : Lit × DataW H → Nat
  | (.string bytes, d) => bytes.length + uptoBulk d + 1
  | (_, d) => uptoBulk d + 1
 end
def uptoSmall : (H : Type) → List (DataW H) → Bool := fun _ ds => decide (uptoBulkAll ds ≤ 1048576)
def OpenSpec.upto (s : _root_.Go.ChangeSpec) : _root_.Go.OpenSpec := { _root_.Go.OpenSpec.ofChange s with cond := some uptoSmall }

/-- 'antecedelaw12.TraceFaults', WHERE WHAT IT READS IS OF BULK AT MOST 1048576: true; the input reads as it did. -/
def traceFaultsUptoRow : OpenClaim := { program := "ytfdekchpckdeiaa", sum := "e8c8e5f8b20a47f46230fd13146570434fa9e6cc0a5eba7e2cc214b98608194b", func := "antecede/antecedelaw12.TraceFaults", spec := "traceFaults", unfollowed := true, recurses := true, plainKeys := false, apart := false, narrowed := true }
def TraceFaultsUptoSaid : Prop := traceFaultsUptoRow.holds Try.pinned (OpenSpec.upto traceFaultsSpec)

/-- 'antecedelaw12.TracePrefixes', WHERE WHAT IT READS IS OF BULK AT MOST 1048576: true; the input reads as it did. -/
def tracePrefixesUptoRow : OpenClaim := { program := "ytfdekchpckdeiaa", sum := "e8c8e5f8b20a47f46230fd13146570434fa9e6cc0a5eba7e2cc214b98608194b", func := "antecede/antecedelaw12.TracePrefixes", spec := "tracePrefixes", unfollowed := true, recurses := true, plainKeys := false, apart := false, narrowed := true }
def TracePrefixesUptoSaid : Prop := tracePrefixesUptoRow.holds Try.pinned (OpenSpec.upto tracePrefixesSpec)

/-- 'antecedelaw12.TraceOrders', WHERE WHAT IT READS IS OF BULK AT MOST 1048576: true; the input reads as it did. -/
def traceOrdersUptoRow : OpenClaim := { program := "ytfdekchpckdeiaa", sum := "e8c8e5f8b20a47f46230fd13146570434fa9e6cc0a5eba7e2cc214b98608194b", func := "antecede/antecedelaw12.TraceOrders", spec := "traceOrders", unfollowed := true, recurses := true, plainKeys := false, apart := false, narrowed := true }
def TraceOrdersUptoSaid : Prop := traceOrdersUptoRow.holds Try.pinned (OpenSpec.upto traceOrdersSpec)

/-- 'antecedelaw12.TracePairs', WHERE WHAT IT READS IS OF BULK AT MOST 1048576: true; the input reads as it did. -/
def tracePairsUptoRow : OpenClaim := { program := "ytfdekchpckdeiaa", sum := "e8c8e5f8b20a47f46230fd13146570434fa9e6cc0a5eba7e2cc214b98608194b", func := "antecede/antecedelaw12.TracePairs", spec := "tracePairs", unfollowed := true, recurses := true, plainKeys := false, apart := false, narrowed := true }
def TracePairsUptoSaid : Prop := tracePairsUptoRow.holds Try.pinned (OpenSpec.upto tracePairsSpec)

/-- 'antecedelaw12.TraceBuilt', WHERE WHAT IT READS IS OF BULK AT MOST 1048576: true; the input reads as it did. -/
def traceBuiltUptoRow : OpenClaim := { program := "ytfdekchpckdeiaa", sum := "e8c8e5f8b20a47f46230fd13146570434fa9e6cc0a5eba7e2cc214b98608194b", func := "antecede/antecedelaw12.TraceBuilt", spec := "traceBuilt", unfollowed := true, recurses := true, plainKeys := false, apart := false, narrowed := true }
def TraceBuiltUptoSaid : Prop := traceBuiltUptoRow.holds Try.pinned (OpenSpec.upto traceBuiltSpec)

/-- 'antecedelaw12.TraceParts', WHERE WHAT IT READS IS OF BULK AT MOST 1048576: true; the input reads as it did. -/
def tracePartsUptoRow : OpenClaim := { program := "ytfdekchpckdeiaa", sum := "e8c8e5f8b20a47f46230fd13146570434fa9e6cc0a5eba7e2cc214b98608194b", func := "antecede/antecedelaw12.TraceParts", spec := "traceParts", unfollowed := true, recurses := true, plainKeys := false, apart := false, narrowed := true }
def TracePartsUptoSaid : Prop := tracePartsUptoRow.holds Try.pinned (OpenSpec.upto tracePartsSpec)

/-- 'antecedelaw12.TraceMessages', WHERE WHAT IT READS IS OF BULK AT MOST 1048576: true; the input reads as it did. -/
def traceMessagesUptoRow : OpenClaim := { program := "ytfdekchpckdeiaa", sum := "e8c8e5f8b20a47f46230fd13146570434fa9e6cc0a5eba7e2cc214b98608194b", func := "antecede/antecedelaw12.TraceMessages", spec := "traceMessages", unfollowed := true, recurses := true, plainKeys := false, apart := false, narrowed := true }
def TraceMessagesUptoSaid : Prop := traceMessagesUptoRow.holds Try.pinned (OpenSpec.upto traceMessagesSpec)

/-- 'antecedelaw13.CausalityHalves', WHERE WHAT IT READS IS OF BULK AT MOST 1048576: true; the input reads as it did. -/
def causalityHalvesUptoRow : OpenClaim := { program := "ytfdekchpckdeiaa", sum := "e8c8e5f8b20a47f46230fd13146570434fa9e6cc0a5eba7e2cc214b98608194b", func := "antecede/antecedelaw13.CausalityHalves", spec := "causalityHalves", unfollowed := true, recurses := true, plainKeys := false, apart := false, narrowed := true }
def CausalityHalvesUptoSaid : Prop := causalityHalvesUptoRow.holds Try.pinned (OpenSpec.upto causalityHalvesSpec)

/-- 'antecedelaw13.CausalityLeast', WHERE WHAT IT READS IS OF BULK AT MOST 1048576: true; the input reads as it did. -/
def causalityLeastUptoRow : OpenClaim := { program := "ytfdekchpckdeiaa", sum := "e8c8e5f8b20a47f46230fd13146570434fa9e6cc0a5eba7e2cc214b98608194b", func := "antecede/antecedelaw13.CausalityLeast", spec := "causalityLeast", unfollowed := true, recurses := true, plainKeys := false, apart := false, narrowed := true }
def CausalityLeastUptoSaid : Prop := causalityLeastUptoRow.holds Try.pinned (OpenSpec.upto causalityLeastSpec)

/-- 'antecedelaw13.CausalityQuestions', WHERE WHAT IT READS IS OF BULK AT MOST 1048576: true; the input reads as it did. -/
def causalityQuestionsUptoRow : OpenClaim := { program := "ytfdekchpckdeiaa", sum := "e8c8e5f8b20a47f46230fd13146570434fa9e6cc0a5eba7e2cc214b98608194b", func := "antecede/antecedelaw13.CausalityQuestions", spec := "causalityQuestions", unfollowed := true, recurses := true, plainKeys := false, apart := false, narrowed := true }
def CausalityQuestionsUptoSaid : Prop := causalityQuestionsUptoRow.holds Try.pinned (OpenSpec.upto causalityQuestionsSpec)

/-- 'antecedelaw13.CausalityNumbers', WHERE WHAT IT READS IS OF BULK AT MOST 1048576: true; the input reads as it did. -/
def causalityNumbersUptoRow : OpenClaim := { program := "ytfdekchpckdeiaa", sum := "e8c8e5f8b20a47f46230fd13146570434fa9e6cc0a5eba7e2cc214b98608194b", func := "antecede/antecedelaw13.CausalityNumbers", spec := "causalityNumbers", unfollowed := true, recurses := true, plainKeys := false, apart := false, narrowed := true }
def CausalityNumbersUptoSaid : Prop := causalityNumbersUptoRow.holds Try.pinned (OpenSpec.upto causalityNumbersSpec)

/-- 'antecedelaw13.CausalityPaths', WHERE WHAT IT READS IS OF BULK AT MOST 1048576: true; the input reads as it did. -/
def causalityPathsUptoRow : OpenClaim := { program := "ytfdekchpckdeiaa", sum := "e8c8e5f8b20a47f46230fd13146570434fa9e6cc0a5eba7e2cc214b98608194b", func := "antecede/antecedelaw13.CausalityPaths", spec := "causalityPaths", unfollowed := true, recurses := true, plainKeys := false, apart := false, narrowed := true }
def CausalityPathsUptoSaid : Prop := causalityPathsUptoRow.holds Try.pinned (OpenSpec.upto causalityPathsSpec)

end Rows
end Go.Proofs.Ytfdekchpckdeiaa
