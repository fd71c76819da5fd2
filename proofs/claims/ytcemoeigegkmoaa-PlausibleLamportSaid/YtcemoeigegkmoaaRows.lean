/-
  No cell of these rows narrows 'for every input' (looked for: loops, veiled, ifaces, maps, wideKeys, modest, calm, conditions, laid).
  DERIVED. THE GIVEN ROWS OF THIS SEAT. 12 by the template 'for every input the law returns true; each argument reads behind the call as it read before'; 0 by the template 'total and deterministic' (their statements: YtcemoeigegkmoaaTotals.lean).
  GIVEN WITH THE SEED: the statements are not yours to turn. If you find one false, say at which input.
  Laid BY PROGRAM, IN A SANDBOX (cutbox-rows.mjs): the forced cells as the released guide's own fill.sh prints them over the translation ced50849f5bf5b2b… (all of the seat's roots in one cut). By AI agents, Wed Nov 11 2026. No macro, syntax, notation, axiom, sorry.
-/
import Derived.Test.YtcemoeigegkmoaaChecked
import GoSem.Claim
import GoSem.ClaimJoined
import GoSem.ClaimMapViews
import Derived.JoinedTies
import Derived.KernelRfl
namespace Go.Proofs.Ytcemoeigegkmoaa
/- THE CELL 'sum', in the pinned program and in every row, IS THE sha256 OF THE DUMP (.gsa) THAT YtcemoeigegkmoaaProg.lean LOADS. Nothing in Lean hashes anything: it is a label: what it is worth is what the hold of that sum in a sandbox is worth. -/
noncomputable def Try.pinned : Pinned := { name := "ytcemoeigegkmoaa", sum := "ced50849f5bf5b2b24c3c7bbdf0b57ca110c2cd726e44e38ec75da2bb524f325", checked := Try.checked }
namespace Rows
def none {H : Type} : Left H := { results := [], args := [] }

/-- 'antecedelaw18.PlausibleStamps': WHATEVER THE INPUT: true; the input reads as it did. -/
def plausibleStampsSpec : ChangeSpec := { name := "plausibleStamps", fn := fun _ => fun
  | [d1, d2] => { results := [.lit (.bool true)], args := [d1, d2] }
  | _ => none }
def plausibleStampsRow : OpenClaim := { program := "ytcemoeigegkmoaa", sum := "ced50849f5bf5b2b24c3c7bbdf0b57ca110c2cd726e44e38ec75da2bb524f325", func := "antecede/antecedelaw18.PlausibleStamps", spec := "plausibleStamps", unfollowed := true, recurses := true, plainKeys := false, apart := false }
def PlausibleStampsSaid : Prop := plausibleStampsRow.holds Try.pinned (OpenSpec.ofChange plausibleStampsSpec)

/-- ITS FALSE NEIGHBOUR: 'it returns false'. Refute it at one input. -/
def plausibleStampsWrong : ChangeSpec := { name := "plausibleStamps", fn := fun _ => fun
  | [d1, d2] => { results := [.lit (.bool false)], args := [d1, d2] }
  | _ => none }
def PlausibleStampsWrongFalsely : Prop := plausibleStampsRow.holds Try.pinned (OpenSpec.ofChange plausibleStampsWrong)

/-- 'antecedelaw18.PlausibleErrors': WHATEVER THE INPUT: true; the input reads as it did. -/
def plausibleErrorsSpec : ChangeSpec := { name := "plausibleErrors", fn := fun _ => fun
  | [d1, d2] => { results := [.lit (.bool true)], args := [d1, d2] }
  | _ => none }
def plausibleErrorsRow : OpenClaim := { program := "ytcemoeigegkmoaa", sum := "ced50849f5bf5b2b24c3c7bbdf0b57ca110c2cd726e44e38ec75da2bb524f325", func := "antecede/antecedelaw18.PlausibleErrors", spec := "plausibleErrors", unfollowed := true, recurses := true, plainKeys := false, apart := false }
def PlausibleErrorsSaid : Prop := plausibleErrorsRow.holds Try.pinned (OpenSpec.ofChange plausibleErrorsSpec)

/-- ITS FALSE NEIGHBOUR: 'it returns false'. Refute it at one input. -/
def plausibleErrorsWrong : ChangeSpec := { name := "plausibleErrors", fn := fun _ => fun
  | [d1, d2] => { results := [.lit (.bool false)], args := [d1, d2] }
  | _ => none }
def PlausibleErrorsWrongFalsely : Prop := plausibleErrorsRow.holds Try.pinned (OpenSpec.ofChange plausibleErrorsWrong)

/-- 'antecedelaw18.PlausibleExact': WHATEVER THE INPUT: true; the input reads as it did. -/
def plausibleExactSpec : ChangeSpec := { name := "plausibleExact", fn := fun _ => fun
  | [d1, d2] => { results := [.lit (.bool true)], args := [d1, d2] }
  | _ => none }
def plausibleExactRow : OpenClaim := { program := "ytcemoeigegkmoaa", sum := "ced50849f5bf5b2b24c3c7bbdf0b57ca110c2cd726e44e38ec75da2bb524f325", func := "antecede/antecedelaw18.PlausibleExact", spec := "plausibleExact", unfollowed := true, recurses := true, plainKeys := false, apart := false }
def PlausibleExactSaid : Prop := plausibleExactRow.holds Try.pinned (OpenSpec.ofChange plausibleExactSpec)

/-- ITS FALSE NEIGHBOUR: 'it returns false'. Refute it at one input. -/
def plausibleExactWrong : ChangeSpec := { name := "plausibleExact", fn := fun _ => fun
  | [d1, d2] => { results := [.lit (.bool false)], args := [d1, d2] }
  | _ => none }
def PlausibleExactWrongFalsely : Prop := plausibleExactRow.holds Try.pinned (OpenSpec.ofChange plausibleExactWrong)

/-- 'antecedelaw18.PlausibleLamport': WHATEVER THE INPUT: true; the input reads as it did. -/
def plausibleLamportSpec : ChangeSpec := { name := "plausibleLamport", fn := fun _ => fun
  | [d] => { results := [.lit (.bool true)], args := [d] }
  | _ => none }
def plausibleLamportRow : OpenClaim := { program := "ytcemoeigegkmoaa", sum := "ced50849f5bf5b2b24c3c7bbdf0b57ca110c2cd726e44e38ec75da2bb524f325", func := "antecede/antecedelaw18.PlausibleLamport", spec := "plausibleLamport", unfollowed := true, recurses := true, plainKeys := false, apart := false }
def PlausibleLamportSaid : Prop := plausibleLamportRow.holds Try.pinned (OpenSpec.ofChange plausibleLamportSpec)

/-- ITS FALSE NEIGHBOUR: 'it returns false'. Refute it at one input. -/
def plausibleLamportWrong : ChangeSpec := { name := "plausibleLamport", fn := fun _ => fun
  | [d] => { results := [.lit (.bool false)], args := [d] }
  | _ => none }
def PlausibleLamportWrongFalsely : Prop := plausibleLamportRow.holds Try.pinned (OpenSpec.ofChange plausibleLamportWrong)

/-- 'antecedelaw53.NetworkSends': WHATEVER THE INPUT: true; the input reads as it did. -/
def networkSendsSpec : ChangeSpec := { name := "networkSends", fn := fun _ => fun
  | [d1, d2] => { results := [.lit (.bool true)], args := [d1, d2] }
  | _ => none }
def networkSendsRow : OpenClaim := { program := "ytcemoeigegkmoaa", sum := "ced50849f5bf5b2b24c3c7bbdf0b57ca110c2cd726e44e38ec75da2bb524f325", func := "antecede/antecedelaw53.NetworkSends", spec := "networkSends", inPlace := ["slices.overlaps[antecede/api.Message]", "slices.overlaps[int]"], unfollowed := true, recurses := true, plainKeys := false, apart := false }
def NetworkSendsSaid : Prop := networkSendsRow.holds Try.pinned (OpenSpec.ofChange networkSendsSpec)

/-- ITS FALSE NEIGHBOUR: 'it returns false'. Refute it at one input. -/
def networkSendsWrong : ChangeSpec := { name := "networkSends", fn := fun _ => fun
  | [d1, d2] => { results := [.lit (.bool false)], args := [d1, d2] }
  | _ => none }
def NetworkSendsWrongFalsely : Prop := networkSendsRow.holds Try.pinned (OpenSpec.ofChange networkSendsWrong)

/-- 'antecedelaw53.NetworkReceives': WHATEVER THE INPUT: true; the input reads as it did. -/
def networkReceivesSpec : ChangeSpec := { name := "networkReceives", fn := fun _ => fun
  | [d1, d2, d3] => { results := [.lit (.bool true)], args := [d1, d2, d3] }
  | _ => none }
def networkReceivesRow : OpenClaim := { program := "ytcemoeigegkmoaa", sum := "ced50849f5bf5b2b24c3c7bbdf0b57ca110c2cd726e44e38ec75da2bb524f325", func := "antecede/antecedelaw53.NetworkReceives", spec := "networkReceives", inPlace := ["slices.overlaps[antecede/api.Message]", "slices.overlaps[int]"], unfollowed := true, recurses := true, plainKeys := false, apart := false }
def NetworkReceivesSaid : Prop := networkReceivesRow.holds Try.pinned (OpenSpec.ofChange networkReceivesSpec)

/-- ITS FALSE NEIGHBOUR: 'it returns false'. Refute it at one input. -/
def networkReceivesWrong : ChangeSpec := { name := "networkReceives", fn := fun _ => fun
  | [d1, d2, d3] => { results := [.lit (.bool false)], args := [d1, d2, d3] }
  | _ => none }
def NetworkReceivesWrongFalsely : Prop := networkReceivesRow.holds Try.pinned (OpenSpec.ofChange networkReceivesWrong)

/-- 'antecedelaw53.NetworkStates': WHATEVER THE INPUT: true; the input reads as it did. -/
def networkStatesSpec : ChangeSpec := { name := "networkStates", fn := fun _ => fun
  | [d1, d2, d3, d4] => { results := [.lit (.bool true)], args := [d1, d2, d3, d4] }
  | _ => none }
def networkStatesRow : OpenClaim := { program := "ytcemoeigegkmoaa", sum := "ced50849f5bf5b2b24c3c7bbdf0b57ca110c2cd726e44e38ec75da2bb524f325", func := "antecede/antecedelaw53.NetworkStates", spec := "networkStates", inPlace := ["slices.overlaps[antecede/api.Message]", "slices.overlaps[int]"], unfollowed := true, recurses := true, plainKeys := false, apart := false }
def NetworkStatesSaid : Prop := networkStatesRow.holds Try.pinned (OpenSpec.ofChange networkStatesSpec)

/-- ITS FALSE NEIGHBOUR: 'it returns false'. Refute it at one input. -/
def networkStatesWrong : ChangeSpec := { name := "networkStates", fn := fun _ => fun
  | [d1, d2, d3, d4] => { results := [.lit (.bool false)], args := [d1, d2, d3, d4] }
  | _ => none }
def NetworkStatesWrongFalsely : Prop := networkStatesRow.holds Try.pinned (OpenSpec.ofChange networkStatesWrong)

/-- 'antecedelaw53.NetworkTimes': WHATEVER THE INPUT: true; the input reads as it did. -/
def networkTimesSpec : ChangeSpec := { name := "networkTimes", fn := fun _ => fun
  | [d1, d2, d3] => { results := [.lit (.bool true)], args := [d1, d2, d3] }
  | _ => none }
def networkTimesRow : OpenClaim := { program := "ytcemoeigegkmoaa", sum := "ced50849f5bf5b2b24c3c7bbdf0b57ca110c2cd726e44e38ec75da2bb524f325", func := "antecede/antecedelaw53.NetworkTimes", spec := "networkTimes", inPlace := ["slices.overlaps[antecede/api.Message]", "slices.overlaps[int]"], unfollowed := true, recurses := true, plainKeys := false, apart := false }
def NetworkTimesSaid : Prop := networkTimesRow.holds Try.pinned (OpenSpec.ofChange networkTimesSpec)

/-- ITS FALSE NEIGHBOUR: 'it returns false'. Refute it at one input. -/
def networkTimesWrong : ChangeSpec := { name := "networkTimes", fn := fun _ => fun
  | [d1, d2, d3] => { results := [.lit (.bool false)], args := [d1, d2, d3] }
  | _ => none }
def NetworkTimesWrongFalsely : Prop := networkTimesRow.holds Try.pinned (OpenSpec.ofChange networkTimesWrong)

/-- 'antecedelaw53.NetworkOwn': WHATEVER THE INPUT: true; the input reads as it did. -/
def networkOwnSpec : ChangeSpec := { name := "networkOwn", fn := fun _ => fun
  | [d1, d2] => { results := [.lit (.bool true)], args := [d1, d2] }
  | _ => none }
def networkOwnRow : OpenClaim := { program := "ytcemoeigegkmoaa", sum := "ced50849f5bf5b2b24c3c7bbdf0b57ca110c2cd726e44e38ec75da2bb524f325", func := "antecede/antecedelaw53.NetworkOwn", spec := "networkOwn", inPlace := ["slices.overlaps[antecede/api.Message]", "slices.overlaps[int]"], unfollowed := true, recurses := true, plainKeys := false, apart := false }
def NetworkOwnSaid : Prop := networkOwnRow.holds Try.pinned (OpenSpec.ofChange networkOwnSpec)

/-- ITS FALSE NEIGHBOUR: 'it returns false'. Refute it at one input. -/
def networkOwnWrong : ChangeSpec := { name := "networkOwn", fn := fun _ => fun
  | [d1, d2] => { results := [.lit (.bool false)], args := [d1, d2] }
  | _ => none }
def NetworkOwnWrongFalsely : Prop := networkOwnRow.holds Try.pinned (OpenSpec.ofChange networkOwnWrong)

/-- 'antecedelaw53.NetworkDelivers': WHATEVER THE INPUT: true; the input reads as it did. -/
def networkDeliversSpec : ChangeSpec := { name := "networkDelivers", fn := fun _ => fun
  | [d1, d2, d3] => { results := [.lit (.bool true)], args := [d1, d2, d3] }
  | _ => none }
def networkDeliversRow : OpenClaim := { program := "ytcemoeigegkmoaa", sum := "ced50849f5bf5b2b24c3c7bbdf0b57ca110c2cd726e44e38ec75da2bb524f325", func := "antecede/antecedelaw53.NetworkDelivers", spec := "networkDelivers", inPlace := ["slices.overlaps[antecede/api.Message]", "slices.overlaps[int]"], unfollowed := true, recurses := true, plainKeys := false, apart := false }
def NetworkDeliversSaid : Prop := networkDeliversRow.holds Try.pinned (OpenSpec.ofChange networkDeliversSpec)

/-- ITS FALSE NEIGHBOUR: 'it returns false'. Refute it at one input. -/
def networkDeliversWrong : ChangeSpec := { name := "networkDelivers", fn := fun _ => fun
  | [d1, d2, d3] => { results := [.lit (.bool false)], args := [d1, d2, d3] }
  | _ => none }
def NetworkDeliversWrongFalsely : Prop := networkDeliversRow.holds Try.pinned (OpenSpec.ofChange networkDeliversWrong)

/-- 'antecedelaw12.TraceOrders': WHATEVER THE INPUT: true; the input reads as it did. -/
def traceOrdersSpec : ChangeSpec := { name := "traceOrders", fn := fun _ => fun
  | [d1, d2, d3] => { results := [.lit (.bool true)], args := [d1, d2, d3] }
  | _ => none }
def traceOrdersRow : OpenClaim := { program := "ytcemoeigegkmoaa", sum := "ced50849f5bf5b2b24c3c7bbdf0b57ca110c2cd726e44e38ec75da2bb524f325", func := "antecede/antecedelaw12.TraceOrders", spec := "traceOrders", unfollowed := true, recurses := true, plainKeys := false, apart := false }
def TraceOrdersSaid : Prop := traceOrdersRow.holds Try.pinned (OpenSpec.ofChange traceOrdersSpec)

/-- ITS FALSE NEIGHBOUR: 'it returns false'. Refute it at one input. -/
def traceOrdersWrong : ChangeSpec := { name := "traceOrders", fn := fun _ => fun
  | [d1, d2, d3] => { results := [.lit (.bool false)], args := [d1, d2, d3] }
  | _ => none }
def TraceOrdersWrongFalsely : Prop := traceOrdersRow.holds Try.pinned (OpenSpec.ofChange traceOrdersWrong)

/-- 'antecedelaw12.TraceBuilt': WHATEVER THE INPUT: true; the input reads as it did. -/
def traceBuiltSpec : ChangeSpec := { name := "traceBuilt", fn := fun _ => fun
  | [d1, d2] => { results := [.lit (.bool true)], args := [d1, d2] }
  | _ => none }
def traceBuiltRow : OpenClaim := { program := "ytcemoeigegkmoaa", sum := "ced50849f5bf5b2b24c3c7bbdf0b57ca110c2cd726e44e38ec75da2bb524f325", func := "antecede/antecedelaw12.TraceBuilt", spec := "traceBuilt", unfollowed := true, recurses := true, plainKeys := false, apart := false }
def TraceBuiltSaid : Prop := traceBuiltRow.holds Try.pinned (OpenSpec.ofChange traceBuiltSpec)

/-- ITS FALSE NEIGHBOUR: 'it returns false'. Refute it at one input. -/
def traceBuiltWrong : ChangeSpec := { name := "traceBuilt", fn := fun _ => fun
  | [d1, d2] => { results := [.lit (.bool false)], args := [d1, d2] }
  | _ => none }
def TraceBuiltWrongFalsely : Prop := traceBuiltRow.holds Try.pinned (OpenSpec.ofChange traceBuiltWrong)

/- THE SECOND FORM. 'bulk': how many values and letters a reading holds, each counted each time it is reached (what is shared counts as often as it is met; a slice's spare places count too). A statement '..UptoSaid' is the law's where the arguments, and the package variables that the reading takes, are together of bulk at most 1048576: NARROWER than '..Said'. Prove '..Said' where nothing that the law and all that it calls make is longer than what came in: it says more and counts as full. Else prove '..UptoSaid'. A law counts once. -/
mutual
def uptoBulk {H : Type} : DataW H → Nat
  | .lit (.string bytes) => bytes.length + 1
  | .lit _ => 1
  | .nil => 1
  | .ptr d => uptoBulk d + 1
  | .slice elems spare => uptoBulkAll elems + uptoBulkAll spare + 1
  | .agg parts => uptoBulkAll parts + 1
  | .iface _ d => uptoBulk d + 1
  | .map entries => uptoBulkEntries entries + 1
  | .held _ => 1
def uptoBulkAll {H : Type} : List (DataW H) → Nat
  | [] => 0
  | d :: r => uptoBulk d + uptoBulkAll r
def uptoBulkEntries {H : Type} : List (Lit × DataW H) → Nat
  | [] => 0
  | x :: r => uptoBulkEntry x + uptoBulkEntries r
def uptoBulkEntry {H : Type} : Lit × DataW H → Nat
  | (.string bytes, d) => bytes.length + uptoBulk d + 1
  | (_, d) => uptoBulk d + 1
 end
def uptoSmall : (H : Type) → List (DataW H) → Bool := fun _ ds => decide (uptoBulkAll ds ≤ 1048576)
def OpenSpec.upto (s : _root_.Go.ChangeSpec) : _root_.Go.OpenSpec := { _root_.Go.OpenSpec.ofChange s with cond := some uptoSmall }

/-- 'antecedelaw18.PlausibleStamps', WHERE WHAT IT READS IS OF BULK AT MOST 1048576: true; the input reads as it did. -/
def plausibleStampsUptoRow : OpenClaim := { program := "ytcemoeigegkmoaa", sum := "ced50849f5bf5b2b24c3c7bbdf0b57ca110c2cd726e44e38ec75da2bb524f325", func := "antecede/antecedelaw18.PlausibleStamps", spec := "plausibleStamps", unfollowed := true, recurses := true, plainKeys := false, apart := false, narrowed := true }
def PlausibleStampsUptoSaid : Prop := plausibleStampsUptoRow.holds Try.pinned (OpenSpec.upto plausibleStampsSpec)

/-- 'antecedelaw18.PlausibleErrors', WHERE WHAT IT READS IS OF BULK AT MOST 1048576: true; the input reads as it did. -/
def plausibleErrorsUptoRow : OpenClaim := { program := "ytcemoeigegkmoaa", sum := "ced50849f5bf5b2b24c3c7bbdf0b57ca110c2cd726e44e38ec75da2bb524f325", func := "antecede/antecedelaw18.PlausibleErrors", spec := "plausibleErrors", unfollowed := true, recurses := true, plainKeys := false, apart := false, narrowed := true }
def PlausibleErrorsUptoSaid : Prop := plausibleErrorsUptoRow.holds Try.pinned (OpenSpec.upto plausibleErrorsSpec)

/-- 'antecedelaw18.PlausibleExact', WHERE WHAT IT READS IS OF BULK AT MOST 1048576: true; the input reads as it did. -/
def plausibleExactUptoRow : OpenClaim := { program := "ytcemoeigegkmoaa", sum := "ced50849f5bf5b2b24c3c7bbdf0b57ca110c2cd726e44e38ec75da2bb524f325", func := "antecede/antecedelaw18.PlausibleExact", spec := "plausibleExact", unfollowed := true, recurses := true, plainKeys := false, apart := false, narrowed := true }
def PlausibleExactUptoSaid : Prop := plausibleExactUptoRow.holds Try.pinned (OpenSpec.upto plausibleExactSpec)

/-- 'antecedelaw18.PlausibleLamport', WHERE WHAT IT READS IS OF BULK AT MOST 1048576: true; the input reads as it did. -/
def plausibleLamportUptoRow : OpenClaim := { program := "ytcemoeigegkmoaa", sum := "ced50849f5bf5b2b24c3c7bbdf0b57ca110c2cd726e44e38ec75da2bb524f325", func := "antecede/antecedelaw18.PlausibleLamport", spec := "plausibleLamport", unfollowed := true, recurses := true, plainKeys := false, apart := false, narrowed := true }
def PlausibleLamportUptoSaid : Prop := plausibleLamportUptoRow.holds Try.pinned (OpenSpec.upto plausibleLamportSpec)

/-- 'antecedelaw53.NetworkSends', WHERE WHAT IT READS IS OF BULK AT MOST 1048576: true; the input reads as it did. -/
def networkSendsUptoRow : OpenClaim := { program := "ytcemoeigegkmoaa", sum := "ced50849f5bf5b2b24c3c7bbdf0b57ca110c2cd726e44e38ec75da2bb524f325", func := "antecede/antecedelaw53.NetworkSends", spec := "networkSends", inPlace := ["slices.overlaps[antecede/api.Message]", "slices.overlaps[int]"], unfollowed := true, recurses := true, plainKeys := false, apart := false, narrowed := true }
def NetworkSendsUptoSaid : Prop := networkSendsUptoRow.holds Try.pinned (OpenSpec.upto networkSendsSpec)

/-- 'antecedelaw53.NetworkReceives', WHERE WHAT IT READS IS OF BULK AT MOST 1048576: true; the input reads as it did. -/
def networkReceivesUptoRow : OpenClaim := { program := "ytcemoeigegkmoaa", sum := "ced50849f5bf5b2b24c3c7bbdf0b57ca110c2cd726e44e38ec75da2bb524f325", func := "antecede/antecedelaw53.NetworkReceives", spec := "networkReceives", inPlace := ["slices.overlaps[antecede/api.Message]", "slices.overlaps[int]"], unfollowed := true, recurses := true, plainKeys := false, apart := false, narrowed := true }
def NetworkReceivesUptoSaid : Prop := networkReceivesUptoRow.holds Try.pinned (OpenSpec.upto networkReceivesSpec)

/-- 'antecedelaw53.NetworkStates', WHERE WHAT IT READS IS OF BULK AT MOST 1048576: true; the input reads as it did. -/
def networkStatesUptoRow : OpenClaim := { program := "ytcemoeigegkmoaa", sum := "ced50849f5bf5b2b24c3c7bbdf0b57ca110c2cd726e44e38ec75da2bb524f325", func := "antecede/antecedelaw53.NetworkStates", spec := "networkStates", inPlace := ["slices.overlaps[antecede/api.Message]", "slices.overlaps[int]"], unfollowed := true, recurses := true, plainKeys := false, apart := false, narrowed := true }
def NetworkStatesUptoSaid : Prop := networkStatesUptoRow.holds Try.pinned (OpenSpec.upto networkStatesSpec)

/-- 'antecedelaw53.NetworkTimes', WHERE WHAT IT READS IS OF BULK AT MOST 1048576: true; the input reads as it did. -/
def networkTimesUptoRow : OpenClaim := { program := "ytcemoeigegkmoaa", sum := "ced50849f5bf5b2b24c3c7bbdf0b57ca110c2cd726e44e38ec75da2bb524f325", func := "antecede/antecedelaw53.NetworkTimes", spec := "networkTimes", inPlace := ["slices.overlaps[antecede/api.Message]", "slices.overlaps[int]"], unfollowed := true, recurses := true, plainKeys := false, apart := false, narrowed := true }
def NetworkTimesUptoSaid : Prop := networkTimesUptoRow.holds Try.pinned (OpenSpec.upto networkTimesSpec)

/-- 'antecedelaw53.NetworkOwn', WHERE WHAT IT READS IS OF BULK AT MOST 1048576: true; the input reads as it did. -/
def networkOwnUptoRow : OpenClaim := { program := "ytcemoeigegkmoaa", sum := "ced50849f5bf5b2b24c3c7bbdf0b57ca110c2cd726e44e38ec75da2bb524f325", func := "antecede/antecedelaw53.NetworkOwn", spec := "networkOwn", inPlace := ["slices.overlaps[antecede/api.Message]", "slices.overlaps[int]"], unfollowed := true, recurses := true, plainKeys := false, apart := false, narrowed := true }
def NetworkOwnUptoSaid : Prop := networkOwnUptoRow.holds Try.pinned (OpenSpec.upto networkOwnSpec)

/-- 'antecedelaw53.NetworkDelivers', WHERE WHAT IT READS IS OF BULK AT MOST 1048576: true; the input reads as it did. -/
def networkDeliversUptoRow : OpenClaim := { program := "ytcemoeigegkmoaa", sum := "ced50849f5bf5b2b24c3c7bbdf0b57ca110c2cd726e44e38ec75da2bb524f325", func := "antecede/antecedelaw53.NetworkDelivers", spec := "networkDelivers", inPlace := ["slices.overlaps[antecede/api.Message]", "slices.overlaps[int]"], unfollowed := true, recurses := true, plainKeys := false, apart := false, narrowed := true }
def NetworkDeliversUptoSaid : Prop := networkDeliversUptoRow.holds Try.pinned (OpenSpec.upto networkDeliversSpec)

/-- 'antecedelaw12.TraceOrders', WHERE WHAT IT READS IS OF BULK AT MOST 1048576: true; the input reads as it did. -/
def traceOrdersUptoRow : OpenClaim := { program := "ytcemoeigegkmoaa", sum := "ced50849f5bf5b2b24c3c7bbdf0b57ca110c2cd726e44e38ec75da2bb524f325", func := "antecede/antecedelaw12.TraceOrders", spec := "traceOrders", unfollowed := true, recurses := true, plainKeys := false, apart := false, narrowed := true }
def TraceOrdersUptoSaid : Prop := traceOrdersUptoRow.holds Try.pinned (OpenSpec.upto traceOrdersSpec)

/-- 'antecedelaw12.TraceBuilt', WHERE WHAT IT READS IS OF BULK AT MOST 1048576: true; the input reads as it did. -/
def traceBuiltUptoRow : OpenClaim := { program := "ytcemoeigegkmoaa", sum := "ced50849f5bf5b2b24c3c7bbdf0b57ca110c2cd726e44e38ec75da2bb524f325", func := "antecede/antecedelaw12.TraceBuilt", spec := "traceBuilt", unfollowed := true, recurses := true, plainKeys := false, apart := false, narrowed := true }
def TraceBuiltUptoSaid : Prop := traceBuiltUptoRow.holds Try.pinned (OpenSpec.upto traceBuiltSpec)

end Rows
end Go.Proofs.Ytcemoeigegkmoaa
