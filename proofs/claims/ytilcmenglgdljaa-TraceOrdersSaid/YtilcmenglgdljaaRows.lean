/-
  No cell of these rows narrows 'for every input' (looked for: loops, veiled, ifaces, maps, wideKeys, modest, calm, conditions, laid).
  DERIVED. THE GIVEN ROWS OF THIS SEAT. 11 by the template 'for every input the law returns true; each argument reads behind the call as it read before'; 0 by the template 'total and deterministic' (their statements: YtilcmenglgdljaaTotals.lean).
  GIVEN WITH THE SEED: the statements are not yours to turn. If you find one false, say at which input.
  Laid BY PROGRAM, IN A SANDBOX (cutbox-rows.mjs): the forced cells as the released guide's own fill.sh prints them over the translation e991ac508aae03f0… (all of the seat's roots in one cut). By AI agents, Wed Nov 11 2026. No macro, syntax, notation, axiom, sorry.
-/
import Derived.Test.YtilcmenglgdljaaChecked
import GoSem.Claim
import GoSem.ClaimJoined
import GoSem.ClaimMapViews
import Derived.JoinedTies
import Derived.KernelRfl
namespace Go.Proofs.Ytilcmenglgdljaa
/- THE CELL 'sum', in the pinned program and in every row, IS THE sha256 OF THE DUMP (.gsa) THAT YtilcmenglgdljaaProg.lean LOADS. Nothing in Lean hashes anything: it is a label: what it is worth is what the hold of that sum in a sandbox is worth. -/
noncomputable def Try.pinned : Pinned := { name := "ytilcmenglgdljaa", sum := "e991ac508aae03f0ce27fa225e33447346fdbf6e664abec6dd0842dff0071b30", checked := Try.checked }
namespace Rows
def none {H : Type} : Left H := { results := [], args := [] }

/-- 'antecedelaw12.TraceOrders': WHATEVER THE INPUT: true; the input reads as it did. -/
def traceOrdersSpec : ChangeSpec := { name := "traceOrders", fn := fun _ => fun
  | [d1, d2, d3] => { results := [.lit (.bool true)], args := [d1, d2, d3] }
  | _ => none }
def traceOrdersRow : OpenClaim := { program := "ytilcmenglgdljaa", sum := "e991ac508aae03f0ce27fa225e33447346fdbf6e664abec6dd0842dff0071b30", func := "antecede/antecedelaw12.TraceOrders", spec := "traceOrders", unfollowed := true, recurses := true, plainKeys := false, apart := false }
def TraceOrdersSaid : Prop := traceOrdersRow.holds Try.pinned (OpenSpec.ofChange traceOrdersSpec)

/-- ITS FALSE NEIGHBOUR: 'it returns false'. Refute it at one input. -/
def traceOrdersWrong : ChangeSpec := { name := "traceOrders", fn := fun _ => fun
  | [d1, d2, d3] => { results := [.lit (.bool false)], args := [d1, d2, d3] }
  | _ => none }
def TraceOrdersWrongFalsely : Prop := traceOrdersRow.holds Try.pinned (OpenSpec.ofChange traceOrdersWrong)

/-- 'antecedelaw12.TraceBuilt': WHATEVER THE INPUT: true; the input reads as it did. -/
def traceBuiltSpec : ChangeSpec := { name := "traceBuilt", fn := fun _ => fun
  | [d1, d2] => { results := [.lit (.bool true)], args := [d1, d2] }
  | _ => none }
def traceBuiltRow : OpenClaim := { program := "ytilcmenglgdljaa", sum := "e991ac508aae03f0ce27fa225e33447346fdbf6e664abec6dd0842dff0071b30", func := "antecede/antecedelaw12.TraceBuilt", spec := "traceBuilt", unfollowed := true, recurses := true, plainKeys := false, apart := false }
def TraceBuiltSaid : Prop := traceBuiltRow.holds Try.pinned (OpenSpec.ofChange traceBuiltSpec)

/-- ITS FALSE NEIGHBOUR: 'it returns false'. Refute it at one input. -/
def traceBuiltWrong : ChangeSpec := { name := "traceBuilt", fn := fun _ => fun
  | [d1, d2] => { results := [.lit (.bool false)], args := [d1, d2] }
  | _ => none }
def TraceBuiltWrongFalsely : Prop := traceBuiltRow.holds Try.pinned (OpenSpec.ofChange traceBuiltWrong)

/-- 'antecedelaw53.NetworkSends': WHATEVER THE INPUT: true; the input reads as it did. -/
def networkSendsSpec : ChangeSpec := { name := "networkSends", fn := fun _ => fun
  | [d1, d2] => { results := [.lit (.bool true)], args := [d1, d2] }
  | _ => none }
def networkSendsRow : OpenClaim := { program := "ytilcmenglgdljaa", sum := "e991ac508aae03f0ce27fa225e33447346fdbf6e664abec6dd0842dff0071b30", func := "antecede/antecedelaw53.NetworkSends", spec := "networkSends", inPlace := ["slices.overlaps[antecede/api.Message]", "slices.overlaps[int]"], unfollowed := true, recurses := true, plainKeys := false, apart := false }
def NetworkSendsSaid : Prop := networkSendsRow.holds Try.pinned (OpenSpec.ofChange networkSendsSpec)

/-- ITS FALSE NEIGHBOUR: 'it returns false'. Refute it at one input. -/
def networkSendsWrong : ChangeSpec := { name := "networkSends", fn := fun _ => fun
  | [d1, d2] => { results := [.lit (.bool false)], args := [d1, d2] }
  | _ => none }
def NetworkSendsWrongFalsely : Prop := networkSendsRow.holds Try.pinned (OpenSpec.ofChange networkSendsWrong)

/-- 'antecedelaw53.NetworkReceives': WHATEVER THE INPUT: true; the input reads as it did. -/
def networkReceivesSpec : ChangeSpec := { name := "networkReceives", fn := fun _ => fun
  | [d1, d2, d3] => { results := [.lit (.bool true)], args := [d1, d2, d3] }
  | _ => none }
def networkReceivesRow : OpenClaim := { program := "ytilcmenglgdljaa", sum := "e991ac508aae03f0ce27fa225e33447346fdbf6e664abec6dd0842dff0071b30", func := "antecede/antecedelaw53.NetworkReceives", spec := "networkReceives", inPlace := ["slices.overlaps[antecede/api.Message]", "slices.overlaps[int]"], unfollowed := true, recurses := true, plainKeys := false, apart := false }
def NetworkReceivesSaid : Prop := networkReceivesRow.holds Try.pinned (OpenSpec.ofChange networkReceivesSpec)

/-- ITS FALSE NEIGHBOUR: 'it returns false'. Refute it at one input. -/
def networkReceivesWrong : ChangeSpec := { name := "networkReceives", fn := fun _ => fun
  | [d1, d2, d3] => { results := [.lit (.bool false)], args := [d1, d2, d3] }
  | _ => none }
def NetworkReceivesWrongFalsely : Prop := networkReceivesRow.holds Try.pinned (OpenSpec.ofChange networkReceivesWrong)

/-- 'antecedelaw53.NetworkStates': WHATEVER THE INPUT: true; the input reads as it did. -/
def networkStatesSpec : ChangeSpec := { name := "networkStates", fn := fun _ => fun
  | [d1, d2, d3, d4] => { results := [.lit (.bool true)], args := [d1, d2, d3, d4] }
  | _ => none }
def networkStatesRow : OpenClaim := { program := "ytilcmenglgdljaa", sum := "e991ac508aae03f0ce27fa225e33447346fdbf6e664abec6dd0842dff0071b30", func := "antecede/antecedelaw53.NetworkStates", spec := "networkStates", inPlace := ["slices.overlaps[antecede/api.Message]", "slices.overlaps[int]"], unfollowed := true, recurses := true, plainKeys := false, apart := false }
def NetworkStatesSaid : Prop := networkStatesRow.holds Try.pinned (OpenSpec.ofChange networkStatesSpec)

/-- ITS FALSE NEIGHBOUR: 'it returns false'. Refute it at one input. -/
def networkStatesWrong : ChangeSpec := { name := "networkStates", fn := fun _ => fun
  | [d1, d2, d3, d4] => { results := [.lit (.bool false)], args := [d1, d2, d3, d4] }
  | _ => none }
def NetworkStatesWrongFalsely : Prop := networkStatesRow.holds Try.pinned (OpenSpec.ofChange networkStatesWrong)

/-- 'antecedelaw53.NetworkTimes': WHATEVER THE INPUT: true; the input reads as it did. -/
def networkTimesSpec : ChangeSpec := { name := "networkTimes", fn := fun _ => fun
  | [d1, d2, d3] => { results := [.lit (.bool true)], args := [d1, d2, d3] }
  | _ => none }
def networkTimesRow : OpenClaim := { program := "ytilcmenglgdljaa", sum := "e991ac508aae03f0ce27fa225e33447346fdbf6e664abec6dd0842dff0071b30", func := "antecede/antecedelaw53.NetworkTimes", spec := "networkTimes", inPlace := ["slices.overlaps[antecede/api.Message]", "slices.overlaps[int]"], unfollowed := true, recurses := true, plainKeys := false, apart := false }
def NetworkTimesSaid : Prop := networkTimesRow.holds Try.pinned (OpenSpec.ofChange networkTimesSpec)

/-- ITS FALSE NEIGHBOUR: 'it returns false'. Refute it at one input. -/
def networkTimesWrong : ChangeSpec := { name := "networkTimes", fn := fun _ => fun
  | [d1, d2, d3] => { results := [.lit (.bool false)], args := [d1, d2, d3] }
  | _ => none }
def NetworkTimesWrongFalsely : Prop := networkTimesRow.holds Try.pinned (OpenSpec.ofChange networkTimesWrong)

/-- 'antecedelaw53.NetworkOwn': WHATEVER THE INPUT: true; the input reads as it did. -/
def networkOwnSpec : ChangeSpec := { name := "networkOwn", fn := fun _ => fun
  | [d1, d2] => { results := [.lit (.bool true)], args := [d1, d2] }
  | _ => none }
def networkOwnRow : OpenClaim := { program := "ytilcmenglgdljaa", sum := "e991ac508aae03f0ce27fa225e33447346fdbf6e664abec6dd0842dff0071b30", func := "antecede/antecedelaw53.NetworkOwn", spec := "networkOwn", inPlace := ["slices.overlaps[antecede/api.Message]", "slices.overlaps[int]"], unfollowed := true, recurses := true, plainKeys := false, apart := false }
def NetworkOwnSaid : Prop := networkOwnRow.holds Try.pinned (OpenSpec.ofChange networkOwnSpec)

/-- ITS FALSE NEIGHBOUR: 'it returns false'. Refute it at one input. -/
def networkOwnWrong : ChangeSpec := { name := "networkOwn", fn := fun _ => fun
  | [d1, d2] => { results := [.lit (.bool false)], args := [d1, d2] }
  | _ => none }
def NetworkOwnWrongFalsely : Prop := networkOwnRow.holds Try.pinned (OpenSpec.ofChange networkOwnWrong)

/-- 'antecedelaw53.NetworkDelivers': WHATEVER THE INPUT: true; the input reads as it did. -/
def networkDeliversSpec : ChangeSpec := { name := "networkDelivers", fn := fun _ => fun
  | [d1, d2, d3] => { results := [.lit (.bool true)], args := [d1, d2, d3] }
  | _ => none }
def networkDeliversRow : OpenClaim := { program := "ytilcmenglgdljaa", sum := "e991ac508aae03f0ce27fa225e33447346fdbf6e664abec6dd0842dff0071b30", func := "antecede/antecedelaw53.NetworkDelivers", spec := "networkDelivers", inPlace := ["slices.overlaps[antecede/api.Message]", "slices.overlaps[int]"], unfollowed := true, recurses := true, plainKeys := false, apart := false }
def NetworkDeliversSaid : Prop := networkDeliversRow.holds Try.pinned (OpenSpec.ofChange networkDeliversSpec)

/-- ITS FALSE NEIGHBOUR: 'it returns false'. Refute it at one input. -/
def networkDeliversWrong : ChangeSpec := { name := "networkDelivers", fn := fun _ => fun
  | [d1, d2, d3] => { results := [.lit (.bool false)], args := [d1, d2, d3] }
  | _ => none }
def NetworkDeliversWrongFalsely : Prop := networkDeliversRow.holds Try.pinned (OpenSpec.ofChange networkDeliversWrong)

/-- 'antecedelaw21.TracecodeTraces': WHATEVER THE INPUT: true; the input reads as it did. -/
def tracecodeTracesSpec : ChangeSpec := { name := "tracecodeTraces", fn := fun _ => fun
  | [d1, d2] => { results := [.lit (.bool true)], args := [d1, d2] }
  | _ => none }
def tracecodeTracesRow : OpenClaim := { program := "ytilcmenglgdljaa", sum := "e991ac508aae03f0ce27fa225e33447346fdbf6e664abec6dd0842dff0071b30", func := "antecede/antecedelaw21.TracecodeTraces", spec := "tracecodeTraces", unfollowed := true, recurses := true, plainKeys := false, apart := false }
def TracecodeTracesSaid : Prop := tracecodeTracesRow.holds Try.pinned (OpenSpec.ofChange tracecodeTracesSpec)

/-- ITS FALSE NEIGHBOUR: 'it returns false'. Refute it at one input. -/
def tracecodeTracesWrong : ChangeSpec := { name := "tracecodeTraces", fn := fun _ => fun
  | [d1, d2] => { results := [.lit (.bool false)], args := [d1, d2] }
  | _ => none }
def TracecodeTracesWrongFalsely : Prop := tracecodeTracesRow.holds Try.pinned (OpenSpec.ofChange tracecodeTracesWrong)

/-- 'antecedelaw21.TracecodeBurst': WHATEVER THE INPUT: true; the input reads as it did. -/
def tracecodeBurstSpec : ChangeSpec := { name := "tracecodeBurst", fn := fun _ => fun
  | [d1, d2, d3, d4, d5] => { results := [.lit (.bool true)], args := [d1, d2, d3, d4, d5] }
  | _ => none }
def tracecodeBurstRow : OpenClaim := { program := "ytilcmenglgdljaa", sum := "e991ac508aae03f0ce27fa225e33447346fdbf6e664abec6dd0842dff0071b30", func := "antecede/antecedelaw21.TracecodeBurst", spec := "tracecodeBurst", unfollowed := true, recurses := true, plainKeys := false, apart := false }
def TracecodeBurstSaid : Prop := tracecodeBurstRow.holds Try.pinned (OpenSpec.ofChange tracecodeBurstSpec)

/-- ITS FALSE NEIGHBOUR: 'it returns false'. Refute it at one input. -/
def tracecodeBurstWrong : ChangeSpec := { name := "tracecodeBurst", fn := fun _ => fun
  | [d1, d2, d3, d4, d5] => { results := [.lit (.bool false)], args := [d1, d2, d3, d4, d5] }
  | _ => none }
def TracecodeBurstWrongFalsely : Prop := tracecodeBurstRow.holds Try.pinned (OpenSpec.ofChange tracecodeBurstWrong)

/-- 'antecedelaw21.TracecodeBack': WHATEVER THE INPUT: true; the input reads as it did. -/
def tracecodeBackSpec : ChangeSpec := { name := "tracecodeBack", fn := fun _ => fun
  | [d1, d2, d3] => { results := [.lit (.bool true)], args := [d1, d2, d3] }
  | _ => none }
def tracecodeBackRow : OpenClaim := { program := "ytilcmenglgdljaa", sum := "e991ac508aae03f0ce27fa225e33447346fdbf6e664abec6dd0842dff0071b30", func := "antecede/antecedelaw21.TracecodeBack", spec := "tracecodeBack", unfollowed := true, recurses := true, plainKeys := false, apart := false }
def TracecodeBackSaid : Prop := tracecodeBackRow.holds Try.pinned (OpenSpec.ofChange tracecodeBackSpec)

/-- ITS FALSE NEIGHBOUR: 'it returns false'. Refute it at one input. -/
def tracecodeBackWrong : ChangeSpec := { name := "tracecodeBack", fn := fun _ => fun
  | [d1, d2, d3] => { results := [.lit (.bool false)], args := [d1, d2, d3] }
  | _ => none }
def TracecodeBackWrongFalsely : Prop := tracecodeBackRow.holds Try.pinned (OpenSpec.ofChange tracecodeBackWrong)

/- THE SECOND FORM. 'bulk': how many values and letters a reading holds, each counted each time it is reached (what is shared counts as often as it is met; a slice's spare places count too). A statement '..UptoSaid' is the law's where the arguments, and the package variables that the reading takes, are together of bulk at most 1048576: NARROWER than '..Said'. Prove '..Said' where nothing that the law and all that it calls make is longer than what came in: it says more and counts as full. Else prove '..UptoSaid'. A law counts once. -/
mutual
def uptoBulk {H : Type} : DataW H → Nat
  | .lit (.string bytes) => bytes.length + 1
  | .lit _ => 1
  | .nil => 1
  | .ptr d => uptoBulk d + 1
  | .slice elems spare => uptoBulkAll elems + uptoBulkAll spare + 1
  | .agg parts => uptoBulkAll parts + 1
  | .iface _ d => uptoBulk d + 1
  | .map entries => uptoBulkEntries entries + 1
  | .held _ => 1
def uptoBulkAll {H : Type} : List (DataW H) → Nat
  | [] => 0
  | d :: r => uptoBulk d + uptoBulkAll r
def uptoBulkEntries {H : Type} : List (Lit × DataW H) → Nat
  | [] => 0
  | x :: r => uptoBulkEntry x + uptoBulkEntries r
def uptoBulkEntry {H : Type} : Lit × DataW H → Nat
  | (.string bytes, d) => bytes.length + uptoBulk d + 1
  | (_, d) => uptoBulk d + 1
 end
def uptoSmall : (H : Type) → List (DataW H) → Bool := fun _ ds => decide (uptoBulkAll ds ≤ 1048576)
def OpenSpec.upto (s : _root_.Go.ChangeSpec) : _root_.Go.OpenSpec := { _root_.Go.OpenSpec.ofChange s with cond := some uptoSmall }

/-- 'antecedelaw12.TraceOrders', WHERE WHAT IT READS IS OF BULK AT MOST 1048576: true; the input reads as it did. -/
def traceOrdersUptoRow : OpenClaim := { program := "ytilcmenglgdljaa", sum := "e991ac508aae03f0ce27fa225e33447346fdbf6e664abec6dd0842dff0071b30", func := "antecede/antecedelaw12.TraceOrders", spec := "traceOrders", unfollowed := true, recurses := true, plainKeys := false, apart := false, narrowed := true }
def TraceOrdersUptoSaid : Prop := traceOrdersUptoRow.holds Try.pinned (OpenSpec.upto traceOrdersSpec)

/-- 'antecedelaw12.TraceBuilt', WHERE WHAT IT READS IS OF BULK AT MOST 1048576: true; the input reads as it did. -/
def traceBuiltUptoRow : OpenClaim := { program := "ytilcmenglgdljaa", sum := "e991ac508aae03f0ce27fa225e33447346fdbf6e664abec6dd0842dff0071b30", func := "antecede/antecedelaw12.TraceBuilt", spec := "traceBuilt", unfollowed := true, recurses := true, plainKeys := false, apart := false, narrowed := true }
def TraceBuiltUptoSaid : Prop := traceBuiltUptoRow.holds Try.pinned (OpenSpec.upto traceBuiltSpec)

/-- 'antecedelaw53.NetworkSends', WHERE WHAT IT READS IS OF BULK AT MOST 1048576: true; the input reads as it did. -/
def networkSendsUptoRow : OpenClaim := { program := "ytilcmenglgdljaa", sum := "e991ac508aae03f0ce27fa225e33447346fdbf6e664abec6dd0842dff0071b30", func := "antecede/antecedelaw53.NetworkSends", spec := "networkSends", inPlace := ["slices.overlaps[antecede/api.Message]", "slices.overlaps[int]"], unfollowed := true, recurses := true, plainKeys := false, apart := false, narrowed := true }
def NetworkSendsUptoSaid : Prop := networkSendsUptoRow.holds Try.pinned (OpenSpec.upto networkSendsSpec)

/-- 'antecedelaw53.NetworkReceives', WHERE WHAT IT READS IS OF BULK AT MOST 1048576: true; the input reads as it did. -/
def networkReceivesUptoRow : OpenClaim := { program := "ytilcmenglgdljaa", sum := "e991ac508aae03f0ce27fa225e33447346fdbf6e664abec6dd0842dff0071b30", func := "antecede/antecedelaw53.NetworkReceives", spec := "networkReceives", inPlace := ["slices.overlaps[antecede/api.Message]", "slices.overlaps[int]"], unfollowed := true, recurses := true, plainKeys := false, apart := false, narrowed := true }
def NetworkReceivesUptoSaid : Prop := networkReceivesUptoRow.holds Try.pinned (OpenSpec.upto networkReceivesSpec)

/-- 'antecedelaw53.NetworkStates', WHERE WHAT IT READS IS OF BULK AT MOST 1048576: true; the input reads as it did. -/
def networkStatesUptoRow : OpenClaim := { program := "ytilcmenglgdljaa", sum := "e991ac508aae03f0ce27fa225e33447346fdbf6e664abec6dd0842dff0071b30", func := "antecede/antecedelaw53.NetworkStates", spec := "networkStates", inPlace := ["slices.overlaps[antecede/api.Message]", "slices.overlaps[int]"], unfollowed := true, recurses := true, plainKeys := false, apart := false, narrowed := true }
def NetworkStatesUptoSaid : Prop := networkStatesUptoRow.holds Try.pinned (OpenSpec.upto networkStatesSpec)

/-- 'antecedelaw53.NetworkTimes', WHERE WHAT IT READS IS OF BULK AT MOST 1048576: true; the input reads as it did. -/
def networkTimesUptoRow : OpenClaim := { program := "ytilcmenglgdljaa", sum := "e991ac508aae03f0ce27fa225e33447346fdbf6e664abec6dd0842dff0071b30", func := "antecede/antecedelaw53.NetworkTimes", spec := "networkTimes", inPlace := ["slices.overlaps[antecede/api.Message]", "slices.overlaps[int]"], unfollowed := true, recurses := true, plainKeys := false, apart := false, narrowed := true }
def NetworkTimesUptoSaid : Prop := networkTimesUptoRow.holds Try.pinned (OpenSpec.upto networkTimesSpec)

/-- 'antecedelaw53.NetworkOwn', WHERE WHAT IT READS IS OF BULK AT MOST 1048576: true; the input reads as it did. -/
def networkOwnUptoRow : OpenClaim := { program := "ytilcmenglgdljaa", sum := "e991ac508aae03f0ce27fa225e33447346fdbf6e664abec6dd0842dff0071b30", func := "antecede/antecedelaw53.NetworkOwn", spec := "networkOwn", inPlace := ["slices.overlaps[antecede/api.Message]", "slices.overlaps[int]"], unfollowed := true, recurses := true, plainKeys := false, apart := false, narrowed := true }
def NetworkOwnUptoSaid : Prop := networkOwnUptoRow.holds Try.pinned (OpenSpec.upto networkOwnSpec)

/-- 'antecedelaw53.NetworkDelivers', WHERE WHAT IT READS IS OF BULK AT MOST 1048576: true; the input reads as it did. -/
def networkDeliversUptoRow : OpenClaim := { program := "ytilcmenglgdljaa", sum := "e991ac508aae03f0ce27fa225e33447346fdbf6e664abec6dd0842dff0071b30", func := "antecede/antecedelaw53.NetworkDelivers", spec := "networkDelivers", inPlace := ["slices.overlaps[antecede/api.Message]", "slices.overlaps[int]"], unfollowed := true, recurses := true, plainKeys := false, apart := false, narrowed := true }
def NetworkDeliversUptoSaid : Prop := networkDeliversUptoRow.holds Try.pinned (OpenSpec.upto networkDeliversSpec)

/-- 'antecedelaw21.TracecodeTraces', WHERE WHAT IT READS IS OF BULK AT MOST 1048576: true; the input reads as it did. -/
def tracecodeTracesUptoRow : OpenClaim := { program := "ytilcmenglgdljaa", sum := "e991ac508aae03f0ce27fa225e33447346fdbf6e664abec6dd0842dff0071b30", func := "antecede/antecedelaw21.TracecodeTraces", spec := "tracecodeTraces", unfollowed := true, recurses := true, plainKeys := false, apart := false, narrowed := true }
def TracecodeTracesUptoSaid : Prop := tracecodeTracesUptoRow.holds Try.pinned (OpenSpec.upto tracecodeTracesSpec)

/-- 'antecedelaw21.TracecodeBurst', WHERE WHAT IT READS IS OF BULK AT MOST 1048576: true; the input reads as it did. -/
def tracecodeBurstUptoRow : OpenClaim := { program := "ytilcmenglgdljaa", sum := "e991ac508aae03f0ce27fa225e33447346fdbf6e664abec6dd0842dff0071b30", func := "antecede/antecedelaw21.TracecodeBurst", spec := "tracecodeBurst", unfollowed := true, recurses := true, plainKeys := false, apart := false, narrowed := true }
def TracecodeBurstUptoSaid : Prop := tracecodeBurstUptoRow.holds Try.pinned (OpenSpec.upto tracecodeBurstSpec)

/-- 'antecedelaw21.TracecodeBack', WHERE WHAT IT READS IS OF BULK AT MOST 1048576: true; the input reads as it did. -/
def tracecodeBackUptoRow : OpenClaim := { program := "ytilcmenglgdljaa", sum := "e991ac508aae03f0ce27fa225e33447346fdbf6e664abec6dd0842dff0071b30", func := "antecede/antecedelaw21.TracecodeBack", spec := "tracecodeBack", unfollowed := true, recurses := true, plainKeys := false, apart := false, narrowed := true }
def TracecodeBackUptoSaid : Prop := tracecodeBackUptoRow.holds Try.pinned (OpenSpec.upto tracecodeBackSpec)

end Rows
end Go.Proofs.Ytilcmenglgdljaa
