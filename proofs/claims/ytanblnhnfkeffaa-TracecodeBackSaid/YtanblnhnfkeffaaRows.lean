/-
  No cell of these rows narrows 'for every input' (looked for: loops, veiled, ifaces, maps, wideKeys, modest, calm, conditions, laid).
  DERIVED. THE GIVEN ROWS OF THIS SEAT. 10 by the template 'for every input the law returns true; each argument reads behind the call as it read before'; 0 by the template 'total and deterministic' (their statements: YtanblnhnfkeffaaTotals.lean).
  GIVEN WITH THE SEED: the statements are not yours to turn. If you find one false, say at which input.
  Laid BY PROGRAM, IN A SANDBOX (cutbox-rows.mjs): the forced cells as the released guide's own fill.sh prints them over the translation b71d654d82531f27… (all of the seat's roots in one cut). By AI agents, Wed Nov 11 2026. No macro, syntax, notation, axiom, sorry.
-/
import Derived.Test.YtanblnhnfkeffaaChecked
import GoSem.Claim
import GoSem.ClaimJoined
import GoSem.ClaimMapViews
import Derived.JoinedTies
import Derived.KernelRfl
namespace Go.Proofs.Ytanblnhnfkeffaa
/- THE CELL 'sum', in the pinned program and in every row, IS THE sha256 OF THE DUMP (.gsa) THAT YtanblnhnfkeffaaProg.lean LOADS. Nothing in Lean hashes anything: it is a label: what it is worth is what the hold of that sum in a sandbox is worth. -/
noncomputable def Try.pinned : Pinned := { name := "ytanblnhnfkeffaa", sum := "b71d654d82531f27006fa92074c073b0200b34c585c488200285cece57fef0c6", checked := Try.checked }
namespace Rows
def none {H : Type} : Left H := { results := [], args := [] }

/-- 'antecedelaw12.TraceBuilt': WHATEVER THE INPUT: true; the input reads as it did. -/
def traceBuiltSpec : ChangeSpec := { name := "traceBuilt", fn := fun _ => fun
  | [d1, d2] => { results := [.lit (.bool true)], args := [d1, d2] }
  | _ => none }
def traceBuiltRow : OpenClaim := { program := "ytanblnhnfkeffaa", sum := "b71d654d82531f27006fa92074c073b0200b34c585c488200285cece57fef0c6", func := "antecede/antecedelaw12.TraceBuilt", spec := "traceBuilt", unfollowed := true, recurses := true, plainKeys := false, apart := false }
def TraceBuiltSaid : Prop := traceBuiltRow.holds Try.pinned (OpenSpec.ofChange traceBuiltSpec)

/-- ITS FALSE NEIGHBOUR: 'it returns false'. Refute it at one input. -/
def traceBuiltWrong : ChangeSpec := { name := "traceBuilt", fn := fun _ => fun
  | [d1, d2] => { results := [.lit (.bool false)], args := [d1, d2] }
  | _ => none }
def TraceBuiltWrongFalsely : Prop := traceBuiltRow.holds Try.pinned (OpenSpec.ofChange traceBuiltWrong)

/-- 'antecedelaw53.NetworkDelivers': WHATEVER THE INPUT: true; the input reads as it did. -/
def networkDeliversSpec : ChangeSpec := { name := "networkDelivers", fn := fun _ => fun
  | [d1, d2, d3] => { results := [.lit (.bool true)], args := [d1, d2, d3] }
  | _ => none }
def networkDeliversRow : OpenClaim := { program := "ytanblnhnfkeffaa", sum := "b71d654d82531f27006fa92074c073b0200b34c585c488200285cece57fef0c6", func := "antecede/antecedelaw53.NetworkDelivers", spec := "networkDelivers", inPlace := ["slices.overlaps[antecede/api.Message]", "slices.overlaps[int]"], unfollowed := true, recurses := true, plainKeys := false, apart := false }
def NetworkDeliversSaid : Prop := networkDeliversRow.holds Try.pinned (OpenSpec.ofChange networkDeliversSpec)

/-- ITS FALSE NEIGHBOUR: 'it returns false'. Refute it at one input. -/
def networkDeliversWrong : ChangeSpec := { name := "networkDelivers", fn := fun _ => fun
  | [d1, d2, d3] => { results := [.lit (.bool false)], args := [d1, d2, d3] }
  | _ => none }
def NetworkDeliversWrongFalsely : Prop := networkDeliversRow.holds Try.pinned (OpenSpec.ofChange networkDeliversWrong)

/-- 'antecedelaw21.TracecodeTraces': WHATEVER THE INPUT: true; the input reads as it did. -/
def tracecodeTracesSpec : ChangeSpec := { name := "tracecodeTraces", fn := fun _ => fun
  | [d1, d2] => { results := [.lit (.bool true)], args := [d1, d2] }
  | _ => none }
def tracecodeTracesRow : OpenClaim := { program := "ytanblnhnfkeffaa", sum := "b71d654d82531f27006fa92074c073b0200b34c585c488200285cece57fef0c6", func := "antecede/antecedelaw21.TracecodeTraces", spec := "tracecodeTraces", unfollowed := true, recurses := true, plainKeys := false, apart := false }
def TracecodeTracesSaid : Prop := tracecodeTracesRow.holds Try.pinned (OpenSpec.ofChange tracecodeTracesSpec)

/-- ITS FALSE NEIGHBOUR: 'it returns false'. Refute it at one input. -/
def tracecodeTracesWrong : ChangeSpec := { name := "tracecodeTraces", fn := fun _ => fun
  | [d1, d2] => { results := [.lit (.bool false)], args := [d1, d2] }
  | _ => none }
def TracecodeTracesWrongFalsely : Prop := tracecodeTracesRow.holds Try.pinned (OpenSpec.ofChange tracecodeTracesWrong)

/-- 'antecedelaw21.TracecodeBurst': WHATEVER THE INPUT: true; the input reads as it did. -/
def tracecodeBurstSpec : ChangeSpec := { name := "tracecodeBurst", fn := fun _ => fun
  | [d1, d2, d3, d4, d5] => { results := [.lit (.bool true)], args := [d1, d2, d3, d4, d5] }
  | _ => none }
def tracecodeBurstRow : OpenClaim := { program := "ytanblnhnfkeffaa", sum := "b71d654d82531f27006fa92074c073b0200b34c585c488200285cece57fef0c6", func := "antecede/antecedelaw21.TracecodeBurst", spec := "tracecodeBurst", unfollowed := true, recurses := true, plainKeys := false, apart := false }
def TracecodeBurstSaid : Prop := tracecodeBurstRow.holds Try.pinned (OpenSpec.ofChange tracecodeBurstSpec)

/-- ITS FALSE NEIGHBOUR: 'it returns false'. Refute it at one input. -/
def tracecodeBurstWrong : ChangeSpec := { name := "tracecodeBurst", fn := fun _ => fun
  | [d1, d2, d3, d4, d5] => { results := [.lit (.bool false)], args := [d1, d2, d3, d4, d5] }
  | _ => none }
def TracecodeBurstWrongFalsely : Prop := tracecodeBurstRow.holds Try.pinned (OpenSpec.ofChange tracecodeBurstWrong)

/-- 'antecedelaw21.TracecodeBack': WHATEVER THE INPUT: true; the input reads as it did. -/
def tracecodeBackSpec : ChangeSpec := { name := "tracecodeBack", fn := fun _ => fun
  | [d1, d2, d3] => { results := [.lit (.bool true)], args := [d1, d2, d3] }
  | _ => none }
def tracecodeBackRow : OpenClaim := { program := "ytanblnhnfkeffaa", sum := "b71d654d82531f27006fa92074c073b0200b34c585c488200285cece57fef0c6", func := "antecede/antecedelaw21.TracecodeBack", spec := "tracecodeBack", unfollowed := true, recurses := true, plainKeys := false, apart := false }
def TracecodeBackSaid : Prop := tracecodeBackRow.holds Try.pinned (OpenSpec.ofChange tracecodeBackSpec)

/-- ITS FALSE NEIGHBOUR: 'it returns false'. Refute it at one input. -/
def tracecodeBackWrong : ChangeSpec := { name := "tracecodeBack", fn := fun _ => fun
  | [d1, d2, d3] => { results := [.lit (.bool false)], args := [d1, d2, d3] }
  | _ => none }
def TracecodeBackWrongFalsely : Prop := tracecodeBackRow.holds Try.pinned (OpenSpec.ofChange tracecodeBackWrong)

/-- 'antecedelaw19.DriftOwn': WHATEVER THE INPUT: true; the input reads as it did. -/
def driftOwnSpec : ChangeSpec := { name := "driftOwn", fn := fun _ => fun
  | [d1, d2, d3, d4] => { results := [.lit (.bool true)], args := [d1, d2, d3, d4] }
  | _ => none }
def driftOwnRow : OpenClaim := { program := "ytanblnhnfkeffaa", sum := "b71d654d82531f27006fa92074c073b0200b34c585c488200285cece57fef0c6", func := "antecede/antecedelaw19.DriftOwn", spec := "driftOwn", unfollowed := true, recurses := true, plainKeys := false, apart := false }
def DriftOwnSaid : Prop := driftOwnRow.holds Try.pinned (OpenSpec.ofChange driftOwnSpec)

/-- ITS FALSE NEIGHBOUR: 'it returns false'. Refute it at one input. -/
def driftOwnWrong : ChangeSpec := { name := "driftOwn", fn := fun _ => fun
  | [d1, d2, d3, d4] => { results := [.lit (.bool false)], args := [d1, d2, d3, d4] }
  | _ => none }
def DriftOwnWrongFalsely : Prop := driftOwnRow.holds Try.pinned (OpenSpec.ofChange driftOwnWrong)

/-- 'antecedelaw19.DriftWider': WHATEVER THE INPUT: true; the input reads as it did. -/
def driftWiderSpec : ChangeSpec := { name := "driftWider", fn := fun _ => fun
  | [d1, d2, d3, d4, d5] => { results := [.lit (.bool true)], args := [d1, d2, d3, d4, d5] }
  | _ => none }
def driftWiderRow : OpenClaim := { program := "ytanblnhnfkeffaa", sum := "b71d654d82531f27006fa92074c073b0200b34c585c488200285cece57fef0c6", func := "antecede/antecedelaw19.DriftWider", spec := "driftWider", unfollowed := true, recurses := true, plainKeys := false, apart := false }
def DriftWiderSaid : Prop := driftWiderRow.holds Try.pinned (OpenSpec.ofChange driftWiderSpec)

/-- ITS FALSE NEIGHBOUR: 'it returns false'. Refute it at one input. -/
def driftWiderWrong : ChangeSpec := { name := "driftWider", fn := fun _ => fun
  | [d1, d2, d3, d4, d5] => { results := [.lit (.bool false)], args := [d1, d2, d3, d4, d5] }
  | _ => none }
def DriftWiderWrongFalsely : Prop := driftWiderRow.holds Try.pinned (OpenSpec.ofChange driftWiderWrong)

/-- 'antecedelaw19.DriftEnds': WHATEVER THE INPUT: true; the input reads as it did. -/
def driftEndsSpec : ChangeSpec := { name := "driftEnds", fn := fun _ => fun
  | [d1, d2, d3] => { results := [.lit (.bool true)], args := [d1, d2, d3] }
  | _ => none }
def driftEndsRow : OpenClaim := { program := "ytanblnhnfkeffaa", sum := "b71d654d82531f27006fa92074c073b0200b34c585c488200285cece57fef0c6", func := "antecede/antecedelaw19.DriftEnds", spec := "driftEnds", unfollowed := true, recurses := true, plainKeys := false, apart := false }
def DriftEndsSaid : Prop := driftEndsRow.holds Try.pinned (OpenSpec.ofChange driftEndsSpec)

/-- ITS FALSE NEIGHBOUR: 'it returns false'. Refute it at one input. -/
def driftEndsWrong : ChangeSpec := { name := "driftEnds", fn := fun _ => fun
  | [d1, d2, d3] => { results := [.lit (.bool false)], args := [d1, d2, d3] }
  | _ => none }
def DriftEndsWrongFalsely : Prop := driftEndsRow.holds Try.pinned (OpenSpec.ofChange driftEndsWrong)

/-- 'antecedelaw19.DriftTight': WHATEVER THE INPUT: true; the input reads as it did. -/
def driftTightSpec : ChangeSpec := { name := "driftTight", fn := fun _ => fun
  | [d1, d2, d3, d4] => { results := [.lit (.bool true)], args := [d1, d2, d3, d4] }
  | _ => none }
def driftTightRow : OpenClaim := { program := "ytanblnhnfkeffaa", sum := "b71d654d82531f27006fa92074c073b0200b34c585c488200285cece57fef0c6", func := "antecede/antecedelaw19.DriftTight", spec := "driftTight", unfollowed := true, recurses := true, plainKeys := false, apart := false }
def DriftTightSaid : Prop := driftTightRow.holds Try.pinned (OpenSpec.ofChange driftTightSpec)

/-- ITS FALSE NEIGHBOUR: 'it returns false'. Refute it at one input. -/
def driftTightWrong : ChangeSpec := { name := "driftTight", fn := fun _ => fun
  | [d1, d2, d3, d4] => { results := [.lit (.bool false)], args := [d1, d2, d3, d4] }
  | _ => none }
def DriftTightWrongFalsely : Prop := driftTightRow.holds Try.pinned (OpenSpec.ofChange driftTightWrong)

/-- 'antecedelaw19.DriftCertain': WHATEVER THE INPUT: true; the input reads as it did. -/
def driftCertainSpec : ChangeSpec := { name := "driftCertain", fn := fun _ => fun
  | [d1, d2, d3, d4, d5, d6] => { results := [.lit (.bool true)], args := [d1, d2, d3, d4, d5, d6] }
  | _ => none }
def driftCertainRow : OpenClaim := { program := "ytanblnhnfkeffaa", sum := "b71d654d82531f27006fa92074c073b0200b34c585c488200285cece57fef0c6", func := "antecede/antecedelaw19.DriftCertain", spec := "driftCertain", unfollowed := true, recurses := true, plainKeys := false, apart := false }
def DriftCertainSaid : Prop := driftCertainRow.holds Try.pinned (OpenSpec.ofChange driftCertainSpec)

/-- ITS FALSE NEIGHBOUR: 'it returns false'. Refute it at one input. -/
def driftCertainWrong : ChangeSpec := { name := "driftCertain", fn := fun _ => fun
  | [d1, d2, d3, d4, d5, d6] => { results := [.lit (.bool false)], args := [d1, d2, d3, d4, d5, d6] }
  | _ => none }
def DriftCertainWrongFalsely : Prop := driftCertainRow.holds Try.pinned (OpenSpec.ofChange driftCertainWrong)

/- THE SECOND FORM. 'bulk': how many values and letters a reading holds, each counted each time it is reached (what is shared counts as often as it is met; a slice's spare places count too). A statement '..UptoSaid' is the law's where the arguments, and the package variables that the reading takes, are together of bulk at most 1048576: NARROWER than '..Said'. Prove '..Said' where nothing that the law and all that it calls make is longer than what came in: it says more and counts as full. Else prove '..UptoSaid'. A law counts once. -/
mutual
def uptoBulk {H : Type} : DataW H → Nat
  | .lit (.string bytes) => bytes.length + 1
  | .lit _ => 1
  | .nil => 1
  | .ptr d => uptoBulk d + 1
  | .slice elems spare => uptoBulkAll elems + uptoBulkAll spare + 1
  | .agg parts => uptoBulkAll parts + 1
  | .iface _ d => uptoBulk d + 1
  | .map entries => uptoBulkEntries entries + 1
  | .held _ => 1
def uptoBulkAll {H : Type} : List (DataW H) → Nat
  | [] => 0
  | d :: r => uptoBulk d + uptoBulkAll r
def uptoBulkEntries {H : Type} : List (Lit × DataW H) → Nat
  | [] => 0
  | x :: r => uptoBulkEntry x + uptoBulkEntries r
def uptoBulkEntry {H : Type} : Lit × DataW H → Nat
  | (.string bytes, d) => bytes.length + uptoBulk d + 1
  | (_, d) => uptoBulk d + 1
 end
def uptoSmall : (H : Type) → List (DataW H) → Bool := fun _ ds => decide (uptoBulkAll ds ≤ 1048576)
def OpenSpec.upto (s : _root_.Go.ChangeSpec) : _root_.Go.OpenSpec := { _root_.Go.OpenSpec.ofChange s with cond := some uptoSmall }

/-- 'antecedelaw12.TraceBuilt', WHERE WHAT IT READS IS OF BULK AT MOST 1048576: true; the input reads as it did. -/
def traceBuiltUptoRow : OpenClaim := { program := "ytanblnhnfkeffaa", sum := "b71d654d82531f27006fa92074c073b0200b34c585c488200285cece57fef0c6", func := "antecede/antecedelaw12.TraceBuilt", spec := "traceBuilt", unfollowed := true, recurses := true, plainKeys := false, apart := false, narrowed := true }
def TraceBuiltUptoSaid : Prop := traceBuiltUptoRow.holds Try.pinned (OpenSpec.upto traceBuiltSpec)

/-- 'antecedelaw53.NetworkDelivers', WHERE WHAT IT READS IS OF BULK AT MOST 1048576: true; the input reads as it did. -/
def networkDeliversUptoRow : OpenClaim := { program := "ytanblnhnfkeffaa", sum := "b71d654d82531f27006fa92074c073b0200b34c585c488200285cece57fef0c6", func := "antecede/antecedelaw53.NetworkDelivers", spec := "networkDelivers", inPlace := ["slices.overlaps[antecede/api.Message]", "slices.overlaps[int]"], unfollowed := true, recurses := true, plainKeys := false, apart := false, narrowed := true }
def NetworkDeliversUptoSaid : Prop := networkDeliversUptoRow.holds Try.pinned (OpenSpec.upto networkDeliversSpec)

/-- 'antecedelaw21.TracecodeTraces', WHERE WHAT IT READS IS OF BULK AT MOST 1048576: true; the input reads as it did. -/
def tracecodeTracesUptoRow : OpenClaim := { program := "ytanblnhnfkeffaa", sum := "b71d654d82531f27006fa92074c073b0200b34c585c488200285cece57fef0c6", func := "antecede/antecedelaw21.TracecodeTraces", spec := "tracecodeTraces", unfollowed := true, recurses := true, plainKeys := false, apart := false, narrowed := true }
def TracecodeTracesUptoSaid : Prop := tracecodeTracesUptoRow.holds Try.pinned (OpenSpec.upto tracecodeTracesSpec)

/-- 'antecedelaw21.TracecodeBurst', WHERE WHAT IT READS IS OF BULK AT MOST 1048576: true; the input reads as it did. -/
def tracecodeBurstUptoRow : OpenClaim := { program := "ytanblnhnfkeffaa", sum := "b71d654d82531f27006fa92074c073b0200b34c585c488200285cece57fef0c6", func := "antecede/antecedelaw21.TracecodeBurst", spec := "tracecodeBurst", unfollowed := true, recurses := true, plainKeys := false, apart := false, narrowed := true }
def TracecodeBurstUptoSaid : Prop := tracecodeBurstUptoRow.holds Try.pinned (OpenSpec.upto tracecodeBurstSpec)

/-- 'antecedelaw21.TracecodeBack', WHERE WHAT IT READS IS OF BULK AT MOST 1048576: true; the input reads as it did. -/
def tracecodeBackUptoRow : OpenClaim := { program := "ytanblnhnfkeffaa", sum := "b71d654d82531f27006fa92074c073b0200b34c585c488200285cece57fef0c6", func := "antecede/antecedelaw21.TracecodeBack", spec := "tracecodeBack", unfollowed := true, recurses := true, plainKeys := false, apart := false, narrowed := true }
def TracecodeBackUptoSaid : Prop := tracecodeBackUptoRow.holds Try.pinned (OpenSpec.upto tracecodeBackSpec)

/-- 'antecedelaw19.DriftOwn', WHERE WHAT IT READS IS OF BULK AT MOST 1048576: true; the input reads as it did. -/
def driftOwnUptoRow : OpenClaim := { program := "ytanblnhnfkeffaa", sum := "b71d654d82531f27006fa92074c073b0200b34c585c488200285cece57fef0c6", func := "antecede/antecedelaw19.DriftOwn", spec := "driftOwn", unfollowed := true, recurses := true, plainKeys := false, apart := false, narrowed := true }
def DriftOwnUptoSaid : Prop := driftOwnUptoRow.holds Try.pinned (OpenSpec.upto driftOwnSpec)

/-- 'antecedelaw19.DriftWider', WHERE WHAT IT READS IS OF BULK AT MOST 1048576: true; the input reads as it did. -/
def driftWiderUptoRow : OpenClaim := { program := "ytanblnhnfkeffaa", sum := "b71d654d82531f27006fa92074c073b0200b34c585c488200285cece57fef0c6", func := "antecede/antecedelaw19.DriftWider", spec := "driftWider", unfollowed := true, recurses := true, plainKeys := false, apart := false, narrowed := true }
def DriftWiderUptoSaid : Prop := driftWiderUptoRow.holds Try.pinned (OpenSpec.upto driftWiderSpec)

/-- 'antecedelaw19.DriftEnds', WHERE WHAT IT READS IS OF BULK AT MOST 1048576: true; the input reads as it did. -/
def driftEndsUptoRow : OpenClaim := { program := "ytanblnhnfkeffaa", sum := "b71d654d82531f27006fa92074c073b0200b34c585c488200285cece57fef0c6", func := "antecede/antecedelaw19.DriftEnds", spec := "driftEnds", unfollowed := true, recurses := true, plainKeys := false, apart := false, narrowed := true }
def DriftEndsUptoSaid : Prop := driftEndsUptoRow.holds Try.pinned (OpenSpec.upto driftEndsSpec)

/-- 'antecedelaw19.DriftTight', WHERE WHAT IT READS IS OF BULK AT MOST 1048576: true; the input reads as it did. -/
def driftTightUptoRow : OpenClaim := { program := "ytanblnhnfkeffaa", sum := "b71d654d82531f27006fa92074c073b0200b34c585c488200285cece57fef0c6", func := "antecede/antecedelaw19.DriftTight", spec := "driftTight", unfollowed := true, recurses := true, plainKeys := false, apart := false, narrowed := true }
def DriftTightUptoSaid : Prop := driftTightUptoRow.holds Try.pinned (OpenSpec.upto driftTightSpec)

/-- 'antecedelaw19.DriftCertain', WHERE WHAT IT READS IS OF BULK AT MOST 1048576: true; the input reads as it did. -/
def driftCertainUptoRow : OpenClaim := { program := "ytanblnhnfkeffaa", sum := "b71d654d82531f27006fa92074c073b0200b34c585c488200285cece57fef0c6", func := "antecede/antecedelaw19.DriftCertain", spec := "driftCertain", unfollowed := true, recurses := true, plainKeys := false, apart := false, narrowed := true }
def DriftCertainUptoSaid : Prop := driftCertainUptoRow.holds Try.pinned (OpenSpec.upto driftCertainSpec)

end Rows
end Go.Proofs.Ytanblnhnfkeffaa
