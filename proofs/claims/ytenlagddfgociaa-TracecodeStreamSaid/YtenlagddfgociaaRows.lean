/-
  No cell of these rows narrows 'for every input' (looked for: loops, veiled, ifaces, maps, wideKeys, modest, calm, conditions, laid).
  DERIVED. THE GIVEN ROWS OF THIS SEAT. 6 by the template 'for every input the law returns true; each argument reads behind the call as it read before'; 0 by the template 'total and deterministic' (their statements: YtenlagddfgociaaTotals.lean).
  GIVEN WITH THE SEED: the statements are not yours to turn. If you find one false, say at which input.
  Laid BY PROGRAM, IN A SANDBOX (cutbox-rows.mjs): the forced cells as the released guide's own fill.sh prints them over the translation 728573f331b62aef… (all of the seat's roots in one cut). By AI agents, Wed Nov 11 2026. No macro, syntax, notation, axiom, sorry.
-/
import Derived.Test.YtenlagddfgociaaChecked
import GoSem.Claim
import GoSem.ClaimJoined
import GoSem.ClaimMapViews
import Derived.JoinedTies
import Derived.KernelRfl
namespace Go.Proofs.Ytenlagddfgociaa
/- THE CELL 'sum', in the pinned program and in every row, IS THE sha256 OF THE DUMP (.gsa) THAT YtenlagddfgociaaProg.lean LOADS. Nothing in Lean hashes anything: it is a label: what it is worth is what the hold of that sum in a sandbox is worth. -/
noncomputable def Try.pinned : Pinned := { name := "ytenlagddfgociaa", sum := "728573f331b62aef44e91115e8a9de0926c8da4ba363f1fbc0c341f39f34f81b", checked := Try.checked }
namespace Rows
def none {H : Type} : Left H := { results := [], args := [] }

/-- 'antecedelaw21.TracecodeNumbers': WHATEVER THE INPUT: true; the input reads as it did. -/
def tracecodeNumbersSpec : ChangeSpec := { name := "tracecodeNumbers", fn := fun _ => fun
  | [d1, d2] => { results := [.lit (.bool true)], args := [d1, d2] }
  | _ => none }
def tracecodeNumbersRow : OpenClaim := { program := "ytenlagddfgociaa", sum := "728573f331b62aef44e91115e8a9de0926c8da4ba363f1fbc0c341f39f34f81b", func := "antecede/antecedelaw21.TracecodeNumbers", spec := "tracecodeNumbers", plainKeys := false, apart := false }
def TracecodeNumbersSaid : Prop := tracecodeNumbersRow.holds Try.pinned (OpenSpec.ofChange tracecodeNumbersSpec)

/-- ITS FALSE NEIGHBOUR: 'it returns false'. Refute it at one input. -/
def tracecodeNumbersWrong : ChangeSpec := { name := "tracecodeNumbers", fn := fun _ => fun
  | [d1, d2] => { results := [.lit (.bool false)], args := [d1, d2] }
  | _ => none }
def TracecodeNumbersWrongFalsely : Prop := tracecodeNumbersRow.holds Try.pinned (OpenSpec.ofChange tracecodeNumbersWrong)

/-- 'antecedelaw21.TracecodeFrames': WHATEVER THE INPUT: true; the input reads as it did. -/
def tracecodeFramesSpec : ChangeSpec := { name := "tracecodeFrames", fn := fun _ => fun
  | [d1, d2] => { results := [.lit (.bool true)], args := [d1, d2] }
  | _ => none }
def tracecodeFramesRow : OpenClaim := { program := "ytenlagddfgociaa", sum := "728573f331b62aef44e91115e8a9de0926c8da4ba363f1fbc0c341f39f34f81b", func := "antecede/antecedelaw21.TracecodeFrames", spec := "tracecodeFrames", plainKeys := false, apart := false }
def TracecodeFramesSaid : Prop := tracecodeFramesRow.holds Try.pinned (OpenSpec.ofChange tracecodeFramesSpec)

/-- ITS FALSE NEIGHBOUR: 'it returns false'. Refute it at one input. -/
def tracecodeFramesWrong : ChangeSpec := { name := "tracecodeFrames", fn := fun _ => fun
  | [d1, d2] => { results := [.lit (.bool false)], args := [d1, d2] }
  | _ => none }
def TracecodeFramesWrongFalsely : Prop := tracecodeFramesRow.holds Try.pinned (OpenSpec.ofChange tracecodeFramesWrong)

/-- 'antecedelaw21.TracecodeStream': WHATEVER THE INPUT: true; the input reads as it did. -/
def tracecodeStreamSpec : ChangeSpec := { name := "tracecodeStream", fn := fun _ => fun
  | [d1, d2] => { results := [.lit (.bool true)], args := [d1, d2] }
  | _ => none }
def tracecodeStreamRow : OpenClaim := { program := "ytenlagddfgociaa", sum := "728573f331b62aef44e91115e8a9de0926c8da4ba363f1fbc0c341f39f34f81b", func := "antecede/antecedelaw21.TracecodeStream", spec := "tracecodeStream", plainKeys := false, apart := false }
def TracecodeStreamSaid : Prop := tracecodeStreamRow.holds Try.pinned (OpenSpec.ofChange tracecodeStreamSpec)

/-- ITS FALSE NEIGHBOUR: 'it returns false'. Refute it at one input. -/
def tracecodeStreamWrong : ChangeSpec := { name := "tracecodeStream", fn := fun _ => fun
  | [d1, d2] => { results := [.lit (.bool false)], args := [d1, d2] }
  | _ => none }
def TracecodeStreamWrongFalsely : Prop := tracecodeStreamRow.holds Try.pinned (OpenSpec.ofChange tracecodeStreamWrong)

/-- 'antecedelaw21.TracecodeTraces': WHATEVER THE INPUT: true; the input reads as it did. -/
def tracecodeTracesSpec : ChangeSpec := { name := "tracecodeTraces", fn := fun _ => fun
  | [d1, d2] => { results := [.lit (.bool true)], args := [d1, d2] }
  | _ => none }
def tracecodeTracesRow : OpenClaim := { program := "ytenlagddfgociaa", sum := "728573f331b62aef44e91115e8a9de0926c8da4ba363f1fbc0c341f39f34f81b", func := "antecede/antecedelaw21.TracecodeTraces", spec := "tracecodeTraces", unfollowed := true, recurses := true, plainKeys := false, apart := false }
def TracecodeTracesSaid : Prop := tracecodeTracesRow.holds Try.pinned (OpenSpec.ofChange tracecodeTracesSpec)

/-- ITS FALSE NEIGHBOUR: 'it returns false'. Refute it at one input. -/
def tracecodeTracesWrong : ChangeSpec := { name := "tracecodeTraces", fn := fun _ => fun
  | [d1, d2] => { results := [.lit (.bool false)], args := [d1, d2] }
  | _ => none }
def TracecodeTracesWrongFalsely : Prop := tracecodeTracesRow.holds Try.pinned (OpenSpec.ofChange tracecodeTracesWrong)

/-- 'antecedelaw21.TracecodeBurst': WHATEVER THE INPUT: true; the input reads as it did. -/
def tracecodeBurstSpec : ChangeSpec := { name := "tracecodeBurst", fn := fun _ => fun
  | [d1, d2, d3, d4, d5] => { results := [.lit (.bool true)], args := [d1, d2, d3, d4, d5] }
  | _ => none }
def tracecodeBurstRow : OpenClaim := { program := "ytenlagddfgociaa", sum := "728573f331b62aef44e91115e8a9de0926c8da4ba363f1fbc0c341f39f34f81b", func := "antecede/antecedelaw21.TracecodeBurst", spec := "tracecodeBurst", unfollowed := true, recurses := true, plainKeys := false, apart := false }
def TracecodeBurstSaid : Prop := tracecodeBurstRow.holds Try.pinned (OpenSpec.ofChange tracecodeBurstSpec)

/-- ITS FALSE NEIGHBOUR: 'it returns false'. Refute it at one input. -/
def tracecodeBurstWrong : ChangeSpec := { name := "tracecodeBurst", fn := fun _ => fun
  | [d1, d2, d3, d4, d5] => { results := [.lit (.bool false)], args := [d1, d2, d3, d4, d5] }
  | _ => none }
def TracecodeBurstWrongFalsely : Prop := tracecodeBurstRow.holds Try.pinned (OpenSpec.ofChange tracecodeBurstWrong)

/-- 'antecedelaw21.TracecodeBack': WHATEVER THE INPUT: true; the input reads as it did. -/
def tracecodeBackSpec : ChangeSpec := { name := "tracecodeBack", fn := fun _ => fun
  | [d1, d2, d3] => { results := [.lit (.bool true)], args := [d1, d2, d3] }
  | _ => none }
def tracecodeBackRow : OpenClaim := { program := "ytenlagddfgociaa", sum := "728573f331b62aef44e91115e8a9de0926c8da4ba363f1fbc0c341f39f34f81b", func := "antecede/antecedelaw21.TracecodeBack", spec := "tracecodeBack", unfollowed := true, recurses := true, plainKeys := false, apart := false }
def TracecodeBackSaid : Prop := tracecodeBackRow.holds Try.pinned (OpenSpec.ofChange tracecodeBackSpec)

/-- ITS FALSE NEIGHBOUR: 'it returns false'. Refute it at one input. -/
def tracecodeBackWrong : ChangeSpec := { name := "tracecodeBack", fn := fun _ => fun
  | [d1, d2, d3] => { results := [.lit (.bool false)], args := [d1, d2, d3] }
  | _ => none }
def TracecodeBackWrongFalsely : Prop := tracecodeBackRow.holds Try.pinned (OpenSpec.ofChange tracecodeBackWrong)

/- THE SECOND FORM. 'bulk': how many values and letters a reading holds, each counted each time it is reached (what is shared counts as often as it is met; a slice's spare places count too). A statement '..UptoSaid' is the law's where the arguments, and the package variables that the reading takes, are together of bulk at most 1048576: NARROWER than '..Said'. Prove '..Said' where nothing that the law and all that it calls make is longer than what came in: it says more and counts as full. Else prove '..UptoSaid'. A law counts once. -/
mutual
def uptoBulk {H : Type} : DataW H → Nat
  | .lit (.string bytes) => bytes.length + 1
  | .lit _ => 1
  | .nil => 1
  | .ptr d => uptoBulk d + 1
  | .slice elems spare => uptoBulkAll elems + uptoBulkAll spare + 1
  | .agg parts => uptoBulkAll parts + 1
  | .iface _ d => uptoBulk d + 1
  | .map entries => uptoBulkEntries entries + 1
  | .held _ => 1
def uptoBulkAll {H : Type} : List (DataW H) → Nat
  | [] => 0
  | d :: r => uptoBulk d + uptoBulkAll r
def uptoBulkEntries {H : Type} : List (Lit × DataW H) → Nat
  | [] => 0
  | x :: r => uptoBulkEntry x + uptoBulkEntries r
def uptoBulkEntry {H : Type} : Lit × DataW H → Nat
  | (.string bytes, d) => bytes.length + uptoBulk d + 1
  | (_, d) => uptoBulk d + 1
 end
def uptoSmall : (H : Type) → List (DataW H) → Bool := fun _ ds => decide (uptoBulkAll ds ≤ 1048576)
def OpenSpec.upto (s : _root_.Go.ChangeSpec) : _root_.Go.OpenSpec := { _root_.Go.OpenSpec.ofChange s with cond := some uptoSmall }

/-- 'antecedelaw21.TracecodeNumbers', WHERE WHAT IT READS IS OF BULK AT MOST 1048576: true; the input reads as it did. -/
def tracecodeNumbersUptoRow : OpenClaim := { program := "ytenlagddfgociaa", sum := "728573f331b62aef44e91115e8a9de0926c8da4ba363f1fbc0c341f39f34f81b", func := "antecede/antecedelaw21.TracecodeNumbers", spec := "tracecodeNumbers", plainKeys := false, apart := false, narrowed := true }
def TracecodeNumbersUptoSaid : Prop := tracecodeNumbersUptoRow.holds Try.pinned (OpenSpec.upto tracecodeNumbersSpec)

/-- 'antecedelaw21.TracecodeFrames', WHERE WHAT IT READS IS OF BULK AT MOST 1048576: true; the input reads as it did. -/
def tracecodeFramesUptoRow : OpenClaim := { program := "ytenlagddfgociaa", sum := "728573f331b62aef44e91115e8a9de0926c8da4ba363f1fbc0c341f39f34f81b", func := "antecede/antecedelaw21.TracecodeFrames", spec := "tracecodeFrames", plainKeys := false, apart := false, narrowed := true }
def TracecodeFramesUptoSaid : Prop := tracecodeFramesUptoRow.holds Try.pinned (OpenSpec.upto tracecodeFramesSpec)

/-- 'antecedelaw21.TracecodeStream', WHERE WHAT IT READS IS OF BULK AT MOST 1048576: true; the input reads as it did. -/
def tracecodeStreamUptoRow : OpenClaim := { program := "ytenlagddfgociaa", sum := "728573f331b62aef44e91115e8a9de0926c8da4ba363f1fbc0c341f39f34f81b", func := "antecede/antecedelaw21.TracecodeStream", spec := "tracecodeStream", plainKeys := false, apart := false, narrowed := true }
def TracecodeStreamUptoSaid : Prop := tracecodeStreamUptoRow.holds Try.pinned (OpenSpec.upto tracecodeStreamSpec)

/-- 'antecedelaw21.TracecodeTraces', WHERE WHAT IT READS IS OF BULK AT MOST 1048576: true; the input reads as it did. -/
def tracecodeTracesUptoRow : OpenClaim := { program := "ytenlagddfgociaa", sum := "728573f331b62aef44e91115e8a9de0926c8da4ba363f1fbc0c341f39f34f81b", func := "antecede/antecedelaw21.TracecodeTraces", spec := "tracecodeTraces", unfollowed := true, recurses := true, plainKeys := false, apart := false, narrowed := true }
def TracecodeTracesUptoSaid : Prop := tracecodeTracesUptoRow.holds Try.pinned (OpenSpec.upto tracecodeTracesSpec)

/-- 'antecedelaw21.TracecodeBurst', WHERE WHAT IT READS IS OF BULK AT MOST 1048576: true; the input reads as it did. -/
def tracecodeBurstUptoRow : OpenClaim := { program := "ytenlagddfgociaa", sum := "728573f331b62aef44e91115e8a9de0926c8da4ba363f1fbc0c341f39f34f81b", func := "antecede/antecedelaw21.TracecodeBurst", spec := "tracecodeBurst", unfollowed := true, recurses := true, plainKeys := false, apart := false, narrowed := true }
def TracecodeBurstUptoSaid : Prop := tracecodeBurstUptoRow.holds Try.pinned (OpenSpec.upto tracecodeBurstSpec)

/-- 'antecedelaw21.TracecodeBack', WHERE WHAT IT READS IS OF BULK AT MOST 1048576: true; the input reads as it did. -/
def tracecodeBackUptoRow : OpenClaim := { program := "ytenlagddfgociaa", sum := "728573f331b62aef44e91115e8a9de0926c8da4ba363f1fbc0c341f39f34f81b", func := "antecede/antecedelaw21.TracecodeBack", spec := "tracecodeBack", unfollowed := true, recurses := true, plainKeys := false, apart := false, narrowed := true }
def TracecodeBackUptoSaid : Prop := tracecodeBackUptoRow.holds Try.pinned (OpenSpec.upto tracecodeBackSpec)

end Rows
end Go.Proofs.Ytenlagddfgociaa
