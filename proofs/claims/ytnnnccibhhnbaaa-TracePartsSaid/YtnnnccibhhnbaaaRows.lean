/-
  No cell of these rows narrows 'for every input' (looked for: loops, veiled, ifaces, maps, wideKeys, modest, calm, conditions, laid).
  DERIVED. THE GIVEN ROWS OF THIS SEAT. 10 by the template 'for every input the law returns true; each argument reads behind the call as it read before'; 0 by the template 'total and deterministic' (their statements: YtnnnccibhhnbaaaTotals.lean).
  GIVEN WITH THE SEED: the statements are not yours to turn. If you find one false, say at which input.
  Laid BY PROGRAM, IN A SANDBOX (cutbox-rows.mjs): the forced cells as the released guide's own fill.sh prints them over the translation 652b7eeb8a138820… (all of the seat's roots in one cut). By AI agents, Wed Nov 11 2026. No macro, syntax, notation, axiom, sorry.
-/
import Derived.Test.YtnnnccibhhnbaaaChecked
import GoSem.Claim
import GoSem.ClaimJoined
import GoSem.ClaimMapViews
import Derived.JoinedTies
import Derived.KernelRfl
namespace Go.Proofs.Ytnnnccibhhnbaaa
/- THE CELL 'sum', in the pinned program and in every row, IS THE sha256 OF THE DUMP (.gsa) THAT YtnnnccibhhnbaaaProg.lean LOADS. Nothing in Lean hashes anything: it is a label: what it is worth is what the hold of that sum in a sandbox is worth. -/
noncomputable def Try.pinned : Pinned := { name := "ytnnnccibhhnbaaa", sum := "652b7eeb8a138820c7050bd0fcfebdd62c9dc1e6b6ea30a0b23ec0c5797c9569", checked := Try.checked }
namespace Rows
def none {H : Type} : Left H := { results := [], args := [] }

/-- 'antecedelaw13.CausalityLeast': WHATEVER THE INPUT: true; the input reads as it did. -/
def causalityLeastSpec : ChangeSpec := { name := "causalityLeast", fn := fun _ => fun
  | [d] => { results := [.lit (.bool true)], args := [d] }
  | _ => none }
def causalityLeastRow : OpenClaim := { program := "ytnnnccibhhnbaaa", sum := "652b7eeb8a138820c7050bd0fcfebdd62c9dc1e6b6ea30a0b23ec0c5797c9569", func := "antecede/antecedelaw13.CausalityLeast", spec := "causalityLeast", unfollowed := true, recurses := true, plainKeys := false, apart := false }
def CausalityLeastSaid : Prop := causalityLeastRow.holds Try.pinned (OpenSpec.ofChange causalityLeastSpec)

/-- ITS FALSE NEIGHBOUR: 'it returns false'. Refute it at one input. -/
def causalityLeastWrong : ChangeSpec := { name := "causalityLeast", fn := fun _ => fun
  | [d] => { results := [.lit (.bool false)], args := [d] }
  | _ => none }
def CausalityLeastWrongFalsely : Prop := causalityLeastRow.holds Try.pinned (OpenSpec.ofChange causalityLeastWrong)

/-- 'antecedelaw13.CausalityPaths': WHATEVER THE INPUT: true; the input reads as it did. -/
def causalityPathsSpec : ChangeSpec := { name := "causalityPaths", fn := fun _ => fun
  | [d1, d2, d3] => { results := [.lit (.bool true)], args := [d1, d2, d3] }
  | _ => none }
def causalityPathsRow : OpenClaim := { program := "ytnnnccibhhnbaaa", sum := "652b7eeb8a138820c7050bd0fcfebdd62c9dc1e6b6ea30a0b23ec0c5797c9569", func := "antecede/antecedelaw13.CausalityPaths", spec := "causalityPaths", unfollowed := true, recurses := true, plainKeys := false, apart := false }
def CausalityPathsSaid : Prop := causalityPathsRow.holds Try.pinned (OpenSpec.ofChange causalityPathsSpec)

/-- ITS FALSE NEIGHBOUR: 'it returns false'. Refute it at one input. -/
def causalityPathsWrong : ChangeSpec := { name := "causalityPaths", fn := fun _ => fun
  | [d1, d2, d3] => { results := [.lit (.bool false)], args := [d1, d2, d3] }
  | _ => none }
def CausalityPathsWrongFalsely : Prop := causalityPathsRow.holds Try.pinned (OpenSpec.ofChange causalityPathsWrong)

/-- 'antecedelaw13.CausalityQuestions': WHATEVER THE INPUT: true; the input reads as it did. -/
def causalityQuestionsSpec : ChangeSpec := { name := "causalityQuestions", fn := fun _ => fun
  | [d1, d2, d3] => { results := [.lit (.bool true)], args := [d1, d2, d3] }
  | _ => none }
def causalityQuestionsRow : OpenClaim := { program := "ytnnnccibhhnbaaa", sum := "652b7eeb8a138820c7050bd0fcfebdd62c9dc1e6b6ea30a0b23ec0c5797c9569", func := "antecede/antecedelaw13.CausalityQuestions", spec := "causalityQuestions", unfollowed := true, recurses := true, plainKeys := false, apart := false }
def CausalityQuestionsSaid : Prop := causalityQuestionsRow.holds Try.pinned (OpenSpec.ofChange causalityQuestionsSpec)

/-- ITS FALSE NEIGHBOUR: 'it returns false'. Refute it at one input. -/
def causalityQuestionsWrong : ChangeSpec := { name := "causalityQuestions", fn := fun _ => fun
  | [d1, d2, d3] => { results := [.lit (.bool false)], args := [d1, d2, d3] }
  | _ => none }
def CausalityQuestionsWrongFalsely : Prop := causalityQuestionsRow.holds Try.pinned (OpenSpec.ofChange causalityQuestionsWrong)

/-- 'antecedelaw13.CausalityNumbers': WHATEVER THE INPUT: true; the input reads as it did. -/
def causalityNumbersSpec : ChangeSpec := { name := "causalityNumbers", fn := fun _ => fun
  | [d1, d2, d3] => { results := [.lit (.bool true)], args := [d1, d2, d3] }
  | _ => none }
def causalityNumbersRow : OpenClaim := { program := "ytnnnccibhhnbaaa", sum := "652b7eeb8a138820c7050bd0fcfebdd62c9dc1e6b6ea30a0b23ec0c5797c9569", func := "antecede/antecedelaw13.CausalityNumbers", spec := "causalityNumbers", unfollowed := true, recurses := true, plainKeys := false, apart := false }
def CausalityNumbersSaid : Prop := causalityNumbersRow.holds Try.pinned (OpenSpec.ofChange causalityNumbersSpec)

/-- ITS FALSE NEIGHBOUR: 'it returns false'. Refute it at one input. -/
def causalityNumbersWrong : ChangeSpec := { name := "causalityNumbers", fn := fun _ => fun
  | [d1, d2, d3] => { results := [.lit (.bool false)], args := [d1, d2, d3] }
  | _ => none }
def CausalityNumbersWrongFalsely : Prop := causalityNumbersRow.holds Try.pinned (OpenSpec.ofChange causalityNumbersWrong)

/-- 'antecedelaw12.TraceParts': WHATEVER THE INPUT: true; the input reads as it did. -/
def tracePartsSpec : ChangeSpec := { name := "traceParts", fn := fun _ => fun
  | [d1, d2, d3] => { results := [.lit (.bool true)], args := [d1, d2, d3] }
  | _ => none }
def tracePartsRow : OpenClaim := { program := "ytnnnccibhhnbaaa", sum := "652b7eeb8a138820c7050bd0fcfebdd62c9dc1e6b6ea30a0b23ec0c5797c9569", func := "antecede/antecedelaw12.TraceParts", spec := "traceParts", unfollowed := true, recurses := true, plainKeys := false, apart := false }
def TracePartsSaid : Prop := tracePartsRow.holds Try.pinned (OpenSpec.ofChange tracePartsSpec)

/-- ITS FALSE NEIGHBOUR: 'it returns false'. Refute it at one input. -/
def tracePartsWrong : ChangeSpec := { name := "traceParts", fn := fun _ => fun
  | [d1, d2, d3] => { results := [.lit (.bool false)], args := [d1, d2, d3] }
  | _ => none }
def TracePartsWrongFalsely : Prop := tracePartsRow.holds Try.pinned (OpenSpec.ofChange tracePartsWrong)

/-- 'antecedelaw18.PlausibleCompares': WHATEVER THE INPUT: true; the input reads as it did. -/
def plausibleComparesSpec : ChangeSpec := { name := "plausibleCompares", fn := fun _ => fun
  | [d1, d2] => { results := [.lit (.bool true)], args := [d1, d2] }
  | _ => none }
def plausibleComparesRow : OpenClaim := { program := "ytnnnccibhhnbaaa", sum := "652b7eeb8a138820c7050bd0fcfebdd62c9dc1e6b6ea30a0b23ec0c5797c9569", func := "antecede/antecedelaw18.PlausibleCompares", spec := "plausibleCompares", unfollowed := true, recurses := true, plainKeys := false, apart := false }
def PlausibleComparesSaid : Prop := plausibleComparesRow.holds Try.pinned (OpenSpec.ofChange plausibleComparesSpec)

/-- ITS FALSE NEIGHBOUR: 'it returns false'. Refute it at one input. -/
def plausibleComparesWrong : ChangeSpec := { name := "plausibleCompares", fn := fun _ => fun
  | [d1, d2] => { results := [.lit (.bool false)], args := [d1, d2] }
  | _ => none }
def PlausibleComparesWrongFalsely : Prop := plausibleComparesRow.holds Try.pinned (OpenSpec.ofChange plausibleComparesWrong)

/-- 'antecedelaw18.PlausibleStamps': WHATEVER THE INPUT: true; the input reads as it did. -/
def plausibleStampsSpec : ChangeSpec := { name := "plausibleStamps", fn := fun _ => fun
  | [d1, d2] => { results := [.lit (.bool true)], args := [d1, d2] }
  | _ => none }
def plausibleStampsRow : OpenClaim := { program := "ytnnnccibhhnbaaa", sum := "652b7eeb8a138820c7050bd0fcfebdd62c9dc1e6b6ea30a0b23ec0c5797c9569", func := "antecede/antecedelaw18.PlausibleStamps", spec := "plausibleStamps", unfollowed := true, recurses := true, plainKeys := false, apart := false }
def PlausibleStampsSaid : Prop := plausibleStampsRow.holds Try.pinned (OpenSpec.ofChange plausibleStampsSpec)

/-- ITS FALSE NEIGHBOUR: 'it returns false'. Refute it at one input. -/
def plausibleStampsWrong : ChangeSpec := { name := "plausibleStamps", fn := fun _ => fun
  | [d1, d2] => { results := [.lit (.bool false)], args := [d1, d2] }
  | _ => none }
def PlausibleStampsWrongFalsely : Prop := plausibleStampsRow.holds Try.pinned (OpenSpec.ofChange plausibleStampsWrong)

/-- 'antecedelaw18.PlausibleErrors': WHATEVER THE INPUT: true; the input reads as it did. -/
def plausibleErrorsSpec : ChangeSpec := { name := "plausibleErrors", fn := fun _ => fun
  | [d1, d2] => { results := [.lit (.bool true)], args := [d1, d2] }
  | _ => none }
def plausibleErrorsRow : OpenClaim := { program := "ytnnnccibhhnbaaa", sum := "652b7eeb8a138820c7050bd0fcfebdd62c9dc1e6b6ea30a0b23ec0c5797c9569", func := "antecede/antecedelaw18.PlausibleErrors", spec := "plausibleErrors", unfollowed := true, recurses := true, plainKeys := false, apart := false }
def PlausibleErrorsSaid : Prop := plausibleErrorsRow.holds Try.pinned (OpenSpec.ofChange plausibleErrorsSpec)

/-- ITS FALSE NEIGHBOUR: 'it returns false'. Refute it at one input. -/
def plausibleErrorsWrong : ChangeSpec := { name := "plausibleErrors", fn := fun _ => fun
  | [d1, d2] => { results := [.lit (.bool false)], args := [d1, d2] }
  | _ => none }
def PlausibleErrorsWrongFalsely : Prop := plausibleErrorsRow.holds Try.pinned (OpenSpec.ofChange plausibleErrorsWrong)

/-- 'antecedelaw18.PlausibleExact': WHATEVER THE INPUT: true; the input reads as it did. -/
def plausibleExactSpec : ChangeSpec := { name := "plausibleExact", fn := fun _ => fun
  | [d1, d2] => { results := [.lit (.bool true)], args := [d1, d2] }
  | _ => none }
def plausibleExactRow : OpenClaim := { program := "ytnnnccibhhnbaaa", sum := "652b7eeb8a138820c7050bd0fcfebdd62c9dc1e6b6ea30a0b23ec0c5797c9569", func := "antecede/antecedelaw18.PlausibleExact", spec := "plausibleExact", unfollowed := true, recurses := true, plainKeys := false, apart := false }
def PlausibleExactSaid : Prop := plausibleExactRow.holds Try.pinned (OpenSpec.ofChange plausibleExactSpec)

/-- ITS FALSE NEIGHBOUR: 'it returns false'. Refute it at one input. -/
def plausibleExactWrong : ChangeSpec := { name := "plausibleExact", fn := fun _ => fun
  | [d1, d2] => { results := [.lit (.bool false)], args := [d1, d2] }
  | _ => none }
def PlausibleExactWrongFalsely : Prop := plausibleExactRow.holds Try.pinned (OpenSpec.ofChange plausibleExactWrong)

/-- 'antecedelaw18.PlausibleLamport': WHATEVER THE INPUT: true; the input reads as it did. -/
def plausibleLamportSpec : ChangeSpec := { name := "plausibleLamport", fn := fun _ => fun
  | [d] => { results := [.lit (.bool true)], args := [d] }
  | _ => none }
def plausibleLamportRow : OpenClaim := { program := "ytnnnccibhhnbaaa", sum := "652b7eeb8a138820c7050bd0fcfebdd62c9dc1e6b6ea30a0b23ec0c5797c9569", func := "antecede/antecedelaw18.PlausibleLamport", spec := "plausibleLamport", unfollowed := true, recurses := true, plainKeys := false, apart := false }
def PlausibleLamportSaid : Prop := plausibleLamportRow.holds Try.pinned (OpenSpec.ofChange plausibleLamportSpec)

/-- ITS FALSE NEIGHBOUR: 'it returns false'. Refute it at one input. -/
def plausibleLamportWrong : ChangeSpec := { name := "plausibleLamport", fn := fun _ => fun
  | [d] => { results := [.lit (.bool false)], args := [d] }
  | _ => none }
def PlausibleLamportWrongFalsely : Prop := plausibleLamportRow.holds Try.pinned (OpenSpec.ofChange plausibleLamportWrong)

/- THE SECOND FORM. 'bulk': how many values and letters a reading holds, each counted each time it is reached (what is shared counts as often as it is met; a slice's spare places count too). A statement '..UptoSaid' is the law's where the arguments, and the package variables that the reading takes, are together of bulk at most 1048576: NARROWER than '..Said'. Prove '..Said' where nothing that the law and all that it calls make is longer than what came in: it says more and counts as full. Else prove '..UptoSaid'. A law counts once. -/
mutual
def uptoBulk {H : Type} : DataW H → Nat
  | .lit (.string bytes) => bytes.length + 1
  | .lit _ => 1
  | .nil => 1
  | .ptr d => uptoBulk d + 1
  | .slice elems spare => uptoBulkAll elems + uptoBulkAll spare + 1
  | .agg parts => uptoBulkAll parts + 1
  | .iface _ d => uptoBulk d + 1
  | .map entries => uptoBulkEntries entries + 1
  | .held _ => 1
def uptoBulkAll {H : Type} : List (DataW H) → Nat
  | [] => 0
  | d :: r => uptoBulk d + uptoBulkAll r
def uptoBulkEntries {H : Type} : List (Lit × DataW H) → Nat
  | [] => 0
  | x :: r => uptoBulkEntry x + uptoBulkEntries r
def uptoBulkEntry {H : Type} : Lit × DataW H → Nat
  | (.string bytes, d) => bytes.length + uptoBulk d + 1
  | (_, d) => uptoBulk d + 1
 end
def uptoSmall : (H : Type) → List (DataW H) → Bool := fun _ ds => decide (uptoBulkAll ds ≤ 1048576)
def OpenSpec.upto (s : _root_.Go.ChangeSpec) : _root_.Go.OpenSpec := { _root_.Go.OpenSpec.ofChange s with cond := some uptoSmall }

/-- 'antecedelaw13.CausalityLeast', WHERE WHAT IT READS IS OF BULK AT MOST 1048576: true; the input reads as it did. -/
def causalityLeastUptoRow : OpenClaim := { program := "ytnnnccibhhnbaaa", sum := "652b7eeb8a138820c7050bd0fcfebdd62c9dc1e6b6ea30a0b23ec0c5797c9569", func := "antecede/antecedelaw13.CausalityLeast", spec := "causalityLeast", unfollowed := true, recurses := true, plainKeys := false, apart := false, narrowed := true }
def CausalityLeastUptoSaid : Prop := causalityLeastUptoRow.holds Try.pinned (OpenSpec.upto causalityLeastSpec)

/-- 'antecedelaw13.CausalityPaths', WHERE WHAT IT READS IS OF BULK AT MOST 1048576: true; the input reads as it did. -/
def causalityPathsUptoRow : OpenClaim := { program := "ytnnnccibhhnbaaa", sum := "652b7eeb8a138820c7050bd0fcfebdd62c9dc1e6b6ea30a0b23ec0c5797c9569", func := "antecede/antecedelaw13.CausalityPaths", spec := "causalityPaths", unfollowed := true, recurses := true, plainKeys := false, apart := false, narrowed := true }
def CausalityPathsUptoSaid : Prop := causalityPathsUptoRow.holds Try.pinned (OpenSpec.upto causalityPathsSpec)

/-- 'antecedelaw13.CausalityQuestions', WHERE WHAT IT READS IS OF BULK AT MOST 1048576: true; the input reads as it did. -/
def causalityQuestionsUptoRow : OpenClaim := { program := "ytnnnccibhhnbaaa", sum := "652b7eeb8a138820c7050bd0fcfebdd62c9dc1e6b6ea30a0b23ec0c5797c9569", func := "antecede/antecedelaw13.CausalityQuestions", spec := "causalityQuestions", unfollowed := true, recurses := true, plainKeys := false, apart := false, narrowed := true }
def CausalityQuestionsUptoSaid : Prop := causalityQuestionsUptoRow.holds Try.pinned (OpenSpec.upto causalityQuestionsSpec)

/-- 'antecedelaw13.CausalityNumbers', WHERE WHAT IT READS IS OF BULK AT MOST 1048576: true; the input reads as it did. -/
def causalityNumbersUptoRow : OpenClaim := { program := "ytnnnccibhhnbaaa", sum := "652b7eeb8a138820c7050bd0fcfebdd62c9dc1e6b6ea30a0b23ec0c5797c9569", func := "antecede/antecedelaw13.CausalityNumbers", spec := "causalityNumbers", unfollowed := true, recurses := true, plainKeys := false, apart := false, narrowed := true }
def CausalityNumbersUptoSaid : Prop := causalityNumbersUptoRow.holds Try.pinned (OpenSpec.upto causalityNumbersSpec)

/-- 'antecedelaw12.TraceParts', WHERE WHAT IT READS IS OF BULK AT MOST 1048576: true; the input reads as it did. -/
def tracePartsUptoRow : OpenClaim := { program := "ytnnnccibhhnbaaa", sum := "652b7eeb8a138820c7050bd0fcfebdd62c9dc1e6b6ea30a0b23ec0c5797c9569", func := "antecede/antecedelaw12.TraceParts", spec := "traceParts", unfollowed := true, recurses := true, plainKeys := false, apart := false, narrowed := true }
def TracePartsUptoSaid : Prop := tracePartsUptoRow.holds Try.pinned (OpenSpec.upto tracePartsSpec)

/-- 'antecedelaw18.PlausibleCompares', WHERE WHAT IT READS IS OF BULK AT MOST 1048576: true; the input reads as it did. -/
def plausibleComparesUptoRow : OpenClaim := { program := "ytnnnccibhhnbaaa", sum := "652b7eeb8a138820c7050bd0fcfebdd62c9dc1e6b6ea30a0b23ec0c5797c9569", func := "antecede/antecedelaw18.PlausibleCompares", spec := "plausibleCompares", unfollowed := true, recurses := true, plainKeys := false, apart := false, narrowed := true }
def PlausibleComparesUptoSaid : Prop := plausibleComparesUptoRow.holds Try.pinned (OpenSpec.upto plausibleComparesSpec)

/-- 'antecedelaw18.PlausibleStamps', WHERE WHAT IT READS IS OF BULK AT MOST 1048576: true; the input reads as it did. -/
def plausibleStampsUptoRow : OpenClaim := { program := "ytnnnccibhhnbaaa", sum := "652b7eeb8a138820c7050bd0fcfebdd62c9dc1e6b6ea30a0b23ec0c5797c9569", func := "antecede/antecedelaw18.PlausibleStamps", spec := "plausibleStamps", unfollowed := true, recurses := true, plainKeys := false, apart := false, narrowed := true }
def PlausibleStampsUptoSaid : Prop := plausibleStampsUptoRow.holds Try.pinned (OpenSpec.upto plausibleStampsSpec)

/-- 'antecedelaw18.PlausibleErrors', WHERE WHAT IT READS IS OF BULK AT MOST 1048576: true; the input reads as it did. -/
def plausibleErrorsUptoRow : OpenClaim := { program := "ytnnnccibhhnbaaa", sum := "652b7eeb8a138820c7050bd0fcfebdd62c9dc1e6b6ea30a0b23ec0c5797c9569", func := "antecede/antecedelaw18.PlausibleErrors", spec := "plausibleErrors", unfollowed := true, recurses := true, plainKeys := false, apart := false, narrowed := true }
def PlausibleErrorsUptoSaid : Prop := plausibleErrorsUptoRow.holds Try.pinned (OpenSpec.upto plausibleErrorsSpec)

/-- 'antecedelaw18.PlausibleExact', WHERE WHAT IT READS IS OF BULK AT MOST 1048576: true; the input reads as it did. -/
def plausibleExactUptoRow : OpenClaim := { program := "ytnnnccibhhnbaaa", sum := "652b7eeb8a138820c7050bd0fcfebdd62c9dc1e6b6ea30a0b23ec0c5797c9569", func := "antecede/antecedelaw18.PlausibleExact", spec := "plausibleExact", unfollowed := true, recurses := true, plainKeys := false, apart := false, narrowed := true }
def PlausibleExactUptoSaid : Prop := plausibleExactUptoRow.holds Try.pinned (OpenSpec.upto plausibleExactSpec)

/-- 'antecedelaw18.PlausibleLamport', WHERE WHAT IT READS IS OF BULK AT MOST 1048576: true; the input reads as it did. -/
def plausibleLamportUptoRow : OpenClaim := { program := "ytnnnccibhhnbaaa", sum := "652b7eeb8a138820c7050bd0fcfebdd62c9dc1e6b6ea30a0b23ec0c5797c9569", func := "antecede/antecedelaw18.PlausibleLamport", spec := "plausibleLamport", unfollowed := true, recurses := true, plainKeys := false, apart := false, narrowed := true }
def PlausibleLamportUptoSaid : Prop := plausibleLamportUptoRow.holds Try.pinned (OpenSpec.upto plausibleLamportSpec)

end Rows
end Go.Proofs.Ytnnnccibhhnbaaa
