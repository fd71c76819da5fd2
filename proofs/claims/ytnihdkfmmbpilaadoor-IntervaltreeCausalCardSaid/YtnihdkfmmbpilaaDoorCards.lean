/-
  DERIVED. GIVEN WITH THE SEED: THE CARDS: each row of YtnihdkfmmbpilaaDoorRows.lean that lists a variable, with what it lists TIED to the program's text (the seventh form; the later family's looks); each row that meets fmt, with fmt's text TOLD by the authors' own Lean function (tested against real Go, not proved from fmt's source: count such statements apart). THE CARD IS WHAT COUNTS. Prove the row's statement (the work); the ties are given (YtnihdkfmmbpilaaDoorTie.lean); close each card by the builder's one call (the guide's Derived/Test/ToyasCard.lean, 'card_holds'). Laid BY PROGRAM, IN A SANDBOX (cutbox-door.mjs). By AI agents, Wed Nov 11 2026. No macro, syntax, notation, axiom, sorry.
-/
import Derived.Test.YtnihdkfmmbpilaaDoorRows
import GoSem.ClaimSeven
namespace Go.Proofs.YtnihdkfmmbpilaaDoor
namespace Rows

/-- THE TIED CARD OF 'antecedelaw18.PlausibleChecks'. -/
def plausibleChecksCard : Claim7 := { stood := { row := plausibleChecksRow, standIns := [], harness := (true, "581fa603ebea3f379f761ae78f6fdf3342efd9fa757a1808a990280fc79ba8bb"), looks := false }, kinds := [], alts := [], laidByText := true, laidKinds := [.data], laidTests := true, laidLooks := .later }
def PlausibleChecksCardSaid : Prop := Claim7.holds Tryd.pinned (.plain (OpenSpec.ofChange plausibleChecksSpec)) plausibleChecksCard

/-- THE TIED CARD OF 'antecedelaw17.IntervaltreeCausal'. -/
def intervaltreeCausalCard : Claim7 := { stood := { row := intervaltreeCausalRow, standIns := [], harness := (true, "581fa603ebea3f379f761ae78f6fdf3342efd9fa757a1808a990280fc79ba8bb"), looks := false }, kinds := [], alts := [], laidByText := true, laidKinds := [.data, .data, .data], laidTests := true, laidLooks := .later }
def IntervaltreeCausalCardSaid : Prop := Claim7.holds Tryd.pinned (.plain (OpenSpec.ofChange intervaltreeCausalSpec)) intervaltreeCausalCard

/-- THE TIED CARD OF 'antecedelaw18.PlausibleKeeps'. -/
def plausibleKeepsCard : Claim7 := { stood := { row := plausibleKeepsRow, standIns := [], harness := (true, "581fa603ebea3f379f761ae78f6fdf3342efd9fa757a1808a990280fc79ba8bb"), looks := false }, kinds := [], alts := [], laidByText := true, laidKinds := [.data], laidTests := true, laidLooks := .later }
def PlausibleKeepsCardSaid : Prop := Claim7.holds Tryd.pinned (.plain (OpenSpec.ofChange plausibleKeepsSpec)) plausibleKeepsCard

/-- THE SECOND FORM's CARD OF 'antecedelaw18.PlausibleChecks'. -/
def plausibleChecksUptoCard : Claim7 := { stood := { row := plausibleChecksUptoRow, standIns := [], harness := (true, "581fa603ebea3f379f761ae78f6fdf3342efd9fa757a1808a990280fc79ba8bb"), looks := false }, kinds := [], alts := [], laidByText := true, laidKinds := [.data], laidTests := true, laidLooks := .later }
def PlausibleChecksUptoCardSaid : Prop := Claim7.holds Tryd.pinned (.plain (OpenSpec.upto plausibleChecksSpec)) plausibleChecksUptoCard

/-- THE SECOND FORM's CARD OF 'antecedelaw17.IntervaltreeCausal'. -/
def intervaltreeCausalUptoCard : Claim7 := { stood := { row := intervaltreeCausalUptoRow, standIns := [], harness := (true, "581fa603ebea3f379f761ae78f6fdf3342efd9fa757a1808a990280fc79ba8bb"), looks := false }, kinds := [], alts := [], laidByText := true, laidKinds := [.data, .data, .data], laidTests := true, laidLooks := .later }
def IntervaltreeCausalUptoCardSaid : Prop := Claim7.holds Tryd.pinned (.plain (OpenSpec.upto intervaltreeCausalSpec)) intervaltreeCausalUptoCard

/-- THE SECOND FORM's CARD OF 'antecedelaw18.PlausibleKeeps'. -/
def plausibleKeepsUptoCard : Claim7 := { stood := { row := plausibleKeepsUptoRow, standIns := [], harness := (true, "581fa603ebea3f379f761ae78f6fdf3342efd9fa757a1808a990280fc79ba8bb"), looks := false }, kinds := [], alts := [], laidByText := true, laidKinds := [.data], laidTests := true, laidLooks := .later }
def PlausibleKeepsUptoCardSaid : Prop := Claim7.holds Tryd.pinned (.plain (OpenSpec.upto plausibleKeepsSpec)) plausibleKeepsUptoCard
end Rows
end Go.Proofs.YtnihdkfmmbpilaaDoor
