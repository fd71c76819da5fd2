/-
  DERIVED. GIVEN WITH THE SEED: THE CARDS: each row of YtmaokjojbjdpoaaGreatDoorRows.lean that lists a variable, with what it lists TIED to the program's text (the seventh form; the later family's looks); each row that meets fmt, with fmt's text TOLD by the authors' own Lean function (tested against real Go, not proved from fmt's source: count such statements apart). THE CARD IS WHAT COUNTS. Prove the row's statement (the work); the ties are given (YtmaokjojbjdpoaaGreatDoorTie.lean); close each card by the builder's one call (the guide's Derived/Test/ToyasCard.lean, 'card_holds'). Laid BY PROGRAM, IN A SANDBOX (cutbox-door.mjs). By AI agents, Wed Nov 11 2026. No macro, syntax, notation, axiom, sorry.
-/
import Derived.Test.YtmaokjojbjdpoaaGreatDoorRows
import GoSem.ClaimSeven
namespace Go.Proofs.YtmaokjojbjdpoaaGreatDoor
namespace Rows

/-- THE TIED CARD OF 'antecedelaw54.WorldRuns'. -/
def worldRunsCard : Claim7 := { stood := { row := worldRunsRow, standIns := [], harness := (true, "d30f6cc148fc909d51d1034d5e6f1ec95d970d2638fa0715c4350b4d45469657"), looks := false }, kinds := [], alts := [], laidByText := true, laidKinds := [.data, .data, .data], laidTests := true, laidLooks := .later }
def WorldRunsCardSaid : Prop := Claim7.holds Tryz.pinned (.plain (OpenSpec.ofChange worldRunsSpec)) worldRunsCard

/-- THE TIED CARD OF 'antecedelaw54.WorldApart'. -/
def worldApartCard : Claim7 := { stood := { row := worldApartRow, standIns := [], harness := (true, "d30f6cc148fc909d51d1034d5e6f1ec95d970d2638fa0715c4350b4d45469657"), looks := false }, kinds := [], alts := [], laidByText := true, laidKinds := [.data, .data, .data], laidTests := true, laidLooks := .later }
def WorldApartCardSaid : Prop := Claim7.holds Tryz.pinned (.plain (OpenSpec.ofChange worldApartSpec)) worldApartCard

/-- THE TIED CARD OF 'antecedelaw54.WorldSteps'. -/
def worldStepsCard : Claim7 := { stood := { row := worldStepsRow, standIns := [], harness := (true, "d30f6cc148fc909d51d1034d5e6f1ec95d970d2638fa0715c4350b4d45469657"), looks := false }, kinds := [], alts := [], laidByText := true, laidKinds := [.data, .data, .data], laidTests := true, laidLooks := .later }
def WorldStepsCardSaid : Prop := Claim7.holds Tryz.pinned (.plain (OpenSpec.ofChange worldStepsSpec)) worldStepsCard

/-- THE TIED CARD OF 'antecedelaw54.WorldMessages'. -/
def worldMessagesCard : Claim7 := { stood := { row := worldMessagesRow, standIns := [], harness := (true, "d30f6cc148fc909d51d1034d5e6f1ec95d970d2638fa0715c4350b4d45469657"), looks := false }, kinds := [], alts := [], laidByText := true, laidKinds := [.data, .data, .data], laidTests := true, laidLooks := .later }
def WorldMessagesCardSaid : Prop := Claim7.holds Tryz.pinned (.plain (OpenSpec.ofChange worldMessagesSpec)) worldMessagesCard

/-- THE TIED CARD OF 'antecedelaw54.WorldValid'. -/
def worldValidCard : Claim7 := { stood := { row := worldValidRow, standIns := [], harness := (true, "d30f6cc148fc909d51d1034d5e6f1ec95d970d2638fa0715c4350b4d45469657"), looks := false }, kinds := [], alts := [], laidByText := true, laidKinds := [.data, .data, .data], laidTests := true, laidLooks := .later }
def WorldValidCardSaid : Prop := Claim7.holds Tryz.pinned (.plain (OpenSpec.ofChange worldValidSpec)) worldValidCard

/-- THE TIED CARD OF 'antecedelaw54.WorldFifo'. -/
def worldFifoCard : Claim7 := { stood := { row := worldFifoRow, standIns := [], harness := (true, "d30f6cc148fc909d51d1034d5e6f1ec95d970d2638fa0715c4350b4d45469657"), looks := false }, kinds := [], alts := [], laidByText := true, laidKinds := [.data, .data, .data], laidTests := true, laidLooks := .later }
def WorldFifoCardSaid : Prop := Claim7.holds Tryz.pinned (.plain (OpenSpec.ofChange worldFifoSpec)) worldFifoCard

/-- THE SECOND FORM's CARD OF 'antecedelaw54.WorldRuns'. -/
def worldRunsUptoCard : Claim7 := { stood := { row := worldRunsUptoRow, standIns := [], harness := (true, "d30f6cc148fc909d51d1034d5e6f1ec95d970d2638fa0715c4350b4d45469657"), looks := false }, kinds := [], alts := [], laidByText := true, laidKinds := [.data, .data, .data], laidTests := true, laidLooks := .later }
def WorldRunsUptoCardSaid : Prop := Claim7.holds Tryz.pinned (.plain (OpenSpec.upto worldRunsSpec)) worldRunsUptoCard

/-- THE SECOND FORM's CARD OF 'antecedelaw54.WorldApart'. -/
def worldApartUptoCard : Claim7 := { stood := { row := worldApartUptoRow, standIns := [], harness := (true, "d30f6cc148fc909d51d1034d5e6f1ec95d970d2638fa0715c4350b4d45469657"), looks := false }, kinds := [], alts := [], laidByText := true, laidKinds := [.data, .data, .data], laidTests := true, laidLooks := .later }
def WorldApartUptoCardSaid : Prop := Claim7.holds Tryz.pinned (.plain (OpenSpec.upto worldApartSpec)) worldApartUptoCard

/-- THE SECOND FORM's CARD OF 'antecedelaw54.WorldSteps'. -/
def worldStepsUptoCard : Claim7 := { stood := { row := worldStepsUptoRow, standIns := [], harness := (true, "d30f6cc148fc909d51d1034d5e6f1ec95d970d2638fa0715c4350b4d45469657"), looks := false }, kinds := [], alts := [], laidByText := true, laidKinds := [.data, .data, .data], laidTests := true, laidLooks := .later }
def WorldStepsUptoCardSaid : Prop := Claim7.holds Tryz.pinned (.plain (OpenSpec.upto worldStepsSpec)) worldStepsUptoCard

/-- THE SECOND FORM's CARD OF 'antecedelaw54.WorldMessages'. -/
def worldMessagesUptoCard : Claim7 := { stood := { row := worldMessagesUptoRow, standIns := [], harness := (true, "d30f6cc148fc909d51d1034d5e6f1ec95d970d2638fa0715c4350b4d45469657"), looks := false }, kinds := [], alts := [], laidByText := true, laidKinds := [.data, .data, .data], laidTests := true, laidLooks := .later }
def WorldMessagesUptoCardSaid : Prop := Claim7.holds Tryz.pinned (.plain (OpenSpec.upto worldMessagesSpec)) worldMessagesUptoCard

/-- THE SECOND FORM's CARD OF 'antecedelaw54.WorldValid'. -/
def worldValidUptoCard : Claim7 := { stood := { row := worldValidUptoRow, standIns := [], harness := (true, "d30f6cc148fc909d51d1034d5e6f1ec95d970d2638fa0715c4350b4d45469657"), looks := false }, kinds := [], alts := [], laidByText := true, laidKinds := [.data, .data, .data], laidTests := true, laidLooks := .later }
def WorldValidUptoCardSaid : Prop := Claim7.holds Tryz.pinned (.plain (OpenSpec.upto worldValidSpec)) worldValidUptoCard

/-- THE SECOND FORM's CARD OF 'antecedelaw54.WorldFifo'. -/
def worldFifoUptoCard : Claim7 := { stood := { row := worldFifoUptoRow, standIns := [], harness := (true, "d30f6cc148fc909d51d1034d5e6f1ec95d970d2638fa0715c4350b4d45469657"), looks := false }, kinds := [], alts := [], laidByText := true, laidKinds := [.data, .data, .data], laidTests := true, laidLooks := .later }
def WorldFifoUptoCardSaid : Prop := Claim7.holds Tryz.pinned (.plain (OpenSpec.upto worldFifoSpec)) worldFifoUptoCard
end Rows
end Go.Proofs.YtmaokjojbjdpoaaGreatDoor
