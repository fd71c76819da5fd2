/-
  DERIVED. GIVEN WITH THE SEED: THE CARDS: each row of YtadnnjchehjbiaaGreatDoorRows.lean that lists a variable, with what it lists TIED to the program's text (the seventh form; the later family's looks); each row that meets fmt, with fmt's text TOLD by the authors' own Lean function (tested against real Go, not proved from fmt's source: count such statements apart). THE CARD IS WHAT COUNTS. Prove the row's statement (the work); the ties are given (YtadnnjchehjbiaaGreatDoorTie.lean); close each card by the builder's one call (the guide's Derived/Test/ToyasCard.lean, 'card_holds'). Laid BY PROGRAM, IN A SANDBOX (cutbox-door.mjs). By AI agents, Wed Nov 11 2026. No macro, syntax, notation, axiom, sorry.
-/
import Derived.Test.YtadnnjchehjbiaaGreatDoorRows
import GoSem.ClaimSeven
namespace Go.Proofs.YtadnnjchehjbiaaGreatDoor
namespace Rows

/-- THE TIED CARD OF 'antecedelaw54.WorldMessages'. -/
def worldMessagesCard : Claim7 := { stood := { row := worldMessagesRow, standIns := [], harness := (true, "97604ce3b4a57394f7882f94345eb284a4784d50b0bf340dee66f90a501d4b9a"), looks := false }, kinds := [], alts := [], laidByText := true, laidKinds := [.data, .data, .data], laidTests := true, laidLooks := .later }
def WorldMessagesCardSaid : Prop := Claim7.holds Tryz.pinned (.plain (OpenSpec.ofChange worldMessagesSpec)) worldMessagesCard

/-- THE TIED CARD OF 'antecedelaw54.WorldValid'. -/
def worldValidCard : Claim7 := { stood := { row := worldValidRow, standIns := [], harness := (true, "97604ce3b4a57394f7882f94345eb284a4784d50b0bf340dee66f90a501d4b9a"), looks := false }, kinds := [], alts := [], laidByText := true, laidKinds := [.data, .data, .data], laidTests := true, laidLooks := .later }
def WorldValidCardSaid : Prop := Claim7.holds Tryz.pinned (.plain (OpenSpec.ofChange worldValidSpec)) worldValidCard

/-- THE TIED CARD OF 'antecedelaw54.WorldFifo'. -/
def worldFifoCard : Claim7 := { stood := { row := worldFifoRow, standIns := [], harness := (true, "97604ce3b4a57394f7882f94345eb284a4784d50b0bf340dee66f90a501d4b9a"), looks := false }, kinds := [], alts := [], laidByText := true, laidKinds := [.data, .data, .data], laidTests := true, laidLooks := .later }
def WorldFifoCardSaid : Prop := Claim7.holds Tryz.pinned (.plain (OpenSpec.ofChange worldFifoSpec)) worldFifoCard

/-- THE SECOND FORM's CARD OF 'antecedelaw54.WorldMessages'. -/
def worldMessagesUptoCard : Claim7 := { stood := { row := worldMessagesUptoRow, standIns := [], harness := (true, "97604ce3b4a57394f7882f94345eb284a4784d50b0bf340dee66f90a501d4b9a"), looks := false }, kinds := [], alts := [], laidByText := true, laidKinds := [.data, .data, .data], laidTests := true, laidLooks := .later }
def WorldMessagesUptoCardSaid : Prop := Claim7.holds Tryz.pinned (.plain (OpenSpec.upto worldMessagesSpec)) worldMessagesUptoCard

/-- THE SECOND FORM's CARD OF 'antecedelaw54.WorldValid'. -/
def worldValidUptoCard : Claim7 := { stood := { row := worldValidUptoRow, standIns := [], harness := (true, "97604ce3b4a57394f7882f94345eb284a4784d50b0bf340dee66f90a501d4b9a"), looks := false }, kinds := [], alts := [], laidByText := true, laidKinds := [.data, .data, .data], laidTests := true, laidLooks := .later }
def WorldValidUptoCardSaid : Prop := Claim7.holds Tryz.pinned (.plain (OpenSpec.upto worldValidSpec)) worldValidUptoCard

/-- THE SECOND FORM's CARD OF 'antecedelaw54.WorldFifo'. -/
def worldFifoUptoCard : Claim7 := { stood := { row := worldFifoUptoRow, standIns := [], harness := (true, "97604ce3b4a57394f7882f94345eb284a4784d50b0bf340dee66f90a501d4b9a"), looks := false }, kinds := [], alts := [], laidByText := true, laidKinds := [.data, .data, .data], laidTests := true, laidLooks := .later }
def WorldFifoUptoCardSaid : Prop := Claim7.holds Tryz.pinned (.plain (OpenSpec.upto worldFifoSpec)) worldFifoUptoCard
end Rows
end Go.Proofs.YtadnnjchehjbiaaGreatDoor
