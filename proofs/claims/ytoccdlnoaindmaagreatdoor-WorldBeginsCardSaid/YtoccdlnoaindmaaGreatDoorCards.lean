/-
  DERIVED. GIVEN WITH THE SEED: THE CARDS: each row of YtoccdlnoaindmaaGreatDoorRows.lean that lists a variable, with what it lists TIED to the program's text (the seventh form; the later family's looks); each row that meets fmt, with fmt's text TOLD by the authors' own Lean function (tested against real Go, not proved from fmt's source: count such statements apart). THE CARD IS WHAT COUNTS. Prove the row's statement (the work); the ties are given (YtoccdlnoaindmaaGreatDoorTie.lean); close each card by the builder's one call (the guide's Derived/Test/ToyasCard.lean, 'card_holds'). Laid BY PROGRAM, IN A SANDBOX (cutbox-door.mjs). By AI agents, Wed Nov 11 2026. No macro, syntax, notation, axiom, sorry.
-/
import Derived.Test.YtoccdlnoaindmaaGreatDoorRows
import GoSem.ClaimSeven
namespace Go.Proofs.YtoccdlnoaindmaaGreatDoor
namespace Rows

/-- THE TIED CARD OF 'antecedelaw54.WorldBegins'. -/
def worldBeginsCard : Claim7 := { stood := { row := worldBeginsRow, standIns := [], harness := (true, "2348d9e42ed7d5e4bbd84abb8d2bc1676560508f52ed12e25bad25afbef181ea"), looks := false }, kinds := [], alts := [], laidByText := true, laidKinds := [.data, .data, .data], laidTests := true, laidLooks := .later }
def WorldBeginsCardSaid : Prop := Claim7.holds Tryz.pinned (.plain (OpenSpec.ofChange worldBeginsSpec)) worldBeginsCard

/-- THE TIED CARD OF 'antecedelaw54.WorldRuns'. -/
def worldRunsCard : Claim7 := { stood := { row := worldRunsRow, standIns := [], harness := (true, "2348d9e42ed7d5e4bbd84abb8d2bc1676560508f52ed12e25bad25afbef181ea"), looks := false }, kinds := [], alts := [], laidByText := true, laidKinds := [.data, .data, .data], laidTests := true, laidLooks := .later }
def WorldRunsCardSaid : Prop := Claim7.holds Tryz.pinned (.plain (OpenSpec.ofChange worldRunsSpec)) worldRunsCard

/-- THE TIED CARD OF 'antecedelaw54.WorldApart'. -/
def worldApartCard : Claim7 := { stood := { row := worldApartRow, standIns := [], harness := (true, "2348d9e42ed7d5e4bbd84abb8d2bc1676560508f52ed12e25bad25afbef181ea"), looks := false }, kinds := [], alts := [], laidByText := true, laidKinds := [.data, .data, .data], laidTests := true, laidLooks := .later }
def WorldApartCardSaid : Prop := Claim7.holds Tryz.pinned (.plain (OpenSpec.ofChange worldApartSpec)) worldApartCard

/-- THE TIED CARD OF 'antecedelaw54.WorldClocks'. -/
def worldClocksCard : Claim7 := { stood := { row := worldClocksRow, standIns := [], harness := (true, "2348d9e42ed7d5e4bbd84abb8d2bc1676560508f52ed12e25bad25afbef181ea"), looks := false }, kinds := [], alts := [], laidByText := true, laidKinds := [.data, .data, .data], laidTests := true, laidLooks := .later }
def WorldClocksCardSaid : Prop := Claim7.holds Tryz.pinned (.plain (OpenSpec.ofChange worldClocksSpec)) worldClocksCard

/-- THE TIED CARD OF 'antecedelaw54.WorldSteps'. -/
def worldStepsCard : Claim7 := { stood := { row := worldStepsRow, standIns := [], harness := (true, "2348d9e42ed7d5e4bbd84abb8d2bc1676560508f52ed12e25bad25afbef181ea"), looks := false }, kinds := [], alts := [], laidByText := true, laidKinds := [.data, .data, .data], laidTests := true, laidLooks := .later }
def WorldStepsCardSaid : Prop := Claim7.holds Tryz.pinned (.plain (OpenSpec.ofChange worldStepsSpec)) worldStepsCard

/-- THE TIED CARD OF 'antecedelaw54.WorldMessages'. -/
def worldMessagesCard : Claim7 := { stood := { row := worldMessagesRow, standIns := [], harness := (true, "2348d9e42ed7d5e4bbd84abb8d2bc1676560508f52ed12e25bad25afbef181ea"), looks := false }, kinds := [], alts := [], laidByText := true, laidKinds := [.data, .data, .data], laidTests := true, laidLooks := .later }
def WorldMessagesCardSaid : Prop := Claim7.holds Tryz.pinned (.plain (OpenSpec.ofChange worldMessagesSpec)) worldMessagesCard

/-- THE TIED CARD OF 'antecedelaw54.WorldValid'. -/
def worldValidCard : Claim7 := { stood := { row := worldValidRow, standIns := [], harness := (true, "2348d9e42ed7d5e4bbd84abb8d2bc1676560508f52ed12e25bad25afbef181ea"), looks := false }, kinds := [], alts := [], laidByText := true, laidKinds := [.data, .data, .data], laidTests := true, laidLooks := .later }
def WorldValidCardSaid : Prop := Claim7.holds Tryz.pinned (.plain (OpenSpec.ofChange worldValidSpec)) worldValidCard

/-- THE TIED CARD OF 'antecedelaw54.WorldFifo'. -/
def worldFifoCard : Claim7 := { stood := { row := worldFifoRow, standIns := [], harness := (true, "2348d9e42ed7d5e4bbd84abb8d2bc1676560508f52ed12e25bad25afbef181ea"), looks := false }, kinds := [], alts := [], laidByText := true, laidKinds := [.data, .data, .data], laidTests := true, laidLooks := .later }
def WorldFifoCardSaid : Prop := Claim7.holds Tryz.pinned (.plain (OpenSpec.ofChange worldFifoSpec)) worldFifoCard

/-- THE SECOND FORM's CARD OF 'antecedelaw54.WorldBegins'. -/
def worldBeginsUptoCard : Claim7 := { stood := { row := worldBeginsUptoRow, standIns := [], harness := (true, "2348d9e42ed7d5e4bbd84abb8d2bc1676560508f52ed12e25bad25afbef181ea"), looks := false }, kinds := [], alts := [], laidByText := true, laidKinds := [.data, .data, .data], laidTests := true, laidLooks := .later }
def WorldBeginsUptoCardSaid : Prop := Claim7.holds Tryz.pinned (.plain (OpenSpec.upto worldBeginsSpec)) worldBeginsUptoCard

/-- THE SECOND FORM's CARD OF 'antecedelaw54.WorldRuns'. -/
def worldRunsUptoCard : Claim7 := { stood := { row := worldRunsUptoRow, standIns := [], harness := (true, "2348d9e42ed7d5e4bbd84abb8d2bc1676560508f52ed12e25bad25afbef181ea"), looks := false }, kinds := [], alts := [], laidByText := true, laidKinds := [.data, .data, .data], laidTests := true, laidLooks := .later }
def WorldRunsUptoCardSaid : Prop := Claim7.holds Tryz.pinned (.plain (OpenSpec.upto worldRunsSpec)) worldRunsUptoCard

/-- THE SECOND FORM's CARD OF 'antecedelaw54.WorldApart'. -/
def worldApartUptoCard : Claim7 := { stood := { row := worldApartUptoRow, standIns := [], harness := (true, "2348d9e42ed7d5e4bbd84abb8d2bc1676560508f52ed12e25bad25afbef181ea"), looks := false }, kinds := [], alts := [], laidByText := true, laidKinds := [.data, .data, .data], laidTests := true, laidLooks := .later }
def WorldApartUptoCardSaid : Prop := Claim7.holds Tryz.pinned (.plain (OpenSpec.upto worldApartSpec)) worldApartUptoCard

/-- THE SECOND FORM's CARD OF 'antecedelaw54.WorldClocks'. -/
def worldClocksUptoCard : Claim7 := { stood := { row := worldClocksUptoRow, standIns := [], harness := (true, "2348d9e42ed7d5e4bbd84abb8d2bc1676560508f52ed12e25bad25afbef181ea"), looks := false }, kinds := [], alts := [], laidByText := true, laidKinds := [.data, .data, .data], laidTests := true, laidLooks := .later }
def WorldClocksUptoCardSaid : Prop := Claim7.holds Tryz.pinned (.plain (OpenSpec.upto worldClocksSpec)) worldClocksUptoCard

/-- THE SECOND FORM's CARD OF 'antecedelaw54.WorldSteps'. -/
def worldStepsUptoCard : Claim7 := { stood := { row := worldStepsUptoRow, standIns := [], harness := (true, "2348d9e42ed7d5e4bbd84abb8d2bc1676560508f52ed12e25bad25afbef181ea"), looks := false }, kinds := [], alts := [], laidByText := true, laidKinds := [.data, .data, .data], laidTests := true, laidLooks := .later }
def WorldStepsUptoCardSaid : Prop := Claim7.holds Tryz.pinned (.plain (OpenSpec.upto worldStepsSpec)) worldStepsUptoCard

/-- THE SECOND FORM's CARD OF 'antecedelaw54.WorldMessages'. -/
def worldMessagesUptoCard : Claim7 := { stood := { row := worldMessagesUptoRow, standIns := [], harness := (true, "2348d9e42ed7d5e4bbd84abb8d2bc1676560508f52ed12e25bad25afbef181ea"), looks := false }, kinds := [], alts := [], laidByText := true, laidKinds := [.data, .data, .data], laidTests := true, laidLooks := .later }
def WorldMessagesUptoCardSaid : Prop := Claim7.holds Tryz.pinned (.plain (OpenSpec.upto worldMessagesSpec)) worldMessagesUptoCard

/-- THE SECOND FORM's CARD OF 'antecedelaw54.WorldValid'. -/
def worldValidUptoCard : Claim7 := { stood := { row := worldValidUptoRow, standIns := [], harness := (true, "2348d9e42ed7d5e4bbd84abb8d2bc1676560508f52ed12e25bad25afbef181ea"), looks := false }, kinds := [], alts := [], laidByText := true, laidKinds := [.data, .data, .data], laidTests := true, laidLooks := .later }
def WorldValidUptoCardSaid : Prop := Claim7.holds Tryz.pinned (.plain (OpenSpec.upto worldValidSpec)) worldValidUptoCard

/-- THE SECOND FORM's CARD OF 'antecedelaw54.WorldFifo'. -/
def worldFifoUptoCard : Claim7 := { stood := { row := worldFifoUptoRow, standIns := [], harness := (true, "2348d9e42ed7d5e4bbd84abb8d2bc1676560508f52ed12e25bad25afbef181ea"), looks := false }, kinds := [], alts := [], laidByText := true, laidKinds := [.data, .data, .data], laidTests := true, laidLooks := .later }
def WorldFifoUptoCardSaid : Prop := Claim7.holds Tryz.pinned (.plain (OpenSpec.upto worldFifoSpec)) worldFifoUptoCard
end Rows
end Go.Proofs.YtoccdlnoaindmaaGreatDoor
