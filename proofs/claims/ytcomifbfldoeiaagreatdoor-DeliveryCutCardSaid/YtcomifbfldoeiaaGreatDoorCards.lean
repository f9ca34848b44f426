/-
  DERIVED. GIVEN WITH THE SEED: THE CARDS: each row of YtcomifbfldoeiaaGreatDoorRows.lean that lists a variable, with what it lists TIED to the program's text (the seventh form; the later family's looks); each row that meets fmt, with fmt's text TOLD by the authors' own Lean function (tested against real Go, not proved from fmt's source: count such statements apart). THE CARD IS WHAT COUNTS. Prove the row's statement (the work); the ties are given (YtcomifbfldoeiaaGreatDoorTie.lean); close each card by the builder's one call (the guide's Derived/Test/ToyasCard.lean, 'card_holds'). Laid BY PROGRAM, IN A SANDBOX (cutbox-door.mjs). By AI agents, Wed Nov 11 2026. No macro, syntax, notation, axiom, sorry.
-/
import Derived.Test.YtcomifbfldoeiaaGreatDoorRows
import GoSem.ClaimSeven
namespace Go.Proofs.YtcomifbfldoeiaaGreatDoor
namespace Rows

/-- THE TIED CARD OF 'timetablelaw42.DeliveryRuns'. -/
def deliveryRunsCard : Claim7 := { stood := { row := deliveryRunsRow, standIns := [], harness := (true, "3b28ac704daf4b12f11ae93fc53b957f9b28cb2ffa9bce6438301c7d3d6c9929"), looks := true }, kinds := [], alts := [], laidByText := true, laidKinds := [.data, .data, .data, .data, .data, .sentinel, .sentinel, .pinned], laidTests := true, laidLooks := .later }
def DeliveryRunsCardSaid : Prop := Claim7.holds Tryz.pinned (.plain (OpenSpec.ofChange deliveryRunsSpec)) deliveryRunsCard

/-- THE TIED CARD OF 'timetablelaw42.DeliveryStates'. -/
def deliveryStatesCard : Claim7 := { stood := { row := deliveryStatesRow, standIns := [], harness := (true, "3b28ac704daf4b12f11ae93fc53b957f9b28cb2ffa9bce6438301c7d3d6c9929"), looks := true }, kinds := [], alts := [], laidByText := true, laidKinds := [.data, .data, .data, .data, .data, .sentinel, .sentinel, .pinned], laidTests := true, laidLooks := .later }
def DeliveryStatesCardSaid : Prop := Claim7.holds Tryz.pinned (.plain (OpenSpec.ofChange deliveryStatesSpec)) deliveryStatesCard

/-- THE TIED CARD OF 'timetablelaw42.DeliveryAtLast'. -/
def deliveryAtLastCard : Claim7 := { stood := { row := deliveryAtLastRow, standIns := [], harness := (true, "3b28ac704daf4b12f11ae93fc53b957f9b28cb2ffa9bce6438301c7d3d6c9929"), looks := true }, kinds := [], alts := [], laidByText := true, laidKinds := [.data, .data, .data, .data, .data, .sentinel, .sentinel, .pinned], laidTests := true, laidLooks := .later }
def DeliveryAtLastCardSaid : Prop := Claim7.holds Tryz.pinned (.plain (OpenSpec.ofChange deliveryAtLastSpec)) deliveryAtLastCard

/-- THE TIED CARD OF 'timetablelaw42.DeliveryCut'. -/
def deliveryCutCard : Claim7 := { stood := { row := deliveryCutRow, standIns := [], harness := (true, "3b28ac704daf4b12f11ae93fc53b957f9b28cb2ffa9bce6438301c7d3d6c9929"), looks := true }, kinds := [], alts := [], laidByText := true, laidKinds := [.data, .data, .data, .data, .data, .sentinel, .sentinel, .pinned], laidTests := true, laidLooks := .later }
def DeliveryCutCardSaid : Prop := Claim7.holds Tryz.pinned (.plain (OpenSpec.ofChange deliveryCutSpec)) deliveryCutCard

/-- THE TIED CARD OF 'timetablelaw42.DeliveryKnown'. -/
def deliveryKnownCard : Claim7 := { stood := { row := deliveryKnownRow, standIns := [], harness := (true, "3b28ac704daf4b12f11ae93fc53b957f9b28cb2ffa9bce6438301c7d3d6c9929"), looks := true }, kinds := [], alts := [], laidByText := true, laidKinds := [.data, .data, .data, .data, .data, .sentinel, .sentinel, .pinned], laidTests := true, laidLooks := .later }
def DeliveryKnownCardSaid : Prop := Claim7.holds Tryz.pinned (.plain (OpenSpec.ofChange deliveryKnownSpec)) deliveryKnownCard

/-- THE TIED CARD OF 'timetablelaw40.FeedSequences'. -/
def feedSequencesCard : Claim7 := { stood := { row := feedSequencesRow, standIns := [], harness := (true, "3b28ac704daf4b12f11ae93fc53b957f9b28cb2ffa9bce6438301c7d3d6c9929"), looks := true }, kinds := [], alts := [], laidByText := true, laidKinds := [.data, .data, .data, .data, .data, .sentinel, .sentinel, .pinned], laidTests := true, laidLooks := .later }
def FeedSequencesCardSaid : Prop := Claim7.holds Tryz.pinned (.plain (OpenSpec.ofChange feedSequencesSpec)) feedSequencesCard

/-- THE TIED CARD OF 'timetablelaw40.FeedHeld'. -/
def feedHeldCard : Claim7 := { stood := { row := feedHeldRow, standIns := [], harness := (true, "3b28ac704daf4b12f11ae93fc53b957f9b28cb2ffa9bce6438301c7d3d6c9929"), looks := true }, kinds := [], alts := [], laidByText := true, laidKinds := [.data, .data, .data, .data, .data, .sentinel, .sentinel, .pinned], laidTests := true, laidLooks := .later }
def FeedHeldCardSaid : Prop := Claim7.holds Tryz.pinned (.plain (OpenSpec.ofChange feedHeldSpec)) feedHeldCard

/-- THE SECOND FORM's CARD OF 'timetablelaw42.DeliveryRuns'. -/
def deliveryRunsUptoCard : Claim7 := { stood := { row := deliveryRunsUptoRow, standIns := [], harness := (true, "3b28ac704daf4b12f11ae93fc53b957f9b28cb2ffa9bce6438301c7d3d6c9929"), looks := true }, kinds := [], alts := [], laidByText := true, laidKinds := [.data, .data, .data, .data, .data, .sentinel, .sentinel, .pinned], laidTests := true, laidLooks := .later }
def DeliveryRunsUptoCardSaid : Prop := Claim7.holds Tryz.pinned (.plain (OpenSpec.upto deliveryRunsSpec)) deliveryRunsUptoCard

/-- THE SECOND FORM's CARD OF 'timetablelaw42.DeliveryStates'. -/
def deliveryStatesUptoCard : Claim7 := { stood := { row := deliveryStatesUptoRow, standIns := [], harness := (true, "3b28ac704daf4b12f11ae93fc53b957f9b28cb2ffa9bce6438301c7d3d6c9929"), looks := true }, kinds := [], alts := [], laidByText := true, laidKinds := [.data, .data, .data, .data, .data, .sentinel, .sentinel, .pinned], laidTests := true, laidLooks := .later }
def DeliveryStatesUptoCardSaid : Prop := Claim7.holds Tryz.pinned (.plain (OpenSpec.upto deliveryStatesSpec)) deliveryStatesUptoCard

/-- THE SECOND FORM's CARD OF 'timetablelaw42.DeliveryAtLast'. -/
def deliveryAtLastUptoCard : Claim7 := { stood := { row := deliveryAtLastUptoRow, standIns := [], harness := (true, "3b28ac704daf4b12f11ae93fc53b957f9b28cb2ffa9bce6438301c7d3d6c9929"), looks := true }, kinds := [], alts := [], laidByText := true, laidKinds := [.data, .data, .data, .data, .data, .sentinel, .sentinel, .pinned], laidTests := true, laidLooks := .later }
def DeliveryAtLastUptoCardSaid : Prop := Claim7.holds Tryz.pinned (.plain (OpenSpec.upto deliveryAtLastSpec)) deliveryAtLastUptoCard

/-- THE SECOND FORM's CARD OF 'timetablelaw42.DeliveryCut'. -/
def deliveryCutUptoCard : Claim7 := { stood := { row := deliveryCutUptoRow, standIns := [], harness := (true, "3b28ac704daf4b12f11ae93fc53b957f9b28cb2ffa9bce6438301c7d3d6c9929"), looks := true }, kinds := [], alts := [], laidByText := true, laidKinds := [.data, .data, .data, .data, .data, .sentinel, .sentinel, .pinned], laidTests := true, laidLooks := .later }
def DeliveryCutUptoCardSaid : Prop := Claim7.holds Tryz.pinned (.plain (OpenSpec.upto deliveryCutSpec)) deliveryCutUptoCard

/-- THE SECOND FORM's CARD OF 'timetablelaw42.DeliveryKnown'. -/
def deliveryKnownUptoCard : Claim7 := { stood := { row := deliveryKnownUptoRow, standIns := [], harness := (true, "3b28ac704daf4b12f11ae93fc53b957f9b28cb2ffa9bce6438301c7d3d6c9929"), looks := true }, kinds := [], alts := [], laidByText := true, laidKinds := [.data, .data, .data, .data, .data, .sentinel, .sentinel, .pinned], laidTests := true, laidLooks := .later }
def DeliveryKnownUptoCardSaid : Prop := Claim7.holds Tryz.pinned (.plain (OpenSpec.upto deliveryKnownSpec)) deliveryKnownUptoCard

/-- THE SECOND FORM's CARD OF 'timetablelaw40.FeedSequences'. -/
def feedSequencesUptoCard : Claim7 := { stood := { row := feedSequencesUptoRow, standIns := [], harness := (true, "3b28ac704daf4b12f11ae93fc53b957f9b28cb2ffa9bce6438301c7d3d6c9929"), looks := true }, kinds := [], alts := [], laidByText := true, laidKinds := [.data, .data, .data, .data, .data, .sentinel, .sentinel, .pinned], laidTests := true, laidLooks := .later }
def FeedSequencesUptoCardSaid : Prop := Claim7.holds Tryz.pinned (.plain (OpenSpec.upto feedSequencesSpec)) feedSequencesUptoCard

/-- THE SECOND FORM's CARD OF 'timetablelaw40.FeedHeld'. -/
def feedHeldUptoCard : Claim7 := { stood := { row := feedHeldUptoRow, standIns := [], harness := (true, "3b28ac704daf4b12f11ae93fc53b957f9b28cb2ffa9bce6438301c7d3d6c9929"), looks := true }, kinds := [], alts := [], laidByText := true, laidKinds := [.data, .data, .data, .data, .data, .sentinel, .sentinel, .pinned], laidTests := true, laidLooks := .later }
def FeedHeldUptoCardSaid : Prop := Claim7.holds Tryz.pinned (.plain (OpenSpec.upto feedHeldSpec)) feedHeldUptoCard
end Rows
end Go.Proofs.YtcomifbfldoeiaaGreatDoor
