/-
  DERIVED. GIVEN WITH THE SEED: THE CARDS: each row of YtegjgjgoodekiaaGreatDoorRows.lean that lists a variable, with what it lists TIED to the program's text (the seventh form; the later family's looks); each row that meets fmt, with fmt's text TOLD by the authors' own Lean function (tested against real Go, not proved from fmt's source: count such statements apart). THE CARD IS WHAT COUNTS. Prove the row's statement (the work); the ties are given (YtegjgjgoodekiaaGreatDoorTie.lean); close each card by the builder's one call (the guide's Derived/Test/ToyasCard.lean, 'card_holds'). Laid BY PROGRAM, IN A SANDBOX (cutbox-door.mjs). By AI agents, Wed Nov 11 2026. No macro, syntax, notation, axiom, sorry.
-/
import Derived.Test.YtegjgjgoodekiaaGreatDoorRows
import GoSem.ClaimSeven
namespace Go.Proofs.YtegjgjgoodekiaaGreatDoor
namespace Rows

/-- THE TIED CARD OF 'timetablelaw42.DeliveryAtLast'. -/
def deliveryAtLastCard : Claim7 := { stood := { row := deliveryAtLastRow, standIns := [], harness := (true, "9f51b715db283adb147271e62732cf5bd286661adbc1d2f79602639d6aed945b"), looks := true }, kinds := [], alts := [], laidByText := true, laidKinds := [.data, .data, .data, .data, .data, .sentinel, .sentinel, .pinned], laidTests := true, laidLooks := .later }
def DeliveryAtLastCardSaid : Prop := Claim7.holds Tryz.pinned (.plain (OpenSpec.ofChange deliveryAtLastSpec)) deliveryAtLastCard

/-- THE SECOND FORM's CARD OF 'timetablelaw42.DeliveryAtLast'. -/
def deliveryAtLastUptoCard : Claim7 := { stood := { row := deliveryAtLastUptoRow, standIns := [], harness := (true, "9f51b715db283adb147271e62732cf5bd286661adbc1d2f79602639d6aed945b"), looks := true }, kinds := [], alts := [], laidByText := true, laidKinds := [.data, .data, .data, .data, .data, .sentinel, .sentinel, .pinned], laidTests := true, laidLooks := .later }
def DeliveryAtLastUptoCardSaid : Prop := Claim7.holds Tryz.pinned (.plain (OpenSpec.upto deliveryAtLastSpec)) deliveryAtLastUptoCard
end Rows
end Go.Proofs.YtegjgjgoodekiaaGreatDoor
