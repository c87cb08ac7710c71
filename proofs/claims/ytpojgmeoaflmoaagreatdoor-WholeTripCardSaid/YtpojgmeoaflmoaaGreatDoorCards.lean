/-
  DERIVED. GIVEN WITH THE SEED: THE CARDS: each row of YtpojgmeoaflmoaaGreatDoorRows.lean that lists a variable, with what it lists TIED to the program's text (the seventh form; the later family's looks); each row that meets fmt, with fmt's text TOLD by the authors' own Lean function (tested against real Go, not proved from fmt's source: count such statements apart). THE CARD IS WHAT COUNTS. Prove the row's statement (the work); the ties are given (YtpojgmeoaflmoaaGreatDoorTie.lean); close each card by the builder's one call (the guide's Derived/Test/ToyasCard.lean, 'card_holds'). Laid BY PROGRAM, IN A SANDBOX (cutbox-door.mjs). By AI agents, Wed Nov 11 2026. No macro, syntax, notation, axiom, sorry.
-/
import Derived.Test.YtpojgmeoaflmoaaGreatDoorRows
import GoSem.ClaimSeven
namespace Go.Proofs.YtpojgmeoaflmoaaGreatDoor
namespace Rows

/-- THE TIED CARD OF 'holdfasttop.WholeTrip'. -/
def wholeTripCard : Claim7 := { stood := { row := wholeTripRow, standIns := [], harness := (true, "1b3454584cbf7f456faeb1422643d437df98e241d406892023e13a473173c930"), looks := true }, kinds := [], alts := [], laidByText := true, laidKinds := [.data, .data, .data, .data, .sentinel, .sentinel, .data, .data, .pinned], laidTests := true, laidLooks := .later }
def WholeTripCardSaid : Prop := Claim7.holds Tryz.pinned (.plain (OpenSpec.ofChange wholeTripSpec)) wholeTripCard

/-- THE SECOND FORM's CARD OF 'holdfasttop.WholeTrip'. -/
def wholeTripUptoCard : Claim7 := { stood := { row := wholeTripUptoRow, standIns := [], harness := (true, "1b3454584cbf7f456faeb1422643d437df98e241d406892023e13a473173c930"), looks := true }, kinds := [], alts := [], laidByText := true, laidKinds := [.data, .data, .data, .data, .sentinel, .sentinel, .data, .data, .pinned], laidTests := true, laidLooks := .later }
def WholeTripUptoCardSaid : Prop := Claim7.holds Tryz.pinned (.plain (OpenSpec.upto wholeTripSpec)) wholeTripUptoCard
end Rows
end Go.Proofs.YtpojgmeoaflmoaaGreatDoor
