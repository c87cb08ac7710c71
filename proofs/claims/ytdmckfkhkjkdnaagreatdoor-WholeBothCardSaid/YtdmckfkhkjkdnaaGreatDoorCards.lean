/-
  DERIVED. GIVEN WITH THE SEED: THE CARDS: each row of YtdmckfkhkjkdnaaGreatDoorRows.lean that lists a variable, with what it lists TIED to the program's text (the seventh form; the later family's looks); each row that meets fmt, with fmt's text TOLD by the authors' own Lean function (tested against real Go, not proved from fmt's source: count such statements apart). THE CARD IS WHAT COUNTS. Prove the row's statement (the work); the ties are given (YtdmckfkhkjkdnaaGreatDoorTie.lean); close each card by the builder's one call (the guide's Derived/Test/ToyasCard.lean, 'card_holds'). Laid BY PROGRAM, IN A SANDBOX (cutbox-door.mjs). By AI agents, Wed Nov 11 2026. No macro, syntax, notation, axiom, sorry.
-/
import Derived.Test.YtdmckfkhkjkdnaaGreatDoorRows
import GoSem.ClaimSeven
namespace Go.Proofs.YtdmckfkhkjkdnaaGreatDoor
namespace Rows

/-- THE TIED CARD OF 'holdfasttop.WholeBoth'. -/
def wholeBothCard : Claim7 := { stood := { row := wholeBothRow, standIns := [], harness := (true, "229cf6cb6966d1c8918256caafb088b6565e28870344d3fa60f44e507b3d9016"), looks := true }, kinds := [], alts := [], laidByText := true, laidKinds := [.data, .data, .data, .data, .sentinel, .sentinel, .data, .data, .pinned], laidTests := true, laidLooks := .later }
def WholeBothCardSaid : Prop := Claim7.holds Tryz.pinned (.plain (OpenSpec.ofChange wholeBothSpec)) wholeBothCard

/-- THE SECOND FORM's CARD OF 'holdfasttop.WholeBoth'. -/
def wholeBothUptoCard : Claim7 := { stood := { row := wholeBothUptoRow, standIns := [], harness := (true, "229cf6cb6966d1c8918256caafb088b6565e28870344d3fa60f44e507b3d9016"), looks := true }, kinds := [], alts := [], laidByText := true, laidKinds := [.data, .data, .data, .data, .sentinel, .sentinel, .data, .data, .pinned], laidTests := true, laidLooks := .later }
def WholeBothUptoCardSaid : Prop := Claim7.holds Tryz.pinned (.plain (OpenSpec.upto wholeBothSpec)) wholeBothUptoCard
end Rows
end Go.Proofs.YtdmckfkhkjkdnaaGreatDoor
