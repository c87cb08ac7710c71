/-
  DERIVED. GIVEN WITH THE SEED: THE CARDS: each row of YtobjlgfjfpmceaaGreatDoorRows.lean that lists a variable, with what it lists TIED to the program's text (the seventh form; the later family's looks); each row that meets fmt, with fmt's text TOLD by the authors' own Lean function (tested against real Go, not proved from fmt's source: count such statements apart). THE CARD IS WHAT COUNTS. Prove the row's statement (the work); the ties are given (YtobjlgfjfpmceaaGreatDoorTie.lean); close each card by the builder's one call (the guide's Derived/Test/ToyasCard.lean, 'card_holds'). Laid BY PROGRAM, IN A SANDBOX (cutbox-door.mjs). By AI agents, Wed Nov 11 2026. No macro, syntax, notation, axiom, sorry.
-/
import Derived.Test.YtobjlgfjfpmceaaGreatDoorRows
import GoSem.ClaimSeven
namespace Go.Proofs.YtobjlgfjfpmceaaGreatDoor
namespace Rows

/-- THE TIED CARD OF 'holdfasttop.WholeFull'. -/
def wholeFullCard : Claim7 := { stood := { row := wholeFullRow, standIns := [], harness := (true, "825e2155ddee30b3f53fd4f4d6485f404d30b0d420a1061c07c8bb11fe150fa2"), looks := true }, kinds := [], alts := [], laidByText := true, laidKinds := [.data, .data, .data, .data, .sentinel, .sentinel, .data, .data, .pinned], laidTests := true, laidLooks := .later }
def WholeFullCardSaid : Prop := Claim7.holds Tryz.pinned (.plain (OpenSpec.ofChange wholeFullSpec)) wholeFullCard

/-- THE SECOND FORM's CARD OF 'holdfasttop.WholeFull'. -/
def wholeFullUptoCard : Claim7 := { stood := { row := wholeFullUptoRow, standIns := [], harness := (true, "825e2155ddee30b3f53fd4f4d6485f404d30b0d420a1061c07c8bb11fe150fa2"), looks := true }, kinds := [], alts := [], laidByText := true, laidKinds := [.data, .data, .data, .data, .sentinel, .sentinel, .data, .data, .pinned], laidTests := true, laidLooks := .later }
def WholeFullUptoCardSaid : Prop := Claim7.holds Tryz.pinned (.plain (OpenSpec.upto wholeFullSpec)) wholeFullUptoCard
end Rows
end Go.Proofs.YtobjlgfjfpmceaaGreatDoor
