/-
  DERIVED. GIVEN WITH THE SEED: THE CARDS: each row of YtnboipdpccnedaaGreatDoorRows.lean that lists a variable, with what it lists TIED to the program's text (the seventh form; the later family's looks); each row that meets fmt, with fmt's text TOLD by the authors' own Lean function (tested against real Go, not proved from fmt's source: count such statements apart). THE CARD IS WHAT COUNTS. Prove the row's statement (the work); the ties are given (YtnboipdpccnedaaGreatDoorTie.lean); close each card by the builder's one call (the guide's Derived/Test/ToyasCard.lean, 'card_holds'). Laid BY PROGRAM, IN A SANDBOX (cutbox-door.mjs). By AI agents, Wed Nov 11 2026. No macro, syntax, notation, axiom, sorry.
-/
import Derived.Test.YtnboipdpccnedaaGreatDoorRows
import GoSem.ClaimSeven
namespace Go.Proofs.YtnboipdpccnedaaGreatDoor
namespace Rows

/-- THE TIED CARD OF 'holdfasttop.WholeSpoilt'. -/
def wholeSpoiltCard : Claim7 := { stood := { row := wholeSpoiltRow, standIns := [], harness := (true, "28c9ea052c080f7eb5ad15c10b0c462dbe4ca2a3811945ceb8c776727758af59"), looks := true }, kinds := [], alts := [], laidByText := true, laidKinds := [.data, .data, .data, .data, .sentinel, .sentinel, .data, .data, .pinned], laidTests := true, laidLooks := .later }
def WholeSpoiltCardSaid : Prop := Claim7.holds Tryz.pinned (.plain (OpenSpec.ofChange wholeSpoiltSpec)) wholeSpoiltCard

/-- THE SECOND FORM's CARD OF 'holdfasttop.WholeSpoilt'. -/
def wholeSpoiltUptoCard : Claim7 := { stood := { row := wholeSpoiltUptoRow, standIns := [], harness := (true, "28c9ea052c080f7eb5ad15c10b0c462dbe4ca2a3811945ceb8c776727758af59"), looks := true }, kinds := [], alts := [], laidByText := true, laidKinds := [.data, .data, .data, .data, .sentinel, .sentinel, .data, .data, .pinned], laidTests := true, laidLooks := .later }
def WholeSpoiltUptoCardSaid : Prop := Claim7.holds Tryz.pinned (.plain (OpenSpec.upto wholeSpoiltSpec)) wholeSpoiltUptoCard
end Rows
end Go.Proofs.YtnboipdpccnedaaGreatDoor
