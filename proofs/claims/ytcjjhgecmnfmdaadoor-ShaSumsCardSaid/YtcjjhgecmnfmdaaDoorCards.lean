/-
  DERIVED. GIVEN WITH THE SEED: THE CARDS: each row of YtcjjhgecmnfmdaaDoorRows.lean that lists a variable, with what it lists TIED to the program's text (the seventh form; the later family's looks); each row that meets fmt, with fmt's text TOLD by the authors' own Lean function (tested against real Go, not proved from fmt's source: count such statements apart). THE CARD IS WHAT COUNTS. Prove the row's statement (the work); the ties are given (YtcjjhgecmnfmdaaDoorTie.lean); close each card by the builder's one call (the guide's Derived/Test/ToyasCard.lean, 'card_holds'). Laid BY PROGRAM, IN A SANDBOX (cutbox-door.mjs). By AI agents, Wed Nov 11 2026. No macro, syntax, notation, axiom, sorry.
-/
import Derived.Test.YtcjjhgecmnfmdaaDoorRows
import GoSem.ClaimSeven
namespace Go.Proofs.YtcjjhgecmnfmdaaDoor
namespace Rows

/-- THE TIED CARD OF 'holdfastlaw03.ShaParts'. -/
def shaPartsCard : Claim7 := { stood := { row := shaPartsRow, standIns := [], harness := (true, "889b247e86e0826e68e2e513d61b4ba73c69db42a73a94685d531c6a04e1348d"), looks := true }, kinds := [], alts := [], laidByText := true, laidKinds := [.data, .data], laidTests := true, laidLooks := .later }
def ShaPartsCardSaid : Prop := Claim7.holds Tryd.pinned (.plain (OpenSpec.ofChange shaPartsSpec)) shaPartsCard

/-- THE TIED CARD OF 'holdfastlaw03.ShaSums'. -/
def shaSumsCard : Claim7 := { stood := { row := shaSumsRow, standIns := [], harness := (true, "889b247e86e0826e68e2e513d61b4ba73c69db42a73a94685d531c6a04e1348d"), looks := true }, kinds := [], alts := [], laidByText := true, laidKinds := [.data, .data], laidTests := true, laidLooks := .later }
def ShaSumsCardSaid : Prop := Claim7.holds Tryd.pinned (.plain (OpenSpec.ofChange shaSumsSpec)) shaSumsCard

/-- THE TIED CARD OF 'holdfastlaw03.ShaConstants'. -/
def shaConstantsCard : Claim7 := { stood := { row := shaConstantsRow, standIns := [], harness := (true, "889b247e86e0826e68e2e513d61b4ba73c69db42a73a94685d531c6a04e1348d"), looks := true }, kinds := [], alts := [], laidByText := true, laidKinds := [.data, .data], laidTests := true, laidLooks := .later }
def ShaConstantsCardSaid : Prop := Claim7.holds Tryd.pinned (.plain (OpenSpec.ofChange shaConstantsSpec)) shaConstantsCard

/-- THE TIED CARD OF 'holdfastlaw03.ShaTexts'. -/
def shaTextsCard : Claim7 := { stood := { row := shaTextsRow, standIns := [], harness := (true, "889b247e86e0826e68e2e513d61b4ba73c69db42a73a94685d531c6a04e1348d"), looks := true }, kinds := [], alts := [], laidByText := true, laidKinds := [.data, .data], laidTests := true, laidLooks := .later }
def ShaTextsCardSaid : Prop := Claim7.holds Tryd.pinned (.plain (OpenSpec.ofChange shaTextsSpec)) shaTextsCard

/-- THE SECOND FORM's CARD OF 'holdfastlaw03.ShaParts'. -/
def shaPartsUptoCard : Claim7 := { stood := { row := shaPartsUptoRow, standIns := [], harness := (true, "889b247e86e0826e68e2e513d61b4ba73c69db42a73a94685d531c6a04e1348d"), looks := true }, kinds := [], alts := [], laidByText := true, laidKinds := [.data, .data], laidTests := true, laidLooks := .later }
def ShaPartsUptoCardSaid : Prop := Claim7.holds Tryd.pinned (.plain (OpenSpec.upto shaPartsSpec)) shaPartsUptoCard

/-- THE SECOND FORM's CARD OF 'holdfastlaw03.ShaSums'. -/
def shaSumsUptoCard : Claim7 := { stood := { row := shaSumsUptoRow, standIns := [], harness := (true, "889b247e86e0826e68e2e513d61b4ba73c69db42a73a94685d531c6a04e1348d"), looks := true }, kinds := [], alts := [], laidByText := true, laidKinds := [.data, .data], laidTests := true, laidLooks := .later }
def ShaSumsUptoCardSaid : Prop := Claim7.holds Tryd.pinned (.plain (OpenSpec.upto shaSumsSpec)) shaSumsUptoCard

/-- THE SECOND FORM's CARD OF 'holdfastlaw03.ShaConstants'. -/
def shaConstantsUptoCard : Claim7 := { stood := { row := shaConstantsUptoRow, standIns := [], harness := (true, "889b247e86e0826e68e2e513d61b4ba73c69db42a73a94685d531c6a04e1348d"), looks := true }, kinds := [], alts := [], laidByText := true, laidKinds := [.data, .data], laidTests := true, laidLooks := .later }
def ShaConstantsUptoCardSaid : Prop := Claim7.holds Tryd.pinned (.plain (OpenSpec.upto shaConstantsSpec)) shaConstantsUptoCard

/-- THE SECOND FORM's CARD OF 'holdfastlaw03.ShaTexts'. -/
def shaTextsUptoCard : Claim7 := { stood := { row := shaTextsUptoRow, standIns := [], harness := (true, "889b247e86e0826e68e2e513d61b4ba73c69db42a73a94685d531c6a04e1348d"), looks := true }, kinds := [], alts := [], laidByText := true, laidKinds := [.data, .data], laidTests := true, laidLooks := .later }
def ShaTextsUptoCardSaid : Prop := Claim7.holds Tryd.pinned (.plain (OpenSpec.upto shaTextsSpec)) shaTextsUptoCard
end Rows
end Go.Proofs.YtcjjhgecmnfmdaaDoor
