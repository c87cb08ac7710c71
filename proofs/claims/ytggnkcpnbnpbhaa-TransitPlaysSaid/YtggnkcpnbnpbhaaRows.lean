/-
  No cell of these rows narrows 'for every input' (looked for: loops, veiled, ifaces, maps, wideKeys, modest, calm, conditions, laid).
  DERIVED. THE GIVEN ROWS OF THIS SEAT. 3 by the template 'for every input the law returns true; each argument reads behind the call as it read before'; 0 by the template 'total and deterministic' (their statements: YtggnkcpnbnpbhaaTotals.lean).
  GIVEN WITH THE SEED: the statements are not yours to turn. If you find one false, say at which input.
  Laid BY PROGRAM, IN A SANDBOX (cutbox-rows.mjs): the forced cells as the released guide's own fill.sh prints them over the translation 8bfcce7975370e93… (all of the seat's roots in one cut). By AI agents, Wed Nov 11 2026. No macro, syntax, notation, axiom, sorry.
-/
import Derived.Test.YtggnkcpnbnpbhaaChecked
import GoSem.Claim
import GoSem.ClaimJoined
import GoSem.ClaimMapViews
import Derived.JoinedTies
import Derived.KernelRfl
namespace Go.Proofs.Ytggnkcpnbnpbhaa
/- THE CELL 'sum', in the pinned program and in every row, IS THE sha256 OF THE DUMP (.gsa) THAT YtggnkcpnbnpbhaaProg.lean LOADS. Nothing in Lean hashes anything: it is a label: what it is worth is what the hold of that sum in a sandbox is worth. -/
noncomputable def Try.pinned : Pinned := { name := "ytggnkcpnbnpbhaa", sum := "8bfcce7975370e93a8113ac3bae9e5a5f76d7b926eaaf033a7ddda4e5da66540", checked := Try.checked }
namespace Rows
def none {H : Type} : Left H := { results := [], args := [] }

/-- 'holdfastlaw24.TransitFirst': WHATEVER THE INPUT: true; the input reads as it did. -/
def transitFirstSpec : ChangeSpec := { name := "transitFirst", fn := fun _ => fun
  | [d] => { results := [.lit (.bool true)], args := [d] }
  | _ => none }
def transitFirstRow : OpenClaim := { program := "ytggnkcpnbnpbhaa", sum := "8bfcce7975370e93a8113ac3bae9e5a5f76d7b926eaaf033a7ddda4e5da66540", func := "holdfast/holdfastlaw24.TransitFirst", spec := "transitFirst", inPlace := ["sync/atomic.AddInt64"], apart := false }
def TransitFirstSaid : Prop := transitFirstRow.holds Try.pinned (OpenSpec.ofChange transitFirstSpec)

/-- ITS FALSE NEIGHBOUR: 'it returns false'. Refute it at one input. -/
def transitFirstWrong : ChangeSpec := { name := "transitFirst", fn := fun _ => fun
  | [d] => { results := [.lit (.bool false)], args := [d] }
  | _ => none }
def TransitFirstWrongFalsely : Prop := transitFirstRow.holds Try.pinned (OpenSpec.ofChange transitFirstWrong)

/-- 'holdfastlaw24.TransitSums': WHATEVER THE INPUT: true; the input reads as it did. -/
def transitSumsSpec : ChangeSpec := { name := "transitSums", fn := fun _ => fun
  | [d] => { results := [.lit (.bool true)], args := [d] }
  | _ => none }
def transitSumsRow : OpenClaim := { program := "ytggnkcpnbnpbhaa", sum := "8bfcce7975370e93a8113ac3bae9e5a5f76d7b926eaaf033a7ddda4e5da66540", func := "holdfast/holdfastlaw24.TransitSums", spec := "transitSums", inPlace := ["sync/atomic.AddInt64", "sync/atomic.LoadInt64"], apart := false }
def TransitSumsSaid : Prop := transitSumsRow.holds Try.pinned (OpenSpec.ofChange transitSumsSpec)

/-- ITS FALSE NEIGHBOUR: 'it returns false'. Refute it at one input. -/
def transitSumsWrong : ChangeSpec := { name := "transitSums", fn := fun _ => fun
  | [d] => { results := [.lit (.bool false)], args := [d] }
  | _ => none }
def TransitSumsWrongFalsely : Prop := transitSumsRow.holds Try.pinned (OpenSpec.ofChange transitSumsWrong)

/-- 'holdfastlaw24.TransitPlays': WHATEVER THE INPUT: true; the input reads as it did. -/
def transitPlaysSpec : ChangeSpec := { name := "transitPlays", fn := fun _ => fun
  | [d] => { results := [.lit (.bool true)], args := [d] }
  | _ => none }
def transitPlaysRow : OpenClaim := { program := "ytggnkcpnbnpbhaa", sum := "8bfcce7975370e93a8113ac3bae9e5a5f76d7b926eaaf033a7ddda4e5da66540", func := "holdfast/holdfastlaw24.TransitPlays", spec := "transitPlays", inPlace := ["sync/atomic.AddInt64", "sync/atomic.LoadInt64"], unfollowed := true, recurses := true, apart := false }
def TransitPlaysSaid : Prop := transitPlaysRow.holds Try.pinned (OpenSpec.ofChange transitPlaysSpec)

/-- ITS FALSE NEIGHBOUR: 'it returns false'. Refute it at one input. -/
def transitPlaysWrong : ChangeSpec := { name := "transitPlays", fn := fun _ => fun
  | [d] => { results := [.lit (.bool false)], args := [d] }
  | _ => none }
def TransitPlaysWrongFalsely : Prop := transitPlaysRow.holds Try.pinned (OpenSpec.ofChange transitPlaysWrong)

/- THE SECOND FORM. 'bulk': how many values and letters a reading holds, each counted each time it is reached (what is shared counts as often as it is met; a slice's spare places count too). A statement '..UptoSaid' is the law's where the arguments, and the package variables that the reading takes, are together of bulk at most 1048576: NARROWER than '..Said'. Prove '..Said' where nothing that the law and all that it calls make is longer than what came in: it says more and counts as full. Else prove '..UptoSaid'. A law counts once. -/
mutual
def uptoBulk {H : Type} : DataW H → Nat
  | .lit (.string bytes) => bytes.length + 1
  | .lit _ => 1
  | .nil => 1
  | .ptr d => uptoBulk d + 1
  | .slice elems spare => uptoBulkAll elems + uptoBulkAll spare + 1
  | .agg parts => uptoBulkAll parts + 1
  | .iface _ d => uptoBulk d + 1
  | .map entries => uptoBulkEntries entries + 1
  | .held _ => 1
def uptoBulkAll {H : Type} : List (DataW H) → Nat
  | [] => 0
  | d :: r => uptoBulk d + uptoBulkAll r
def uptoBulkEntries {H : Type} : List (Lit × DataW H) → Nat
  | [] => 0
  | x :: r => uptoBulkEntry x + uptoBulkEntries r
def uptoBulkEntry {H : Type} : Lit × DataW H → Nat
  | (.string bytes, d) => bytes.length + uptoBulk d + 1
  | (_, d) => uptoBulk d + 1
 end
def uptoSmall : (H : Type) → List (DataW H) → Bool := fun _ ds => decide (uptoBulkAll ds ≤ 1048576)
def OpenSpec.upto (s : _root_.Go.ChangeSpec) : _root_.Go.OpenSpec := { _root_.Go.OpenSpec.ofChange s with cond := some uptoSmall }

/-- 'holdfastlaw24.TransitFirst', WHERE WHAT IT READS IS OF BULK AT MOST 1048576: true; the input reads as it did. -/
def transitFirstUptoRow : OpenClaim := { program := "ytggnkcpnbnpbhaa", sum := "8bfcce7975370e93a8113ac3bae9e5a5f76d7b926eaaf033a7ddda4e5da66540", func := "holdfast/holdfastlaw24.TransitFirst", spec := "transitFirst", inPlace := ["sync/atomic.AddInt64"], apart := false, narrowed := true }
def TransitFirstUptoSaid : Prop := transitFirstUptoRow.holds Try.pinned (OpenSpec.upto transitFirstSpec)

/-- 'holdfastlaw24.TransitSums', WHERE WHAT IT READS IS OF BULK AT MOST 1048576: true; the input reads as it did. -/
def transitSumsUptoRow : OpenClaim := { program := "ytggnkcpnbnpbhaa", sum := "8bfcce7975370e93a8113ac3bae9e5a5f76d7b926eaaf033a7ddda4e5da66540", func := "holdfast/holdfastlaw24.TransitSums", spec := "transitSums", inPlace := ["sync/atomic.AddInt64", "sync/atomic.LoadInt64"], apart := false, narrowed := true }
def TransitSumsUptoSaid : Prop := transitSumsUptoRow.holds Try.pinned (OpenSpec.upto transitSumsSpec)

/-- 'holdfastlaw24.TransitPlays', WHERE WHAT IT READS IS OF BULK AT MOST 1048576: true; the input reads as it did. -/
def transitPlaysUptoRow : OpenClaim := { program := "ytggnkcpnbnpbhaa", sum := "8bfcce7975370e93a8113ac3bae9e5a5f76d7b926eaaf033a7ddda4e5da66540", func := "holdfast/holdfastlaw24.TransitPlays", spec := "transitPlays", inPlace := ["sync/atomic.AddInt64", "sync/atomic.LoadInt64"], unfollowed := true, recurses := true, apart := false, narrowed := true }
def TransitPlaysUptoSaid : Prop := transitPlaysUptoRow.holds Try.pinned (OpenSpec.upto transitPlaysSpec)

end Rows
end Go.Proofs.Ytggnkcpnbnpbhaa
