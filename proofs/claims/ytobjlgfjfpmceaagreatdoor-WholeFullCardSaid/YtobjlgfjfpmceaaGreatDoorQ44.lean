/- Arguments opened: a slice of structs of integers. · Arguments opened: a slice of bytes; a slice of slices of bytes. -/
import Derived.ProofKit
import Derived.OpenShut
import Derived.ChangeOld
import Derived.Deep.Slices
import Derived.Deep.Fields
import Derived.ChangeSame
import Derived.Test.YtobjlgfjfpmceaaGreatDoorQ02
set_option linter.unusedVariables false
set_option maxRecDepth 100000
set_option maxHeartbeats 16000000
namespace Go.Proofs.YtobjlgfjfpmceaaGreatDoor
open Go.ChangeShapes Go.WideShapes Go.Deep Go.RowKit
theorem bv_of {n : Int} (h : (Lit.int .u8 n).wf = true) : bv (UInt8.ofNat n.toNat) = .int .u8 n := by
  have hb := bounds_u8 h
  unfold bv
  congr 1
  simp
  omega
section
variable {H : Type} {enc : TypeId × Value → H} {P : Program} {w : World} {base : Nat} {spare : Nat → Bool} {held : Bool}
theorem open_bytes {t e : TypeId} {fuel : Nat} {v : Value} {x : DataW H × List MemPlace}
    (ht : P.underlying t = some (.slice e)) (he : P.underlying e = some (.int .u8)) (hC : P.cellsOf e = 1)
    (h : DataW.trod enc P w base spare held fuel t [v] = some x) :
    ∃ (a : Option Addr) (l : List UInt8) (cap : Nat), v = .slice a l.length cap ∧ Bs w v l ∧ l.length ≤ maxLen := by
  rcases open_slice1 ht hC h with ⟨h0, _⟩ | ⟨a', len', cap', m, n, V, D, Pl, hcs, hb, hl, hm, hmm, hx, hi⟩
  · simp at h0
    subst h0
    exact ⟨none, [], 0, rfl, Rd.nil w, by simp⟩
  simp at hcs
  subst hcs
  have hml : len' ≤ m := by rw [hmm]; split <;> omega
  have key : ∀ i, i < len' → ∃ n, w.cell? (a'.add i) = some (.int .u8 n) ∧ (Lit.int .u8 n).wf = true := by
    intro i hil
    obtain ⟨h1, h2⟩ := hi i (by omega)
    obtain ⟨q, hq, _, hwf⟩ := DataW.trod_int he h2
    simp at hq
    exact ⟨q, by rw [h1, hq], hwf⟩
  obtain ⟨N, hN⟩ := choose_lt (α := Int) (p := fun i n => w.cell? (a'.add i) = some (.int .u8 n) ∧ (Lit.int .u8 n).wf = true) key
  let l : List UInt8 := (List.range len').map fun i => UInt8.ofNat (N i).toNat
  have hlen : l.length = len' := by simp [l]
  refine ⟨some a', l, cap', by rw [hlen], ⟨some a', cap', by simp [hlen], fun hne => ?_⟩, by omega⟩
  have hpos : 0 < len' := by
    rcases Nat.eq_zero_or_pos len' with h0 | h0
    · exfalso
      apply hne
      simp [l, h0]
    · exact h0
  obtain ⟨b, off, spot⟩ := a'
  have hspot : spot = none := by
    have := World.cell?_spot (hN 0 hpos).1
    simpa [Addr.add] using this
  subst hspot
  refine ⟨b, off, rfl, fun j u hu => ?_⟩
  have hj : j < len' := by
    have := (List.getElem?_eq_some_iff.1 hu).1
    simpa [l] using this
  obtain ⟨h1, h2⟩ := hN j hj
  rw [add_off] at h1
  rw [h1, ← bv_of h2]
  simp [l, hj] at hu
  rw [hu]
end
end Go.Proofs.YtobjlgfjfpmceaaGreatDoor
