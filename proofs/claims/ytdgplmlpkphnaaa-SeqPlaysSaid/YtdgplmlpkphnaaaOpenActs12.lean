/- A slice of acts, opened. -/
import Derived.Test.YtdgplmlpkphnaaaOpen
import Derived.Test.YtdgplmlpkphnaaaOnce
namespace Go.Proofs.Ytdgplmlpkphnaaa
open Go.ChangeShapes Go.WideShapes Go.Deep Go.RowKit

theorem open_acts (H : Type) (enc : TypeId × Value → H) (W : World) {fuel : Nat} {a : Option Addr} {len cap : Nat} {x : DataW H × List MemPlace}
    (h : DataW.trod enc Try.prog W 0 (fun _ => true) true fuel 33 [.slice a len cap] = some x) :
    len = 0 ∨ ∃ b off K V B, a = some ⟨b, off, none⟩ ∧ Acts W b off len K V B := by
  rcases open_int_fields Try.underlying33 Try.underlying35 (by kernel_rfl) (by kernel_rfl) (by decide) (by intro j f hj; match j, hj with | 0, hj => (simp at hj; subst hj; exact Try.underlying3) | 1, hj => (simp at hj; subst hj; exact Try.underlying3) | 2, hj => (simp at hj; subst hj; exact Try.underlying3) | j + 3, hj => simp at hj) h with h0 | ⟨b, off, rfl, hb, _, _, hc⟩
  · exact .inl h0
  · refine .inr ⟨b, off, fun i => cellInt W b (off + i * 3), fun i => cellInt W b (off + i * 3 + 1), fun i => cellInt W b (off + i * 3 + 2), rfl, hb, fun i hi => ?_, fun i hi => ?_, fun i hi => ?_⟩
    · obtain ⟨n, h1, _⟩ := hc i hi 0 (by decide)
      exact cellInt_of h1
    · obtain ⟨n, h1, _⟩ := hc i hi 1 (by decide)
      exact cellInt_of h1
    · obtain ⟨n, h1, _⟩ := hc i hi 2 (by decide)
      exact cellInt_of h1

end Go.Proofs.Ytdgplmlpkphnaaa
