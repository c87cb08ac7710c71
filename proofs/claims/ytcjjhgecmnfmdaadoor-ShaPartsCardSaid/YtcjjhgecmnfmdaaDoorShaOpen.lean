/- Arguments opened: a slice of bytes, with its capacity; a slice of numbers. -/
import Derived.Test.YtcjjhgecmnfmdaaDoorOpenBs
import Derived.Test.YtcjjhgecmnfmdaaDoorShaParts
namespace Go.Proofs.YtcjjhgecmnfmdaaDoor
open Go.ChangeShapes Go.WideShapes Go.Deep Go.RowKit

section
variable {H : Type} {enc : TypeId × Value → H} {P : Program} {w : World} {base : Nat} {spare : Nat → Bool} {held : Bool}

theorem open_bytes_le {t e : TypeId} {fuel : Nat} {a : Option Addr} {len cap : Nat} {x : DataW H × List MemPlace}
    (ht : P.underlying t = some (.slice e)) (he : P.underlying e = some (.int .u8)) (hC : P.cellsOf e = 1)
    (h : DataW.trod enc P w base spare held fuel t [.slice a len cap] = some x) :
    ∃ l : List UInt8, len = l.length ∧ Bs w (.slice a l.length cap) l ∧ l.length ≤ cap ∧ cap ≤ maxLen := by
  obtain ⟨a1, l, c1, e1, hb, _⟩ := open_bytes ht he hC h
  injection e1 with e1 e2 e3
  subst e1 e2 e3
  refine ⟨l, rfl, hb, ?_⟩
  rcases open_slice1 ht hC h with ⟨h0, _⟩ | ⟨a', len', cap', m, n, V, D, Pl, hcs, _, hl, hm, _⟩
  · simp at h0
    obtain ⟨_, h1, h2⟩ := h0
    rw [h1, h2]
    exact ⟨by simp, by simp⟩
  · simp at hcs
    obtain ⟨_, h1, h2⟩ := hcs
    subst h1 h2
    exact ⟨hl, hm⟩

theorem open_ints_at {t e : TypeId} {fuel : Nat} {a : Option Addr} {len cap : Nat} {x : DataW H × List MemPlace}
    (ht : P.underlying t = some (.slice e)) (he : P.underlying e = some (.int .i64)) (hC : P.cellsOf e = 1)
    (h : DataW.trod enc P w base spare held fuel t [.slice a len cap] = some x) :
    ∃ b off L, (len = 0 ∨ IntsAt w b off len L) ∧ (len = 0 ∨ a = some ⟨b, off, none⟩) := by
  rcases open_int_cells ht he hC h with h0 | ⟨b, off, rfl, hb, _, _, hc⟩
  · exact ⟨0, 0, fun _ => 0, .inl h0, .inl h0⟩
  · refine ⟨b, off, fun i => cellInt w b (off + i), .inr ⟨hb, fun i hi => ?_⟩, .inr rfl⟩
    obtain ⟨n, h1, _⟩ := hc i hi
    exact cellInt_of h1
end

theorem parts_any (H : Type) (enc : TypeId × Value → H) (W : World) {a ap : Option Addr} {len cap plen pc : Nat} {d d' : DataW H} {p p' : List MemPlace}
    (h : DataW.Trod enc Tryd.prog W 0 (fun _ => true) true 22 (.slice a len cap) d p) (h' : DataW.Trod enc Tryd.prog W 0 (fun _ => true) true 23 (.slice ap plen pc) d' p') (hk : Kon W) (hf : Frs W) :
    Calls Tryd.prog 3 #[.slice a len cap, .slice ap plen pc] W fun e w' => e = .returned (.bool true) ∧ Keep Non W w' := by
  by_cases hl : 1000 < len ∨ 20 < plen
  · exact parts_long a cap len ap plen pc W hl hk hf
  · obtain ⟨m, hm⟩ := h
    obtain ⟨m', hm'⟩ := h'
    obtain ⟨l, rfl, hb, hc, _⟩ := open_bytes_le Tryd.underlying22 Tryd.underlying5 (by kernel_rfl) (by simpa [Value.cells] using hm)
    obtain ⟨b, off, L, hi, ha⟩ := open_ints_at Tryd.underlying23 Tryd.underlying3 (by kernel_rfl) (by simpa [Value.cells] using hm')
    exact parts_some a cap l b off plen pc L W hb hc hi ap ha (by omega) (by omega) hk hf

end Go.Proofs.YtcjjhgecmnfmdaaDoor
