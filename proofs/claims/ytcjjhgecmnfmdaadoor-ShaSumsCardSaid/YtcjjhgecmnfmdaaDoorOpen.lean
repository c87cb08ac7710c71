/- Arguments opened: a slice of structs of integers. -/
import Derived.Test.YtcjjhgecmnfmdaaDoorBase
import Derived.ProofKit
import Derived.OpenShut
import Derived.ChangeOld
import Derived.Deep.Slices
import Derived.Deep.Fields
import Derived.ChangeSame
namespace Go.Proofs.YtcjjhgecmnfmdaaDoor
open Go.ChangeShapes Go.WideShapes Go.Deep Go.RowKit

section
variable {H : Type} {enc : TypeId × Value → H} {P : Program} {w : World} {base : Nat} {spare : Nat → Bool} {held : Bool}

/-- A slice of structs whose fields are integers: it is empty, or each field of each element is a cell that holds one. -/
theorem open_int_fields {t e : TypeId} {fs : Array Field} {fuel : Nat} {a : Option Addr} {len cap : Nat} {x : DataW H × List MemPlace}
    (ht : P.underlying t = some (.slice e)) (he : P.underlying e = some (.struct fs)) (hone : oneCellFields P fs = true) (hC : P.cellsOf e = fs.size) (hpos : 0 < fs.size)
    (hint : ∀ (j : Nat) (f : Field), fs[j]? = some f → P.underlying f.type = some (.int .i64))
    (h : DataW.trod enc P w base spare held fuel t [.slice a len cap] = some x) :
    len = 0 ∨ ∃ b off, a = some ⟨b, off, none⟩ ∧ b < w.heap.size ∧ len ≤ cap ∧ cap ≤ maxLen ∧
      ∀ i, i < len → ∀ j, j < fs.size → ∃ n, w.cell? ⟨b, off + i * fs.size + j, none⟩ = some (.int .i64 n) ∧ (Lit.int .i64 n).wf = true := by
  rcases open_slice ht h with ⟨h0, _⟩ | ⟨a', len', cap', m, n, D, Pl, hcs, hb, hl, hm, hmm, hx, hi⟩
  · simp at h0
    exact .inl h0.2.1
  simp at hcs
  obtain ⟨rfl, rfl, rfl⟩ := hcs
  by_cases hz : len = 0
  · exact .inl hz
  refine .inr ?_
  have hml : len ≤ m := by rw [hmm]; split <;> omega
  have key : ∀ i, i < len → ∀ j, j < fs.size → ∃ n, w.cell? (a'.add (i * fs.size + j)) = some (.int .i64 n) ∧ (Lit.int .i64 n).wf = true := by
    intro i hil j hj
    obtain ⟨cs', hc, ht'⟩ := hi i (by omega)
    rw [hC] at hc
    obtain ⟨ys, n', hn', hy, hlen, hyl, hf⟩ := DataW.trod_struct he ht'
    obtain ⟨_, hcl, hat⟩ := World.cells?_some hc
    obtain ⟨f, hfj⟩ : ∃ f, fs[j]? = some f := ⟨fs[j], by simp [hj]⟩
    obtain ⟨ho, hk⟩ := hone_of hone j f hfj
    have hcell := hat j hj
    have hv : cs'[j]? = some (cs'[j]'(by omega)) := List.getElem?_eq_getElem (by omega)
    have h1 := hf j f hfj
    rw [ho, hk] at h1
    have hone' : (cs'.drop j).take 1 = [cs'[j]'(by omega)] := by
      rw [List.drop_eq_getElem_cons (by omega)]
      rfl
    have hys : ys[j]? = some (ys[j]'(by omega)) := List.getElem?_eq_getElem (by omega)
    rw [hone', hys] at h1
    obtain ⟨q, hq, _, hwf⟩ := DataW.trod_int (hint j f hfj) h1
    simp at hq
    refine ⟨q, ?_, hwf⟩
    rw [← Go.Deep.add_add, hcell, hv, hq]
  obtain ⟨b, off, spot⟩ := a'
  obtain ⟨n0, hc0, _⟩ := key 0 (by omega) 0 hpos
  have hspot : spot = none := by
    have := World.cell?_spot hc0
    simpa [Addr.add] using this
  subst hspot
  refine ⟨b, off, rfl, ?_, hl, hm, fun i hil j hj => ?_⟩
  · have := World.block_lt_of_cell? _ _ hc0
    simpa [Addr.add] using this
  · obtain ⟨n, h1, h2⟩ := key i hil j hj
    refine ⟨n, ?_, h2⟩
    have e : (⟨b, off, none⟩ : Addr).add (i * fs.size + j) = ⟨b, off + i * fs.size + j, none⟩ := by
      unfold Addr.add
      split
      · next h0 =>
        have h1 : off = off + i * fs.size + j := by omega
        rw [← h1]
      · simp [Nat.add_assoc]
    rw [← e]
    exact h1

/-- A slice of integers: it is empty, or each element is a cell that holds one. -/
theorem open_int_cells {t e : TypeId} {fuel : Nat} {a : Option Addr} {len cap : Nat} {x : DataW H × List MemPlace}
    (ht : P.underlying t = some (.slice e)) (he : P.underlying e = some (.int .i64)) (hC : P.cellsOf e = 1)
    (h : DataW.trod enc P w base spare held fuel t [.slice a len cap] = some x) :
    len = 0 ∨ ∃ b off, a = some ⟨b, off, none⟩ ∧ b < w.heap.size ∧ len ≤ cap ∧ cap ≤ maxLen ∧
      ∀ i, i < len → ∃ n, w.cell? ⟨b, off + i, none⟩ = some (.int .i64 n) ∧ (Lit.int .i64 n).wf = true := by
  rcases open_slice1 ht hC h with ⟨h0, _⟩ | ⟨a', len', cap', m, n, V, D, Pl, hcs, hb, hl, hm, hmm, hx, hi⟩
  · simp at h0
    exact .inl h0.2.1
  simp at hcs
  obtain ⟨rfl, rfl, rfl⟩ := hcs
  by_cases hz : len = 0
  · exact .inl hz
  refine .inr ?_
  have hml : len ≤ m := by rw [hmm]; split <;> omega
  have key : ∀ i, i < len → ∃ n, w.cell? (a'.add i) = some (.int .i64 n) ∧ (Lit.int .i64 n).wf = true := by
    intro i hil
    obtain ⟨h1, h2⟩ := hi i (by omega)
    obtain ⟨q, hq, _, hwf⟩ := DataW.trod_int he h2
    simp at hq
    exact ⟨q, by rw [h1, hq], hwf⟩
  obtain ⟨b, off, spot⟩ := a'
  obtain ⟨n0, hc0, _⟩ := key 0 (by omega)
  have hspot : spot = none := by
    have := World.cell?_spot hc0
    simpa [Addr.add] using this
  subst hspot
  refine ⟨b, off, rfl, ?_, hl, hm, fun i hil => ?_⟩
  · have := World.block_lt_of_cell? _ _ hc0
    simpa [Addr.add] using this
  · obtain ⟨n, h1, h2⟩ := key i hil
    refine ⟨n, ?_, h2⟩
    have e : (⟨b, off, none⟩ : Addr).add i = ⟨b, off + i, none⟩ := by
      unfold Addr.add
      split
      · next h0 =>
        have h1 : off = off + i := by omega
        rw [← h1]
      · rfl
    rw [← e]
    exact h1
end

/-- The number in a cell. -/
def cellInt (w : World) (b k : Nat) : Int := match w.cell? ⟨b, k, none⟩ with | some (.int _ n) => n | _ => 0
theorem cellInt_of {w : World} {b k : Nat} {n : Int} (h : w.cell? ⟨b, k, none⟩ = some (.int .i64 n)) : w.cell? ⟨b, k, none⟩ = some (.int .i64 (cellInt w b k)) := by simp [cellInt, h]

end Go.Proofs.YtcjjhgecmnfmdaaDoor
