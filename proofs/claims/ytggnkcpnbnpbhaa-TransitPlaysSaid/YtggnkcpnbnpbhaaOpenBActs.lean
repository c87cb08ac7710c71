/- A slice of acts with a text, opened. -/
import Derived.Test.YtggnkcpnbnpbhaaOpenBs
import Derived.Test.YtggnkcpnbnpbhaaSums
namespace Go.Proofs.Ytggnkcpnbnpbhaa
open Go.ChangeShapes Go.WideShapes Go.Deep Go.RowKit

section
variable {H : Type} {enc : TypeId × Value → H} {P : Program} {w : World} {base : Nat} {spare : Nat → Bool} {held : Bool}

/-- A slice of structs whose fields take one cell each: it is empty, or each field of each element is a cell that can be read. -/
theorem open_fields {t e : TypeId} {fs : Array Field} {fuel : Nat} {a : Option Addr} {len cap : Nat} {x : DataW H × List MemPlace}
    (ht : P.underlying t = some (.slice e)) (he : P.underlying e = some (.struct fs)) (hone : oneCellFields P fs = true) (hC : P.cellsOf e = fs.size) (hpos : 0 < fs.size)
    (h : DataW.trod enc P w base spare held fuel t [.slice a len cap] = some x) :
    len = 0 ∨ ∃ b off, a = some ⟨b, off, none⟩ ∧ b < w.heap.size ∧
      ∀ i, i < len → ∀ (j : Nat) (f : Field), fs[j]? = some f → ∃ v fuel' y, w.cell? ⟨b, off + i * fs.size + j, none⟩ = some v ∧ DataW.trod enc P w base spare held fuel' f.type [v] = some y := by
  rcases open_slice ht h with ⟨h0, _⟩ | ⟨a', len', cap', m, n, D, Pl, hcs, hb, hl, hm, hmm, hx, hi⟩
  · simp at h0
    exact .inl h0.2.1
  simp at hcs
  obtain ⟨rfl, rfl, rfl⟩ := hcs
  by_cases hz : len = 0
  · exact .inl hz
  refine .inr ?_
  have hml : len ≤ m := by rw [hmm]; split <;> omega
  have key : ∀ i, i < len → ∀ (j : Nat) (f : Field), fs[j]? = some f → ∃ v fuel' y, w.cell? (a'.add (i * fs.size + j)) = some v ∧ DataW.trod enc P w base spare held fuel' f.type [v] = some y := by
    intro i hil j f hfj
    have hj : j < fs.size := (Array.getElem?_eq_some_iff.1 hfj).1
    obtain ⟨cs', hc, ht'⟩ := hi i (by omega)
    rw [hC] at hc
    obtain ⟨ys, n', hn', hy, hlen, hyl, hf⟩ := DataW.trod_struct he ht'
    obtain ⟨_, hcl, hat⟩ := World.cells?_some hc
    obtain ⟨ho, hk⟩ := hone_of hone j f hfj
    have hcell := hat j hj
    have hv : cs'[j]? = some (cs'[j]'(by omega)) := List.getElem?_eq_getElem (by omega)
    have h1 := hf j f hfj
    rw [ho, hk] at h1
    have hone' : (cs'.drop j).take 1 = [cs'[j]'(by omega)] := by
      rw [List.drop_eq_getElem_cons (by omega)]
      rfl
    have hys : ys[j]? = some (ys[j]'(by omega)) := List.getElem?_eq_getElem (by omega)
    rw [hone', hys] at h1
    refine ⟨_, _, _, ?_, h1⟩
    rw [← Go.Deep.add_add, hcell, hv]
  obtain ⟨b, off, spot⟩ := a'
  obtain ⟨v0, _, _, hc0, _⟩ := key 0 (by omega) 0 fs[0] (by simp [hpos])
  have hspot : spot = none := by
    have := World.cell?_spot hc0
    simpa [Addr.add] using this
  subst hspot
  refine ⟨b, off, rfl, ?_, fun i hil j f hj => ?_⟩
  · have := World.block_lt_of_cell? _ _ hc0
    simpa [Addr.add] using this
  · obtain ⟨v, m', y, h1, h2⟩ := key i hil j f hj
    refine ⟨v, m', y, ?_, h2⟩
    rw [add_off] at h1
    rw [Nat.add_assoc]
    exact h1
end

theorem open_bacts (H : Type) (enc : TypeId × Value → H) (W : World) {fuel : Nat} {a : Option Addr} {len cap : Nat} {x : DataW H × List MemPlace}
    (h : DataW.trod enc Try.prog W 0 (fun _ => true) true fuel 37 [.slice a len cap] = some x) :
    len = 0 ∨ ∃ b off K I T, a = some ⟨b, off, none⟩ ∧ BActs W b off len K I T := by
  rcases open_fields Try.underlying37 Try.underlying40 (by kernel_rfl) (by kernel_rfl) (by decide) h with h0 | ⟨b, off, rfl, hb, hc⟩
  · exact .inl h0
  · have key : ∀ i, i < len → ∃ l : List UInt8, ∃ q cp, W.cell? ⟨b, off + i * 3 + 2, none⟩ = some (.slice q l.length cp) ∧ Bs W (.slice q l.length cp) l := by
      intro i hil
      obtain ⟨v, m, y, h1, h2⟩ := hc i hil 2 _ rfl
      obtain ⟨q, l, cp, e, hbs, _⟩ := open_bytes Try.underlying26 Try.underlying5 (by kernel_rfl) h2
      rw [e] at h1 hbs
      exact ⟨l, q, cp, h1, hbs⟩
    obtain ⟨T, hT⟩ := choose_lt (α := List UInt8) (p := fun i l => ∃ q cp, W.cell? ⟨b, off + i * 3 + 2, none⟩ = some (.slice q l.length cp) ∧ Bs W (.slice q l.length cp) l) key
    refine .inr ⟨b, off, fun i => cellInt W b (off + i * 3), fun i => cellInt W b (off + i * 3 + 1), T, rfl, hb, fun i hi => ?_, fun i hi => ?_, hT⟩
    · obtain ⟨v, m, y, h1, h2⟩ := hc i hi 0 _ rfl
      obtain ⟨q, hq, _, _⟩ := DataW.trod_int Try.underlying3 h2
      simp at hq
      rw [hq] at h1
      exact cellInt_of h1
    · obtain ⟨v, m, y, h1, h2⟩ := hc i hi 1 _ rfl
      obtain ⟨q, hq, _, _⟩ := DataW.trod_int Try.underlying3 h2
      simp at hq
      rw [hq] at h1
      exact cellInt_of h1

end Go.Proofs.Ytggnkcpnbnpbhaa
