/- A whole array by value, out of and into a block of any world, as the walk leaves it: the cells. -/
import Derived.Test.YtcjjhgecmnfmdaaDoorBase
import Derived.Deep.WholeRow
namespace Go.Proofs.YtcjjhgecmnfmdaaDoor
open Go.RowKit
variable {P : Program}

theorem row_load (w : World) (g : Nat) (t : TypeId) (cs : Array Value) (fr : Nat × Nat) (n : Nat) (hg : w.heap[g]? = some (.cells cs t fr)) (hn : cs.size = n) :
    (loadCellsFrom ⟨g, 0, none⟩ 0 n #[]).run P w = .ok cs w := by
  subst hn
  have := run_loadCells_list (P := P) w ⟨g, 0, none⟩ cs.toList (fun j v hv => by
    have hadd : (⟨g, 0, none⟩ : Addr).add j = ⟨g, j, none⟩ := by unfold Addr.add; split <;> simp_all
    rw [hadd, cell_of_row _ _ j cs t fr hg]
    simpa using hv)
  simpa [loadCells] using this
theorem row_store (w : World) (g : Nat) (t : TypeId) (old cs : Array Value) (hg : w.heap[g]? = some (.cells old t (0, 0))) (hi : (P.info? t).map (·.size) = some cs.size) (ho : old.size = cs.size) (h1 : cs.all (·.oneCell') = true) :
    (storeCells ⟨g, 0, none⟩ cs.toList 0).run P w = .ok () (w.setRow g cs) := by
  have := run_storeVar_row (P := P) w g t t old cs hg hi ho h1
  cases hq : P.info? t with
  | none => simp [hq] at hi
  | some i =>
    have hs : cs.size = i.size := by simp [hq] at hi; omega
    simpa [storeVar, sizeOf, typeInfo, hq, Value.cells, hs] using this
theorem Keep.setRow {S : Nat → Prop} {a w : World} (h : Keep S a w) {g : Nat} (hg : S g ∨ a.heap.size ≤ g) (cs : Array Value) : Keep S a (w.setRow g cs) :=
  ⟨h.os, h.tape, h.output, by rw [setRow_size]; exact h.size, fun k hk hn => by
    rw [setRow_other _ _ _ _ (fun e => by subst e; rcases hg with hg | hg; exact hn hg; omega)]
    exact h.block k hk hn⟩
theorem all_one {cs : Array Value} {k : IntKind} {n : Nat} (hn : cs.size = n) (h : ∀ i, i < n → ∃ x, cs[i]? = some (.int k x)) : cs.all (·.oneCell') = true := by
  rw [Array.all_eq_true]
  intro i hi
  obtain ⟨x, hx⟩ := h i (by omega)
  rw [Array.getElem?_eq_getElem hi] at hx
  rw [Option.some.inj hx]
  rfl
end Go.Proofs.YtcjjhgecmnfmdaaDoor
