/- A whole array by value, out of and into a block of any world, as the walk leaves it: the cells. -/
import Derived.Test.YtcjjhgecmnfmdaaDoorBase
import Derived.Deep.WholeRow
namespace Go.Proofs.YtcjjhgecmnfmdaaDoor
open Go.RowKit
variable {P : Program}

theorem row_load (w : World) (g : Nat) (t : TypeId) (cs : Array Value) (fr : Nat × Nat) (n : Nat) (hg : w.heap[g]? = some (.cells cs t fr)) (hn : cs.size = n) :
    (loadCellsFrom ⟨g, 0, none⟩ 0 n #[]).run P w = .ok cs w := by
  subst hn
  have := run_loadCells_list (P := P) w ⟨g, 0, none⟩ cs.toList (fun j v hv => by
    have hadd : (⟨g, 0, none⟩ : Addr).add j = ⟨g, j, none⟩ := by unfold Addr.add; split <;> simp_all
    rw [hadd, cell_of_row _ _ j cs t fr hg]
    simpa using hv)
  simpa [loadCells] using this
theorem row_store (w : World) (g : Nat) (t : TypeId) (old cs : Array Value) (hg : w.heap[g]? = some (.cells old t (0, 0))) (hi : (P.info? t).map (·.size) = some cs.size) (ho : old.size = cs.size) (h1 : cs.all (·.oneCell') = true) :
    (storeCells ⟨g, 0, none⟩ cs.toList 0).run P w = .ok () (w.setRow g cs) := by
  have := run_storeVar_row (P := P) w g t t old cs hg hi ho h1
  cases hq : P.info? t with
  | none => simp [hq] at hi
  | some i =>
    have hs : cs.size = i.size := by simp [hq] at hi; omega
    simpa [storeVar, sizeOf, typeInfo, hq, Value.cells, hs] using this
theorem Keep.setRow {S : Nat → Prop} {a w : World} (h : Keep S a w) {g : Nat} (hg : S g ∨ a.heap.size ≤ g) (cs : Array Value) : Keep S a (w.setRow g cs) :=
  ⟨h.os, h.tape, h.output, by rw [setRow_size]; exact h.size, fun k hk hn => by
    rw [setRow_other _ _ _ _ (fun e => by subst e; rcases hg with hg | hg; exact hn hg; omega)]
    exact h.block k hk hn⟩
theorem all_one {cs : Array Value} {k : IntKind} {n : Nat} (hn : cs.size = n) (h : ∀ i, i < n → ∃ x, cs[i]? = some (.int k x)) : cs.all (·.oneCell') = true := by
  rw [Array.all_eq_true]
  intro i hi
  obtain ⟨x, hx⟩ := h i (by omega)
  rw [Array.getElem?_eq_getElem hi] at hx
  rw [Option.some.inj hx]
  rfl
/-- Held back from the walk, where a whole array goes over by value. -/
def holdA (t : TypeId) : Sem Bool := isAgg t
def holdS (t : TypeId) : Sem Nat := sizeOf t
theorem hA66 (w : World) : (isAgg 66).run Tryd.prog w = (holdA 66).run Tryd.prog w := rfl
theorem hS66 (w : World) : (sizeOf 66).run Tryd.prog w = (holdS 66).run Tryd.prog w := rfl
theorem oA66 (w : World) : (holdA 66).run Tryd.prog w = .ok true w := Tryd.isAgg66 w
theorem oS66 (w : World) : (holdS 66).run Tryd.prog w = .ok 64 w := Tryd.sizeOf66 w
theorem hA56 (w : World) : (isAgg 56).run Tryd.prog w = (holdA 56).run Tryd.prog w := rfl
theorem hS56 (w : World) : (sizeOf 56).run Tryd.prog w = (holdS 56).run Tryd.prog w := rfl
theorem oA56 (w : World) : (holdA 56).run Tryd.prog w = .ok true w := Tryd.isAgg56 w
theorem oS56 (w : World) : (holdS 56).run Tryd.prog w = .ok 8 w := Tryd.sizeOf56 w
theorem hA27 (w : World) : (isAgg 27).run Tryd.prog w = (holdA 27).run Tryd.prog w := rfl
theorem hS27 (w : World) : (sizeOf 27).run Tryd.prog w = (holdS 27).run Tryd.prog w := rfl
theorem oA27 (w : World) : (holdA 27).run Tryd.prog w = .ok true w := Tryd.isAgg27 w
theorem oS27 (w : World) : (holdS 27).run Tryd.prog w = .ok 32 w := Tryd.sizeOf27 w
theorem hA26 (w : World) : (isAgg 26).run Tryd.prog w = (holdA 26).run Tryd.prog w := rfl
theorem hS26 (w : World) : (sizeOf 26).run Tryd.prog w = (holdS 26).run Tryd.prog w := rfl
theorem oA26 (w : World) : (holdA 26).run Tryd.prog w = .ok true w := Tryd.isAgg26 w
theorem oS26 (w : World) : (holdS 26).run Tryd.prog w = .ok 32 w := Tryd.sizeOf26 w
theorem hA34 (w : World) : (isAgg 34).run Tryd.prog w = (holdA 34).run Tryd.prog w := rfl
theorem hS34 (w : World) : (sizeOf 34).run Tryd.prog w = (holdS 34).run Tryd.prog w := rfl
theorem oA34 (w : World) : (holdA 34).run Tryd.prog w = .ok true w := Tryd.isAgg34 w
theorem oS34 (w : World) : (holdS 34).run Tryd.prog w = .ok 32 w := Tryd.sizeOf34 w
end Go.Proofs.YtcjjhgecmnfmdaaDoor
