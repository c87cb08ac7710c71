/- Small words that all walks of this seat share: which blocks a call may have changed ('Keep'), what an error reads as ('errv'), and the contracts of the two helpers on errors. -/
import Derived.Test.YtcjjhgecmnfmdaaDoorRows
import Derived.WalkKit
import Derived.WalkSpells
import Derived.WalkLawsBesides
import Derived.LaidEql
namespace Go.Proofs.YtcjjhgecmnfmdaaDoor
open Go.RowKit

/-- Of the blocks that stood in w all but those of S stand in w' as they were; the streams are as they were. -/
structure Keep (S : Nat → Prop) (w w' : World) : Prop where
  os : w'.os = w.os
  tape : w'.tape = w.tape
  output : w'.output = w.output
  size : w.heap.size ≤ w'.heap.size
  block : ∀ k, k < w.heap.size → ¬ S k → w'.heap[k]? = w.heap[k]?

/-- No old block at all is changed. -/
def Non : Nat → Prop := fun _ => False
/-- One old block may be changed. -/
def One (b : Nat) : Nat → Prop := fun k => k = b

theorem one_self (b : Nat) : One b b := rfl

theorem Keep.refl (S : Nat → Prop) (w : World) : Keep S w w := ⟨rfl, rfl, rfl, Nat.le_refl _, fun _ _ _ => rfl⟩

theorem Keep.trans {S T U : Nat → Prop} {a b c : World} (h : Keep S a b) (k : Keep T b c)
    (hs : ∀ i, i < a.heap.size → S i → U i) (ht : ∀ i, i < a.heap.size → T i → U i) : Keep U a c :=
  ⟨k.os.trans h.os, k.tape.trans h.tape, k.output.trans h.output, Nat.le_trans h.size k.size,
    fun i hi hn => (k.block i (Nat.lt_of_lt_of_le hi h.size) (fun e => hn (ht i hi e))).trans (h.block i hi (fun e => hn (hs i hi e)))⟩

theorem Keep.trans1 {S : Nat → Prop} {a b c : World} (h : Keep S a b) (k : Keep S b c) : Keep S a c :=
  h.trans k (fun _ _ h => h) (fun _ _ h => h)

theorem Keep.mono {S T : Nat → Prop} {a b : World} (h : Keep S a b) (hs : ∀ i, i < a.heap.size → S i → T i) : Keep T a b :=
  ⟨h.os, h.tape, h.output, h.size, fun i hi hn => h.block i hi (fun e => hn (hs i hi e))⟩

theorem Keep.ofNon {S : Nat → Prop} {a b : World} (h : Keep Non a b) : Keep S a b := h.mono (fun _ _ h => h.elim)

theorem Keep.drew {S : Nat → Prop} {a w : World} (h : Keep S a w) : Keep S a w.drew := ⟨h.os, h.tape, h.output, h.size, h.block⟩

theorem Keep.drewN {S : Nat → Prop} {a w : World} (h : Keep S a w) (n : Nat) : Keep S a (w.drewN n) := ⟨h.os, h.tape, h.output, h.size, h.block⟩

theorem Keep.alloc {S : Nat → Prop} {a w : World} (h : Keep S a w) (o : Obj) : Keep S a (w.alloc o) :=
  ⟨h.os, h.tape, h.output, by have := h.size; simp; omega, fun k hk hn => (Below.heap_alloc w o k (by have := h.size; omega)).trans (h.block k hk hn)⟩

theorem Keep.setCell {S : Nat → Prop} {a w : World} (h : Keep S a w) {p : Addr} (hp : S p.block ∨ a.heap.size ≤ p.block) (u : Value) : Keep S a (w.setCell p u) :=
  ⟨h.os, h.tape, h.output, by have := h.size; simp [World.setCell]; omega,
    fun k hk hn => (Below.heap_setCell w p u k (fun e => by rcases hp with hp | hp; exact hn (e ▸ hp); omega)).trans (h.block k hk hn)⟩

theorem Keep.setOne {b : Nat} {a w : World} (h : Keep (One b) a w) (i : Nat) (u : Value) : Keep (One b) a (w.setCell ⟨b, i, none⟩ u) := h.setCell (p := ⟨b, i, none⟩) (.inl (one_self b)) u
theorem Keep.setNew {S : Nat → Prop} {a w : World} (h : Keep S a w) {k : Nat} (hk : a.heap.size ≤ k) (i : Nat) (u : Value) : Keep S a (w.setCell ⟨k, i, none⟩ u) := h.setCell (p := ⟨k, i, none⟩) (.inr hk) u

theorem Keep.grown {S : Nat → Prop} {a w w' : World} {row : Option Nat} (h : Keep S a w) (hg : w.grownBy w' row) (hr : ∀ k, row = some k → S k ∨ a.heap.size ≤ k) : Keep S a w' :=
  ⟨hg.os.trans h.os, hg.tape.trans h.tape, hg.output.trans h.output, Nat.le_trans h.size hg.size,
    fun k hk hn => (hg.block k (by have := h.size; omega) (fun e => by rcases hr k e.symm with h' | h'; exact hn h'; omega)).trans (h.block k hk hn)⟩

theorem Keep.below {a b : World} (h : Keep Non a b) : Below a.heap.size a b := ⟨h.os, h.tape, h.output, h.size, fun k hk => h.block k hk (fun e => e)⟩

theorem Keep.ofBelow {a b : World} (h : Below a.heap.size a b) : Keep Non a b := ⟨h.os, h.tape, h.output, h.size, fun k hk _ => h.block k hk⟩

theorem Keep.at {S : Nat → Prop} {a b : World} (h : Keep S a b) {k : Nat} {o : Obj} (hk : a.heap[k]? = some o) (hn : ¬ S k) : b.heap[k]? = some o :=
  (h.block k (lt_of_block hk) hn).trans hk

theorem Keep.lt {S : Nat → Prop} {a b : World} (h : Keep S a b) {k : Nat} (hk : k < a.heap.size) : k < b.heap.size := Nat.lt_of_lt_of_le hk h.size

/-- What is known of the world alone is handed on; how it is spelt is forgotten. -/
theorem abs_world {P : Program} {c : Code} {Q : Exit → Act → World → Prop} {a : Act} {w : World} (R : World → Prop) (hR : R w) (h : ∀ W, R W → Code.wp P c Q a W) : Code.wp P c Q a w := h w hR

/-- A block of cells behind a store into it. -/
theorem blk_set {w : World} {b : Nat} {cs : Array Value} {t : TypeId} {fr : Nat × Nat} (h : w.heap[b]? = some (.cells cs t fr)) (i : Nat) (v : Value) :
    (w.setCell ⟨b, i, none⟩ v).heap[b]? = some (.cells (cs.setIfInBounds i v) t fr) := by
  simp [World.setCell, Array.getElem?_modify, h]
theorem blk_set_ne {w : World} {b : Nat} {o : Obj} (h : w.heap[b]? = some o) {p : Addr} (hp : p.block ≠ b) (v : Value) : (w.setCell p v).heap[b]? = some o :=
  (Below.heap_setCell w p v b (fun e => hp e.symm)).trans h
theorem blk_skip {w : World} {b m : Nat} {o : Obj} (h : w.heap[b]? = some o) (hm : m ≠ b) (i : Nat) (v : Value) : (w.setCell ⟨m, i, none⟩ v).heap[b]? = some o := blk_set_ne h hm v
theorem blk_alloc {w : World} {b : Nat} {o : Obj} (h : w.heap[b]? = some o) (o' : Obj) : (w.alloc o').heap[b]? = some o :=
  (Below.heap_alloc w o' b (lt_of_block h)).trans h
theorem blk_new (w : World) (o : Obj) : (w.alloc o).heap[w.heap.size]? = some o := by show (w.heap.push o)[w.heap.size]? = _; simp
theorem blk_drew {w : World} {b : Nat} {o : Obj} (h : w.heap[b]? = some o) : w.drew.heap[b]? = some o := h
theorem blk_drewN {w : World} {b : Nat} {o : Obj} (h : w.heap[b]? = some o) (n : Nat) : (w.drewN n).heap[b]? = some o := h

theorem ret_int {k : IntKind} {a b : Int} (h : a = b) : Ending.returned (.int k a) = .returned (.int k b) := by rw [h]
theorem ret_bool {a b : Bool} (h : a = b) : Ending.returned (.bool a) = .returned (.bool b) := by rw [h]

/-- An error by its number: 0 is nil. -/
def errv (n : Int) : Value := if n = 0 then .nilIface else .iface 67 (.int .i64 n)
theorem errv_zero : errv 0 = .nilIface := rfl
theorem errv_of {n : Int} (h : n ≠ 0) : errv n = .iface 67 (.int .i64 n) := if_neg h

end Go.Proofs.YtcjjhgecmnfmdaaDoor
