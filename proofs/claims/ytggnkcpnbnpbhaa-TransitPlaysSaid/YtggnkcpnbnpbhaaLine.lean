/- A line of messages in memory; a message is added. -/
import Derived.Test.YtggnkcpnbnpbhaaClone
import Derived.Test.YtggnkcpnbnpbhaaNum
namespace Go.Proofs.Ytggnkcpnbnpbhaa
open Go.RowKit

/-- A line's block: four counts, the list. -/
def LnB (c : Nat → Int) (v : Value) : Obj := .cells #[.int .i64 (c 0), .int .i64 (c 1), .int .i64 (c 2), .int .i64 (c 3), v] 64 (0, 0)
def bump (c : Nat → Int) (i : Nat) : Nat → Int := fun j => if j = i then c j + 1 else c j
section
variable {w : World} {p : Nat} {c : Nat → Int} {v : Value}
theorem ln_c (h : w.heap[p]? = some (LnB c v)) (i : Nat) (hi : i < 4) : w.cell? ⟨p, i, none⟩ = some (.int .i64 (c i)) := by
  match i, hi with
  | 0, _ => simp [World.cell?, h, LnB]
  | 1, _ => simp [World.cell?, h, LnB]
  | 2, _ => simp [World.cell?, h, LnB]
  | 3, _ => simp [World.cell?, h, LnB]
theorem ln_v (h : w.heap[p]? = some (LnB c v)) : w.cell? ⟨p, 4, none⟩ = some v := by simp [World.cell?, h, LnB]
theorem ln_f (h : w.heap[p]? = some (LnB c v)) (i : Nat) : w.frozen? ⟨p, i, none⟩ = false := by simp [World.frozen?, h, LnB]
theorem ln_set (h : w.heap[p]? = some (LnB c v)) (u : Value) : (w.setCell ⟨p, 4, none⟩ u).heap[p]? = some (LnB c u) := blk_set h 4 u
theorem ln_bump (h : w.heap[p]? = some (LnB c v)) (i : Nat) (hi : i < 4) : (w.setCell ⟨p, i, none⟩ (.int .i64 (c i + 1))).heap[p]? = some (LnB (bump c i) v) := by
  match i, hi with
  | 0, _ => exact blk_set h 0 _
  | 1, _ => exact blk_set h 1 _
  | 2, _ => exact blk_set h 2 _
  | 3, _ => exact blk_set h 3 _
end

/-- The messages: each value reads as its bytes, in a block of F that is neither the line's nor the list's. -/
def Msgs (F : Nat → Prop) (w : World) (p : Nat) (v : Value) (vs : List Value) (ms : List (List UInt8)) : Prop :=
  vs.length = ms.length ∧ ∀ (i : Nat) (u : Value) (l : List UInt8), vs[i]? = some u → ms[i]? = some l → Bs w u l ∧ (∀ g, u.ownBlock = some g → F g ∧ g ≠ p ∧ v.ownBlock ≠ some g ∧ g < w.heap.size)

/-- A line, whose memory lies in F. -/
def Line (F : Nat → Prop) (w : World) (p : Nat) (c : Nat → Int) (ms : List (List UInt8)) : Prop :=
  ∃ v vs, w.heap[p]? = some (LnB c v) ∧ w.ownsRow 0 26 1 v vs.length vs ∧ (∀ g, v.ownBlock = some g → F g ∧ g ≠ p) ∧ Msgs F w p v vs ms ∧ F p ∧ (∀ u ∈ vs, u.oneCell' = true)

/-- What was F, and all that is new. -/
def Fx (F : Nat → Prop) (w : World) : Nat → Prop := fun k => F k ∨ w.heap.size ≤ k

theorem Line.mono {F G : Nat → Prop} {w : World} {p : Nat} {c : Nat → Int} {ms : List (List UInt8)} (h : Line F w p c ms) (hs : ∀ k, F k → G k) : Line G w p c ms := by
  obtain ⟨v, vs, h1, h2, h3, ⟨h4, h5⟩, h6, h7⟩ := h
  exact ⟨v, vs, h1, h2, fun g e => ⟨hs g (h3 g e).1, (h3 g e).2⟩, ⟨h4, fun i u l hu hl => ⟨(h5 i u l hu hl).1, fun g e => ⟨hs g ((h5 i u l hu hl).2 g e).1, ((h5 i u l hu hl).2 g e).2⟩⟩⟩, hs p h6, h7⟩

theorem ownsRow_keep {S : Nat → Prop} {w w' : World} {base : Nat} {e : TypeId} {size : Nat} {v : Value} {n : Nat} {xs : List Value} (h : w.ownsRow base e size v n xs) (k : Keep S w w') (hn : ∀ g, v.ownBlock = some g → ¬ S g) : w'.ownsRow base e size v n xs := by
  obtain ⟨h1, h2⟩ := h
  refine ⟨h1, ?_⟩
  rcases h2 with h2 | ⟨g, cap, cur, rfl, hb, hg, rest⟩
  · exact .inl h2
  · exact .inr ⟨g, cap, cur, rfl, hb, k.at hg (hn g rfl), rest⟩

theorem Line.keep {F S : Nat → Prop} {w w' : World} {p : Nat} {c : Nat → Int} {ms : List (List UInt8)} (h : Line F w p c ms) (k : Keep S w w') (hn : ∀ g, F g → ¬ S g) : Line F w' p c ms := by
  obtain ⟨v, vs, h1, h2, h3, ⟨h4, h5⟩, h6, h7⟩ := h
  exact ⟨v, vs, k.at h1 (hn p h6), ownsRow_keep h2 k (fun g e => hn g (h3 g e).1), h3, ⟨h4, fun i u l hu hl => ⟨(h5 i u l hu hl).1.keep k (fun g e => hn g ((h5 i u l hu hl).2 g e).1), fun g e => ⟨((h5 i u l hu hl).2 g e).1, ((h5 i u l hu hl).2 g e).2.1, ((h5 i u l hu hl).2 g e).2.2.1, k.lt ((h5 i u l hu hl).2 g e).2.2.2⟩⟩⟩, h6, h7⟩

/-- A line's memory lies among the blocks that there are. -/
theorem Line.tight {F : Nat → Prop} {w : World} {p : Nat} {c : Nat → Int} {ms : List (List UInt8)} (h : Line F w p c ms) : Line (fun k => F k ∧ k < w.heap.size) w p c ms := by
  obtain ⟨v, vs, h1, h2, h3, ⟨h4, h5⟩, h6, h7⟩ := h
  exact ⟨v, vs, h1, h2, fun g e => ⟨⟨(h3 g e).1, (h2.lt g e).2⟩, (h3 g e).2⟩, ⟨h4, fun i u l hu hl => ⟨(h5 i u l hu hl).1, fun g e => ⟨⟨((h5 i u l hu hl).2 g e).1, ((h5 i u l hu hl).2 g e).2.2.2⟩, ((h5 i u l hu hl).2 g e).2⟩⟩⟩, ⟨h6, lt_of_block h1⟩, h7⟩

set_option maxHeartbeats 400000 in
theorem aadd_any (b i : Nat) (v : Int) (w : World) (h : w.cell? ⟨b, i, none⟩ = some (.int .i64 v)) (hf : w.frozen? ⟨b, i, none⟩ = false) (h0 : 0 ≤ v) (h1 : v ≤ 1000000) :
    Calls Try.prog 32 #[.pointer (some ⟨b, i, none⟩), .int .i64 1] w fun e w' => e = .returned (.int .i64 (v + 1)) ∧ w' = w.setCell ⟨b, i, none⟩ (.int .i64 (v + 1)) := by
  have hl := run_call_add (P := Try.prog) Try.func35 (by kernel_rfl) (by kernel_rfl) (by kernel_rfl) .i64 (by kernel_rfl) (y := 1) (s := v + 1) h hf (by simp [go_sem, IntWalk.i64_in _ (show -9223372036854775808 ≤ v + 1 ∧ v + 1 ≤ 9223372036854775807 by omega)])
  go_enter Try.func32, Try.ntmps32
  go_wp2
  go_ret
  exact ⟨rfl, rfl⟩

end Go.Proofs.Ytggnkcpnbnpbhaa
