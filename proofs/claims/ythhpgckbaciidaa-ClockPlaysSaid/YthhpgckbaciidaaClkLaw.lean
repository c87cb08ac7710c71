/- The fixed fact at each law's head: the chapter's example. -/
import Derived.Test.YthhpgckbaciidaaClk2
import Derived.Test.YthhpgckbaciidaaNum
namespace Go.Proofs.Ythhpgckbaciidaa
open Go.RowKit

/-- A step that fits: no error. -/
theorem tick_fine (b : Nat) (a c bd : Int) (u : Bool) (i x : Int) (w : World) (h : w.heap[b]? = some (CkB a c bd u)) (hi : InB a c) (he : tickE a c i x = 0) :
    Calls Try.prog 8 #[.pointer (some ⟨b, 0, none⟩), .int .i64 i, .int .i64 x] w fun e w' => e = .returned .nilIface ∧ Keep (One b) w w' ∧ w'.heap[b]? = some (CkB (tickA a c i x) (tickC a c i x) bd (tickU a c bd u i x)) := by
  have := tick_any b a c bd u i x w h hi
  rw [he] at this
  exact this

theorem tick_demo (b : Nat) (w : World) (h : w.heap[b]? = some (CkB 0 0 2 false)) :
    Calls Try.prog 8 #[.pointer (some ⟨b, 0, none⟩), .int .i64 1, .int .i64 3] w fun e w' => e = .returned .nilIface ∧ Keep (One b) w w' ∧ w'.heap[b]? = some (CkB 3 0 2 true) :=
  tick_fine b 0 0 2 false 1 3 w h ⟨by decide, by decide, by decide, by decide⟩ rfl

theorem apart_demo (b : Nat) (w : World) (h : w.heap[b]? = some (CkB 3 0 2 true)) :
    Calls Try.prog 10 #[.pointer (some ⟨b, 0, none⟩)] w fun e w' => e = .returned (.int .i64 3) ∧ ∃ n, w' = w.drewN n :=
  apart_any b 3 0 2 true w h (by decide) (by decide) (by decide) (by decide)

/-- Two clocks in new memory. -/
theorem new_own (bd : Int) (w : World) (h0 : 0 ≤ bd) (h1 : bd ≤ 1099511627776) :
    Calls Try.prog 7 #[.int .i64 bd] w fun e w' => ∃ b, e = .returned (.tuple #[.pointer (some ⟨b, 0, none⟩), .nilIface]) ∧ w.heap.size ≤ b ∧ b < w'.heap.size ∧ Keep Non w w' ∧ w'.heap[b]? = some (CkB 0 0 bd false) := by
  refine (new_good bd w h0 h1).mono ?_
  rintro e w' ⟨rfl, rfl⟩
  exact ⟨_, rfl, Nat.le_refl _, by simp, (Keep.refl _ _).alloc _, blk_new _ _⟩

set_option maxHeartbeats 400000 in
theorem alive_true (w : World) : Calls Try.prog 6 #[] w fun e w' => e = .returned (.bool true) ∧ Keep Non w w' := by
  go_enter Try.func6, Try.ntmps6
  go_wp2_with fail
  refine (new_own 2 _ (by decide) (by decide)).mono ?_
  rintro e w1 ⟨b, rfl, hb, _, hk1, h1⟩
  have H1 := Lib.hid h1
  clear h1
  go_wp2_with fail
  refine (fair_any b 0 0 2 false _ H1.out).mono ?_
  rintro e w' ⟨rfl, rfl⟩
  go_wp2_with fail
  refine (tick_demo b _ H1.out).mono ?_
  rintro e w2 ⟨rfl, hk2, h2⟩
  have H2 := Lib.hid h2
  clear h2 H1
  go_wp2_with fail
  refine (fair_any b 3 0 2 true _ H2.out).mono ?_
  rintro e w' ⟨rfl, rfl⟩
  go_wp2_with fail
  refine (apart_demo b _ H2.out).mono ?_
  rintro e w' ⟨rfl, n, rfl⟩
  go_wp2_with fail
  go_ret
  exact ⟨rfl, (hk1.trans hk2 (fun _ _ h => h) (fun i hi h => by unfold One at h; omega)).drewN n⟩

end Go.Proofs.Ythhpgckbaciidaa
