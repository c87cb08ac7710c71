/- The fixed fact at each law's head: the chapter's example. -/
import Derived.Test.YtdgplmlpkphnaaaSeq2
namespace Go.Proofs.Ytdgplmlpkphnaaa
open Go.RowKit

/-- A taking without an error. -/
theorem take_fine (b : Nat) (ep nx x n : Int) (w : World) (h : w.heap[b]? = some (SqB ep nx)) (hi : SqIn ep nx) (he : takeE ep nx x n = 0) :
    Calls Try.prog 9 #[.pointer (some ⟨b, 0, none⟩), .int .i64 x, .int .i64 n] w fun e w' => e = .returned (.tuple #[.int .i64 nx, .nilIface]) ∧ Keep (One b) w w' ∧ w'.heap[b]? = some (SqB ep (nx + n)) := by
  have := take_any b ep nx x n w h hi
  have e2 : takeV ep nx x n = nx := by simp [takeV, he]
  have e3 : takeN ep nx x n = nx + n := by simp [takeN, he]
  rw [he, e2, e3] at this
  exact this

/-- A taking that is refused. -/
theorem take_not (b : Nat) (ep nx x n : Int) (w : World) (h : w.heap[b]? = some (SqB ep nx)) (hi : SqIn ep nx) (he : takeE ep nx x n ≠ 0) :
    Calls Try.prog 9 #[.pointer (some ⟨b, 0, none⟩), .int .i64 x, .int .i64 n] w fun e w' => e = .returned (.tuple #[.int .i64 0, .iface 40 (.int .i64 (takeE ep nx x n))]) ∧ Keep (One b) w w' ∧ w'.heap[b]? = some (SqB ep nx) := by
  have := take_any b ep nx x n w h hi
  have e2 : takeV ep nx x n = 0 := by simp [takeV, he]
  have e3 : takeN ep nx x n = nx := by simp [takeN, he]
  rw [e2, e3, errv_of he] at this
  exact this

set_option maxHeartbeats 400000 in
theorem alive_true (w : World) : Calls Try.prog 6 #[] w fun e w' => e = .returned (.bool true) ∧ Keep Non w w' := by
  go_enter Try.func6, Try.ntmps6
  go_wp2_with fail
  refine (new_seq _).mono ?_
  rintro e w1 ⟨b, rfl, hb, hk1, h1⟩
  have H1 := Lib.hid h1
  clear h1
  go_wp2_with fail
  refine (take_fine b 0 0 0 2 _ H1.out ⟨by decide, by decide, by decide, by decide⟩ rfl).mono ?_
  rintro e w2 ⟨rfl, hk2, h2⟩
  have H2 := Lib.hid h2
  clear h2 H1
  go_wp2_with fail
  refine (take_fine b 0 (0 + 2) 0 1 _ H2.out ⟨by decide, by decide, by decide, by decide⟩ rfl).mono ?_
  rintro e w3 ⟨rfl, hk3, h3⟩
  clear h3
  go_wp2_with fail
  go_ret
  exact ⟨rfl, (hk1.trans hk2 (fun _ _ h => h) (fun i hi h => by unfold One at h; omega)).trans hk3 (fun _ _ h => h) (fun i hi h => by unfold One at h; omega)⟩

end Go.Proofs.Ytdgplmlpkphnaaa
