/- The helpers on errors: an error as its number; is it this one? -/
import Derived.Test.YtggnkcpnbnpbhaaBase
namespace Go.Proofs.Ytggnkcpnbnpbhaa
open Go.RowKit

set_option maxHeartbeats 400000 in
theorem num_none (w : World) : Calls Try.prog 24 #[.nilIface] w fun e w' => e = .returned (.int .i64 0) ∧ w = w' := by
  go_enter Try.func24, Try.ntmps24
  go_wp2
  go_ret
  exact ⟨rfl, rfl⟩

theorem assert_errno (n : Int) (w : World) : (Instr.typeAssert (.iface 34 (.int .i64 n)) 28 34 true).run Try.prog w = .ok (.tuple #[.int .i64 n, .bool true]) w := by kernel_rfl

set_option maxHeartbeats 400000 in
theorem num_some (n : Int) (hn : (n != 0) = true) (w : World) : Calls Try.prog 24 #[.iface 34 (.int .i64 n)] w fun e w' => e = .returned (.int .i64 n) ∧ w = w' := by
  have ht := assert_errno n
  go_enter Try.func24, Try.ntmps24
  go_wp2
  go_ret
  exact ⟨rfl, rfl⟩

theorem num_any (n : Int) (w : World) : Calls Try.prog 24 #[errv n] w fun e w' => e = .returned (.int .i64 n) ∧ w = w' := by
  by_cases h : n = 0
  · subst h
    exact num_none w
  · rw [errv_of h]
    exact num_some n (by simpa using h) w

theorem is_any (n k : Int) (w : World) : Calls Try.prog 11 #[errv n, .int .i64 k] w fun e w' => e = .returned (.bool (n == k)) ∧ w = w' := by
  go_enter Try.func11, Try.ntmps11
  go_wp2_with (go_at_call 24; go_must (refine (num_any n _).mono ?_); rintro e w' ⟨rfl, rfl⟩)
  go_ret
  exact ⟨rfl, rfl⟩

end Go.Proofs.Ytggnkcpnbnpbhaa
