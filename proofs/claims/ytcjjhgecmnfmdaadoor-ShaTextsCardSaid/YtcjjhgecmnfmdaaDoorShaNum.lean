/- The helpers on errors: an error as its number; is it this one? -/
import Derived.Test.YtcjjhgecmnfmdaaDoorBase
namespace Go.Proofs.YtcjjhgecmnfmdaaDoor
open Go.RowKit

set_option maxHeartbeats 400000 in
theorem num_none (w : World) : Calls Tryd.prog 24 #[.nilIface] w fun e w' => e = .returned (.int .i64 0) ∧ w = w' := by
  go_enter Tryd.func24, Tryd.ntmps24
  go_wp2
  go_ret
  exact ⟨rfl, rfl⟩

theorem assert_errno (n : Int) (w : World) : (Instr.typeAssert (.iface 67 (.int .i64 n)) 48 67 true).run Tryd.prog w = .ok (.tuple #[.int .i64 n, .bool true]) w := by kernel_rfl

set_option maxHeartbeats 400000 in
theorem num_some (n : Int) (hn : (n != 0) = true) (w : World) : Calls Tryd.prog 24 #[.iface 67 (.int .i64 n)] w fun e w' => e = .returned (.int .i64 n) ∧ w = w' := by
  have ht := assert_errno n
  go_enter Tryd.func24, Tryd.ntmps24
  go_wp2
  go_ret
  exact ⟨rfl, rfl⟩

theorem num_any (n : Int) (w : World) : Calls Tryd.prog 24 #[errv n] w fun e w' => e = .returned (.int .i64 n) ∧ w = w' := by
  by_cases h : n = 0
  · subst h
    exact num_none w
  · rw [errv_of h]
    exact num_some n (by simpa using h) w

end Go.Proofs.YtcjjhgecmnfmdaaDoor
