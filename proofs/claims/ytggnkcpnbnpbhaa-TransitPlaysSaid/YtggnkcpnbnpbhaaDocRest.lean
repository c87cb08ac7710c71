/- The document's line: its answers where nothing turns; all messages lost, walked. -/
import Derived.Test.YtggnkcpnbnpbhaaDoc
namespace Go.Proofs.Ytggnkcpnbnpbhaa
open Go.RowKit
set_option linter.unusedVariables false

set_option maxHeartbeats 1600000 in
theorem rdrop_no (a : Option Addr) (n cap : Nat) (c : Nat → Int) (i k : Int) (w : World) (hi : i < 0 ∨ (0 ≤ i ∧ (n : Int) ≤ i)) :
    Calls Try.prog 27 #[.agg #[.slice a n cap, .int .i64 (c 0), .int .i64 (c 1), .int .i64 (c 2), .int .i64 (c 3)], .int .i64 i, .int .i64 k] w fun e w' => e = .returned (.tuple #[.string ⟨#[]⟩, .agg #[.slice a n cap, .int .i64 (c 0), .int .i64 (c 1), .int .i64 (c 2), .int .i64 (c 3)], .int .i64 1]) ∧ Keep Non w w' := by
  rcases hi with hi | ⟨hi, hi2⟩
  all_goals
    go_enter Try.func27, Try.ntmps27
    go_wp2_with fail
    go_region
    all_goals go_wp2_with fail
    all_goals go_returns
    all_goals exact ⟨rfl, (((Keep.refl _ _).alloc _).alloc _).drew⟩

set_option maxHeartbeats 1600000 in
theorem rtwice_no (a : Option Addr) (n cap : Nat) (c : Nat → Int) (i : Int) (w : World) (hi : i < 0 ∨ (0 ≤ i ∧ (n : Int) ≤ i)) :
    Calls Try.prog 28 #[.agg #[.slice a n cap, .int .i64 (c 0), .int .i64 (c 1), .int .i64 (c 2), .int .i64 (c 3)], .int .i64 i] w fun e w' => e = .returned (.tuple #[.agg #[.slice a n cap, .int .i64 (c 0), .int .i64 (c 1), .int .i64 (c 2), .int .i64 (c 3)], .int .i64 1]) ∧ Keep Non w w' := by
  rcases hi with hi | ⟨hi, hi2⟩
  all_goals
    go_enter Try.func28, Try.ntmps28
    go_wp2_with fail
    go_returns
    exact ⟨rfl, ((Keep.refl _ _).alloc _).alloc _⟩

set_option maxHeartbeats 1600000 in
theorem rtwice_full (a : Option Addr) (n cap : Nat) (c : Nat → Int) (i : Int) (w : World) (hi : 0 ≤ i) (hi2 : i < (n : Int)) (hn : 64 ≤ n) :
    Calls Try.prog 28 #[.agg #[.slice a n cap, .int .i64 (c 0), .int .i64 (c 1), .int .i64 (c 2), .int .i64 (c 3)], .int .i64 i] w fun e w' => e = .returned (.tuple #[.agg #[.slice a n cap, .int .i64 (c 0), .int .i64 (c 1), .int .i64 (c 2), .int .i64 (c 3)], .int .i64 5]) ∧ Keep Non w w' := by
  go_enter Try.func28, Try.ntmps28
  go_wp2_with fail
  go_returns
  exact ⟨rfl, ((Keep.refl _ _).alloc _).alloc _⟩

set_option maxHeartbeats 1600000 in
theorem rclear_any (a : Option Addr) (n cap : Nat) (c : Nat → Int) (w : World) (hc0 : 0 ≤ c 2) (hc1 : c 2 ≤ 1000000) (hn : n ≤ 64) :
    Calls Try.prog 29 #[.agg #[.slice a n cap, .int .i64 (c 0), .int .i64 (c 1), .int .i64 (c 2), .int .i64 (c 3)]] w fun e w' => e = .returned (.agg #[.slice none 0 0, .int .i64 (c 0), .int .i64 (c 1), .int .i64 (c 2 + n), .int .i64 (c 3)]) ∧ Keep Non w w' := by
  go_enter Try.func29, Try.ntmps29
  go_wp2_with fail
  go_returns
  exact ⟨rfl, ((Keep.refl _ _).alloc _).alloc _⟩

end Go.Proofs.Ytggnkcpnbnpbhaa
