/- Words of 32 bits: the model's operations on them; a word turned right. -/
import Derived.Test.YtcjjhgecmnfmdaaDoorRows
import Derived.WalkKit
import Derived.WalkSpells
import Derived.WalkLawsBesides
import Derived.Laws.BitsAllLaws
import Derived.Lib.Hide
namespace Go.Proofs.YtcjjhgecmnfmdaaDoor
open Go.RowKit

/-- A word of 32 bits. -/
def U32 (x : Int) : Prop := 0 ≤ x ∧ x < 4294967296
def w32 (x : Int) : Int := x % 4294967296
def xorI (x y : Int) : Int := bits .xor .u32 x y
def andI (x y : Int) : Int := bits .and .u32 x y
def orI (x y : Int) : Int := bits .or .u32 x y
def rotI (x : Int) (k : Nat) : Int := orI (w32 (x * 2 ^ (32 - k))) (x / 2 ^ k)

theorem u32_w (x : Int) : U32 (w32 x) := by
  unfold U32 w32
  omega
theorem u32_bits (op : BinOp) (x y : Int) : U32 (bits op .u32 x y) := by
  unfold U32
  have h : ∀ z : Int, 0 ≤ IntKind.u32.wrap z ∧ IntKind.u32.wrap z < 4294967296 := fun z => by
    rw [IntKind.wrap_u32']
    omega
  exact h _
theorem u32_xor (x y : Int) : U32 (xorI x y) := u32_bits _ _ _
theorem u32_and (x y : Int) : U32 (andI x y) := u32_bits _ _ _
theorem u32_or (x y : Int) : U32 (orI x y) := u32_bits _ _ _
theorem u32_rot (x : Int) (k : Nat) : U32 (rotI x k) := u32_or _ _
theorem u32_shr {x : Int} (h : U32 x) (k : Nat) : U32 (x / 2 ^ k) := by
  unfold U32 at *
  have hp : (0 : Int) < 2 ^ k := Int.pow_pos (by decide)
  refine ⟨Int.ediv_nonneg h.1 (Int.le_of_lt hp), ?_⟩
  have := Int.ediv_le_self (2 ^ k) h.1
  omega

set_option maxHeartbeats 400000 in
theorem rotl_2 (x : Int) (hx : U32 x) (w : World) : Calls Tryd.prog 35 #[.int .u32 x, .int .i64 (-2)] w fun e w' => e = .returned (.int .u32 (rotI x 2)) ∧ w = w' := by
  obtain ⟨h0, h1⟩ := hx
  have hb : bits .and .u64 (IntKind.u64.wrap (-2)) 31 = 30 := by decide
  go_enter Tryd.func35, Tryd.ntmps35
  go_wp2
  go_ret
  exact ⟨by simp [rotI, orI, w32], rfl⟩

set_option maxHeartbeats 400000 in
theorem right_2 (x : Int) (hx : U32 x) (w : World) : Calls Tryd.prog 33 #[.int .u32 x, .int .i64 2] w fun e w' => e = .returned (.int .u32 (rotI x 2)) ∧ w = w' := by
  go_enter Tryd.func33, Tryd.ntmps33
  go_wp2_with fail
  refine (rotl_2 x hx _).mono ?_
  rintro e w' ⟨rfl, rfl⟩
  go_wp2_with fail
  go_ret
  exact ⟨rfl, rfl⟩

set_option maxHeartbeats 400000 in
theorem rotl_6 (x : Int) (hx : U32 x) (w : World) : Calls Tryd.prog 35 #[.int .u32 x, .int .i64 (-6)] w fun e w' => e = .returned (.int .u32 (rotI x 6)) ∧ w = w' := by
  obtain ⟨h0, h1⟩ := hx
  have hb : bits .and .u64 (IntKind.u64.wrap (-6)) 31 = 26 := by decide
  go_enter Tryd.func35, Tryd.ntmps35
  go_wp2
  go_ret
  exact ⟨by simp [rotI, orI, w32], rfl⟩

set_option maxHeartbeats 400000 in
theorem right_6 (x : Int) (hx : U32 x) (w : World) : Calls Tryd.prog 33 #[.int .u32 x, .int .i64 6] w fun e w' => e = .returned (.int .u32 (rotI x 6)) ∧ w = w' := by
  go_enter Tryd.func33, Tryd.ntmps33
  go_wp2_with fail
  refine (rotl_6 x hx _).mono ?_
  rintro e w' ⟨rfl, rfl⟩
  go_wp2_with fail
  go_ret
  exact ⟨rfl, rfl⟩

set_option maxHeartbeats 400000 in
theorem rotl_7 (x : Int) (hx : U32 x) (w : World) : Calls Tryd.prog 35 #[.int .u32 x, .int .i64 (-7)] w fun e w' => e = .returned (.int .u32 (rotI x 7)) ∧ w = w' := by
  obtain ⟨h0, h1⟩ := hx
  have hb : bits .and .u64 (IntKind.u64.wrap (-7)) 31 = 25 := by decide
  go_enter Tryd.func35, Tryd.ntmps35
  go_wp2
  go_ret
  exact ⟨by simp [rotI, orI, w32], rfl⟩

set_option maxHeartbeats 400000 in
theorem right_7 (x : Int) (hx : U32 x) (w : World) : Calls Tryd.prog 33 #[.int .u32 x, .int .i64 7] w fun e w' => e = .returned (.int .u32 (rotI x 7)) ∧ w = w' := by
  go_enter Tryd.func33, Tryd.ntmps33
  go_wp2_with fail
  refine (rotl_7 x hx _).mono ?_
  rintro e w' ⟨rfl, rfl⟩
  go_wp2_with fail
  go_ret
  exact ⟨rfl, rfl⟩

set_option maxHeartbeats 400000 in
theorem rotl_11 (x : Int) (hx : U32 x) (w : World) : Calls Tryd.prog 35 #[.int .u32 x, .int .i64 (-11)] w fun e w' => e = .returned (.int .u32 (rotI x 11)) ∧ w = w' := by
  obtain ⟨h0, h1⟩ := hx
  have hb : bits .and .u64 (IntKind.u64.wrap (-11)) 31 = 21 := by decide
  go_enter Tryd.func35, Tryd.ntmps35
  go_wp2
  go_ret
  exact ⟨by simp [rotI, orI, w32], rfl⟩

set_option maxHeartbeats 400000 in
theorem right_11 (x : Int) (hx : U32 x) (w : World) : Calls Tryd.prog 33 #[.int .u32 x, .int .i64 11] w fun e w' => e = .returned (.int .u32 (rotI x 11)) ∧ w = w' := by
  go_enter Tryd.func33, Tryd.ntmps33
  go_wp2_with fail
  refine (rotl_11 x hx _).mono ?_
  rintro e w' ⟨rfl, rfl⟩
  go_wp2_with fail
  go_ret
  exact ⟨rfl, rfl⟩

set_option maxHeartbeats 400000 in
theorem rotl_13 (x : Int) (hx : U32 x) (w : World) : Calls Tryd.prog 35 #[.int .u32 x, .int .i64 (-13)] w fun e w' => e = .returned (.int .u32 (rotI x 13)) ∧ w = w' := by
  obtain ⟨h0, h1⟩ := hx
  have hb : bits .and .u64 (IntKind.u64.wrap (-13)) 31 = 19 := by decide
  go_enter Tryd.func35, Tryd.ntmps35
  go_wp2
  go_ret
  exact ⟨by simp [rotI, orI, w32], rfl⟩

set_option maxHeartbeats 400000 in
theorem right_13 (x : Int) (hx : U32 x) (w : World) : Calls Tryd.prog 33 #[.int .u32 x, .int .i64 13] w fun e w' => e = .returned (.int .u32 (rotI x 13)) ∧ w = w' := by
  go_enter Tryd.func33, Tryd.ntmps33
  go_wp2_with fail
  refine (rotl_13 x hx _).mono ?_
  rintro e w' ⟨rfl, rfl⟩
  go_wp2_with fail
  go_ret
  exact ⟨rfl, rfl⟩

set_option maxHeartbeats 400000 in
theorem rotl_17 (x : Int) (hx : U32 x) (w : World) : Calls Tryd.prog 35 #[.int .u32 x, .int .i64 (-17)] w fun e w' => e = .returned (.int .u32 (rotI x 17)) ∧ w = w' := by
  obtain ⟨h0, h1⟩ := hx
  have hb : bits .and .u64 (IntKind.u64.wrap (-17)) 31 = 15 := by decide
  go_enter Tryd.func35, Tryd.ntmps35
  go_wp2
  go_ret
  exact ⟨by simp [rotI, orI, w32], rfl⟩

set_option maxHeartbeats 400000 in
theorem right_17 (x : Int) (hx : U32 x) (w : World) : Calls Tryd.prog 33 #[.int .u32 x, .int .i64 17] w fun e w' => e = .returned (.int .u32 (rotI x 17)) ∧ w = w' := by
  go_enter Tryd.func33, Tryd.ntmps33
  go_wp2_with fail
  refine (rotl_17 x hx _).mono ?_
  rintro e w' ⟨rfl, rfl⟩
  go_wp2_with fail
  go_ret
  exact ⟨rfl, rfl⟩

set_option maxHeartbeats 400000 in
theorem rotl_18 (x : Int) (hx : U32 x) (w : World) : Calls Tryd.prog 35 #[.int .u32 x, .int .i64 (-18)] w fun e w' => e = .returned (.int .u32 (rotI x 18)) ∧ w = w' := by
  obtain ⟨h0, h1⟩ := hx
  have hb : bits .and .u64 (IntKind.u64.wrap (-18)) 31 = 14 := by decide
  go_enter Tryd.func35, Tryd.ntmps35
  go_wp2
  go_ret
  exact ⟨by simp [rotI, orI, w32], rfl⟩

set_option maxHeartbeats 400000 in
theorem right_18 (x : Int) (hx : U32 x) (w : World) : Calls Tryd.prog 33 #[.int .u32 x, .int .i64 18] w fun e w' => e = .returned (.int .u32 (rotI x 18)) ∧ w = w' := by
  go_enter Tryd.func33, Tryd.ntmps33
  go_wp2_with fail
  refine (rotl_18 x hx _).mono ?_
  rintro e w' ⟨rfl, rfl⟩
  go_wp2_with fail
  go_ret
  exact ⟨rfl, rfl⟩

set_option maxHeartbeats 400000 in
theorem rotl_19 (x : Int) (hx : U32 x) (w : World) : Calls Tryd.prog 35 #[.int .u32 x, .int .i64 (-19)] w fun e w' => e = .returned (.int .u32 (rotI x 19)) ∧ w = w' := by
  obtain ⟨h0, h1⟩ := hx
  have hb : bits .and .u64 (IntKind.u64.wrap (-19)) 31 = 13 := by decide
  go_enter Tryd.func35, Tryd.ntmps35
  go_wp2
  go_ret
  exact ⟨by simp [rotI, orI, w32], rfl⟩

set_option maxHeartbeats 400000 in
theorem right_19 (x : Int) (hx : U32 x) (w : World) : Calls Tryd.prog 33 #[.int .u32 x, .int .i64 19] w fun e w' => e = .returned (.int .u32 (rotI x 19)) ∧ w = w' := by
  go_enter Tryd.func33, Tryd.ntmps33
  go_wp2_with fail
  refine (rotl_19 x hx _).mono ?_
  rintro e w' ⟨rfl, rfl⟩
  go_wp2_with fail
  go_ret
  exact ⟨rfl, rfl⟩

set_option maxHeartbeats 400000 in
theorem rotl_22 (x : Int) (hx : U32 x) (w : World) : Calls Tryd.prog 35 #[.int .u32 x, .int .i64 (-22)] w fun e w' => e = .returned (.int .u32 (rotI x 22)) ∧ w = w' := by
  obtain ⟨h0, h1⟩ := hx
  have hb : bits .and .u64 (IntKind.u64.wrap (-22)) 31 = 10 := by decide
  go_enter Tryd.func35, Tryd.ntmps35
  go_wp2
  go_ret
  exact ⟨by simp [rotI, orI, w32], rfl⟩

set_option maxHeartbeats 400000 in
theorem right_22 (x : Int) (hx : U32 x) (w : World) : Calls Tryd.prog 33 #[.int .u32 x, .int .i64 22] w fun e w' => e = .returned (.int .u32 (rotI x 22)) ∧ w = w' := by
  go_enter Tryd.func33, Tryd.ntmps33
  go_wp2_with fail
  refine (rotl_22 x hx _).mono ?_
  rintro e w' ⟨rfl, rfl⟩
  go_wp2_with fail
  go_ret
  exact ⟨rfl, rfl⟩

set_option maxHeartbeats 400000 in
theorem rotl_25 (x : Int) (hx : U32 x) (w : World) : Calls Tryd.prog 35 #[.int .u32 x, .int .i64 (-25)] w fun e w' => e = .returned (.int .u32 (rotI x 25)) ∧ w = w' := by
  obtain ⟨h0, h1⟩ := hx
  have hb : bits .and .u64 (IntKind.u64.wrap (-25)) 31 = 7 := by decide
  go_enter Tryd.func35, Tryd.ntmps35
  go_wp2
  go_ret
  exact ⟨by simp [rotI, orI, w32], rfl⟩

set_option maxHeartbeats 400000 in
theorem right_25 (x : Int) (hx : U32 x) (w : World) : Calls Tryd.prog 33 #[.int .u32 x, .int .i64 25] w fun e w' => e = .returned (.int .u32 (rotI x 25)) ∧ w = w' := by
  go_enter Tryd.func33, Tryd.ntmps33
  go_wp2_with fail
  refine (rotl_25 x hx _).mono ?_
  rintro e w' ⟨rfl, rfl⟩
  go_wp2_with fail
  go_ret
  exact ⟨rfl, rfl⟩

end Go.Proofs.YtcjjhgecmnfmdaaDoor
