/- ShaConstants, walked: the constants and the first state, as roots of prime numbers. -/
import Derived.Test.YtcjjhgecmnfmdaaDoorShaPrime
import Derived.Test.YtcjjhgecmnfmdaaDoorShaAlive
namespace Go.Proofs.YtcjjhgecmnfmdaaDoor
open Go.RowKit
set_option linter.unusedVariables false

theorem fst_cells (i : Nat) (h : i < 8) : first8.cells[i]? = some (.int .u32 (fI i)) := by
  match i, h with
  | 0, _ => rfl
  | 1, _ => rfl
  | 2, _ => rfl
  | 3, _ => rfl
  | 4, _ => rfl
  | 5, _ => rfl
  | 6, _ => rfl
  | 7, _ => rfl
  | i + 8, h => omega

set_option maxHeartbeats 800000 in
theorem const_out (t : Int) (h : t < 0 ∨ 64 ≤ t) (w : World) : Calls Tryd.prog 18 #[.int .i64 t] w fun e w' => e = .returned (.int .u32 0) ∧ w = w' := by
  rcases h with h | h
  · go_enter Tryd.func18, Tryd.ntmps18
    go_wp2
    go_ret
    exact ⟨rfl, rfl⟩
  · have h0 : ¬ t < 0 := by omega
    go_enter Tryd.func18, Tryd.ntmps18
    go_wp2
    go_ret
    exact ⟨rfl, rfl⟩
set_option maxHeartbeats 800000 in
theorem const_in (t : Nat) (h : t < 64) (w : World) (hk : Kon w) : Calls Tryd.prog 18 #[.int .i64 (t : Int)] w fun e w' => e = .returned (.int .u32 (kI t)) ∧ w = w' := by
  obtain ⟨cs, h1, ⟨tt, fr, h2⟩, h3, h4⟩ := hk
  have hc := cell_of_row w 1 t cs tt fr h2
  rw [h4 t h] at hc
  have h0 : ¬ (t : Int) < 0 := by omega
  have h5 : (t : Int) < 64 := by omega
  clear h1 h2 h3 h4
  go_enter Tryd.func18, Tryd.ntmps18
  go_wp2
  go_ret
  exact ⟨rfl, rfl⟩
set_option maxHeartbeats 800000 in
theorem first_out (t : Int) (h : t < 0 ∨ 8 ≤ t) (w : World) : Calls Tryd.prog 19 #[.int .i64 t] w fun e w' => e = .returned (.int .u32 0) ∧ w = w' := by
  rcases h with h | h
  · go_enter Tryd.func19, Tryd.ntmps19
    go_wp2
    go_ret
    exact ⟨rfl, rfl⟩
  · have h0 : ¬ t < 0 := by omega
    go_enter Tryd.func19, Tryd.ntmps19
    go_wp2
    go_ret
    exact ⟨rfl, rfl⟩
set_option maxHeartbeats 800000 in
theorem first_in (t : Nat) (h : t < 8) (w : World) (hf : Frs w) : Calls Tryd.prog 19 #[.int .i64 (t : Int)] w fun e w' => e = .returned (.int .u32 (fI t)) ∧ w = w' := by
  obtain ⟨tt, fr, h2⟩ := hf
  have hc := cell_of_row w 0 t _ tt fr h2
  rw [fst_cells t h] at hc
  have h0 : ¬ (t : Int) < 0 := by omega
  have h5 : (t : Int) < 8 := by omega
  clear h2
  go_enter Tryd.func19, Tryd.ntmps19
  go_wp2
  go_ret
  exact ⟨rfl, rfl⟩

set_option maxHeartbeats 1600000 in
theorem consts_any (t : Int) (w : World) (hk : Kon w) (hf : Frs w) :
    Calls Tryd.prog 5 #[.int .i64 t] w fun e w' => e = .returned (.bool true) ∧ Keep Non w w' := by
  have HK := Lib.hid hk
  have HF := Lib.hid hf
  clear hk hf
  rcases (by omega : t < 0 ∨ 64 ≤ t ∨ (0 ≤ t ∧ t < 64)) with h | h | ⟨h0, h64⟩
  · have h1 : ¬ 0 ≤ t := by omega
    go_enter Tryd.func5, Tryd.ntmps5
    go_wp2_with fail
    refine (alive_any _ HK.out HF.out).mono ?_
    rintro e w2 ⟨rfl, k2⟩
    have K2 := Lib.hid k2
    clear k2
    go_wp2_with fail
    refine (const_out t (.inl h) _).mono ?_
    rintro e w' ⟨rfl, rfl⟩
    go_wp2_with fail
    refine (first_out t (.inl h) _).mono ?_
    rintro e w' ⟨rfl, rfl⟩
    go_wp2_with fail
    go_ret
    exact ⟨rfl, K2.out⟩
  · have h1 : 0 ≤ t := by omega
    have h2 : ¬ t < 64 := by omega
    have h3 : ¬ t < 8 := by omega
    go_enter Tryd.func5, Tryd.ntmps5
    go_wp2_with fail
    refine (alive_any _ HK.out HF.out).mono ?_
    rintro e w2 ⟨rfl, k2⟩
    have K2 := Lib.hid k2
    clear k2
    go_wp2_with fail
    refine (const_out t (.inr h) _).mono ?_
    rintro e w' ⟨rfl, rfl⟩
    go_wp2_with fail
    refine (first_out t (.inr (by omega)) _).mono ?_
    rintro e w' ⟨rfl, rfl⟩
    go_wp2_with fail
    go_ret
    exact ⟨rfl, K2.out⟩
  · obtain ⟨n, rfl⟩ := Int.eq_ofNat_of_zero_le h0
    have hn : n < 64 := by omega
    have CC := Lib.hid (cube_const n hn)
    by_cases h8 : n < 8
    · have h8i : (n : Int) < 8 := by omega
      have SC := Lib.hid (square_const n h8)
      go_enter Tryd.func5, Tryd.ntmps5
      go_wp2_with fail
      refine (alive_any _ HK.out HF.out).mono ?_
      rintro e w2 ⟨rfl, k2⟩
      have K2 := Lib.hid k2
      clear k2
      go_wp2_with fail
      refine (prime_at n hn _).mono ?_
      rintro e w' ⟨rfl, rfl⟩
      go_wp2_with fail
      refine (cube_any (prN (n + 1)) _ rfl _).mono ?_
      rintro e w' ⟨he, rfl⟩
      rw [CC.out] at he
      subst he
      go_wp2_with fail
      refine (prime_at n hn _).mono ?_
      rintro e w' ⟨rfl, rfl⟩
      go_wp2_with fail
      refine (square_any (prN (n + 1)) _ rfl _).mono ?_
      rintro e w' ⟨he, rfl⟩
      rw [SC.out] at he
      subst he
      go_wp2_with fail
      refine (const_in n hn _ (HK.out.keep K2.out)).mono ?_
      rintro e w' ⟨rfl, rfl⟩
      go_wp2_with fail
      refine (first_in n h8 _ (HF.out.keep K2.out)).mono ?_
      rintro e w' ⟨rfl, rfl⟩
      go_wp2_with fail
      go_ret
      exact ⟨rfl, K2.out⟩
    · have h8i : ¬ (n : Int) < 8 := by omega
      go_enter Tryd.func5, Tryd.ntmps5
      go_wp2_with fail
      refine (alive_any _ HK.out HF.out).mono ?_
      rintro e w2 ⟨rfl, k2⟩
      have K2 := Lib.hid k2
      clear k2
      go_wp2_with fail
      refine (prime_at n hn _).mono ?_
      rintro e w' ⟨rfl, rfl⟩
      go_wp2_with fail
      refine (cube_any (prN (n + 1)) _ rfl _).mono ?_
      rintro e w' ⟨he, rfl⟩
      rw [CC.out] at he
      subst he
      go_wp2_with fail
      refine (const_in n hn _ (HK.out.keep K2.out)).mono ?_
      rintro e w' ⟨rfl, rfl⟩
      go_wp2_with fail
      refine (first_out n (.inr (by omega)) _).mono ?_
      rintro e w' ⟨rfl, rfl⟩
      go_wp2_with fail
      go_ret
      exact ⟨rfl, K2.out⟩

end Go.Proofs.YtcjjhgecmnfmdaaDoor
