/- The document's sequencer (the reference), walked: it answers the same plain numbers. -/
import Derived.Test.YtdgplmlpkphnaaaSeqLaw
import Derived.RegionTactic
import Derived.ChangeAlike
namespace Go.Proofs.Ytdgplmlpkphnaaa
open Go.RowKit

/-- The document's sequencer in memory. -/
def MsB (ep nx : Int) : Obj := .cells #[.int .i64 ep, .int .i64 nx] 42 (0, 0)
section
variable {w : World} {b : Nat} {ep nx : Int}
theorem ms0 (h : w.heap[b]? = some (MsB ep nx)) : w.cell? ⟨b, 0, none⟩ = some (.int .i64 ep) := by simp [World.cell?, h, MsB]
theorem ms1 (h : w.heap[b]? = some (MsB ep nx)) : w.cell? ⟨b, 1, none⟩ = some (.int .i64 nx) := by simp [World.cell?, h, MsB]
theorem msf (h : w.heap[b]? = some (MsB ep nx)) (i : Nat) : w.frozen? ⟨b, i, none⟩ = false := by simp [World.frozen?, h, MsB]
end

set_option maxHeartbeats 400000 in
theorem rcur_any (ep nx x : Int) (w : World) :
    Calls Try.prog 16 #[.agg #[.int .i64 ep, .int .i64 nx], .int .i64 x] w fun e w' => e = .returned (.int .i64 (askE ep x)) ∧ w' = w.alloc (MsB ep nx) := by
  by_cases h1 : x < ep
  · have e1 : askE ep x = 6 := by simp [askE, h1]
    rw [e1]
    clear e1
    go_enter Try.func16, Try.ntmps16
    go_wp2
    go_ret
    exact ⟨rfl, rfl⟩
  · by_cases h2 : ep < x
    · have e1 : askE ep x = 7 := by simp [askE, h1, h2]
      rw [e1]
      clear e1
      go_enter Try.func16, Try.ntmps16
      go_wp2
      go_ret
      exact ⟨rfl, rfl⟩
    · have e1 : askE ep x = 0 := by simp [askE, h1, h2]
      rw [e1]
      clear e1
      go_enter Try.func16, Try.ntmps16
      go_wp2
      go_ret
      exact ⟨rfl, rfl⟩

set_option maxHeartbeats 800000 in
theorem rset_any (ep nx x n : Int) (w : World) :
    Calls Try.prog 15 #[.agg #[.int .i64 ep, .int .i64 nx], .int .i64 x, .int .i64 n] w fun e w' => e = .returned (.tuple #[.agg #[.int .i64 (setP ep x n), .int .i64 (setN ep nx x n)], .int .i64 (setE ep x n)]) ∧ Keep Non w w' := by
  have hc : (x < 0 ∨ (0 ≤ x ∧ 1099511627776 < x) ∨ (0 ≤ x ∧ x ≤ 1099511627776 ∧ n < 0) ∨ (0 ≤ x ∧ x ≤ 1099511627776 ∧ 0 ≤ n ∧ 1048576 < n)) ∨ (0 ≤ x ∧ x ≤ 1099511627776 ∧ 0 ≤ n ∧ n ≤ 1048576) := by omega
  rcases hc with hb | ⟨g0, g1, g2, g3⟩
  · have e1 : setE ep x n = 1 := by
      unfold setE
      have : (fitB 0 1099511627776 x && fitB 0 1048576 n) = false := by
        rcases hb with h | h | h | h
        · rw [fitB_no (.inl h)]; rfl
        · rw [fitB_no (.inr h.2)]; rfl
        · rw [fitB_no (n := n) (.inl h.2.2)]; simp
        · rw [fitB_no (n := n) (.inr h.2.2.2)]; simp
      simp [this]
    have e2 : setP ep x n = ep := by simp [setP, e1]
    have e3 : setN ep nx x n = nx := by simp [setN, e1]
    rw [e1, e2, e3]
    clear e1 e2 e3
    rcases hb with h | ⟨h, h1⟩ | ⟨h, h1, h2⟩ | ⟨h, h1, h2, h3⟩
    all_goals
      go_enter Try.func15, Try.ntmps15
      go_wp2
      go_returns
      exact ⟨rfl, by (repeat' (first | with_reducible exact Keep.refl _ _ | with_reducible assumption | with_reducible refine Keep.drew ?_ | with_reducible refine Keep.drewN ?_ _ | with_reducible refine Keep.alloc ?_ _))⟩
  · by_cases hl : x ≤ ep
    · have e1 : setE ep x n = 6 := by simp [setE, fitB_mk g0 g1, fitB_mk g2 g3, hl]
      have e2 : setP ep x n = ep := by simp [setP, e1]
      have e3 : setN ep nx x n = nx := by simp [setN, e1]
      rw [e1, e2, e3]
      clear e1 e2 e3
      go_enter Try.func15, Try.ntmps15
      go_wp2
      go_returns
      exact ⟨rfl, by (repeat' (first | with_reducible exact Keep.refl _ _ | with_reducible assumption | with_reducible refine Keep.drew ?_ | with_reducible refine Keep.drewN ?_ _ | with_reducible refine Keep.alloc ?_ _))⟩
    · have e1 : setE ep x n = 0 := by simp [setE, fitB_mk g0 g1, fitB_mk g2 g3, hl]
      have e2 : setP ep x n = x := by simp [setP, e1]
      have e3 : setN ep nx x n = n := by simp [setN, e1]
      rw [e1, e2, e3]
      clear e1 e2 e3
      go_enter Try.func15, Try.ntmps15
      go_wp2
      go_returns
      exact ⟨rfl, by (repeat' (first | with_reducible exact Keep.refl _ _ | with_reducible assumption | with_reducible refine Keep.drew ?_ | with_reducible refine Keep.drewN ?_ _ | with_reducible refine Keep.alloc ?_ _))⟩

/-- 'Current', parted. -/
theorem rcur_zero (ep nx x : Int) (w : World) (h : askE ep x = 0) :
    Calls Try.prog 16 #[.agg #[.int .i64 ep, .int .i64 nx], .int .i64 x] w fun e w' => e = .returned (.int .i64 0) ∧ w' = w.alloc (MsB ep nx) := by
  have := rcur_any ep nx x w
  rw [h] at this
  exact this

set_option maxHeartbeats 800000 in
theorem rraise_any (ep nx x n : Int) (w : World) :
    Calls Try.prog 14 #[.agg #[.int .i64 ep, .int .i64 nx], .int .i64 x, .int .i64 n] w fun e w' => e = .returned (.tuple #[.agg #[.int .i64 ep, .int .i64 (raiseN ep nx x n)], .int .i64 (raiseE ep x n)]) ∧ Keep Non w w' := by
  cases hf : fitB 0 1048576 n
  · have e1 : raiseE ep x n = 1 := by simp [raiseE, asksE, hf]
    have e3 : raiseN ep nx x n = nx := by simp [raiseN, e1]
    rw [e1, e3]
    clear e1 e3
    rcases fitB_false hf with h | h
    · clear hf
      go_enter Try.func14, Try.ntmps14
      go_wp2
      go_returns
      exact ⟨rfl, by (repeat' (first | with_reducible exact Keep.refl _ _ | with_reducible assumption | with_reducible refine Keep.drew ?_ | with_reducible refine Keep.drewN ?_ _ | with_reducible refine Keep.alloc ?_ _))⟩
    · clear hf
      have h2 : ¬ n < 0 := by omega
      go_enter Try.func14, Try.ntmps14
      go_wp2
      go_returns
      exact ⟨rfl, by (repeat' (first | with_reducible exact Keep.refl _ _ | with_reducible assumption | with_reducible refine Keep.drew ?_ | with_reducible refine Keep.drewN ?_ _ | with_reducible refine Keep.alloc ?_ _))⟩
  · obtain ⟨g0, g1⟩ := fitB_true hf
    have hq : raiseE ep x n = askE ep x := by simp [raiseE, asksE, hf]
    clear hf
    by_cases ha : askE ep x = 0
    · have HA := Lib.hid ha
      by_cases hr : nx < n
      · have e3 : raiseN ep nx x n = n := by simp [raiseN, hq, ha, hr]
        rw [hq, ha, e3]
        clear hq ha e3
        go_enter Try.func14, Try.ntmps14
        go_wp2_with (go_at_call 16; go_must (refine (rcur_zero ep nx x _ HA.out).mono ?_); rintro e w' ⟨rfl, rfl⟩)
        go_returns
        exact ⟨rfl, by (repeat' (first | with_reducible exact Keep.refl _ _ | with_reducible assumption | with_reducible refine Keep.drew ?_ | with_reducible refine Keep.drewN ?_ _ | with_reducible refine Keep.alloc ?_ _))⟩
      · have e3 : raiseN ep nx x n = nx := by simp [raiseN, hq, ha, hr]
        rw [hq, ha, e3]
        clear hq ha e3
        go_enter Try.func14, Try.ntmps14
        go_wp2_with (go_at_call 16; go_must (refine (rcur_zero ep nx x _ HA.out).mono ?_); rintro e w' ⟨rfl, rfl⟩)
        go_returns
        exact ⟨rfl, by (repeat' (first | with_reducible exact Keep.refl _ _ | with_reducible assumption | with_reducible refine Keep.drew ?_ | with_reducible refine Keep.drewN ?_ _ | with_reducible refine Keep.alloc ?_ _))⟩
    · have e3 : raiseN ep nx x n = nx := by simp [raiseN, hq, ha]
      rw [hq, e3]
      have hb : (askE ep x != 0) = true := by simpa using ha
      clear hq ha e3
      go_enter Try.func14, Try.ntmps14
      go_wp2_with (go_at_call 16; go_must (refine (rcur_any ep nx x _).mono ?_); rintro e w' ⟨rfl, rfl⟩)
      go_returns
      exact ⟨rfl, by (repeat' (first | with_reducible exact Keep.refl _ _ | with_reducible assumption | with_reducible refine Keep.drew ?_ | with_reducible refine Keep.drewN ?_ _ | with_reducible refine Keep.alloc ?_ _))⟩

set_option maxHeartbeats 1600000 in
theorem rtake_any (ep nx x n : Int) (w : World) (hi : SqIn ep nx) :
    Calls Try.prog 17 #[.agg #[.int .i64 ep, .int .i64 nx], .int .i64 x, .int .i64 n] w fun e w' => e = .returned (.tuple #[.int .i64 (takeV ep nx x n), .agg #[.int .i64 ep, .int .i64 (takeN ep nx x n)], .int .i64 (takeE ep nx x n)]) ∧ Keep Non w w' := by
  obtain ⟨i0, i1, i2, i3⟩ := hi
  cases hf : fitB 1 64 n
  · have e1 : takeE ep nx x n = 1 := by simp [takeE, hf]
    have e2 : takeV ep nx x n = 0 := by simp [takeV, e1]
    have e3 : takeN ep nx x n = nx := by simp [takeN, e1]
    rw [e1, e2, e3]
    clear e1 e2 e3
    rcases fitB_false hf with h | h
    · clear hf
      go_enter Try.func17, Try.ntmps17
      go_wp2
      go_region
      all_goals go_wp2
      all_goals go_returns
      all_goals exact ⟨rfl, by (repeat' (first | with_reducible exact Keep.refl _ _ | with_reducible assumption | with_reducible refine Keep.drew ?_ | with_reducible refine Keep.drewN ?_ _ | with_reducible refine Keep.alloc ?_ _))⟩
    · clear hf
      have h2 : ¬ n < 1 := by omega
      go_enter Try.func17, Try.ntmps17
      go_wp2
      go_region
      all_goals go_wp2
      all_goals go_returns
      all_goals exact ⟨rfl, by (repeat' (first | with_reducible exact Keep.refl _ _ | with_reducible assumption | with_reducible refine Keep.drew ?_ | with_reducible refine Keep.drewN ?_ _ | with_reducible refine Keep.alloc ?_ _))⟩
  · obtain ⟨g0, g1⟩ := fitB_true hf
    by_cases ha : askE ep x = 0
    · have HA := Lib.hid ha
      by_cases hr : 1048576 < nx + n
      · have e1 : takeE ep nx x n = 5 := by simp [takeE, hf, ha, hr]
        have e2 : takeV ep nx x n = 0 := by simp [takeV, e1]
        have e3 : takeN ep nx x n = nx := by simp [takeN, e1]
        rw [e1, e2, e3]
        clear e1 e2 e3 ha hf
        go_enter Try.func17, Try.ntmps17
        go_wp2_with (go_at_call 16; go_must (refine (rcur_zero ep nx x _ HA.out).mono ?_); rintro e w' ⟨rfl, rfl⟩)
        go_region
        all_goals go_wp2
        all_goals go_returns
        all_goals exact ⟨rfl, by (repeat' (first | with_reducible exact Keep.refl _ _ | with_reducible assumption | with_reducible refine Keep.drew ?_ | with_reducible refine Keep.drewN ?_ _ | with_reducible refine Keep.alloc ?_ _))⟩
      · have e1 : takeE ep nx x n = 0 := by simp [takeE, hf, ha, hr]
        have e2 : takeV ep nx x n = nx := by simp [takeV, e1]
        have e3 : takeN ep nx x n = nx + n := by simp [takeN, e1]
        rw [e1, e2, e3]
        clear e1 e2 e3 ha hf
        go_enter Try.func17, Try.ntmps17
        go_wp2_with (go_at_call 16; go_must (refine (rcur_zero ep nx x _ HA.out).mono ?_); rintro e w' ⟨rfl, rfl⟩)
        go_region
        all_goals go_wp2
        all_goals go_returns
        all_goals exact ⟨rfl, by (repeat' (first | with_reducible exact Keep.refl _ _ | with_reducible assumption | with_reducible refine Keep.drew ?_ | with_reducible refine Keep.drewN ?_ _ | with_reducible refine Keep.alloc ?_ _))⟩
    · have e1 : takeE ep nx x n = askE ep x := by simp [takeE, hf, ha]
      have e2 : takeV ep nx x n = 0 := by simp [takeV, e1, ha]
      have e3 : takeN ep nx x n = nx := by simp [takeN, e1, ha]
      rw [e1, e2, e3]
      have hb : (askE ep x != 0) = true := by simpa using ha
      clear e1 e2 e3 ha hf
      go_enter Try.func17, Try.ntmps17
      go_wp2_with (go_at_call 16; go_must (refine (rcur_any ep nx x _).mono ?_); rintro e w' ⟨rfl, rfl⟩)
      go_region
      all_goals go_wp2
      all_goals go_returns
      all_goals exact ⟨rfl, by (repeat' (first | with_reducible exact Keep.refl _ _ | with_reducible assumption | with_reducible refine Keep.drew ?_ | with_reducible refine Keep.drewN ?_ _ | with_reducible refine Keep.alloc ?_ _))⟩

end Go.Proofs.Ytdgplmlpkphnaaa
