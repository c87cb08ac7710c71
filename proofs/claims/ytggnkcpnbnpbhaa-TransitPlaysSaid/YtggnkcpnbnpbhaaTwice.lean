/- Twice, Clear and Counts of a line, walked. -/
import Derived.Test.YtggnkcpnbnpbhaaDeliver
import Derived.Deep.RegionWith
import Derived.Deep.QuietTactic
import Derived.BigQuiet
namespace Go.Proofs.Ytggnkcpnbnpbhaa
open Go.RowKit

set_option maxHeartbeats 400000 in
theorem twice_nil (i : Int) (w : World) : Calls Try.prog 14 #[.pointer none, .int .i64 i] w fun e w' => e = .returned (.iface 34 (.int .i64 4)) ∧ w = w' := by
  go_enter Try.func14, Try.ntmps14
  go_wp2_with (go_at_call 22; go_must (refine (has_nil i _).mono ?_); rintro e w1 ⟨rfl, rfl⟩)
  go_ret
  exact ⟨rfl, rfl⟩

set_option maxHeartbeats 400000 in
theorem twice_no (F : Nat → Prop) (p : Nat) (c : Nat → Int) (ms : List (List UInt8)) (i : Int) (w : World) (h : Line F w p c ms) (hi : i < 0 ∨ (0 ≤ i ∧ (ms.length : Int) ≤ i)) :
    Calls Try.prog 14 #[.pointer (some ⟨p, 0, none⟩), .int .i64 i] w fun e w' => e = .returned (.iface 34 (.int .i64 1)) ∧ w = w' := by
  have H := Lib.hid h
  have HI := Lib.hid hi
  clear h hi
  go_enter Try.func14, Try.ntmps14
  go_wp2_with (go_at_call 22; go_must (refine (has_no F p c ms i _ H.out HI.out).mono ?_); rintro e w1 ⟨rfl, rfl⟩)
  go_ret
  exact ⟨rfl, rfl⟩

set_option maxHeartbeats 800000 in
theorem twice_ok (F : Nat → Prop) (p : Nat) (c : Nat → Int) (ms : List (List UInt8)) (i : Nat) (l : List UInt8) (w : World) (h : Line F w p c ms) (hi : ms[i]? = some l) (hc0 : 0 ≤ c 3) (hc1 : c 3 ≤ 1000000) (hlen : ms.length < 64) :
    Calls Try.prog 14 #[.pointer (some ⟨p, 0, none⟩), .int .i64 i] w fun e w' => e = .returned .nilIface ∧ Keep F w w' ∧ Line (Fx F w) w' p (bump c 3) (ms ++ [l]) := by
  have him := (List.getElem?_eq_some_iff.1 hi).1
  have hi0 : (0 : Int) ≤ (i : Int) := by omega
  have hi1 : (i : Int) < (ms.length : Int) := by omega
  have H := Lib.hid h
  obtain ⟨v, vs, h1, h2, h3, ⟨h4, h5⟩, h6, h7⟩ := h
  have hiv : (i : Int) < (vs.length : Int) := by omega
  obtain ⟨u, hu⟩ : ∃ u, vs[i]? = some u := ⟨vs[i]'(by omega), by simp [show i < vs.length by omega]⟩
  obtain ⟨r1, r2⟩ := h5 i u l hu hi
  have hadd := add_ok F u l p 3 c v vs ms
  obtain ⟨a, cap, rfl, hcap, hcm⟩ := ownsRow_form h2
  obtain ⟨g, rfl⟩ : ∃ g, a = some ⟨g, 0, none⟩ := by
    rcases h2.2 with ⟨e, e0⟩ | ⟨g, cap', cur, e, _⟩
    · omega
    · injection e with e
      exact ⟨g, e⟩
  have hcell : w.cell? ⟨g, i, none⟩ = some u := by
    have := h2.cells (g := g) rfl i u hu
    rw [add_off, Nat.zero_add] at this
    exact this
  have hsh : ∃ ua un uc, u = .slice ua un uc := by
    obtain ⟨ua, uc, e, _⟩ := r1
    exact ⟨ua, _, uc, e⟩
  obtain ⟨ua, un, uc, rfl⟩ := hsh
  have m4 := ln_v h1
  have H1 := Lib.hid h1
  have H2 := Lib.hid h2
  have H3 := Lib.hid h3
  have H5 := Lib.hid h5
  have H7 := Lib.hid h7
  have R1 := Lib.hid r1
  have R2 := Lib.hid r2
  have HD := Lib.hid hadd
  have H4 := Lib.hid h4
  have hvl : vs.length < 64 := by omega
  clear h1 h2 h3 h4 h5 h7 r1 r2 hi hu hadd
  go_enter Try.func14, Try.ntmps14
  go_wp2_with fail
  refine (has_yes F p c ms i _ H.out hi0 hi1).mono ?_
  rintro e w1 ⟨rfl, rfl⟩
  go_wp2_with fail
  go_region_with (go_at_call 20; refine (HD.out _ (by exact H1.out) (by exact H2.out) H3.out (by exact ⟨H4.out, H5.out⟩) h6 H7.out (by exact R1.out) (by exact R2.out) (by omega) hc0 hc1 hvl).mono ?_; rintro e w2 ⟨rfl, hk2, hl2⟩; have HK2 := Lib.hid hk2; have HL2 := Lib.hid hl2; clear hk2 hl2)
  go_wp2_with fail
  go_ret
  exact ⟨rfl, ⟨HK2.out.os, HK2.out.tape, HK2.out.output, HK2.out.size, HK2.out.block⟩, HL2.out⟩

set_option maxHeartbeats 800000 in
theorem twice_full (F : Nat → Prop) (p : Nat) (c : Nat → Int) (ms : List (List UInt8)) (i : Nat) (w : World) (h : Line F w p c ms) (hi : i < ms.length) (hlen : 64 ≤ ms.length) :
    Calls Try.prog 14 #[.pointer (some ⟨p, 0, none⟩), .int .i64 i] w fun e w' => e = .returned (.iface 34 (.int .i64 5)) ∧ Keep Non w w' := by
  have hi0 : (0 : Int) ≤ (i : Int) := by omega
  have hi1 : (i : Int) < (ms.length : Int) := by omega
  have H := Lib.hid h
  obtain ⟨v, vs, h1, h2, h3, ⟨h4, h5⟩, h6, h7⟩ := h
  have hiv : (i : Int) < (vs.length : Int) := by omega
  obtain ⟨u, hu⟩ : ∃ u, vs[i]? = some u := ⟨vs[i]'(by omega), by simp [show i < vs.length by omega]⟩
  obtain ⟨a, cap, rfl, hcap, hcm⟩ := ownsRow_form h2
  obtain ⟨g, rfl⟩ : ∃ g, a = some ⟨g, 0, none⟩ := by
    rcases h2.2 with ⟨e, e0⟩ | ⟨g, cap', cur, e, _⟩
    · omega
    · injection e with e
      exact ⟨g, e⟩
  have hcell : w.cell? ⟨g, i, none⟩ = some u := by
    have := h2.cells (g := g) rfl i u hu
    rw [add_off, Nat.zero_add] at this
    exact this
  obtain ⟨l, hl⟩ : ∃ l, ms[i]? = some l := ⟨ms[i], by simp [hi]⟩
  obtain ⟨⟨ua, uc, rfl, _⟩, _⟩ := h5 i u l hu hl
  have m4 := ln_v h1
  clear h1 h2 h3 h4 h5 h7 hu hl
  go_enter Try.func14, Try.ntmps14
  go_wp2_with fail
  refine (has_yes F p c ms i _ H.out hi0 hi1).mono ?_
  rintro e w1 ⟨rfl, rfl⟩
  go_wp2_with fail
  go_region_with (go_at_call 20; refine (add_newFull F _ p 3 c ms _ (H.out.keep (S := Non) (by exact ⟨rfl, rfl, rfl, Nat.le_refl _, fun _ _ _ => rfl⟩) (fun _ _ e => e)) hlen).mono ?_; rintro e w2 ⟨rfl, rfl⟩)
  go_wp2_with fail
  go_ret
  exact ⟨rfl, ⟨rfl, rfl, rfl, Nat.le_refl _, fun _ _ _ => rfl⟩⟩

set_option maxHeartbeats 400000 in
theorem aload_any (b i : Nat) (v : Int) (w : World) (h : w.cell? ⟨b, i, none⟩ = some (.int .i64 v)) :
    Calls Try.prog 25 #[.pointer (some ⟨b, i, none⟩)] w fun e w' => e = .returned (.int .i64 v) ∧ w = w' := by
  have hl := run_call_load (P := Try.prog) Try.func34 (by kernel_rfl) (by kernel_rfl) (by kernel_rfl) .i64 (by kernel_rfl) h
  go_enter Try.func25, Try.ntmps25
  go_wp2
  go_ret
  exact ⟨rfl, rfl⟩

theorem aload_ln (p i : Nat) (c : Nat → Int) (v : Value) (w : World) (h : w.heap[p]? = some (LnB c v)) (hi : i < 4) :
    Calls Try.prog 25 #[.pointer (some ⟨p, i, none⟩)] w fun e w' => e = .returned (.int .i64 (c i)) ∧ w = w' := aload_any p i (c i) w (ln_c h i hi)

set_option maxHeartbeats 800000 in
theorem counts_any (F : Nat → Prop) (p : Nat) (c : Nat → Int) (ms : List (List UInt8)) (w : World) (h : Line F w p c ms) :
    Calls Try.prog 16 #[.pointer (some ⟨p, 0, none⟩)] w fun e w' => e = .returned (.tuple #[.int .i64 (c 0), .int .i64 (c 1), .int .i64 (c 2), .int .i64 (c 3)]) ∧ Keep Non w w' := by
  obtain ⟨v, vs, h1, _⟩ := h
  have H := Lib.hid h1
  clear h1
  go_enter Try.func16, Try.ntmps16
  go_wp2_with fail
  go_quiet ((go_at_call 25; refine (aload_ln p _ c v _ (by exact H.out) (by omega)).mono ?_; rintro e w' ⟨rfl, rfl⟩; exact ⟨rfl, _, rfl⟩))
  go_wp2_with fail
  go_returns
  exact ⟨rfl, (Keep.refl _ _).drewN _⟩

set_option maxHeartbeats 400000 in
theorem counts_nil (w : World) : Calls Try.prog 16 #[.pointer none] w fun e w' => e = .returned (.tuple #[.int .i64 0, .int .i64 0, .int .i64 0, .int .i64 0]) ∧ w = w' := by
  go_enter Try.func16, Try.ntmps16
  go_wp2_with fail
  go_returns
  exact ⟨rfl, rfl⟩

end Go.Proofs.Ytggnkcpnbnpbhaa
