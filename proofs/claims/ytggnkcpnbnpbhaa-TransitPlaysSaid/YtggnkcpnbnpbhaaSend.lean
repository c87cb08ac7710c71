/- Send, Len, has and New of a line, walked. -/
import Derived.Test.YtggnkcpnbnpbhaaAdd
import Derived.Deep.RegionWith
namespace Go.Proofs.Ytggnkcpnbnpbhaa
open Go.RowKit

set_option maxHeartbeats 400000 in
theorem new_raw (w : World) :
    Calls Try.prog 7 #[] w fun e w' => e = .returned (.pointer (some ⟨w.heap.size, 0, none⟩)) ∧ w' = w.alloc (LnB (fun _ => 0) (.slice none 0 0)) := by
  go_enter Try.func7, Try.ntmps7
  go_wp2
  go_ret
  exact ⟨rfl, rfl⟩

/-- A new line lies in new memory. -/
theorem new_line (w : World) :
    Calls Try.prog 7 #[] w fun e w' => ∃ p, e = .returned (.pointer (some ⟨p, 0, none⟩)) ∧ w.heap.size ≤ p ∧ Keep Non w w' ∧ Line (fun k => w.heap.size ≤ k) w' p (fun _ => 0) [] := by
  refine (new_raw w).mono ?_
  rintro e w' ⟨rfl, rfl⟩
  exact ⟨_, rfl, Nat.le_refl _, (Keep.refl _ _).alloc _, .slice none 0 0, [], blk_new _ _, World.ownsRow_nil _ _ _ _, fun g e => by simp [Value.ownBlock] at e, ⟨rfl, fun i u l hu => by simp at hu⟩, Nat.le_refl _, fun u hu => by simp at hu⟩

theorem Line.len {F : Nat → Prop} {w : World} {p : Nat} {c : Nat → Int} {ms : List (List UInt8)} (h : Line F w p c ms) :
    ∃ a cap, w.cell? ⟨p, 4, none⟩ = some (.slice a ms.length cap) := by
  obtain ⟨v, vs, h1, h2, _, ⟨h4, _⟩, _⟩ := h
  obtain ⟨a, cap, rfl, _⟩ := ownsRow_form h2
  exact ⟨a, cap, by rw [← h4]; exact ln_v h1⟩

set_option maxHeartbeats 400000 in
theorem len_any (F : Nat → Prop) (p : Nat) (c : Nat → Int) (ms : List (List UInt8)) (w : World) (h : Line F w p c ms) :
    Calls Try.prog 12 #[.pointer (some ⟨p, 0, none⟩)] w fun e w' => e = .returned (.int .i64 ms.length) ∧ w = w' := by
  obtain ⟨a, cap, m4⟩ := h.len
  clear h
  go_enter Try.func12, Try.ntmps12
  go_wp2
  go_ret
  exact ⟨rfl, rfl⟩

set_option maxHeartbeats 400000 in
theorem len_nil (w : World) : Calls Try.prog 12 #[.pointer none] w fun e w' => e = .returned (.int .i64 0) ∧ w = w' := by
  go_enter Try.func12, Try.ntmps12
  go_wp2
  go_ret
  exact ⟨rfl, rfl⟩

set_option maxHeartbeats 400000 in
theorem has_nil (i : Int) (w : World) : Calls Try.prog 22 #[.pointer none, .int .i64 i] w fun e w' => e = .returned (.iface 34 (.int .i64 4)) ∧ w = w' := by
  go_enter Try.func22, Try.ntmps22
  go_wp2
  go_ret
  exact ⟨rfl, rfl⟩

set_option maxHeartbeats 400000 in
theorem has_no (F : Nat → Prop) (p : Nat) (c : Nat → Int) (ms : List (List UInt8)) (i : Int) (w : World) (h : Line F w p c ms) (hi : i < 0 ∨ (0 ≤ i ∧ (ms.length : Int) ≤ i)) :
    Calls Try.prog 22 #[.pointer (some ⟨p, 0, none⟩), .int .i64 i] w fun e w' => e = .returned (.iface 34 (.int .i64 1)) ∧ w = w' := by
  obtain ⟨a, cap, m4⟩ := h.len
  clear h
  rcases hi with hi | ⟨hi, hi2⟩
  all_goals
    go_enter Try.func22, Try.ntmps22
    go_wp2
    go_ret
    exact ⟨rfl, rfl⟩

set_option maxHeartbeats 400000 in
theorem has_yes (F : Nat → Prop) (p : Nat) (c : Nat → Int) (ms : List (List UInt8)) (i : Int) (w : World) (h : Line F w p c ms) (hi : 0 ≤ i) (hi2 : i < (ms.length : Int)) :
    Calls Try.prog 22 #[.pointer (some ⟨p, 0, none⟩), .int .i64 i] w fun e w' => e = .returned .nilIface ∧ w = w' := by
  obtain ⟨a, cap, m4⟩ := h.len
  clear h
  go_enter Try.func22, Try.ntmps22
  go_wp2
  go_ret
  exact ⟨rfl, rfl⟩

/-- 'add' onto a line, of a message in new memory. -/
theorem add_new (F : Nat → Prop) (b : Value) (l : List UInt8) (p i : Nat) (c : Nat → Int) (ms : List (List UInt8)) (w0 w : World) (h0 : Line F w0 p c ms) (hk0 : Keep Non w0 w)
    (hb : Bs w b l) (hbf : ∀ g, b.ownBlock = some g → w0.heap.size ≤ g ∧ g < w.heap.size) (hi : i < 4) (hc0 : 0 ≤ c i) (hc1 : c i ≤ 1000000) (hl : ms.length < 64) :
    Calls Try.prog 20 #[.pointer (some ⟨p, 0, none⟩), b, .pointer (some ⟨p, i, none⟩)] w fun e w' => e = .returned .nilIface ∧ Keep (Fx F w0) w w' ∧ Line (Fx F w0) w' p (bump c i) (ms ++ [l]) := by
  have hsz := hk0.size
  obtain ⟨v, vs, h1, h2, h3, ⟨h4, h5⟩, h6, h7⟩ := h0
  have hp := lt_of_block h1
  have k1 := hk0.at h1 (fun e => e)
  have k2 := ownsRow_keep h2 hk0 (fun _ _ e => e)
  refine (add_ok (Fx F w0) b l p i c v vs ms w k1 k2 (fun g e => ⟨.inl (h3 g e).1, (h3 g e).2⟩) ⟨h4, fun j u m hu hm => ⟨(h5 j u m hu hm).1.keep hk0 (fun _ _ e => e), fun g e => ⟨.inl ((h5 j u m hu hm).2 g e).1, ((h5 j u m hu hm).2 g e).2.1, ((h5 j u m hu hm).2 g e).2.2.1, hk0.lt ((h5 j u m hu hm).2 g e).2.2.2⟩⟩⟩ (.inl h6) h7 hb ?_ hi hc0 hc1 (by omega)).mono ?_
  · intro g e
    have hg := hbf g e
    refine ⟨.inr hg.1, by omega, fun e2 => ?_, hg.2⟩
    have hv := h2.lt g e2
    omega
  · rintro e w' ⟨rfl, hk, hl'⟩
    exact ⟨rfl, hk, hl'.mono (fun k hk' => by rcases hk' with (hk' | hk') | hk'; exact .inl hk'; exact .inr hk'; exact .inr (by omega))⟩

theorem add_newFull (F : Nat → Prop) (b : Value) (p i : Nat) (c : Nat → Int) (ms : List (List UInt8)) (w : World) (h : Line F w p c ms) (hl : 64 ≤ ms.length) :
    Calls Try.prog 20 #[.pointer (some ⟨p, 0, none⟩), b, .pointer (some ⟨p, i, none⟩)] w fun e w' => e = .returned (.iface 34 (.int .i64 5)) ∧ w = w' := by
  obtain ⟨v, vs, h1, h2, h3, ⟨h4, h5⟩, h6, h7⟩ := h
  exact add_full b p i c v vs w h1 h2 (by omega)

set_option maxHeartbeats 400000 in
theorem send_nil (b : Value) (w : World) : Calls Try.prog 8 #[.pointer none, b] w fun e w' => e = .returned (.iface 34 (.int .i64 4)) ∧ w = w' := by
  go_enter Try.func8, Try.ntmps8
  go_wp2
  go_ret
  exact ⟨rfl, rfl⟩

set_option maxHeartbeats 400000 in
theorem send_long (p : Nat) (a : Option Addr) (n cap : Nat) (w : World) (hn : 65536 < n) : Calls Try.prog 8 #[.pointer (some ⟨p, 0, none⟩), .slice a n cap] w fun e w' => e = .returned (.iface 34 (.int .i64 3)) ∧ w = w' := by
  go_enter Try.func8, Try.ntmps8
  go_wp2
  go_ret
  exact ⟨rfl, rfl⟩

set_option maxHeartbeats 800000 in
theorem send_ok (F : Nat → Prop) (p : Nat) (c : Nat → Int) (ms : List (List UInt8)) (b : Value) (l : List UInt8) (w : World) (h : Line F w p c ms) (hb : Bs w b l) (hl : l.length ≤ 65536) (hm : ms.length < 64) (hc0 : 0 ≤ c 0) (hc1 : c 0 ≤ 1000000) :
    Calls Try.prog 8 #[.pointer (some ⟨p, 0, none⟩), b] w fun e w' => e = .returned .nilIface ∧ Keep F w w' ∧ Line (Fx F w) w' p (bump c 0) (ms ++ [l]) := by
  have hb0 := hb
  obtain ⟨a, cap, rfl, _⟩ := hb
  rw [List.length_map] at hb0 ⊢
  have H := Lib.hid h
  have HB := Lib.hid hb0
  have HL := Lib.hid hl
  clear h hb0
  go_enter Try.func8, Try.ntmps8
  go_wp2_with fail
  go_region_with (first
    | (go_at_call 21; refine (clone_any _ l _ (by exact HB.out) (by have := HL.out; omega)).mono ?_; rintro e w1 ⟨v1, rfl, hk1, hb1, hf1⟩; have HK : Hid (Keep Non w w1) := ⟨hk1.os, hk1.tape, hk1.output, hk1.size, hk1.block⟩; have HB1 := Lib.hid hb1; have HF1 := Lib.hid hf1; clear hk1 hb1 hf1)
    | (go_at_call 20; refine (add_new F _ l p 0 c ms _ _ H.out HK.out HB1.out HF1.out (by omega) hc0 hc1 hm).mono ?_; rintro e w2 ⟨rfl, hk2, hl2⟩; have HK2 := Lib.hid hk2; have HL2 := Lib.hid hl2; clear hk2 hl2))
  go_wp2_with fail
  go_ret
  exact ⟨rfl, HK.out.trans HK2.out (fun _ _ h => h.elim) (fun i hi h => by rcases h with h | h; exact h; omega), HL2.out⟩

set_option maxHeartbeats 800000 in
theorem send_full (F : Nat → Prop) (p : Nat) (c : Nat → Int) (ms : List (List UInt8)) (b : Value) (l : List UInt8) (w : World) (h : Line F w p c ms) (hb : Bs w b l) (hl : l.length ≤ 65536) (hm : 64 ≤ ms.length) :
    Calls Try.prog 8 #[.pointer (some ⟨p, 0, none⟩), b] w fun e w' => e = .returned (.iface 34 (.int .i64 5)) ∧ Keep Non w w' := by
  have hb0 := hb
  obtain ⟨a, cap, rfl, _⟩ := hb
  rw [List.length_map] at hb0 ⊢
  have H := Lib.hid h
  have HB := Lib.hid hb0
  have HL := Lib.hid hl
  clear h hb0
  go_enter Try.func8, Try.ntmps8
  go_wp2_with fail
  go_region_with (first
    | (go_at_call 21; refine (clone_any _ l _ (by exact HB.out) (by have := HL.out; omega)).mono ?_; rintro e w1 ⟨v1, rfl, hk1, hb1, hf1⟩; have HK : Hid (Keep Non w w1) := ⟨hk1.os, hk1.tape, hk1.output, hk1.size, hk1.block⟩; clear hk1 hb1 hf1)
    | (go_at_call 20; refine (add_newFull F _ p 0 c ms _ (H.out.keep HK.out (fun _ _ e => e)) hm).mono ?_; rintro e w2 ⟨rfl, rfl⟩))
  go_wp2_with fail
  go_ret
  exact ⟨rfl, HK.out⟩

end Go.Proofs.Ytggnkcpnbnpbhaa
