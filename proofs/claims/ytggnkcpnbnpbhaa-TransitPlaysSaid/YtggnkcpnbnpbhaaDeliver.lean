/- Deliver and Lose of a line, walked. -/
import Derived.Test.YtggnkcpnbnpbhaaDrop
namespace Go.Proofs.Ytggnkcpnbnpbhaa
open Go.RowKit

set_option maxHeartbeats 400000 in
theorem deliver_nil (i : Int) (w : World) : Calls Try.prog 9 #[.pointer none, .int .i64 i] w fun e w' => e = .returned (.tuple #[.slice none 0 0, .iface 34 (.int .i64 4)]) ∧ w = w' := by
  go_enter Try.func9, Try.ntmps9
  go_wp2_with (go_at_call 22; go_must (refine (has_nil i _).mono ?_); rintro e w1 ⟨rfl, rfl⟩)
  go_ret2
  exact ⟨rfl, rfl⟩

set_option maxHeartbeats 400000 in
theorem deliver_no (F : Nat → Prop) (p : Nat) (c : Nat → Int) (ms : List (List UInt8)) (i : Int) (w : World) (h : Line F w p c ms) (hi : i < 0 ∨ (0 ≤ i ∧ (ms.length : Int) ≤ i)) :
    Calls Try.prog 9 #[.pointer (some ⟨p, 0, none⟩), .int .i64 i] w fun e w' => e = .returned (.tuple #[.slice none 0 0, .iface 34 (.int .i64 1)]) ∧ w = w' := by
  have H := Lib.hid h
  have HI := Lib.hid hi
  clear h hi
  go_enter Try.func9, Try.ntmps9
  go_wp2_with (go_at_call 22; go_must (refine (has_no F p c ms i _ H.out HI.out).mono ?_); rintro e w1 ⟨rfl, rfl⟩)
  go_ret2
  exact ⟨rfl, rfl⟩

/-- A message that arrives: its bytes in new memory; the line without it. -/
def Delivered (F : Nat → Prop) (w : World) (p : Nat) (c : Nat → Int) (ms : List (List UInt8)) (l : List UInt8) (e : Ending) (w' : World) : Prop :=
  ∃ v, e = .returned (.tuple #[v, .nilIface]) ∧ Keep F w w' ∧ Line F w' p c ms ∧ Bs w' v l ∧ ∀ g, v.ownBlock = some g → w.heap.size ≤ g ∧ g < w'.heap.size

set_option maxHeartbeats 800000 in
theorem deliver_yes (F : Nat → Prop) (p : Nat) (c : Nat → Int) (ms : List (List UInt8)) (i : Nat) (l : List UInt8) (w : World) (h : Line F w p c ms) (hi : ms[i]? = some l) (hl : l.length ≤ 65536) (hc0 : 0 ≤ c 1) (hc1 : c 1 ≤ 1000000) (hlen : ms.length ≤ 64) :
    Calls Try.prog 9 #[.pointer (some ⟨p, 0, none⟩), .int .i64 i] w (Delivered F w p (bump c 1) (ms.eraseIdx i) l) := by
  have him := (List.getElem?_eq_some_iff.1 hi).1
  have hi0 : (0 : Int) ≤ (i : Int) := by omega
  have hi1 : (i : Int) < (ms.length : Int) := by omega
  have H := Lib.hid h
  have HI := Lib.hid hi
  have HL := Lib.hid hl
  clear h hi hl
  go_enter Try.func9, Try.ntmps9
  go_wp2_with fail
  refine (has_yes F p c ms i _ H.out hi0 hi1).mono ?_
  rintro e w1 ⟨rfl, rfl⟩
  go_wp2_with fail
  refine (drop_any F p c ms i 1 l _ H.out HI.out (by omega) hc0 hc1 hlen).mono ?_
  rintro e w1 ⟨u, rfl, hk1, hl1, hb1⟩
  have HK := Lib.hid hk1
  have HL1 := Lib.hid hl1
  have HB := Lib.hid hb1
  clear hk1 hl1 hb1
  go_wp2_with fail
  refine (clone_any _ l _ HB.out (by have := HL.out; omega)).mono ?_
  rintro e w2 ⟨v, rfl, hk2, hb2, hf2⟩
  have HK2 := Lib.hid hk2
  have HB2 := Lib.hid hb2
  have HF2 := Lib.hid hf2
  clear hk2 hb2 hf2
  go_wp2_with fail
  go_ret2
  have := HK.out.size
  exact ⟨v, rfl, HK.out.trans HK2.out (fun _ _ h => h) (fun _ _ h => h.elim), HL1.out.keep HK2.out (fun _ _ e => e), HB2.out, fun g e => by have := HF2.out g e; omega⟩

set_option maxHeartbeats 400000 in
theorem lose_nil (i : Int) (w : World) : Calls Try.prog 13 #[.pointer none, .int .i64 i] w fun e w' => e = .returned (.iface 34 (.int .i64 4)) ∧ w = w' := by
  go_enter Try.func13, Try.ntmps13
  go_wp2_with (go_at_call 22; go_must (refine (has_nil i _).mono ?_); rintro e w1 ⟨rfl, rfl⟩)
  go_ret
  exact ⟨rfl, rfl⟩

set_option maxHeartbeats 400000 in
theorem lose_no (F : Nat → Prop) (p : Nat) (c : Nat → Int) (ms : List (List UInt8)) (i : Int) (w : World) (h : Line F w p c ms) (hi : i < 0 ∨ (0 ≤ i ∧ (ms.length : Int) ≤ i)) :
    Calls Try.prog 13 #[.pointer (some ⟨p, 0, none⟩), .int .i64 i] w fun e w' => e = .returned (.iface 34 (.int .i64 1)) ∧ w = w' := by
  have H := Lib.hid h
  have HI := Lib.hid hi
  clear h hi
  go_enter Try.func13, Try.ntmps13
  go_wp2_with (go_at_call 22; go_must (refine (has_no F p c ms i _ H.out HI.out).mono ?_); rintro e w1 ⟨rfl, rfl⟩)
  go_ret
  exact ⟨rfl, rfl⟩

set_option maxHeartbeats 800000 in
theorem lose_yes (F : Nat → Prop) (p : Nat) (c : Nat → Int) (ms : List (List UInt8)) (i : Nat) (l : List UInt8) (w : World) (h : Line F w p c ms) (hi : ms[i]? = some l) (hc0 : 0 ≤ c 2) (hc1 : c 2 ≤ 1000000) (hlen : ms.length ≤ 64) :
    Calls Try.prog 13 #[.pointer (some ⟨p, 0, none⟩), .int .i64 i] w fun e w' => e = .returned .nilIface ∧ Keep F w w' ∧ Line F w' p (bump c 2) (ms.eraseIdx i) := by
  have him := (List.getElem?_eq_some_iff.1 hi).1
  have hi0 : (0 : Int) ≤ (i : Int) := by omega
  have hi1 : (i : Int) < (ms.length : Int) := by omega
  have H := Lib.hid h
  have HI := Lib.hid hi
  clear h hi
  go_enter Try.func13, Try.ntmps13
  go_wp2_with fail
  refine (has_yes F p c ms i _ H.out hi0 hi1).mono ?_
  rintro e w1 ⟨rfl, rfl⟩
  go_wp2_with fail
  refine (drop_any F p c ms i 2 l _ H.out HI.out (by omega) hc0 hc1 hlen).mono ?_
  rintro e w1 ⟨u, rfl, hk1, hl1, hb1⟩
  have HK := Lib.hid hk1
  have HL1 := Lib.hid hl1
  clear hk1 hl1 hb1
  go_wp2_with fail
  go_ret
  exact ⟨rfl, HK.out, HL1.out⟩

end Go.Proofs.Ytggnkcpnbnpbhaa
