/- Clear of a line, walked. -/
import Derived.Test.YtggnkcpnbnpbhaaTwice
namespace Go.Proofs.Ytggnkcpnbnpbhaa
open Go.RowKit

/-- A count raised by n. -/
def addc (c : Nat → Int) (i : Nat) (n : Int) : Nat → Int := fun j => if j = i then c j + n else c j
theorem addc_zero (c : Nat → Int) (i : Nat) : addc c i 0 = c := by funext j; unfold addc; split <;> omega
theorem addc_bump (c : Nat → Int) (i : Nat) (n : Int) : bump (addc c i n) i = addc c i (n + 1) := by
  funext j
  unfold bump addc
  split <;> omega

/-- How long the list of a line is. -/
def lenAt (w : World) (p : Nat) : Nat := match w.cell? ⟨p, 4, none⟩ with | some (.slice _ n _) => n | _ => 0
theorem Line.lenAt {F : Nat → Prop} {w : World} {p : Nat} {c : Nat → Int} {ms : List (List UInt8)} (h : Line F w p c ms) : lenAt w p = ms.length := by
  obtain ⟨a, cap, e⟩ := h.len
  simp [Proofs.Ytggnkcpnbnpbhaa.lenAt, e]

/-- What a line reads as behind a while of clearing. -/
def ClearAt (F : Nat → Prop) (w : World) (p : Nat) (c : Nat → Int) (ms : List (List UInt8)) (wr : World) : Prop :=
  ∃ k : Nat, k ≤ ms.length ∧ Keep F w wr ∧ Line F wr p (addc c 2 k) (ms.drop k)

set_option maxHeartbeats 800000 in
theorem clear_any (F : Nat → Prop) (p : Nat) (c : Nat → Int) (ms : List (List UInt8)) (w : World) (h : Line F w p c ms) (hc0 : 0 ≤ c 2) (hc1 : c 2 ≤ 900000) (hlen : ms.length ≤ 64) :
    Calls Try.prog 15 #[.pointer (some ⟨p, 0, none⟩)] w fun e w' => e = .returned (.tuple #[]) ∧ Keep F w w' ∧ Line F w' p (addc c 2 ms.length) [] := by
  have H := Lib.hid h
  clear h
  go_enter Try.func15, Try.ntmps15
  go_wp2_with fail
  go_loopw [] (fun wr => ClearAt F w p c ms wr) (fun wr => lenAt wr p)
  case atStart =>
    exact ⟨0, Nat.zero_le _, Keep.refl _ _, by have := H.out; simpa [addc_zero] using this⟩
  case round =>
    obtain ⟨k, hk, hkp, hl⟩ := hrel
    have KP := Lib.hid hkp
    have HL := Lib.hid hl
    have hd : (ms.drop k).length = ms.length - k := List.length_drop
    have HD := Lib.hid hd
    clear hkp hl hd
    by_cases hkl : k < ms.length
    · obtain ⟨l, hlk⟩ : ∃ l, (ms.drop k)[0]? = some l := ⟨ms[k], by rw [List.getElem?_drop]; simp [hkl]⟩
      have HLK := Lib.hid hlk
      clear hlk
      have hpos : 0 < (((ms.drop k).length : Nat) : Int) := by have := HD.out; omega
      go_wp2_with fail
      refine (len_any F p _ _ _ HL.out).mono ?_
      rintro e w1 ⟨rfl, rfl⟩
      go_wp2_with fail
      refine (drop_any F p _ _ 0 2 l _ HL.out HLK.out (by omega) (by unfold addc; simp; omega) (by unfold addc; simp; omega) (by have := HD.out; omega)).mono ?_
      rintro e w2 ⟨u, rfl, hk2, hl2, hb2⟩
      have K2 := Lib.hid hk2
      have L2 := Lib.hid hl2
      clear hk2 hl2 hb2
      go_wp2_with fail
      go_roundw
      case rel =>
        refine ⟨k + 1, by omega, KP.out.trans1 K2.out, ?_⟩
        have h := L2.out
        rw [addc_bump, List.eraseIdx_zero, List.tail_drop] at h
        exact h
      case measure =>
        rw [L2.out.lenAt, HL.out.lenAt, List.length_eraseIdx, if_pos (by have := HD.out; omega)]
        have := HD.out
        omega
    · have e : k = ms.length := by omega
      subst e
      have hz : (((ms.drop ms.length).length : Nat) : Int) ≤ 0 := by have := HD.out; omega
      go_wp2_with fail
      refine (len_any F p _ _ _ HL.out).mono ?_
      rintro e w1 ⟨rfl, rfl⟩
      go_wp2_with fail
      go_returns
      have h := HL.out
      rw [List.drop_length] at h
      exact ⟨rfl, KP.out, h⟩

set_option maxHeartbeats 400000 in
theorem clear_nil (w : World) : Calls Try.prog 15 #[.pointer none] w fun e w' => e = .returned (.tuple #[]) ∧ w = w' := by
  go_enter Try.func15, Try.ntmps15
  go_wp2_with fail
  refine wp_loop_rounds 1 ?_
  rw [rounds_succ]
  go_wp2_with fail
  refine (len_nil _).mono ?_
  rintro e w1 ⟨rfl, rfl⟩
  go_wp2_with fail
  go_returns
  exact ⟨rfl, rfl⟩

end Go.Proofs.Ytggnkcpnbnpbhaa
