/- ClockRises, walked: in every round no clock goes back, and whoever is fair was so, and is within the bound. -/
import Derived.Test.YthhpgckbaciidaaAdds
namespace Go.Proofs.Ythhpgckbaciidaa
open Go.RowKit

/-- What fairness says of both clocks. -/
def FairIn (a c bd : Int) (u : Bool) : Prop := u = false → a - c ≤ bd ∧ c - a ≤ bd
/-- What a step does: no clock goes back; who is fair then was fair ahead, and is within the bound. -/
def Steps (a c bd : Int) (u : Bool) (a' c' : Int) (u' : Bool) : Prop := a ≤ a' ∧ c ≤ c' ∧ InB a' c' ∧ FairIn a' c' bd u' ∧ (u' = false → u = false)

theorem apart_le {a c bd : Int} (h : ¬ bd < apartI a c) : a - c ≤ bd ∧ c - a ≤ bd := by
  unfold apartI at h
  split at h <;> omega

theorem on_steps {a c bd : Int} {u : Bool} (x y : Int) (hi : InB a c) (hf : FairIn a c bd u) : Steps a c bd u (onA a c x y) (onC a c x y) (onU a c bd u x y) := by
  refine ⟨(on_up x y).1, (on_up x y).2, on_in x y hi, ?_, ?_⟩
  · unfold FairIn at *
    unfold onU onA onC
    cases onOk a c x y
    · exact hf
    · simp only [if_true, Bool.or_eq_false_iff, decide_eq_false_iff_not]
      exact fun h => apart_le h.2
  · unfold onU
    cases onOk a c x y
    · exact fun h => h
    · simp only [if_true, Bool.or_eq_false_iff]
      exact fun h => h.1

theorem tick_steps {a c bd : Int} {u : Bool} (i x : Int) (hi : InB a c) (hf : FairIn a c bd u) : Steps a c bd u (tickA a c i x) (tickC a c i x) (tickU a c bd u i x) := by
  unfold tickA tickC tickU
  cases tkN i
  · exact ⟨Int.le_refl _, Int.le_refl _, hi, hf, fun h => h⟩
  · exact on_steps _ _ hi hf

/-- What holds at the head of each round. -/
structure RisesAt (w wr : World) (p : Nat) (a c bd : Int) (u : Bool) : Prop where
  keep : Keep Non w wr
  p0 : w.heap.size ≤ p
  ck : wr.heap[p]? = some (CkB a c bd u)
  inb : InB a c
  fair : FairIn a c bd u

set_option maxRecDepth 100000 in
set_option maxHeartbeats 1600000 in
theorem rises_some (b off len cap : Nat) (K W B : Nat → Int) (bd : Int) (w : World) (ha : Acts w b off len K W B) (hl : len ≤ 100) (h0 : 0 ≤ bd) (h1 : bd ≤ 1099511627776) :
    Calls Try.prog 4 #[.int .i64 bd, .slice (some ⟨b, off, none⟩) len cap] w fun e w' => e = .returned (.bool true) ∧ Keep Non w w' := by
  have hlt := ha.lt
  go_enter Try.func4, Try.ntmps4
  go_wp2_with fail
  refine (alive_true _).mono ?_
  rintro e w1 ⟨rfl, hk1⟩
  go_wp2_with fail
  refine (new_own bd _ h0 h1).mono ?_
  rintro e w2 ⟨p, rfl, hp, hp', hk2, h2⟩
  have H2 := Lib.hid h2
  clear h2
  go_wp2_with fail
  go_loopw [34] (fun i wr => ∃ k : Nat, k ≤ len ∧ i = .int .i64 k ∧ ∃ a c u, RisesAt w wr p a c bd u) (fun i _ => len - (intOf i).toNat)
  case atStart =>
    exact ⟨0, by omega, rfl, 0, 0, false, hk1.trans1 hk2, by have := hk1.size; omega, H2.out, ⟨by omega, by omega, by omega, by omega⟩, fun _ => by omega⟩
  case round =>
    obtain ⟨k, hk, rfl, a, c, u, hs⟩ := hrel
    have hB := Lib.hid hs
    have P1 := Lib.hid hs.ck
    have ha2 := ha.keep hs.keep (fun e => e)
    clear hs
    by_cases hlt2 : k < len
    · have c0 := ha2.kind k hlt2
      have c1 := ha2.which k hlt2
      have c2 := ha2.much k hlt2
      have hbl := ha2.lt
      have hne : ¬ b = wr.heap.size := by omega
      clear ha ha2
      have hpl := lt_of_block P1.out
      have hnp : ¬ wr.heap.size = p := by omega
      have hp0 := hB.out.p0
      go_wp2_with fail
      refine (now_one p a c bd u _ (by exact blk_alloc P1.out _)).mono ?_
      rintro e w' ⟨rfl, rfl⟩
      go_wp2_with fail
      refine (now_two p a c bd u _ (by exact blk_alloc P1.out _)).mono ?_
      rintro e w' ⟨rfl, rfl⟩
      go_wp2_with fail
      refine (fair_any p a c bd u _ (by exact blk_alloc P1.out _)).mono ?_
      rintro e w' ⟨rfl, rfl⟩
      go_wp2_with fail
      · refine (both_any p a c bd u (B k) _ (by exact blk_alloc P1.out _) hB.out.inb).mono ?_
        rintro e w4 ⟨rfl, hk4, h4⟩
        obtain ⟨a', c', u', h4', st⟩ : ∃ a' c' u', w4.heap[p]? = some (CkB a' c' bd u') ∧ Steps a c bd u a' c' u' := ⟨_, _, _, h4, on_steps _ _ hB.out.inb hB.out.fair⟩
        have KP : Keep Non w w4 := (hB.out.keep.alloc _).trans hk4 (fun _ _ h => h) (fun i hi h => by unfold One at h; omega)
        have H4 := Lib.hid h4'
        clear h4 h4' c0 c1 c2 P1 hk4
        obtain ⟨s1, s2, ⟨i1, i2, i3, i4⟩, s4, s5⟩ := st
        have S4 := Lib.hid s4
        clear s4
        cases u'
        · have hu : u = false := s5 rfl
          subst hu
          obtain ⟨s6, s7⟩ := S4.out rfl
          clear s5
          go_wp2_with fail
          refine (now_one p a' c' bd _ _ H4.out).mono ?_
          rintro e w' ⟨rfl, rfl⟩
          go_wp2_with fail
          refine (now_two p a' c' bd _ _ H4.out).mono ?_
          rintro e w' ⟨rfl, rfl⟩
          go_wp2_with fail
          refine (fair_any p a' c' bd _ _ H4.out).mono ?_
          rintro e w' ⟨rfl, rfl⟩
          go_wp2_with fail
          go_roundw
          case rel => exact ⟨k + 1, by omega, by go_num, a', c', _, KP, hp0, H4.out, ⟨i1, i2, i3, i4⟩, S4.out⟩
          case measure => simp [intOf]; omega
        · clear s5
          go_wp2_with fail
          refine (now_one p a' c' bd _ _ H4.out).mono ?_
          rintro e w' ⟨rfl, rfl⟩
          go_wp2_with fail
          refine (now_two p a' c' bd _ _ H4.out).mono ?_
          rintro e w' ⟨rfl, rfl⟩
          go_wp2_with fail
          refine (fair_any p a' c' bd _ _ H4.out).mono ?_
          rintro e w' ⟨rfl, rfl⟩
          go_wp2_with fail
          go_roundw
          case rel => exact ⟨k + 1, by omega, by go_num, a', c', _, KP, hp0, H4.out, ⟨i1, i2, i3, i4⟩, S4.out⟩
          case measure => simp [intOf]; omega
      · refine (tick_any p a c bd u (W k) (B k) _ (by exact blk_alloc P1.out _) hB.out.inb).mono ?_
        rintro e w4 ⟨rfl, hk4, h4⟩
        obtain ⟨a', c', u', h4', st⟩ : ∃ a' c' u', w4.heap[p]? = some (CkB a' c' bd u') ∧ Steps a c bd u a' c' u' := ⟨_, _, _, h4, tick_steps _ _ hB.out.inb hB.out.fair⟩
        have KP : Keep Non w w4 := (hB.out.keep.alloc _).trans hk4 (fun _ _ h => h) (fun i hi h => by unfold One at h; omega)
        have H4 := Lib.hid h4'
        clear h4 h4' c0 c1 c2 P1 hk4
        obtain ⟨s1, s2, ⟨i1, i2, i3, i4⟩, s4, s5⟩ := st
        have S4 := Lib.hid s4
        clear s4
        cases u'
        · have hu : u = false := s5 rfl
          subst hu
          obtain ⟨s6, s7⟩ := S4.out rfl
          clear s5
          go_wp2_with fail
          refine (now_one p a' c' bd _ _ H4.out).mono ?_
          rintro e w' ⟨rfl, rfl⟩
          go_wp2_with fail
          refine (now_two p a' c' bd _ _ H4.out).mono ?_
          rintro e w' ⟨rfl, rfl⟩
          go_wp2_with fail
          refine (fair_any p a' c' bd _ _ H4.out).mono ?_
          rintro e w' ⟨rfl, rfl⟩
          go_wp2_with fail
          go_roundw
          case rel => exact ⟨k + 1, by omega, by go_num, a', c', _, KP, hp0, H4.out, ⟨i1, i2, i3, i4⟩, S4.out⟩
          case measure => simp [intOf]; omega
        · clear s5
          go_wp2_with fail
          refine (now_one p a' c' bd _ _ H4.out).mono ?_
          rintro e w' ⟨rfl, rfl⟩
          go_wp2_with fail
          refine (now_two p a' c' bd _ _ H4.out).mono ?_
          rintro e w' ⟨rfl, rfl⟩
          go_wp2_with fail
          refine (fair_any p a' c' bd _ _ H4.out).mono ?_
          rintro e w' ⟨rfl, rfl⟩
          go_wp2_with fail
          go_roundw
          case rel => exact ⟨k + 1, by omega, by go_num, a', c', _, KP, hp0, H4.out, ⟨i1, i2, i3, i4⟩, S4.out⟩
          case measure => simp [intOf]; omega
    · have e : k = len := by omega
      subst e
      go_wp2_with fail
      go_ret
      exact ⟨rfl, hB.out.keep⟩

set_option maxRecDepth 100000 in
set_option maxHeartbeats 800000 in
theorem rises_long (a : Option Addr) (len cap : Nat) (bd : Int) (w : World) (hl : 100 < len) :
    Calls Try.prog 4 #[.int .i64 bd, .slice a len cap] w fun e w' => e = .returned (.bool true) ∧ Keep Non w w' := by
  go_enter Try.func4, Try.ntmps4
  go_wp2_with fail
  refine (alive_true _).mono ?_
  rintro e w1 ⟨rfl, hk1⟩
  go_wp2_with fail
  go_ret
  exact ⟨rfl, hk1⟩

theorem new_out (bd : Int) (w : World) (h : bd < 0 ∨ 1099511627776 < bd) :
    Calls Try.prog 7 #[.int .i64 bd] w fun e w' => e = .returned (.tuple #[.pointer none, .iface 40 (.int .i64 1)]) ∧ w = w' := by
  rcases h with h | h
  · exact new_low bd w h
  · exact new_high bd w h

set_option maxRecDepth 100000 in
set_option maxHeartbeats 800000 in
theorem rises_out (a : Option Addr) (len cap : Nat) (bd : Int) (w : World) (hl : len ≤ 100) (h : bd < 0 ∨ 1099511627776 < bd) :
    Calls Try.prog 4 #[.int .i64 bd, .slice a len cap] w fun e w' => e = .returned (.bool true) ∧ Keep Non w w' := by
  have HB := Lib.hid h
  clear h
  go_enter Try.func4, Try.ntmps4
  go_wp2_with fail
  refine (alive_true _).mono ?_
  rintro e w1 ⟨rfl, hk1⟩
  go_wp2_with fail
  refine (new_out bd _ HB.out).mono ?_
  rintro e w' ⟨rfl, rfl⟩
  go_wp2_with fail
  go_ret
  exact ⟨rfl, hk1⟩

set_option maxRecDepth 100000 in
set_option maxHeartbeats 800000 in
theorem rises_nil (a : Option Addr) (cap : Nat) (bd : Int) (w : World) (h0 : 0 ≤ bd) (h1 : bd ≤ 1099511627776) :
    Calls Try.prog 4 #[.int .i64 bd, .slice a 0 cap] w fun e w' => e = .returned (.bool true) ∧ Keep Non w w' := by
  go_enter Try.func4, Try.ntmps4
  go_wp2_with fail
  refine (alive_true _).mono ?_
  rintro e w1 ⟨rfl, hk1⟩
  go_wp2_with fail
  refine (new_own bd _ h0 h1).mono ?_
  rintro e w2 ⟨p, rfl, hp, hp', hk2, h2⟩
  clear h2
  go_wp2_with fail
  refine wp_loop_rounds 1 ?_
  rw [rounds_succ]
  go_wp2_with fail
  go_ret
  exact ⟨rfl, hk1.trans1 hk2⟩

end Go.Proofs.Ythhpgckbaciidaa
