/- SeqCovers, walked. -/
import Derived.Test.YtdgplmlpkphnaaaSeqLaw
import Derived.Deep.DeepCutAuto
namespace Go.Proofs.Ytdgplmlpkphnaaa
open Go.RowKit

/-- A row of numbers that came in. -/
structure Ints (w : World) (b off len : Nat) (L : Nat → Int) : Prop where
  lt : b < w.heap.size
  at_ : ∀ i, i < len → w.cell? ⟨b, off + i, none⟩ = some (.int .i64 (L i))

theorem Ints.keep {w w' : World} {S : Nat → Prop} {b off len : Nat} {L : Nat → Int} (h : Ints w b off len L) (k : Keep S w w') (hn : ¬ S b) : Ints w' b off len L :=
  ⟨k.lt h.lt, fun i hi => (World.cell?_of_block (k.block b h.lt hn)).trans (h.at_ i hi)⟩

/-- A setting without an error. -/
theorem set_fine (b : Nat) (ep nx x n : Int) (w : World) (h : w.heap[b]? = some (SqB ep nx)) (hi : SqIn ep nx) (he : setE ep x n = 0) :
    Calls Try.prog 8 #[.pointer (some ⟨b, 0, none⟩), .int .i64 x, .int .i64 n] w fun e w' => e = .returned .nilIface ∧ Keep (One b) w w' ∧ w'.heap[b]? = some (SqB x n) := by
  have := set_any b ep nx x n w h hi
  have e2 : setP ep x n = x := by simp [setP, he]
  have e3 : setN ep nx x n = n := by simp [setN, he]
  rw [he, e2, e3] at this
  exact this
theorem set_not (b : Nat) (ep nx x n : Int) (w : World) (h : w.heap[b]? = some (SqB ep nx)) (hi : SqIn ep nx) (he : setE ep x n ≠ 0) :
    Calls Try.prog 8 #[.pointer (some ⟨b, 0, none⟩), .int .i64 x, .int .i64 n] w fun e w' => e = .returned (.iface 40 (.int .i64 (setE ep x n))) ∧ Keep (One b) w w' ∧ w'.heap[b]? = some (SqB ep nx) := by
  have := set_any b ep nx x n w h hi
  have e2 : setP ep x n = ep := by simp [setP, he]
  have e3 : setN ep nx x n = nx := by simp [setN, he]
  rw [e2, e3, errv_of he] at this
  exact this
theorem tail_fine (b : Nat) (ep nx : Int) (w : World) (h : w.heap[b]? = some (SqB ep nx)) :
    Calls Try.prog 10 #[.pointer (some ⟨b, 0, none⟩), .int .i64 ep] w fun e w' => e = .returned (.tuple #[.int .i64 nx, .nilIface]) ∧ w = w' := by
  have := tail_any b ep nx ep w h
  have e1 : tailV ep nx ep = nx := by simp [tailV, askE_same]
  rw [askE_same, e1] at this
  exact this

/-- What holds at the head of each round. -/
structure CovAt (w wr : World) (p : Nat) (nx : Int) : Prop where
  keep : Keep Non w wr
  p0 : w.heap.size ≤ p
  sq : wr.heap[p]? = some (SqB 1 nx)
  inb : SqIn 1 nx

set_option maxRecDepth 100000 in
set_option maxHeartbeats 1600000 in
theorem covers_some (b off len cap : Nat) (L : Nat → Int) (fr : Int) (w : World) (ha : Ints w b off len L) (hl : len ≤ 100) (h0 : 0 ≤ fr) (h1 : fr ≤ 1048576) :
    Calls Try.prog 3 #[.int .i64 fr, .slice (some ⟨b, off, none⟩) len cap] w fun e w' => e = .returned (.bool true) ∧ Keep Non w w' := by
  have hlt := ha.lt
  go_enter Try.func3, Try.ntmps3
  go_wp2_with fail
  refine (alive_true _).mono ?_
  rintro e w1 ⟨rfl, hk1⟩
  go_wp2_with fail
  refine (new_seq _).mono ?_
  rintro e w2 ⟨p, rfl, hp, hk2, h2⟩
  have H2 := Lib.hid h2
  clear h2
  go_wp2_with fail
  refine (set_fine p 0 0 1 fr _ H2.out ⟨by omega, by omega, by omega, by omega⟩ (setE_mk (by omega) (by omega) h0 h1 (by omega))).mono ?_
  rintro e w3 ⟨rfl, hk3, h3⟩
  have H3 := Lib.hid h3
  clear h3
  go_wp2_with fail
  go_loopw [6, 32] (fun t i wr => ∃ k : Nat, k ≤ len ∧ i = .int .i64 k ∧ ∃ nx, t = .int .i64 nx ∧ CovAt w wr p nx) (fun _ i _ => len - (intOf i).toNat)
  case atStart =>
    have e1 := hk1.size
    exact ⟨0, by omega, rfl, fr, rfl, (hk1.trans1 hk2).trans hk3 (fun _ _ h => h) (fun i hi h => by unfold One at h; omega), by omega, H3.out, ⟨by omega, by omega, by omega, by omega⟩⟩
  case round =>
    obtain ⟨k, hk, rfl, nx, rfl, hs⟩ := hrel
    have hB := Lib.hid hs
    have ha2 := ha.keep hs.keep (fun e => e)
    have hp0 := hs.p0
    obtain ⟨i0, i1, i2, i3⟩ := hs.inb
    clear hs
    by_cases hlt2 : k < len
    · have c0 := ha2.at_ k hlt2
      clear ha ha2
      by_cases he : takeE 1 nx 1 (L k) = 0
      · have HE := Lib.hid he
        obtain ⟨n1, n2, _, n3⟩ := takeE_zero he
        clear he
        go_wp2_with fail
        refine (take_fine p 1 nx 1 (L k) _ hB.out.sq hB.out.inb HE.out).mono ?_
        rintro e w4 ⟨rfl, hk4, h4⟩
        have H4 := Lib.hid h4
        clear h4
        go_wp2_with fail
        go_roundw
        case rel => exact ⟨k + 1, by omega, by go_num, nx + L k, rfl, hB.out.keep.trans hk4 (fun _ _ h => h) (fun i hi h => by unfold One at h; omega), hp0, H4.out, ⟨by omega, by omega, by omega, by omega⟩⟩
        case measure => simp [intOf]; omega
      · have HE := Lib.hid he
        have hcase : L k < 1 ∨ (1 ≤ L k ∧ 64 < L k) ∨ (1 ≤ L k ∧ L k ≤ 64 ∧ 1048576 < nx + L k) := by
          by_cases h5 : L k < 1
          · exact .inl h5
          · by_cases h6 : 64 < L k
            · exact .inr (.inl ⟨by omega, h6⟩)
            · by_cases h7 : 1048576 < nx + L k
              · exact .inr (.inr ⟨by omega, by omega, h7⟩)
              · exact (he (takeE_mk (by omega) (by omega) (by omega))).elim
        clear he
        rcases hcase with h5 | ⟨h5, h6⟩ | ⟨h5, h6, h7⟩
        all_goals
          go_wp2_with fail
          refine (take_not p 1 nx 1 (L k) _ hB.out.sq hB.out.inb HE.out).mono ?_
          rintro e w4 ⟨rfl, hk4, h4⟩
          have H4 := Lib.hid h4
          clear h4
          go_wp2_with fail
          go_roundw
          case rel => exact ⟨k + 1, by omega, by go_num, nx, rfl, hB.out.keep.trans hk4 (fun _ _ h => h) (fun i hi h => by unfold One at h; omega), hp0, H4.out, ⟨by omega, by omega, by omega, by omega⟩⟩
          case measure => simp [intOf]; omega
    · have e : k = len := by omega
      subst e
      go_wp2_with fail
      refine (tail_fine p 1 nx _ hB.out.sq).mono ?_
      rintro e w' ⟨rfl, rfl⟩
      go_wp2_with fail
      go_ret
      exact ⟨rfl, hB.out.keep⟩

set_option maxRecDepth 100000 in
set_option maxHeartbeats 800000 in
theorem covers_long (a : Option Addr) (len cap : Nat) (fr : Int) (w : World) (hl : 100 < len) :
    Calls Try.prog 3 #[.int .i64 fr, .slice a len cap] w fun e w' => e = .returned (.bool true) ∧ Keep Non w w' := by
  go_enter Try.func3, Try.ntmps3
  go_wp2_with fail
  refine (alive_true _).mono ?_
  rintro e w1 ⟨rfl, hk1⟩
  go_wp2_with fail
  go_ret
  exact ⟨rfl, hk1⟩

set_option maxRecDepth 100000 in
set_option maxHeartbeats 800000 in
theorem covers_nil (a : Option Addr) (cap : Nat) (fr : Int) (w : World) (h0 : 0 ≤ fr) (h1 : fr ≤ 1048576) :
    Calls Try.prog 3 #[.int .i64 fr, .slice a 0 cap] w fun e w' => e = .returned (.bool true) ∧ Keep Non w w' := by
  go_enter Try.func3, Try.ntmps3
  go_wp2_with fail
  refine (alive_true _).mono ?_
  rintro e w1 ⟨rfl, hk1⟩
  go_wp2_with fail
  refine (new_seq _).mono ?_
  rintro e w2 ⟨p, rfl, hp, hk2, h2⟩
  have H2 := Lib.hid h2
  clear h2
  go_wp2_with fail
  refine (set_fine p 0 0 1 fr _ H2.out ⟨by omega, by omega, by omega, by omega⟩ (setE_mk (by omega) (by omega) h0 h1 (by omega))).mono ?_
  rintro e w3 ⟨rfl, hk3, h3⟩
  have H3 := Lib.hid h3
  clear h3
  go_wp2_with fail
  refine wp_loop_rounds 1 ?_
  rw [rounds_succ]
  go_wp2_with fail
  refine (tail_fine p 1 fr _ H3.out).mono ?_
  rintro e w' ⟨rfl, rfl⟩
  go_wp2_with fail
  go_ret
  exact ⟨rfl, (hk1.trans1 hk2).trans hk3 (fun _ _ h => h) (fun i hi h => by have := hk1.size; unfold One at h; omega)⟩

set_option maxRecDepth 100000 in
set_option maxHeartbeats 800000 in
theorem covers_out (a : Option Addr) (len cap : Nat) (fr : Int) (w : World) (hl : len ≤ 100) (h : fr < 0 ∨ (0 ≤ fr ∧ 1048576 < fr)) :
    Calls Try.prog 3 #[.int .i64 fr, .slice a len cap] w fun e w' => e = .returned (.bool true) ∧ Keep Non w w' := by
  have he : setE 0 1 fr ≠ 0 := fun e => by have := setE_zero e; omega
  have HE := Lib.hid he
  clear he
  rcases h with h | ⟨h, h'⟩
  all_goals
    go_enter Try.func3, Try.ntmps3
    go_wp2_with fail
    refine (alive_true _).mono ?_
    rintro e w1 ⟨rfl, hk1⟩
    go_wp2_with fail
    refine (new_seq _).mono ?_
    rintro e w2 ⟨p, rfl, hp, hk2, h2⟩
    have H2 := Lib.hid h2
    clear h2
    go_wp2_with fail
    refine (set_not p 0 0 1 fr _ H2.out ⟨by omega, by omega, by omega, by omega⟩ HE.out).mono ?_
    rintro e w3 ⟨rfl, hk3, h3⟩
    clear h3
    go_wp2_with fail
    go_ret
    exact ⟨rfl, (hk1.trans1 hk2).trans hk3 (fun _ _ h => h) (fun i hi h => by have := hk1.size; unfold One at h; omega)⟩

end Go.Proofs.Ytdgplmlpkphnaaa
