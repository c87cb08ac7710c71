/- SeqOnce, walked. -/
import Derived.Test.YtdgplmlpkphnaaaCovers
namespace Go.Proofs.Ytdgplmlpkphnaaa
open Go.RowKit

/-- A row of acts that came in: three numbers each. -/
structure Acts (w : World) (b off len : Nat) (K W B : Nat → Int) : Prop where
  lt : b < w.heap.size
  kind : ∀ i, i < len → w.cell? ⟨b, off + i * 3, none⟩ = some (.int .i64 (K i))
  which : ∀ i, i < len → w.cell? ⟨b, off + i * 3 + 1, none⟩ = some (.int .i64 (W i))
  much : ∀ i, i < len → w.cell? ⟨b, off + i * 3 + 2, none⟩ = some (.int .i64 (B i))

theorem Acts.keep {w w' : World} {S : Nat → Prop} {b off len : Nat} {K W B : Nat → Int} (h : Acts w b off len K W B) (k : Keep S w w') (hn : ¬ S b) : Acts w' b off len K W B := by
  have e : w'.heap[b]? = w.heap[b]? := k.block b h.lt hn
  exact ⟨k.lt h.lt, fun i hi => (World.cell?_of_block e).trans (h.kind i hi), fun i hi => (World.cell?_of_block e).trans (h.which i hi), fun i hi => (World.cell?_of_block e).trans (h.much i hi)⟩

/-- What holds at the head of each round. -/
structure OnceAt (w wr : World) (p : Nat) (ep nx la : Int) : Prop where
  keep : Keep Non w wr
  p0 : w.heap.size ≤ p
  sq : wr.heap[p]? = some (SqB ep nx)
  inb : SqIn ep nx
  la0 : la ≤ nx

theorem raise_up (ep nx x n : Int) : nx ≤ raiseN ep nx x n := by
  unfold raiseN
  split
  · split <;> omega
  · exact Int.le_refl _

set_option maxRecDepth 100000 in
set_option maxHeartbeats 3200000 in
theorem once_some (b off len cap : Nat) (K W B : Nat → Int) (w : World) (ha : Acts w b off len K W B) (hl : len ≤ 100) :
    Calls Try.prog 4 #[.slice (some ⟨b, off, none⟩) len cap] w fun e w' => e = .returned (.bool true) ∧ Keep Non w w' := by
  have hlt := ha.lt
  go_enter Try.func4, Try.ntmps4
  go_wp2_with fail
  refine (alive_true _).mono ?_
  rintro e w1 ⟨rfl, hk1⟩
  go_wp2_with fail
  refine (new_seq _).mono ?_
  rintro e w2 ⟨p, rfl, hp, hk2, h2⟩
  have H2 := Lib.hid h2
  clear h2
  go_wp2_with fail
  go_loopw [4, 18] (fun t i wr => ∃ k : Nat, k ≤ len ∧ i = .int .i64 k ∧ ∃ ep nx la, t = .int .i64 la ∧ OnceAt w wr p ep nx la) (fun _ i _ => len - (intOf i).toNat)
  case atStart =>
    have e1 := hk1.size
    exact ⟨0, by omega, rfl, 0, 0, 0, rfl, hk1.trans1 hk2, by omega, H2.out, ⟨by omega, by omega, by omega, by omega⟩, by omega⟩
  case round =>
    obtain ⟨k, hk, rfl, ep, nx, la, rfl, hs⟩ := hrel
    have hB := Lib.hid hs
    have ha2 := ha.keep hs.keep (fun e => e)
    have hp0 := hs.p0
    have hla := hs.la0
    obtain ⟨i0, i1, i2, i3⟩ := hs.inb
    clear hs
    by_cases hlt2 : k < len
    · have c0 := ha2.kind k hlt2
      have c1 := ha2.which k hlt2
      have c2 := ha2.much k hlt2
      have hbl := ha2.lt
      have hne : ¬ b = wr.heap.size := by omega
      clear ha ha2
      have hpl := lt_of_block hB.out.sq
      have hnp : ¬ wr.heap.size = p := by omega
      go_wp2_with fail
      refine (epoch_any p ep nx _ (by exact blk_alloc hB.out.sq _)).mono ?_
      rintro e w' ⟨rfl, rfl⟩
      go_wp2_with fail
      · have hup := raise_up ep nx (W k) (B k)
        have hin := Lib.hid (raise_in (W k) (B k) hB.out.inb)
        · refine (raise_any p ep nx (W k) (B k) _ (by exact blk_alloc hB.out.sq _) hB.out.inb).mono ?_
          rintro e w4 ⟨rfl, hk4, h4⟩
          have H4 := Lib.hid h4
          clear h4
          clear c0 c1 c2
          go_wp2_with fail
          refine (epoch_any p (ep) (raiseN ep nx (W k) (B k)) _ H4.out).mono ?_
          rintro e w' ⟨rfl, rfl⟩
          go_wp2_with fail
          go_roundw
          case rel => exact ⟨k + 1, by omega, by go_num, ep, raiseN ep nx (W k) (B k), la, rfl, (hB.out.keep.alloc _).trans hk4 (fun _ _ h => h) (fun i hi h => by unfold One at h; omega), hp0, H4.out, hin.out, by omega⟩
          case measure => simp [intOf]; omega
      · by_cases he : setE ep (W k) (B k) = 0
        · have HE := Lib.hid he
          obtain ⟨s0, s1, s2, s3, s4⟩ := setE_zero he
          clear he
          refine (set_fine p ep nx (W k) (B k) _ (by exact blk_alloc hB.out.sq _) hB.out.inb HE.out).mono ?_
          rintro e w4 ⟨rfl, hk4, h4⟩
          have H4 := Lib.hid h4
          clear h4
          have x1 : w4.cell? ⟨wr.heap.size, 1, none⟩ = some (.int .i64 (W k)) := by rw [World.cell?_of_block (hk4.block wr.heap.size (by simp) (fun e => hnp e))]; exact World.cell?_alloc_new _ _ _ _
          have x2 : w4.cell? ⟨wr.heap.size, 2, none⟩ = some (.int .i64 (B k)) := by rw [World.cell?_of_block (hk4.block wr.heap.size (by simp) (fun e => hnp e))]; exact World.cell?_alloc_new _ _ _ _
          clear c0 c1 c2
          go_wp2_with fail
          refine (epoch_any p (W k) (B k) _ H4.out).mono ?_
          rintro e w' ⟨rfl, rfl⟩
          go_wp2_with fail
          go_roundw
          case rel => exact ⟨k + 1, by omega, by go_num, W k, B k, B k, rfl, (hB.out.keep.alloc _).trans hk4 (fun _ _ h => h) (fun i hi h => by unfold One at h; omega), hp0, H4.out, ⟨by omega, by omega, by omega, by omega⟩, by omega⟩
          case measure => simp [intOf]; omega
        · have HE := Lib.hid he
          clear he
          refine (set_not p ep nx (W k) (B k) _ (by exact blk_alloc hB.out.sq _) hB.out.inb HE.out).mono ?_
          rintro e w4 ⟨rfl, hk4, h4⟩
          have H4 := Lib.hid h4
          clear h4
          have x1 : w4.cell? ⟨wr.heap.size, 1, none⟩ = some (.int .i64 (W k)) := by rw [World.cell?_of_block (hk4.block wr.heap.size (by simp) (fun e => hnp e))]; exact World.cell?_alloc_new _ _ _ _
          have x2 : w4.cell? ⟨wr.heap.size, 2, none⟩ = some (.int .i64 (B k)) := by rw [World.cell?_of_block (hk4.block wr.heap.size (by simp) (fun e => hnp e))]; exact World.cell?_alloc_new _ _ _ _
          clear c0 c1 c2
          go_wp2_with fail
          refine (epoch_any p (ep) (nx) _ H4.out).mono ?_
          rintro e w' ⟨rfl, rfl⟩
          go_wp2_with fail
          go_roundw
          case rel => exact ⟨k + 1, by omega, by go_num, ep, nx, la, rfl, (hB.out.keep.alloc _).trans hk4 (fun _ _ h => h) (fun i hi h => by unfold One at h; omega), hp0, H4.out, ⟨by omega, by omega, by omega, by omega⟩, by omega⟩
          case measure => simp [intOf]; omega
      · by_cases he : takeE ep nx (W k) (B k) = 0
        · have HE := Lib.hid he
          obtain ⟨s0, s1, s2, s3⟩ := takeE_zero he
          have s4 : (W k != ep) = false := by simp [s2]
          clear he s2
          refine (take_fine p ep nx (W k) (B k) _ (by exact blk_alloc hB.out.sq _) hB.out.inb HE.out).mono ?_
          rintro e w4 ⟨rfl, hk4, h4⟩
          have H4 := Lib.hid h4
          clear h4
          have x1 : w4.cell? ⟨wr.heap.size, 1, none⟩ = some (.int .i64 (W k)) := by rw [World.cell?_of_block (hk4.block wr.heap.size (by simp) (fun e => hnp e))]; exact World.cell?_alloc_new _ _ _ _
          have x2 : w4.cell? ⟨wr.heap.size, 2, none⟩ = some (.int .i64 (B k)) := by rw [World.cell?_of_block (hk4.block wr.heap.size (by simp) (fun e => hnp e))]; exact World.cell?_alloc_new _ _ _ _
          clear c0 c1 c2
          go_wp2_with fail
          refine (epoch_any p (ep) (nx + B k) _ H4.out).mono ?_
          rintro e w' ⟨rfl, rfl⟩
          go_wp2_with fail
          go_roundw
          case rel => exact ⟨k + 1, by omega, by go_num, ep, nx + B k, nx + B k, rfl, (hB.out.keep.alloc _).trans hk4 (fun _ _ h => h) (fun i hi h => by unfold One at h; omega), hp0, H4.out, ⟨by omega, by omega, by omega, by omega⟩, by omega⟩
          case measure => simp [intOf]; omega
        · have HE := Lib.hid he
          clear he
          refine (take_not p ep nx (W k) (B k) _ (by exact blk_alloc hB.out.sq _) hB.out.inb HE.out).mono ?_
          rintro e w4 ⟨rfl, hk4, h4⟩
          have H4 := Lib.hid h4
          clear h4
          have x1 : w4.cell? ⟨wr.heap.size, 1, none⟩ = some (.int .i64 (W k)) := by rw [World.cell?_of_block (hk4.block wr.heap.size (by simp) (fun e => hnp e))]; exact World.cell?_alloc_new _ _ _ _
          have x2 : w4.cell? ⟨wr.heap.size, 2, none⟩ = some (.int .i64 (B k)) := by rw [World.cell?_of_block (hk4.block wr.heap.size (by simp) (fun e => hnp e))]; exact World.cell?_alloc_new _ _ _ _
          clear c0 c1 c2
          go_wp2_with fail
          refine (epoch_any p (ep) (nx) _ H4.out).mono ?_
          rintro e w' ⟨rfl, rfl⟩
          go_wp2_with fail
          go_roundw
          case rel => exact ⟨k + 1, by omega, by go_num, ep, nx, la, rfl, (hB.out.keep.alloc _).trans hk4 (fun _ _ h => h) (fun i hi h => by unfold One at h; omega), hp0, H4.out, ⟨by omega, by omega, by omega, by omega⟩, by omega⟩
          case measure => simp [intOf]; omega
    · have e : k = len := by omega
      subst e
      go_wp2_with fail
      go_ret
      exact ⟨rfl, hB.out.keep⟩

set_option maxRecDepth 100000 in
set_option maxHeartbeats 800000 in
theorem once_long (a : Option Addr) (len cap : Nat) (w : World) (hl : 100 < len) :
    Calls Try.prog 4 #[.slice a len cap] w fun e w' => e = .returned (.bool true) ∧ Keep Non w w' := by
  go_enter Try.func4, Try.ntmps4
  go_wp2_with fail
  refine (alive_true _).mono ?_
  rintro e w1 ⟨rfl, hk1⟩
  go_wp2_with fail
  go_ret
  exact ⟨rfl, hk1⟩

set_option maxRecDepth 100000 in
set_option maxHeartbeats 800000 in
theorem once_nil (a : Option Addr) (cap : Nat) (w : World) :
    Calls Try.prog 4 #[.slice a 0 cap] w fun e w' => e = .returned (.bool true) ∧ Keep Non w w' := by
  go_enter Try.func4, Try.ntmps4
  go_wp2_with fail
  refine (alive_true _).mono ?_
  rintro e w1 ⟨rfl, hk1⟩
  go_wp2_with fail
  refine (new_seq _).mono ?_
  rintro e w2 ⟨p, rfl, hp, hk2, h2⟩
  clear h2
  go_wp2_with fail
  refine wp_loop_rounds 1 ?_
  rw [rounds_succ]
  go_wp2_with fail
  go_ret
  exact ⟨rfl, hk1.trans1 hk2⟩

end Go.Proofs.Ytdgplmlpkphnaaa
