/- SeqPlays, walked: the sequencer and the document's answer alike in every round. -/
import Derived.Test.YtdgplmlpkphnaaaSeqRef
import Derived.Test.YtdgplmlpkphnaaaOnce
import Derived.Deep.CutBlock
import Derived.Deep.DeepCutAuto
import Derived.Deep.QuietTactic
import Derived.BigQuiet
namespace Go.Proofs.Ytdgplmlpkphnaaa
open Go.RowKit

theorem is_some (n k : Int) (hn : (n != 0) = true) (w : World) : Calls Try.prog 13 #[.iface 40 (.int .i64 n), .int .i64 k] w fun e w' => e = .returned (.bool (n == k)) ∧ w = w' := by
  have := is_any n k w
  rw [errv_of (by simpa using hn)] at this
  exact this

theorem tail_zero (b : Nat) (ep nx x : Int) (w : World) (h : w.heap[b]? = some (SqB ep nx)) (he : askE ep x = 0) :
    Calls Try.prog 10 #[.pointer (some ⟨b, 0, none⟩), .int .i64 x] w fun e w' => e = .returned (.tuple #[.int .i64 nx, .nilIface]) ∧ w = w' := by
  have := tail_any b ep nx x w h
  have e1 : tailV ep nx x = nx := by simp [tailV, he]
  rw [he, e1] at this
  exact this
theorem tail_some (b : Nat) (ep nx x : Int) (w : World) (h : w.heap[b]? = some (SqB ep nx)) (he : askE ep x ≠ 0) :
    Calls Try.prog 10 #[.pointer (some ⟨b, 0, none⟩), .int .i64 x] w fun e w' => e = .returned (.tuple #[.int .i64 0, errv (askE ep x)]) ∧ w = w' := by
  have := tail_any b ep nx x w h
  have e1 : tailV ep nx x = 0 := by simp [tailV, he]
  rw [e1] at this
  exact this

/-- What holds at the head of each round. -/
structure PlaysAt (w wr : World) (p m : Nat) (ep nx : Int) : Prop where
  keep : Keep Non w wr
  p0 : w.heap.size ≤ p
  m0 : w.heap.size ≤ m
  pm : p ≠ m
  sq : wr.heap[p]? = some (SqB ep nx)
  dk : wr.heap[m]? = some (MsB ep nx)
  inb : SqIn ep nx

set_option maxRecDepth 100000 in
set_option maxHeartbeats 6400000 in
theorem plays_some (b off len cap : Nat) (K W B : Nat → Int) (w : World) (ha : Acts w b off len K W B) (hl : len ≤ 100) :
    Calls Try.prog 5 #[.slice (some ⟨b, off, none⟩) len cap] w fun e w' => e = .returned (.bool true) ∧ Keep Non w w' := by
  have hlt := ha.lt
  go_enter Try.func5, Try.ntmps5
  go_wp2_with fail
  refine (alive_true _).mono ?_
  rintro e w1 ⟨rfl, hk1⟩
  go_wp2_with fail
  refine (take_nil 0 1 _).mono ?_
  rintro e w' ⟨rfl, rfl⟩
  go_wp2_with fail
  refine (tail_nil 0 _).mono ?_
  rintro e w' ⟨rfl, rfl⟩
  go_wp2_with fail
  refine (epoch_nil _).mono ?_
  rintro e w' ⟨rfl, rfl⟩
  go_wp2_with fail
  refine (is_some 4 4 rfl _).mono ?_
  rintro e w' ⟨rfl, rfl⟩
  go_wp2_with fail
  refine (is_some 4 4 rfl _).mono ?_
  rintro e w' ⟨rfl, rfl⟩
  go_wp2_with fail
  refine (raise_nil 0 0 _).mono ?_
  rintro e w' ⟨rfl, rfl⟩
  go_wp2_with fail
  refine (is_some 4 4 rfl _).mono ?_
  rintro e w' ⟨rfl, rfl⟩
  go_wp2_with fail
  refine (set_nil 1 0 _).mono ?_
  rintro e w' ⟨rfl, rfl⟩
  go_wp2_with fail
  refine (is_some 4 4 rfl _).mono ?_
  rintro e w' ⟨rfl, rfl⟩
  go_wp2_with fail
  refine (new_seq _).mono ?_
  rintro e w3 ⟨p, rfl, hp, hk3, h3⟩
  have H3 := Lib.hid h3
  clear h3
  go_wp2_with fail
  go_loopw [66] (fun i wr => ∃ k : Nat, k ≤ len ∧ i = .int .i64 k ∧ ∃ ep nx, PlaysAt w wr p w3.heap.size ep nx) (fun i _ => len - (intOf i).toNat)
  case atStart =>
    have e1 := hk1.size
    have e3 := hk3.size
    have e4 := lt_of_block H3.out
    exact ⟨0, by omega, rfl, 0, 0, (hk1.trans1 hk3).alloc _, by omega, by omega, by omega, blk_alloc H3.out _, blk_new _ _, ⟨by omega, by omega, by omega, by omega⟩⟩
  case round =>
    obtain ⟨k, hk, rfl, ep, nx, hs⟩ := hrel
    have hB := Lib.hid hs
    have ha2 := ha.keep hs.keep (fun e => e)
    clear hs
    by_cases hlt2 : k < len
    · have c0 := ha2.kind k hlt2
      have c1 := ha2.which k hlt2
      have c2 := ha2.much k hlt2
      have hbl := ha2.lt
      have hne : ¬ b = wr.heap.size := by omega
      clear ha ha2
      have KP := hB.out.keep
      have hp0 := hB.out.p0
      have hm0 := hB.out.m0
      have hmp : w3.heap.size ≠ p := fun e => hB.out.pm e.symm
      have dk := hB.out.dk
      have hpl := lt_of_block hB.out.sq
      have hml := lt_of_block dk
      have m0 := ms0 dk
      have m1 := ms1 dk
      clear dk
      have nm : ¬ w3.heap.size = wr.heap.size := by omega
      have nx' : ¬ wr.heap.size = w3.heap.size := by omega
      go_upto_block 2 with fail
      go_cut [12, 13, 14, 15] (fun s12 s13 s14 s15 wx => ∃ V E ep' nx', s12 = .int .i64 V ∧ s13 = .int .i64 V ∧ s14 = .int .i64 E ∧ s15 = errv E ∧ Keep Non w wx ∧ wx.heap[p]? = some (SqB ep' nx') ∧ wx.heap[w3.heap.size]? = some (MsB ep' nx') ∧ SqIn ep' nx')
      case first =>
        go_wp2_with fail
        · refine (rraise_any ep nx (W k) (B k) _).mono ?_
          rintro e w6 ⟨rfl, hk6⟩
          have g6 := hk6.at (blk_alloc hB.out.dk _) (fun e => e)
          have x6 : w6.cell? ⟨wr.heap.size, 1, none⟩ = some (.int .i64 (W k)) := by rw [World.cell?_of_block (hk6.block wr.heap.size (by simp) (fun e => e))]; exact World.cell?_alloc_new _ _ _ _
          have y6 : w6.cell? ⟨wr.heap.size, 2, none⟩ = some (.int .i64 (B k)) := by rw [World.cell?_of_block (hk6.block wr.heap.size (by simp) (fun e => e))]; exact World.cell?_alloc_new _ _ _ _
          have m0 := ms0 g6
          have m1 := ms1 g6
          have f0 := msf g6 0
          have f1 := msf g6 1
          have hm6 := Lib.hid g6
          clear g6 c0 c1 c2
          go_wp2_with fail
          refine (raise_any p ep nx (W k) (B k) _ (blk_skip (blk_skip (hk6.at (blk_alloc hB.out.sq _) (fun e => e)) hmp 0 _) hmp 1 _) hB.out.inb).mono ?_
          rintro e w7 ⟨rfl, hk7, h7⟩
          have H7 := Lib.hid h7
          clear h7
          go_wp2_with fail
          go_meet
          refine ⟨0, (raiseE ep (W k) (B k)), ep, (raiseN ep nx (W k) (B k)), rfl, rfl, rfl, rfl, ?_, H7.out, hk7.at (blk_set (blk_set hm6.out 0 _) 1 _) (fun e => hmp e), raise_in _ _ hB.out.inb⟩
          refine Keep.trans (((KP.alloc _).trans1 hk6).trans (T := One w3.heap.size) ((((Keep.refl _ _).setOne _ _).setOne _ _)) (fun _ _ h => h) (fun i hi h => by unfold One at h; omega)) hk7 (fun _ _ h => h) (fun i hi h => by unfold One at h; omega)
        · refine (rset_any ep nx (W k) (B k) _).mono ?_
          rintro e w6 ⟨rfl, hk6⟩
          have g6 := hk6.at (blk_alloc hB.out.dk _) (fun e => e)
          have x6 : w6.cell? ⟨wr.heap.size, 1, none⟩ = some (.int .i64 (W k)) := by rw [World.cell?_of_block (hk6.block wr.heap.size (by simp) (fun e => e))]; exact World.cell?_alloc_new _ _ _ _
          have y6 : w6.cell? ⟨wr.heap.size, 2, none⟩ = some (.int .i64 (B k)) := by rw [World.cell?_of_block (hk6.block wr.heap.size (by simp) (fun e => e))]; exact World.cell?_alloc_new _ _ _ _
          have m0 := ms0 g6
          have m1 := ms1 g6
          have f0 := msf g6 0
          have f1 := msf g6 1
          have hm6 := Lib.hid g6
          clear g6 c0 c1 c2
          go_wp2_with fail
          refine (set_any p ep nx (W k) (B k) _ (blk_skip (blk_skip (hk6.at (blk_alloc hB.out.sq _) (fun e => e)) hmp 0 _) hmp 1 _) hB.out.inb).mono ?_
          rintro e w7 ⟨rfl, hk7, h7⟩
          have H7 := Lib.hid h7
          clear h7
          go_wp2_with fail
          go_meet
          refine ⟨0, (setE ep (W k) (B k)), (setP ep (W k) (B k)), (setN ep nx (W k) (B k)), rfl, rfl, rfl, rfl, ?_, H7.out, hk7.at (blk_set (blk_set hm6.out 0 _) 1 _) (fun e => hmp e), set_in _ _ hB.out.inb⟩
          refine Keep.trans (((KP.alloc _).trans1 hk6).trans (T := One w3.heap.size) ((((Keep.refl _ _).setOne _ _).setOne _ _)) (fun _ _ h => h) (fun i hi h => by unfold One at h; omega)) hk7 (fun _ _ h => h) (fun i hi h => by unfold One at h; omega)
        · have nm2 : ¬ w3.heap.size = wr.heap.size + 1 := by omega
          by_cases he : askE ep (W k) = 0
          · have HE := Lib.hid he
            clear he
            refine (rcur_zero ep nx (W k) _ HE.out).mono ?_
            rintro e w' ⟨rfl, rfl⟩
            go_wp2_with fail
            refine (tail_zero p ep nx (W k) _ (by exact blk_alloc (blk_alloc hB.out.sq _) _) HE.out).mono ?_
            rintro e w' ⟨rfl, rfl⟩
            go_wp2_with fail
            go_meet
            exact ⟨nx, 0, ep, nx, rfl, rfl, rfl, rfl, (KP.alloc _).alloc _, blk_alloc (blk_alloc hB.out.sq _) _, blk_alloc (blk_alloc hB.out.dk _) _, hB.out.inb⟩
          · have HE := Lib.hid he
            have hb : (askE ep (W k) == 0) = false := by simpa using he
            clear he
            refine (rcur_any ep nx (W k) _).mono ?_
            rintro e w' ⟨rfl, rfl⟩
            go_wp2_with fail
            refine (tail_some p ep nx (W k) _ (by exact blk_alloc (blk_alloc hB.out.sq _) _) HE.out).mono ?_
            rintro e w' ⟨rfl, rfl⟩
            go_wp2_with fail
            go_meet
            exact ⟨0, askE ep (W k), ep, nx, rfl, rfl, rfl, rfl, (KP.alloc _).alloc _, blk_alloc (blk_alloc hB.out.sq _) _, blk_alloc (blk_alloc hB.out.dk _) _, hB.out.inb⟩
        · refine (rtake_any ep nx (W k) (B k) _ hB.out.inb).mono ?_
          rintro e w6 ⟨rfl, hk6⟩
          have g6 := hk6.at (blk_alloc hB.out.dk _) (fun e => e)
          have x6 : w6.cell? ⟨wr.heap.size, 1, none⟩ = some (.int .i64 (W k)) := by rw [World.cell?_of_block (hk6.block wr.heap.size (by simp) (fun e => e))]; exact World.cell?_alloc_new _ _ _ _
          have y6 : w6.cell? ⟨wr.heap.size, 2, none⟩ = some (.int .i64 (B k)) := by rw [World.cell?_of_block (hk6.block wr.heap.size (by simp) (fun e => e))]; exact World.cell?_alloc_new _ _ _ _
          have m0 := ms0 g6
          have m1 := ms1 g6
          have f0 := msf g6 0
          have f1 := msf g6 1
          have hm6 := Lib.hid g6
          clear g6 c0 c1 c2
          go_wp2_with fail
          refine (take_any p ep nx (W k) (B k) _ (blk_skip (blk_skip (hk6.at (blk_alloc hB.out.sq _) (fun e => e)) hmp 0 _) hmp 1 _) hB.out.inb).mono ?_
          rintro e w7 ⟨rfl, hk7, h7⟩
          have H7 := Lib.hid h7
          clear h7
          go_wp2_with fail
          go_meet
          refine ⟨(takeV ep nx (W k) (B k)), (takeE ep nx (W k) (B k)), ep, (takeN ep nx (W k) (B k)), rfl, rfl, rfl, rfl, ?_, H7.out, hk7.at (blk_set (blk_set hm6.out 0 _) 1 _) (fun e => hmp e), take_in _ _ hB.out.inb⟩
          refine Keep.trans (((KP.alloc _).trans1 hk6).trans (T := One w3.heap.size) ((((Keep.refl _ _).setOne _ _).setOne _ _)) (fun _ _ h => h) (fun i hi h => by unfold One at h; omega)) hk7 (fun _ _ h => h) (fun i hi h => by unfold One at h; omega)
      case rest =>
        obtain ⟨V, E, ep', nx'', rfl, rfl, rfl, rfl, KX, g1, g2, gi⟩ := hcut
        clear m0 m1 c0 c1 c2 hne hpl hml nm nx'
        have m0 := ms0 g2
        have m1 := ms1 g2
        have G1 := Lib.hid g1
        have GI := Lib.hid gi
        clear g1 gi
        go_wp2_with fail
        refine (tail_fine p ep' nx'' _ G1.out).mono ?_
        rintro e w' ⟨rfl, rfl⟩
        go_wp2_with fail
        go_quiet (first
          | (go_at_call 18; refine (num_any E _).mono ?_; rintro e w' ⟨rfl, rfl⟩; exact ⟨rfl, _, rfl⟩)
          | (go_at_call 11; refine (epoch_any p ep' nx'' _ (by exact G1.out)).mono ?_; rintro e w' ⟨rfl, rfl⟩; exact ⟨rfl, _, rfl⟩))
        go_wp2_with fail
        go_roundw
        case rel => exact ⟨k + 1, by omega, by go_num, ep', nx'', ⟨KX.drewN _, hp0, hm0, fun e => hmp e.symm, blk_drewN G1.out _, blk_drewN g2 _, GI.out⟩⟩
        case measure => simp [intOf]; omega
    · have e : k = len := by omega
      subst e
      go_wp2_with fail
      go_ret
      exact ⟨rfl, hB.out.keep⟩

set_option maxRecDepth 100000 in
set_option maxHeartbeats 800000 in
theorem plays_long (a : Option Addr) (len cap : Nat) (w : World) (hl : 100 < len) :
    Calls Try.prog 5 #[.slice a len cap] w fun e w' => e = .returned (.bool true) ∧ Keep Non w w' := by
  go_enter Try.func5, Try.ntmps5
  go_wp2_with fail
  refine (alive_true _).mono ?_
  rintro e w1 ⟨rfl, hk1⟩
  go_wp2_with fail
  go_ret
  exact ⟨rfl, hk1⟩

set_option maxRecDepth 100000 in
set_option maxHeartbeats 1600000 in
theorem plays_nil (a : Option Addr) (cap : Nat) (w : World) :
    Calls Try.prog 5 #[.slice a 0 cap] w fun e w' => e = .returned (.bool true) ∧ Keep Non w w' := by
  go_enter Try.func5, Try.ntmps5
  go_wp2_with fail
  refine (alive_true _).mono ?_
  rintro e w1 ⟨rfl, hk1⟩
  go_wp2_with fail
  refine (take_nil 0 1 _).mono ?_
  rintro e w' ⟨rfl, rfl⟩
  go_wp2_with fail
  refine (tail_nil 0 _).mono ?_
  rintro e w' ⟨rfl, rfl⟩
  go_wp2_with fail
  refine (epoch_nil _).mono ?_
  rintro e w' ⟨rfl, rfl⟩
  go_wp2_with fail
  refine (is_some 4 4 rfl _).mono ?_
  rintro e w' ⟨rfl, rfl⟩
  go_wp2_with fail
  refine (is_some 4 4 rfl _).mono ?_
  rintro e w' ⟨rfl, rfl⟩
  go_wp2_with fail
  refine (raise_nil 0 0 _).mono ?_
  rintro e w' ⟨rfl, rfl⟩
  go_wp2_with fail
  refine (is_some 4 4 rfl _).mono ?_
  rintro e w' ⟨rfl, rfl⟩
  go_wp2_with fail
  refine (set_nil 1 0 _).mono ?_
  rintro e w' ⟨rfl, rfl⟩
  go_wp2_with fail
  refine (is_some 4 4 rfl _).mono ?_
  rintro e w' ⟨rfl, rfl⟩
  go_wp2_with fail
  refine (new_seq _).mono ?_
  rintro e w3 ⟨p, rfl, hp, hk3, h3⟩
  have H3 := Lib.hid h3
  clear h3
  go_wp2_with fail
  refine wp_loop_rounds 1 ?_
  rw [rounds_succ]
  go_wp2_with fail
  go_ret
  exact ⟨rfl, (hk1.trans1 hk3).alloc _⟩

end Go.Proofs.Ytdgplmlpkphnaaa
