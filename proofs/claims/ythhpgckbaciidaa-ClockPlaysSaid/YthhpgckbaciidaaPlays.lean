/- ClockPlays, walked: both clocks answer alike in every round. -/
import Derived.Test.YthhpgckbaciidaaClkRef
import Derived.Test.YthhpgckbaciidaaRises
import Derived.Deep.CutBlock
import Derived.Deep.RegionWith
import Derived.Deep.RegionHeld3
namespace Go.Proofs.Ythhpgckbaciidaa
open Go.RowKit

set_option maxHeartbeats 400000 in
theorem is_some (n k : Int) (hn : (n != 0) = true) (w : World) : Calls Try.prog 14 #[.iface 40 (.int .i64 n), .int .i64 k] w fun e w' => e = .returned (.bool (n == k)) ∧ w = w' := by
  have := is_any n k w
  rw [errv_of (by simpa using hn)] at this
  exact this

theorem now_eq1 (b : Nat) (a c bd : Int) (u : Bool) (i : Int) (hi : i = 1) (w : World) (h : w.heap[b]? = some (CkB a c bd u)) :
    Calls Try.prog 9 #[.pointer (some ⟨b, 0, none⟩), .int .i64 i] w fun e w' => e = .returned (.tuple #[.int .i64 a, .nilIface]) ∧ w = w' := by
  subst hi
  exact now_one b a c bd u w h

theorem now_eq2 (b : Nat) (a c bd : Int) (u : Bool) (i : Int) (hi : i = 2) (w : World) (h : w.heap[b]? = some (CkB a c bd u)) :
    Calls Try.prog 9 #[.pointer (some ⟨b, 0, none⟩), .int .i64 i] w fun e w' => e = .returned (.tuple #[.int .i64 c, .nilIface]) ∧ w = w' := by
  subst hi
  exact now_two b a c bd u w h

/-- What holds at the head of each round. -/
structure PlaysAt (w wr : World) (p m : Nat) (a c bd : Int) (u : Bool) : Prop where
  keep : Keep Non w wr
  p0 : w.heap.size ≤ p
  m0 : w.heap.size ≤ m
  pm : p ≠ m
  ck : wr.heap[p]? = some (CkB a c bd u)
  dk : wr.heap[m]? = some (MkB a c bd (!u))
  inb : InB a c

set_option maxRecDepth 100000 in
set_option maxHeartbeats 6400000 in
theorem plays_some (b off len cap : Nat) (K W B : Nat → Int) (bd : Int) (w : World) (ha : Acts w b off len K W B) (hl : len ≤ 100) (h0 : 0 ≤ bd) (h1 : bd ≤ 1099511627776) :
    Calls Try.prog 5 #[.int .i64 bd, .slice (some ⟨b, off, none⟩) len cap] w fun e w' => e = .returned (.bool true) ∧ Keep Non w w' := by
  have hlt := ha.lt
  go_enter Try.func5, Try.ntmps5
  go_wp2_with fail
  refine (alive_true _).mono ?_
  rintro e w1 ⟨rfl, hk1⟩
  go_wp2_with fail
  refine (now_nil 1 _).mono ?_
  rintro e w' ⟨rfl, rfl⟩
  go_wp2_with fail
  refine (apart_nil _).mono ?_
  rintro e w' ⟨rfl, rfl⟩
  go_wp2_with fail
  refine (bound_nil _).mono ?_
  rintro e w' ⟨rfl, rfl⟩
  go_wp2_with fail
  refine (fair_nil _).mono ?_
  rintro e w' ⟨rfl, rfl⟩
  go_wp2_with fail
  refine (is_some 4 4 rfl _).mono ?_
  rintro e w' ⟨rfl, rfl⟩
  go_wp2_with fail
  refine (tick_nil 5 1 _).mono ?_
  rintro e w2 ⟨rfl, hk2⟩
  go_wp2_with fail
  refine (is_some 4 4 rfl _).mono ?_
  rintro e w' ⟨rfl, rfl⟩
  go_wp2_with fail
  refine (both_nil (-1) _).mono ?_
  rintro e w3 ⟨rfl, hk3⟩
  go_wp2_with fail
  refine (is_some 4 4 rfl _).mono ?_
  rintro e w' ⟨rfl, rfl⟩
  go_wp2_with fail
  refine (new_own bd _ h0 h1).mono ?_
  rintro e w4 ⟨p, rfl, hp, hp', hk4, h4⟩
  have H4 := Lib.hid h4
  clear h4
  go_wp2_with fail
  refine (rnew_good bd _ h0 h1).mono ?_
  rintro e w5 ⟨rfl, hk5⟩
  go_wp2_with fail
  go_loopw [88] (fun i wr => ∃ k : Nat, k ≤ len ∧ i = .int .i64 k ∧ ∃ a c u, PlaysAt w wr p w5.heap.size a c bd u) (fun i _ => len - (intOf i).toNat)
  case atStart =>
    have e1 := hk1.size
    have e2 := hk2.size
    have e3 := hk3.size
    have e4 := hk4.size
    have e5 := hk5.size
    refine ⟨0, by omega, rfl, 0, 0, false, ((((hk1.trans1 hk2).trans1 hk3).trans1 hk4).trans1 hk5).alloc _, by omega, by omega, by omega, blk_alloc (hk5.at H4.out (fun e => e)) _, blk_new _ _, ⟨by omega, by omega, by omega, by omega⟩⟩
  case round =>
    obtain ⟨k, hk, rfl, a, c, u, hs⟩ := hrel
    have hB := Lib.hid hs
    have ha2 := ha.keep hs.keep (fun e => e)
    clear hs
    by_cases hlt2 : k < len
    · have c0 := ha2.kind k hlt2
      have c1 := ha2.which k hlt2
      have c2 := ha2.much k hlt2
      have hbl := ha2.lt
      have hne : ¬ b = wr.heap.size := by omega
      clear ha ha2
      have KP := hB.out.keep
      have hp0 := hB.out.p0
      have hm0 := hB.out.m0
      have hmp : w5.heap.size ≠ p := fun e => hB.out.pm e.symm
      have dk := hB.out.dk
      have hpl := lt_of_block hB.out.ck
      have hml := lt_of_block dk
      have m0 := mk0 dk
      have m1 := mk1 dk
      have m2 := mk2 dk
      have m3 := mk3 dk
      clear dk
      have nm : ¬ w5.heap.size = wr.heap.size := by omega
      have nx : ¬ wr.heap.size = w5.heap.size := by omega
      go_upto_block 2 with fail
      go_cut [13, 14] (fun s13 s14 wx => ∃ E a' c' u', s13 = .int .i64 E ∧ s14 = errv E ∧ Keep Non w wx ∧ wx.heap[p]? = some (CkB a' c' bd u') ∧ wx.heap[w5.heap.size]? = some (MkB a' c' bd (!u')) ∧ InB a' c')
      case first =>
        go_wp2_with fail
        · refine (ron_any a c bd u (B k) (B k) _ hB.out.inb).mono ?_
          rintro e w6 ⟨rfl, hk6⟩
          have g6 := hk6.at (blk_alloc hB.out.dk _) (fun e => e)
          have x6 : w6.cell? ⟨wr.heap.size, 1, none⟩ = some (.int .i64 (W k)) := by rw [World.cell?_of_block (hk6.block wr.heap.size (by simp) (fun e => e))]; exact World.cell?_alloc_new _ _ _ _
          have y6 : w6.cell? ⟨wr.heap.size, 2, none⟩ = some (.int .i64 (B k)) := by rw [World.cell?_of_block (hk6.block wr.heap.size (by simp) (fun e => e))]; exact World.cell?_alloc_new _ _ _ _
          have m0 := mk0 g6
          have m1 := mk1 g6
          have m2 := mk2 g6
          have m3 := mk3 g6
          have f0 := mkf g6 0
          have f1 := mkf g6 1
          have f2 := mkf g6 2
          have f3 := mkf g6 3
          have hm6 := Lib.hid g6
          clear g6 c0 c1 c2
          go_wp2_with fail
          refine (both_any p a c bd u (B k) _ (blk_skip (blk_skip (blk_skip (blk_skip (hk6.at (blk_alloc hB.out.ck _) (fun e => e)) hmp 0 _) hmp 1 _) hmp 2 _) hmp 3 _) hB.out.inb).mono ?_
          rintro e w7 ⟨rfl, hk7, h7⟩
          have H7 := Lib.hid h7
          clear h7
          go_wp2_with fail
          go_meet
          refine ⟨(onE a c (B k) (B k)), (onA a c (B k) (B k)), (onC a c (B k) (B k)), (onU a c bd u (B k) (B k)), rfl, rfl, ?_, H7.out, hk7.at (blk_set (blk_set (blk_set (blk_set hm6.out 0 _) 1 _) 2 _) 3 _) (fun e => hmp e), on_in _ _ hB.out.inb⟩
          refine Keep.trans (((KP.alloc _).trans1 hk6).trans (T := One w5.heap.size) ((((((Keep.refl _ _).setOne _ _).setOne _ _).setOne _ _).setOne _ _)) (fun _ _ h => h) (fun i hi h => by unfold One at h; omega)) hk7 (fun _ _ h => h) (fun i hi h => by unfold One at h; omega)
        · rcases which_cases (W k) with t | ⟨t, t2⟩ | ⟨t, t2⟩
          · have t3 : (W k == 1) = true := by simpa using t
            refine (now_eq1 p a c bd u (W k) (by simpa using t) _ (by exact blk_alloc hB.out.ck _)).mono ?_
            rintro e w' ⟨rfl, rfl⟩
            go_wp2_with fail
            go_meet
            exact ⟨0, a, c, u, rfl, rfl, KP.alloc _, blk_alloc hB.out.ck _, blk_alloc hB.out.dk _, hB.out.inb⟩
          · have t3 : (W k == 1) = false := by simpa using t
            have t4 : (W k == 2) = true := by simpa using t2
            refine (now_eq2 p a c bd u (W k) (by simpa using t2) _ (by exact blk_alloc hB.out.ck _)).mono ?_
            rintro e w' ⟨rfl, rfl⟩
            go_wp2_with fail
            go_meet
            exact ⟨0, a, c, u, rfl, rfl, KP.alloc _, blk_alloc hB.out.ck _, blk_alloc hB.out.dk _, hB.out.inb⟩
          · have t3 : (W k == 1) = false := by simpa using t
            have t4 : (W k == 2) = false := by simpa using t2
            refine (now_bad p (W k) _ t3 t4).mono ?_
            rintro e w' ⟨rfl, rfl⟩
            go_wp2_with fail
            go_meet
            exact ⟨1, a, c, u, rfl, rfl, KP.alloc _, blk_alloc hB.out.ck _, blk_alloc hB.out.dk _, hB.out.inb⟩
        · refine (rtick_any a c bd u (W k) (B k) _ hB.out.inb).mono ?_
          rintro e w6 ⟨rfl, hk6⟩
          have g6 := hk6.at (blk_alloc hB.out.dk _) (fun e => e)
          have x6 : w6.cell? ⟨wr.heap.size, 1, none⟩ = some (.int .i64 (W k)) := by rw [World.cell?_of_block (hk6.block wr.heap.size (by simp) (fun e => e))]; exact World.cell?_alloc_new _ _ _ _
          have y6 : w6.cell? ⟨wr.heap.size, 2, none⟩ = some (.int .i64 (B k)) := by rw [World.cell?_of_block (hk6.block wr.heap.size (by simp) (fun e => e))]; exact World.cell?_alloc_new _ _ _ _
          have m0 := mk0 g6
          have m1 := mk1 g6
          have m2 := mk2 g6
          have m3 := mk3 g6
          have f0 := mkf g6 0
          have f1 := mkf g6 1
          have f2 := mkf g6 2
          have f3 := mkf g6 3
          have hm6 := Lib.hid g6
          clear g6 c0 c1 c2
          go_wp2_with fail
          refine (tick_any p a c bd u (W k) (B k) _ (blk_skip (blk_skip (blk_skip (blk_skip (hk6.at (blk_alloc hB.out.ck _) (fun e => e)) hmp 0 _) hmp 1 _) hmp 2 _) hmp 3 _) hB.out.inb).mono ?_
          rintro e w7 ⟨rfl, hk7, h7⟩
          have H7 := Lib.hid h7
          clear h7
          go_wp2_with fail
          go_meet
          refine ⟨(tickE a c (W k) (B k)), (tickA a c (W k) (B k)), (tickC a c (W k) (B k)), (tickU a c bd u (W k) (B k)), rfl, rfl, ?_, H7.out, hk7.at (blk_set (blk_set (blk_set (blk_set hm6.out 0 _) 1 _) 2 _) 3 _) (fun e => hmp e), tick_in _ _ hB.out.inb⟩
          refine Keep.trans (((KP.alloc _).trans1 hk6).trans (T := One w5.heap.size) ((((((Keep.refl _ _).setOne _ _).setOne _ _).setOne _ _).setOne _ _)) (fun _ _ h => h) (fun i hi h => by unfold One at h; omega)) hk7 (fun _ _ h => h) (fun i hi h => by unfold One at h; omega)

      case rest =>
        obtain ⟨E, a', c', u', rfl, rfl, KX, g1, g2, gi⟩ := hcut
        clear m0 m1 m2 m3 c0 c1 c2 hne hpl hml nm nx
        have m0 := mk0 g2
        have m1 := mk1 g2
        have m2 := mk2 g2
        have m3 := mk3 g2
        have G1 := Lib.hid g1
        have nb := lt_of_block g2
        have nb2 : ¬ w5.heap.size = wc.heap.size := by omega
        obtain ⟨i0, i1, i2, i3⟩ := gi
        clear g1
        go_wp2_with fail
        refine (now_one p a' c' bd u' _ G1.out).mono ?_
        rintro e w' ⟨rfl, rfl⟩
        go_wp2_with fail
        refine (now_two p a' c' bd u' _ G1.out).mono ?_
        rintro e w' ⟨rfl, rfl⟩
        go_wp2_with fail
        go_region_held3 (fun w' => w'.cell? ⟨w5.heap.size, 0, none⟩ = some (.int .i64 a') ∧ w'.cell? ⟨w5.heap.size, 1, none⟩ = some (.int .i64 c') ∧ w'.cell? ⟨w5.heap.size, 2, none⟩ = some (.int .i64 bd) ∧ w'.cell? ⟨w5.heap.size, 3, none⟩ = some (.bool (!u')) ∧ w'.heap[p]? = some (CkB a' c' bd u') ∧ Keep Non wc w')
          (first | exact ⟨m0, m1, m2, m3, G1.out, (Keep.refl _ _).drew⟩ | (refine ⟨?_, ?_, ?_, ?_, ?_, ?_⟩ <;> first | assumption | (simp [*, World.cell?_alloc_some]; done) | (apply blk_alloc; assumption) | (apply blk_drewN; assumption) | (with_reducible exact (Keep.refl _ _).drewN _) | (with_reducible exact ((Keep.refl _ _).drewN _).alloc _) | (exact G1.out) | (exact blk_alloc G1.out _)))
          (first
          | (go_at_call 16; refine (num_any E _).mono ?_; rintro e w' ⟨rfl, rfl⟩)
          | (go_at_call 10; refine (apart_any p a' c' bd u' _ (by simp_all) (by omega) (by omega) (by omega) (by omega)).mono ?_; rintro e w' ⟨rfl, n, rfl⟩)
          | (go_at_call 19; refine (rapart_any a' c' bd (!u') _ ⟨by omega, by omega, by omega, by omega⟩).mono ?_; rintro e w' ⟨rfl, rfl⟩)
          | (go_at_call 11; refine (fair_any p a' c' bd u' _ (by simp_all)).mono ?_; rintro e w' ⟨rfl, rfl⟩)
          | (go_at_call 13; refine (bound_any p a' c' bd u' _ (by simp_all)).mono ?_; rintro e w' ⟨rfl, rfl⟩))
        go_wp2_with fail
        go_roundw
        case rel => exact ⟨k + 1, by omega, by go_num, a', c', u', ⟨(KX.drewN _).alloc _, hp0, hm0, fun e => hmp e.symm, blk_alloc G1.out _, blk_alloc g2 _, ⟨i0, i1, i2, i3⟩⟩⟩
        case measure => simp [intOf]; omega
    · have e : k = len := by omega
      subst e
      go_wp2_with fail
      go_ret
      exact ⟨rfl, hB.out.keep⟩

set_option maxRecDepth 100000 in
set_option maxHeartbeats 800000 in
theorem plays_long (a : Option Addr) (len cap : Nat) (bd : Int) (w : World) (hl : 100 < len) :
    Calls Try.prog 5 #[.int .i64 bd, .slice a len cap] w fun e w' => e = .returned (.bool true) ∧ Keep Non w w' := by
  go_enter Try.func5, Try.ntmps5
  go_wp2_with fail
  refine (alive_true _).mono ?_
  rintro e w1 ⟨rfl, hk1⟩
  go_wp2_with fail
  go_ret
  exact ⟨rfl, hk1⟩

set_option maxRecDepth 100000 in
set_option maxHeartbeats 1600000 in
theorem plays_nil (a : Option Addr) (cap : Nat) (bd : Int) (w : World) (h0 : 0 ≤ bd) (h1 : bd ≤ 1099511627776) :
    Calls Try.prog 5 #[.int .i64 bd, .slice a 0 cap] w fun e w' => e = .returned (.bool true) ∧ Keep Non w w' := by
  go_enter Try.func5, Try.ntmps5
  go_wp2_with fail
  refine (alive_true _).mono ?_
  rintro e w1 ⟨rfl, hk1⟩
  go_wp2_with fail
  refine (now_nil 1 _).mono ?_
  rintro e w' ⟨rfl, rfl⟩
  go_wp2_with fail
  refine (apart_nil _).mono ?_
  rintro e w' ⟨rfl, rfl⟩
  go_wp2_with fail
  refine (bound_nil _).mono ?_
  rintro e w' ⟨rfl, rfl⟩
  go_wp2_with fail
  refine (fair_nil _).mono ?_
  rintro e w' ⟨rfl, rfl⟩
  go_wp2_with fail
  refine (is_some 4 4 rfl _).mono ?_
  rintro e w' ⟨rfl, rfl⟩
  go_wp2_with fail
  refine (tick_nil 5 1 _).mono ?_
  rintro e w2 ⟨rfl, hk2⟩
  go_wp2_with fail
  refine (is_some 4 4 rfl _).mono ?_
  rintro e w' ⟨rfl, rfl⟩
  go_wp2_with fail
  refine (both_nil (-1) _).mono ?_
  rintro e w3 ⟨rfl, hk3⟩
  go_wp2_with fail
  refine (is_some 4 4 rfl _).mono ?_
  rintro e w' ⟨rfl, rfl⟩
  go_wp2_with fail
  refine (new_own bd _ h0 h1).mono ?_
  rintro e w4 ⟨p, rfl, hp, hp', hk4, h4⟩
  clear h4
  go_wp2_with fail
  refine (rnew_good bd _ h0 h1).mono ?_
  rintro e w5 ⟨rfl, hk5⟩
  go_wp2_with fail
  refine wp_loop_rounds 1 ?_
  rw [rounds_succ]
  go_wp2_with fail
  go_ret
  exact ⟨rfl, ((((hk1.trans1 hk2).trans1 hk3).trans1 hk4).trans1 hk5).alloc _⟩

set_option maxRecDepth 100000 in
set_option maxHeartbeats 1600000 in
theorem plays_out (a : Option Addr) (len cap : Nat) (bd : Int) (w : World) (hl : len ≤ 100) (h : bd < 0 ∨ 1099511627776 < bd) :
    Calls Try.prog 5 #[.int .i64 bd, .slice a len cap] w fun e w' => e = .returned (.bool true) ∧ Keep Non w w' := by
  have HB := Lib.hid h
  clear h
  go_enter Try.func5, Try.ntmps5
  go_wp2_with fail
  refine (alive_true _).mono ?_
  rintro e w1 ⟨rfl, hk1⟩
  go_wp2_with fail
  refine (now_nil 1 _).mono ?_
  rintro e w' ⟨rfl, rfl⟩
  go_wp2_with fail
  refine (apart_nil _).mono ?_
  rintro e w' ⟨rfl, rfl⟩
  go_wp2_with fail
  refine (bound_nil _).mono ?_
  rintro e w' ⟨rfl, rfl⟩
  go_wp2_with fail
  refine (fair_nil _).mono ?_
  rintro e w' ⟨rfl, rfl⟩
  go_wp2_with fail
  refine (is_some 4 4 rfl _).mono ?_
  rintro e w' ⟨rfl, rfl⟩
  go_wp2_with fail
  refine (tick_nil 5 1 _).mono ?_
  rintro e w2 ⟨rfl, hk2⟩
  go_wp2_with fail
  refine (is_some 4 4 rfl _).mono ?_
  rintro e w' ⟨rfl, rfl⟩
  go_wp2_with fail
  refine (both_nil (-1) _).mono ?_
  rintro e w3 ⟨rfl, hk3⟩
  go_wp2_with fail
  refine (is_some 4 4 rfl _).mono ?_
  rintro e w' ⟨rfl, rfl⟩
  go_wp2_with fail
  refine (new_out bd _ HB.out).mono ?_
  rintro e w' ⟨rfl, rfl⟩
  go_wp2_with fail
  refine (rnew_out bd _ HB.out).mono ?_
  rintro e w5 ⟨rfl, hk5⟩
  go_wp2_with fail
  refine (num_some 1 rfl _).mono ?_
  rintro e w' ⟨rfl, rfl⟩
  go_wp2_with fail
  go_ret
  exact ⟨rfl, (((hk1.trans1 hk2).trans1 hk3).trans1 hk5).alloc _⟩

end Go.Proofs.Ythhpgckbaciidaa
