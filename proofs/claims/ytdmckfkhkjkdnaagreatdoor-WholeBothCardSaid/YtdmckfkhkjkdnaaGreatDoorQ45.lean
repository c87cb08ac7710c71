/- A slice of picks in memory. · holdfasttop.mirrored: walked. · What the row's condition gives ('laid'): the table of powers of ten, the rounds' constan -/
import Derived.Test.YtdmckfkhkjkdnaaGreatDoorRows
import Derived.LaidMore
import Derived.Lib.LaidTab
import Derived.Lay
import Derived.Stop.Joined
import Derived.ProofKit
import Derived.OpenShut
import Derived.Test.YtdmckfkhkjkdnaaGreatDoorQ42
set_option linter.unusedVariables false
set_option maxRecDepth 100000
set_option maxHeartbeats 16000000
namespace Go.Proofs.YtdmckfkhkjkdnaaGreatDoor
open Go.RowKit
def PkAt (w : World) (g o : Nat) (K I : Int) : Prop := ∃ (k1 k2 k3 k4 k8 : Int) (a5 a6 a7 a10 : Option Addr) (n5 c5 n6 c6 n7 c7 n10 c10 : Nat), w.cell? ⟨g, o, none⟩ = some (.int .i64 K) ∧ w.cell? ⟨g, o + 1, none⟩ = some (.int .i64 k1) ∧ w.cell? ⟨g, o + 2, none⟩ = some (.int .i64 k2) ∧ w.cell? ⟨g, o + 3, none⟩ = some (.int .i64 k3) ∧ w.cell? ⟨g, o + 4, none⟩ = some (.int .i64 k4) ∧ w.cell? ⟨g, o + 5, none⟩ = some (.slice a5 n5 c5) ∧ w.cell? ⟨g, o + 6, none⟩ = some (.slice a6 n6 c6) ∧ w.cell? ⟨g, o + 7, none⟩ = some (.slice a7 n7 c7) ∧ w.cell? ⟨g, o + 8, none⟩ = some (.int .i64 k8) ∧ w.cell? ⟨g, o + 9, none⟩ = some (.int .i64 I) ∧ w.cell? ⟨g, o + 10, none⟩ = some (.slice a10 n10 c10)
def PicksIn (w : World) (v : Value) (m : Nat) : Prop := ∃ a c, v = .slice a m c ∧ ∀ j, j < m → ∃ g off K I, a = some ⟨g, off, none⟩ ∧ g < w.heap.size ∧ PkAt w g (off + j * 11) K I
theorem PicksIn.keepNon {w w' : World} {v : Value} {m : Nat} (h : PicksIn w v m) (k : Keep Non w w') : PicksIn w' v m := by
  obtain ⟨a, c, rfl, hx⟩ := h
  refine ⟨a, c, rfl, fun j hj => ?_⟩
  obtain ⟨g, off, K, I, rfl, hg, k1, k2, k3, k4, k8, a5, a6, a7, a10, n5, c5, n6, c6, n7, c7, n10, c10, h⟩ := hx j hj
  have hb : ∀ i, w'.cell? ⟨g, i, none⟩ = w.cell? ⟨g, i, none⟩ := fun i => World.cell?_of_block (k.block g hg (fun e => e))
  refine ⟨g, off, K, I, rfl, k.lt hg, k1, k2, k3, k4, k8, a5, a6, a7, a10, n5, c5, n6, c6, n7, c7, n10, c10, ?_⟩
  simp only [hb]
  exact h
theorem PicksIn.nil (w : World) : PicksIn w (.slice none 0 0) 0 := ⟨none, 0, rfl, fun j hj => absurd hj (Nat.not_lt_zero _)⟩
end Go.Proofs.YtdmckfkhkjkdnaaGreatDoor
namespace Go.Proofs.YtdmckfkhkjkdnaaGreatDoor
open Go.RowKit Go.Maps
def shipN (w : World) (b : Nat) : Nat := match w.cell? ⟨b, 1, none⟩ with | some (.int _ k) => k.toNat | _ => 0
theorem shipN_of {w : World} {b e k : Nat} (h : w.heap[b]? = some (ShipB e k)) : shipN w b = k := by
  unfold shipN
  rw [sp_1 h]
  simp
theorem sacked_keep (b e k : Nat) (w : World) (h : w.heap[b]? = some (ShipB e k)) :
    Calls Tryz.prog 27 #[.pointer (some ⟨b, 0, none⟩)] w fun r w' => r = .returned (.int .i64 k) ∧ Keep Non w w' := (sacked_ok b e k w h).mono fun r w' ⟨e1, e2⟩ => ⟨e1, e2 ▸ Keep.refl _ _⟩
def MirEnd (w : World) (L : Lg) (w' : World) (mb : Nat) : Prop := Keep Non w w' ∧ ∃ FM M n, LgAt FM w' mb 3 M ∧ FilledM M n (cellL L) ∧ allNon L n ∧ newsL L n = [] ∧ ∀ g, FM g → w.heap.size ≤ g ∧ g < w'.heap.size
theorem prat_three (w : World) : PrAt (fun g => w.heap.size ≤ g) (((w.alloc (.cells #[.int .i64 0] 3)).alloc (.cells #[.int .i64 1, .int .i64 2] 3)).alloc (.cells #[.slice (some ⟨w.heap.size, 0, none⟩) 1 1, .slice (some ⟨w.heap.size + 1, 0, none⟩) 2 2] 55)) (.slice (some ⟨w.heap.size + 1 + 1, 0, none⟩) 2 2) 3 := by
  have h1 : Rd (w.alloc (.cells #[.int .i64 0] 3)) (.slice (some ⟨w.heap.size, 0, none⟩) 1 1) [.int .i64 0] := row_rd w 3 [.int .i64 0]
  have e1 : (w.alloc (.cells #[.int .i64 0] 3)).heap.size = w.heap.size + 1 := by show (w.heap.push _).size = _; simp
  have e2 : ((w.alloc (.cells #[.int .i64 0] 3)).alloc (.cells #[.int .i64 1, .int .i64 2] 3)).heap.size = w.heap.size + 1 + 1 := by show ((w.heap.push _).push _).size = _; simp
  have h2 : Rd ((w.alloc (.cells #[.int .i64 0] 3)).alloc (.cells #[.int .i64 1, .int .i64 2] 3)) (.slice (some ⟨w.heap.size + 1, 0, none⟩) 2 2) [.int .i64 1, .int .i64 2] := by have := row_rd (w.alloc (.cells #[.int .i64 0] 3)) 3 [.int .i64 1, .int .i64 2]; rw [e1] at this; exact this
  have h3 : Rd (((w.alloc (.cells #[.int .i64 0] 3)).alloc (.cells #[.int .i64 1, .int .i64 2] 3)).alloc (.cells #[.slice (some ⟨w.heap.size, 0, none⟩) 1 1, .slice (some ⟨w.heap.size + 1, 0, none⟩) 2 2] 55)) (.slice (some ⟨w.heap.size + 1 + 1, 0, none⟩) 2 2) [.slice (some ⟨w.heap.size, 0, none⟩) 1 1, .slice (some ⟨w.heap.size + 1, 0, none⟩) 2 2] := by have := row_rd ((w.alloc (.cells #[.int .i64 0] 3)).alloc (.cells #[.int .i64 1, .int .i64 2] 3)) 55 [.slice (some ⟨w.heap.size, 0, none⟩) 1 1, .slice (some ⟨w.heap.size + 1, 0, none⟩) 2 2]; rw [e2] at this; exact this
  refine ⟨_, _, _, rfl, rfl, h3, ⟨rfl, fun i u l hu hl => ?_⟩, by omega, fun v hv k hk => ?_⟩
  · match i, hu, hl with
    | 0, hu, hl =>
      simp at hu
      subst hu
      have hl' : l = [0] := by simpa [chainsN] using hl.symm
      subst hl'
      exact h1.keepNon (((Keep.refl _ _).alloc _).alloc _)
    | 1, hu, hl =>
      simp at hu
      subst hu
      have hl' : l = [1, 2] := by simpa [chainsN] using hl.symm
      subst hl'
      exact h2.keepNon ((Keep.refl _ _).alloc _)
    | i + 2, hu, hl => simp at hu
  · simp at hv
    rcases hv with rfl | rfl <;> (simp [Value.ownBlock] at hk; omega)
theorem mirrored_ok {FC : Nat → Prop} {lb m : Nat} {L : Lg} (v : Value) (w : World) (hp : PicksIn w v m) (hm : m ≤ 60) (hl : LgAt FC w lb L.shs.length L) (hL : Log1 L) (hlow : ∀ s ∈ L.shs, s.l = 0) (h3 : ∀ a, (cellL L a).1 ≠ 3) (hlay : Lay w) (h10 : 10 ≤ w.heap.size) :
    Calls Tryz.prog 7 #[.pointer (some ⟨lb, 0, none⟩), v] w fun r w' => ∃ mb, r = .returned (.tuple #[.pointer (some ⟨mb, 0, none⟩), .bool true]) ∧ MirEnd w L w' mb := by
  have NM := Lib.hid (lgNew_ok _ 3 _ _ (hlay.keep ((((Keep.refl Non w).alloc _).alloc _).alloc _) (fun _ _ e => e)) (prat_three w) (by omega) (by omega) (by simp; omega))
  have MSG : Hid (∀ W sb k, Keep Non w W → W.heap[sb]? = some (ShipB 7 k) → k ≤ L.next → Calls Tryz.prog 21 #[.pointer (some ⟨sb, 0, none⟩), .pointer (some ⟨lb, 0, none⟩)] W fun e w' => ∃ v', e = .returned (.tuple #[v', .nilIface]) ∧ Keep Non W w' ∧ w'.ownsRow W.heap.size 5 1 v' (parB 7 0 k (newsL L k)).length ((parB 7 0 k (newsL L k)).map bv)) := Lib.hid (fun W sb k q hs hk => smess_ok W hs (hl.keepNon q) hL hlow hk)
  have HP := Lib.hid hp
  have LY : Hid (∀ W, Keep Non w W → Lay W) := Lib.hid (fun W k => hlay.keep k (fun _ _ e => e))
  have HL := Lib.hid hL
  have H3 := Lib.hid h3
  have H10 := Lib.hid h10
  obtain ⟨xa, xc, rfl, hx⟩ := hp
  clear hx hl hL hlow h3 hlay h10
  go_enter Tryz.func7, Tryz.ntmps7
  go_wp2_with (first
    | (go_at_call 14; refine NM.out.mono ?_; rintro r w1 ⟨mb, rfl, k1, l1⟩; have K1 := Lib.hid (((((Keep.refl Non w).alloc _).alloc _).alloc _).trans1 k1); have L1 := Lib.hid l1; clear k1 l1)
    | (go_at_call 18; refine (snew_ok w1).mono ?_; rintro r w2 ⟨sb, rfl, k2, hsb, b2⟩; have K2 := Lib.hid k2; have B2 := Lib.hid b2; have SB := Lib.hid hsb; clear k2 hsb b2)
    | (go_at_call 19; refine (anew_ok w2).mono ?_; rintro r w3 ⟨ab, rfl, k3, hab, b3⟩; have K3 := Lib.hid k3; have B3 := Lib.hid b3; have AB := Lib.hid hab; clear k3 hab b3)
    | (go_at_call 20; refine (Tr.new_line w3).mono ?_; rintro r w4 ⟨p, rfl, hp4, k4, l4⟩; have K4 := Lib.hid k4; have L4 := Lib.hid l4; clear k4 l4 hp4))
  have KW : Hid (Keep Non w w4) := Lib.hid (((K1.out.trans1 K2.out).trans1 K3.out).trans1 K4.out)
  have ST : Hid (MrEx w.heap.size w4 mb sb ab p L 0) := Lib.hid (by
    have z1 := K1.out.size
    have z2 := K2.out.size
    have z3 := K3.out.size
    have z4 := K4.out.size
    have s1 := SB.out
    have s2 := AB.out
    have b1 := lt_of_block B2.out
    have b2 := lt_of_block B3.out
    exact ⟨fun g => w.heap.size ≤ g ∧ g < w1.heap.size, fun g => w3.heap.size ≤ g ∧ g < w4.heap.size, _, 0, 0, [], fun _ => 0,
      ⟨(L1.out.keepNon ((K2.out.trans1 K3.out).trans1 K4.out)).mono (fun g y _ => ⟨by have := y.1; simp at this; omega, y.2⟩), filledM0 (cellL L), nonAt (K3.out.trans1 K4.out) B2.out, nonAt K4.out B3.out, L4.out.tight, Nat.le_refl _, ⟨Nat.zero_le _, fun a ha => absurd ha (Nat.not_lt_zero _)⟩, fun m hm => absurd hm (by simp),
        fun g y => ⟨y.1, by omega⟩, fun g y => ⟨by omega, y.2⟩, fun g y z => by omega, ⟨fun y => by omega, fun y => by omega, fun y => by omega, fun y => by omega, by omega, by omega, by omega⟩⟩, by simp, fun j => ⟨Int.le_refl _, Int.le_refl _⟩⟩)
  clear L1 B2 B3 L4 SB AB K1 K2 K3 K4 NM
  go_loopw [53] (fun q wr => ∃ j : Nat, j ≤ m ∧ q = .int .i64 j ∧ MrEx w.heap.size wr mb sb ab p L j ∧ Keep Non w wr) (fun q _ => m - (intOf q).toNat)
  case atStart => exact ⟨0, by omega, rfl, ST.out, KW.out⟩
  case round =>
    obtain ⟨j, hj, rfl, hx, hk⟩ := hrel
    clear ST KW
    by_cases hlt : j < m
    · have hlj : (j : Int) < (m : Int) := by omega
      obtain ⟨FM, FL, M, n, k, ms, c, st, h64, hc⟩ := hx
      obtain ⟨a1, c1, e1, hx⟩ := HP.out.keepNon hk
      injection e1 with e1 e3 e4
      subst e1
      subst e4
      obtain ⟨g, off, K, I, rfl, hg, k1, k2, k3, k4, k8, a5, a6, a7, a10, n5, c5, n6, c6, n7, c7, n10, c10, h0, h1, h2, h3, h4, h5, h6, h7, h8, h9, h10⟩ := hx j hlt
      have STJ := Lib.hid st
      have HC := Lib.hid hc
      have HK := Lib.hid hk
      clear hx st hc hk hg
      have hnn := STJ.out.non.1
      have hkn := STJ.out.kn
      have hln := HL.out.next
      have hB : Keep Non w wr → ∀ W', Keep (fun g => w.heap.size ≤ g) wr W' → Keep Non w W' := fun q W' q' => q.trans q' (fun _ _ e => e) (fun x hx e => by have e' : w.heap.size ≤ x := e; omega)
      have HB := Lib.hid (hB HK.out)
      clear hB
      by_cases r0 : (IntKind.wrap .u64 K).tmod 3 = 0
      · have MS := Lib.hid (fun W (q : Keep Non wr W) => MSG.out W sb k (HK.out.trans1 q) (nonAt q STJ.out.sp) (by omega))
        have SD := Lib.hid (fun W v (q : Keep Non wr W) (hv : Bs W v (parB 7 0 k (newsL L k))) => mr_send STJ.out h64 HC.out (by omega) q HL.out hln v hv)
        clear MSG
        go_wp2_with (first
          | (go_at_call 21; refine (MS.out _ ((Keep.refl _ _).alloc _)).mono ?_; rintro r w5 ⟨v5, rfl, k5, o5⟩; have K5 := Lib.hid (((Keep.refl Non wr).alloc _).trans1 k5); have O5 := Lib.hid (Rd.ofOwns o5); clear k5 o5)
          | (go_at_call 22; refine (SD.out _ _ K5.out O5.out).mono ?_; rintro r w6 ⟨⟨e6, rfl⟩, k6, x6⟩; have K6 := Lib.hid (HB.out _ ((K5.out.ofNon).trans1 k6)); have X6 := Lib.hid x6; clear k6 x6))
        exact ⟨⟨j + 1, by omega, by first | rfl | go_num, X6.out, K6.out⟩, by simp [intOf]; omega⟩
      by_cases r1 : (IntKind.wrap .u64 K).tmod 3 = 1
      · have TW := Lib.hid (fun W (q : Keep Non wr W) => mr_twice STJ.out h64 HC.out (by omega) q I)
        clear MSG
        go_wp2_with (go_at_call 23; refine (TW.out _ ((Keep.refl _ _).alloc _)).mono ?_; rintro r w6 ⟨⟨e6, rfl⟩, k6, x6⟩; have K6 := Lib.hid (HB.out _ ((((Keep.refl Non wr).alloc _).ofNon).trans1 k6)); have X6 := Lib.hid x6; clear k6 x6)
        exact ⟨⟨j + 1, by omega, by first | rfl | go_num, X6.out, K6.out⟩, by simp [intOf]; omega⟩
      by_cases hI : I < 0 ∨ (0 ≤ I ∧ (ms.length : Int) ≤ I)
      · have DN := Lib.hid (fun W (q : Keep Non wr W) => mr_del_no STJ.out q I hI)
        have EX : Hid (MrEx w.heap.size wr mb sb ab p L (j + 1)) := Lib.hid (MrEx.up ⟨_, _, _, _, _, _, _, STJ.out, h64, HC.out⟩ (by omega))
        clear MSG
        go_wp2_with (go_at_call 24; refine (DN.out _ ((Keep.refl _ _).alloc _)).mono ?_; rintro r w6 ⟨rfl, rfl⟩)
        exact ⟨⟨j + 1, by omega, by first | rfl | go_num, EX.out.keepNon ((Keep.refl _ _).alloc _), HK.out.alloc _⟩, by simp [intOf]; omega⟩
      · obtain ⟨y, rfl⟩ : ∃ y : Nat, I = (y : Int) := ⟨I.toNat, by omega⟩
        have DY := Lib.hid (fun W (q : Keep Non wr W) => mr_del_ok STJ.out HC.out (by omega) q HL.out hln h64 y (by omega))
        clear MSG
        go_wp2_with (first
          | (go_at_call 24; refine (DY.out _ ((Keep.refl _ _).alloc _)).mono ?_; rintro r w5 ⟨v5, f, rfl, k5, hf, b5, oc5, ow5, FL5, ms5, cc5, st5, l5, hc5, own5⟩; have K5 := Lib.hid (HB.out _ ((((Keep.refl Non wr).alloc _).ofNon).trans1 k5)); have HR := Lib.hid (mr_hear st5 (Keep.refl _ _) HL.out H3.out H10.out (LY.out _ K5.out) f hf v5 b5 oc5 (fun x e => (ow5 x e).2)); have L5 := Lib.hid (And.intro l5 hc5); clear k5 b5 oc5 ow5 st5 l5 hc5 own5)
          | (go_at_call 25; refine HR.out.mono ?_; rintro r w6 ⟨v6, rfl, k6, b6, oc6, ow6, FM6, M6, st6⟩; have K6 := Lib.hid (K5.out.trans k6 (fun _ _ e => e) (fun x hx e => by have e' : w.heap.size ≤ x := e; omega)); have RC := Lib.hid (mr_recv st6 (Keep.refl _ _) HL.out v6 b6 oc6 ow6); clear k6 b6 oc6 ow6 st6)
          | (go_at_call 26; refine RC.out.mono ?_; rintro r w7 ⟨rfl, k7, st7⟩; have K7 := Lib.hid (K6.out.trans k7 (fun _ _ e => e) (fun x hx e => by have e' : w.heap.size ≤ x := e; omega)); have X7 : Hid (MrEx w.heap.size w7 mb sb ab p L (j + 1)) := Lib.hid ⟨_, _, _, _, _, _, _, st7, L5.out.1, L5.out.2⟩; clear k7 st7))
        exact ⟨⟨j + 1, by omega, by first | rfl | go_num, X7.out, K7.out⟩, by simp [intOf]; omega⟩
    · obtain rfl : j = m := by omega
      have HX := Lib.hid hx
      have HK := Lib.hid hk
      clear hlt hx hk
      go_wp2_with fail
      go_loopw [] (fun wr => ∃ i, i ≤ 1000 ∧ MrEx w.heap.size wr mb sb ab p L i ∧ Keep Non w wr) (fun wr => 300 - shipN wr sb)
      case atStart => exact ⟨j, by omega, HX.out, HK.out⟩
      case round =>
        obtain ⟨i, hi, hx, hk⟩ := hrel
        obtain ⟨FM, FL, M, n, k, ms, c, st, h64, hc⟩ := hx
        have hnn := st.non.1
        have hkn := st.kn
        have hln := HL.out.next
        have AKW := Lib.hid (sacked_keep sb 7 k wr st.sp)
        have MS := Lib.hid (fun W (q : Keep Non wr W) => MSG.out W sb k (hk.trans1 q) (nonAt q st.sp) (by omega))
        have HR := Lib.hid (fun W v (q : Keep Non wr W) (hv : Bs W v (parB 7 0 k (newsL L k))) => mr_hear st q HL.out H3.out H10.out (LY.out _ (hk.trans1 q)) k (Nat.le_refl _) v hv)
        have SN : Hid (shipN wr sb = k) := Lib.hid (shipN_of st.sp)
        have hge : k ≤ hearN L n k := by unfold hearN; omega
        have hle := (st.non.hear hkn).1
        have HE : Hid (hearN L n k = k → allNon L k → newsL L (hearN L n k) = []) := Lib.hid (fun e _ => by
          rw [e]
          have h1 : (newsL L k).length = 0 := by unfold hearN at e; omega
          exact List.eq_nil_of_length_eq_zero h1)
        have HK := Lib.hid hk
        have HC := Lib.hid hc
        clear st hk hc MSG hkn
        generalize hearN L n k = N at HR HE hge hle
        have he1 : N = k ∨ (N : Int) ≠ k := by omega
        clear HX HP
        rcases he1 with he1 | he1
        · subst he1
          go_wp2_with (first
            | (go_at_call 21; refine (MS.out _ K5.out).mono ?_; rintro r w6 ⟨v6, rfl, k6, o6⟩; have K6 := Lib.hid (K5.out.trans1 k6); have HRW := Lib.hid (HR.out w6 v6 (K5.out.trans1 k6) (Rd.ofOwns o6) (okc_own o6) (fun x e => (o6.lt x e).2)); clear k6 o6)
            | (go_at_call 25; refine HRW.out.mono ?_; rintro r w7 ⟨v7, rfl, k7, b7, oc7, ow7, FM7, M7, st7⟩; have K7 := Lib.hid ((HK.out.trans1 K6.out).trans k7 (fun _ _ e => e) (fun x hx e => by have e' : w.heap.size ≤ x := e; omega)); have RC := Lib.hid (mr_recv st7 (Keep.refl _ _) HL.out v7 b7 oc7 ow7); clear k7 b7 oc7 ow7 st7)
            | (go_at_call 26; refine RC.out.mono ?_; rintro r w8 ⟨rfl, k8, st8⟩; have K8 := Lib.hid (K7.out.trans k8 (fun _ _ e => e) (fun x hx e => by have e' : w.heap.size ≤ x := e; omega)); have ST8 := Lib.hid st8; have AK8 := Lib.hid (sacked_keep sb 7 _ w8 st8.sp); clear k8 st8)
            | (go_at_call 27; first
                | (refine AK8.out.mono ?_; rintro r w9 ⟨rfl, k9⟩; have K9 := Lib.hid k9; clear k9)
                | (refine AKW.out.mono ?_; rintro r w5 ⟨rfl, k5⟩; have K5 := Lib.hid k5; clear k5)))
          go_ret2
          have st9 := ST8.out.keepNon K9.out
          exact ⟨mb, rfl, K8.out.trans1 K9.out, _, _, _, st9.lg, st9.fl, st9.non, HE.out (by first | trivial | rfl) st9.non, st9.low⟩
        · go_wp2_with (first
            | (go_at_call 21; refine (MS.out _ K5.out).mono ?_; rintro r w6 ⟨v6, rfl, k6, o6⟩; have K6 := Lib.hid (K5.out.trans1 k6); have HRW := Lib.hid (HR.out w6 v6 (K5.out.trans1 k6) (Rd.ofOwns o6) (okc_own o6) (fun x e => (o6.lt x e).2)); clear k6 o6)
            | (go_at_call 25; refine HRW.out.mono ?_; rintro r w7 ⟨v7, rfl, k7, b7, oc7, ow7, FM7, M7, st7⟩; have K7 := Lib.hid ((HK.out.trans1 K6.out).trans k7 (fun _ _ e => e) (fun x hx e => by have e' : w.heap.size ≤ x := e; omega)); have RC := Lib.hid (mr_recv st7 (Keep.refl _ _) HL.out v7 b7 oc7 ow7); clear k7 b7 oc7 ow7 st7)
            | (go_at_call 26; refine RC.out.mono ?_; rintro r w8 ⟨rfl, k8, st8⟩; have K8 := Lib.hid (K7.out.trans k8 (fun _ _ e => e) (fun x hx e => by have e' : w.heap.size ≤ x := e; omega)); have ST8 := Lib.hid st8; have AK8 := Lib.hid (sacked_keep sb 7 _ w8 st8.sp); clear k8 st8)
            | (go_at_call 27; first
                | (refine AK8.out.mono ?_; rintro r w9 ⟨rfl, k9⟩; have K9 := Lib.hid k9; clear k9)
                | (refine AKW.out.mono ?_; rintro r w5 ⟨rfl, k5⟩; have K5 := Lib.hid k5; clear k5)))
          have st9 := ST8.out.keepNon K9.out
          have s9 := shipN_of st9.sp
          have sn := SN.out
          exact ⟨⟨i, hi, ⟨_, _, _, _, _, _, _, st9, h64, HC.out⟩, K8.out.trans1 K9.out⟩, by omega⟩
end Go.Proofs.YtdmckfkhkjkdnaaGreatDoor
namespace Go.Proofs.YtdmckfkhkjkdnaaGreatDoor
open Go.ChangeShapes Go.WideShapes Go.ChangeAt Go.RowKit Go.Deep
theorem own : ownKnob Tryz.prog.godebug = none := by kernel_rfl
theorem laidOut : laidOutB Tryz.prog = true := by kernel_rfl
abbrev laid9 : List (String × DataW Unit) := [("math/bits.deBruijn32tab", Rows.laid_math_bits_deBruijn32tab), ("math/bits.deBruijn64tab", Rows.laid_math_bits_deBruijn64tab), ("internal/strconv.uint64pow10", Rows.laid_internal_strconv_uint64pow10), ("unicode/utf8.acceptRanges", Rows.laid_unicode_utf8_acceptRanges), ("strconv.ErrRange", Rows.laid_strconv_ErrRange), ("strconv.ErrSyntax", Rows.laid_strconv_ErrSyntax), ("holdfast/sha.constants", Rows.laid_holdfast_sha_constants), ("holdfast/sha.firsts", Rows.laid_holdfast_sha_firsts), ("unicode/utf8.first", Rows.laid_unicode_utf8_first)]
theorem laidMet_tail {P : Program} {x : String × DataW Unit} {l : List (String × DataW Unit)} {w : World} (h : laidMet P (x :: l) w) : laidMet P l w := by
  obtain ⟨ps, ⟨g, t, cs, fuel, p, q, _, _, _, _, hq, rfl⟩, hn, hc⟩ := h
  exact ⟨q, hq, (List.nodup_append.1 hn).2.1, fun b off hm => hc b off (List.mem_append_right _ hm)⟩
theorem blk_of_var {P : Program} {w : World} {n : String} {g : Nat} {cs : Array Value} (hg : P.globalNamed n = some g) (h : w.var? P n = some cs) : ∃ (tt : TypeId) (fr : Nat × Nat), w.heap[g]? = some (.cells cs tt fr) := by
  simp only [World.var?, hg, Option.bind_some] at h
  split at h
  · next cs' tt fr e =>
    obtain rfl := Option.some.inj h
    exact ⟨tt, fr, e⟩
  · cases h
def fList : List Int := [0x6a09e667, 0xbb67ae85, 0x3c6ef372, 0xa54ff53a, 0x510e527f, 0x9b05688c, 0x1f83d9ab, 0x5be0cd19]
theorem cData : (Rows.laid_holdfast_sha_constants : DataW Unit) = Lib.tabData .u32 kList := by kernel_rfl
theorem fData : (Rows.laid_holdfast_sha_firsts : DataW Unit) = Lib.tabData .u32 fList := by kernel_rfl
theorem pData : (Rows.laid_internal_strconv_uint64pow10 : DataW Unit) = Lib.tabData .u64 Lib.pow10Tab := by kernel_rfl
theorem gCons : Tryz.prog.globalNamed "holdfast/sha.constants" = some 1 := by kernel_rfl
theorem gFirs : Tryz.prog.globalNamed "holdfast/sha.firsts" = some 0 := by kernel_rfl
theorem gLast : Tryz.prog.globalNamed "math/bits.deBruijn64tab" = some 9 := by kernel_rfl
theorem tCons : (Tryz.prog.globals[1]?).map (·.type) = some 379 := by kernel_rfl
theorem tFirs : (Tryz.prog.globals[0]?).map (·.type) = some 317 := by kernel_rfl
theorem tPow : (Tryz.prog.globals[3]?).map (·.type) = some 455 := by kernel_rfl
theorem of_laid {W : World} (h : laidMetH Tryz.prog laid9 W) : Lay W ∧ 10 ≤ W.heap.size := by
  rw [MakeChecks.laidMetH_plain _ _ _ (by kernel_rfl)] at h
  have h0 : laidMet Tryz.prog laid9 W := h
  have h1 : laidMet Tryz.prog [("math/bits.deBruijn64tab", Rows.laid_math_bits_deBruijn64tab), ("internal/strconv.uint64pow10", Rows.laid_internal_strconv_uint64pow10), ("unicode/utf8.acceptRanges", Rows.laid_unicode_utf8_acceptRanges), ("strconv.ErrRange", Rows.laid_strconv_ErrRange), ("strconv.ErrSyntax", Rows.laid_strconv_ErrSyntax), ("holdfast/sha.constants", Rows.laid_holdfast_sha_constants), ("holdfast/sha.firsts", Rows.laid_holdfast_sha_firsts), ("unicode/utf8.first", Rows.laid_unicode_utf8_first)] W := laidMet_tail h0
  have h2 : laidMet Tryz.prog [("internal/strconv.uint64pow10", Rows.laid_internal_strconv_uint64pow10), ("unicode/utf8.acceptRanges", Rows.laid_unicode_utf8_acceptRanges), ("strconv.ErrRange", Rows.laid_strconv_ErrRange), ("strconv.ErrSyntax", Rows.laid_strconv_ErrSyntax), ("holdfast/sha.constants", Rows.laid_holdfast_sha_constants), ("holdfast/sha.firsts", Rows.laid_holdfast_sha_firsts), ("unicode/utf8.first", Rows.laid_unicode_utf8_first)] W := laidMet_tail h1
  have h3 : laidMet Tryz.prog [("unicode/utf8.acceptRanges", Rows.laid_unicode_utf8_acceptRanges), ("strconv.ErrRange", Rows.laid_strconv_ErrRange), ("strconv.ErrSyntax", Rows.laid_strconv_ErrSyntax), ("holdfast/sha.constants", Rows.laid_holdfast_sha_constants), ("holdfast/sha.firsts", Rows.laid_holdfast_sha_firsts), ("unicode/utf8.first", Rows.laid_unicode_utf8_first)] W := laidMet_tail h2
  have h4 : laidMet Tryz.prog [("strconv.ErrRange", Rows.laid_strconv_ErrRange), ("strconv.ErrSyntax", Rows.laid_strconv_ErrSyntax), ("holdfast/sha.constants", Rows.laid_holdfast_sha_constants), ("holdfast/sha.firsts", Rows.laid_holdfast_sha_firsts), ("unicode/utf8.first", Rows.laid_unicode_utf8_first)] W := laidMet_tail h3
  have h5 : laidMet Tryz.prog [("strconv.ErrSyntax", Rows.laid_strconv_ErrSyntax), ("holdfast/sha.constants", Rows.laid_holdfast_sha_constants), ("holdfast/sha.firsts", Rows.laid_holdfast_sha_firsts), ("unicode/utf8.first", Rows.laid_unicode_utf8_first)] W := laidMet_tail h4
  have h6 : laidMet Tryz.prog [("holdfast/sha.constants", Rows.laid_holdfast_sha_constants), ("holdfast/sha.firsts", Rows.laid_holdfast_sha_firsts), ("unicode/utf8.first", Rows.laid_unicode_utf8_first)] W := laidMet_tail h5
  have h7 : laidMet Tryz.prog [("holdfast/sha.firsts", Rows.laid_holdfast_sha_firsts), ("unicode/utf8.first", Rows.laid_unicode_utf8_first)] W := laidMet_tail h6
  obtain ⟨p9, ⟨g9, t9, cs9, f9, _, _, hg9, _, hv9, _, _, _⟩, _⟩ := h1
  obtain rfl := Option.some.inj (gLast.symm.trans hg9)
  obtain ⟨tt9, fr9, hb9⟩ := blk_of_var gLast hv9
  have h10 : 10 ≤ W.heap.size := by
    have := lt_of_block hb9
    omega
  have hp : Pow W := by
    rw [pData] at h2
    exact Lib.tabIs_of_head pow_at tPow Tryz.underlying455 Tryz.underlying217 (by kernel_rfl) (by kernel_rfl) h2
  have c1 : Lib.TabIs Tryz.prog W "holdfast/sha.constants" .u32 kList := by
    rw [cData] at h6
    exact Lib.tabIs_of_head gCons tCons Tryz.underlying379 Tryz.underlying316 (by kernel_rfl) (by kernel_rfl) h6
  have c2 : Lib.TabIs Tryz.prog W "holdfast/sha.firsts" .u32 fList := by
    rw [fData] at h7
    exact Lib.tabIs_of_head gFirs tFirs Tryz.underlying317 Tryz.underlying316 (by kernel_rfl) (by kernel_rfl) h7
  obtain ⟨tf, ff, hf⟩ := blk_of_var gFirs c2
  obtain ⟨tc, fc, hc⟩ := blk_of_var gCons c1
  refine ⟨⟨⟨_, ?_, ⟨tc, fc, hc⟩, ?_, fun i hi => ?_⟩, ⟨tf, ff, hf⟩, hp⟩, h10⟩
  · rfl
  · have := lt_of_block hc
    omega
  · have hl : kList.length = 64 := rfl
    simp [kI, show i < kList.length by omega]
end Go.Proofs.YtdmckfkhkjkdnaaGreatDoor
