/- WholeFull, over its fixed fact, where an export begins: walked (printed by wip/topg.py). · holdfasttop.restored: walked. · holdfasttop.exported, at th -/
import Derived.Test.YtobjlgfjfpmceaaGreatDoorQ42
set_option linter.unusedVariables false
set_option maxRecDepth 100000
set_option maxHeartbeats 16000000
namespace Go.Proofs.YtobjlgfjfpmceaaGreatDoor
open Go.RowKit Go.Maps
theorem PEnd.p32 {L : Lg} {X : Dk} {c : Cu} (h : PEnd L X c) : pts32 c.parts := fun p hp => by
  rw [h.parts] at hp
  obtain ⟨i, _, rfl⟩ := List.mem_map.1 hp
  exact digB_len _
theorem is_full (W : World) : Calls Tryz.prog 14 #[.iface 45 (.int .i64 5), .int .i64 5] W fun e w' => e = .returned (.bool true) ∧ W = w' := is_any 5 5 W
theorem low_sub {F5 F6 : Nat → Prop} {w5 : World} {x B : Nat} (h5 : ∀ g, F5 g → B ≤ g) (s6 : Sub F6 F5 w5) (hB : B ≤ w5.heap.size) (hx : w5.heap.size ≤ x) : ∀ g, (F6 g ∨ g = x) → B ≤ g := by
  rintro g (y | rfl)
  · rcases s6 g y with u | u
    · exact h5 g u
    · omega
  · omega
theorem full_go (hbk : ∀ W, Lay W → 10 ≤ W.heap.size → Calls Tryz.prog 4 #[] W fun e w' => e = .returned (.bool true) ∧ Keep Non W w')
    (v : Value) (cl : List Cl) (room n : Int) (w : World) (hc : CellsIn w v cl) (hm : cl.length ≤ 9223372036854775807) (hlay : Lay w) (h10 : 10 ≤ w.heap.size) (hlong : longL cl = false) (hn : cl.length ≤ 200) (hr0 : 0 ≤ room) (hr : room ≤ 16777216) (n' : Nat) (hnn : n = n') (h0 : 0 < n') (hn' : n' ≤ (bagL cl).next) (hcd : (dk0 room.toNat).sput cname (cuBy (cu00 n')) = (0, putX (dk0 room.toNat) cname (cuBy (cu00 n')))) :
    Calls Tryz.prog 3 #[v, .int .i64 room, .int .i64 n] w fun e w' => e = .returned (.bool true) ∧ Keep Non w w' := by
  have BK := Lib.hid (hbk w hlay h10)
  have HC := Lib.hid hc
  have LO := Lib.hid (fun W (k : Keep Non w W) => tlong_ok v cl W (hc.keep k (fun _ _ e => e)) hm)
  have BG := Lib.hid (fun W (k : Keep Non w W) => tbegin_ok v cl W (hc.keep k (fun _ _ e => e)) hn (hlay.keepNon k) (Nat.le_trans h10 k.size))
  obtain ⟨room, rfl⟩ : ∃ r : Nat, room = r := ⟨room.toNat, by omega⟩
  have hr1 : ¬ (room : Int) < 0 := by omega
  have hr2 : ¬ (16777216 : Int) < (room : Int) := by omega
  have FL0 := bagL_filled cl hn
  have L1 := Lib.hid (FL0.log hn)
  have H3 := Lib.hid FL0.not3
  have HL0 : Hid ((lgS (bagL cl)).l = 0) := Lib.hid FL0.l
  rw [hlong] at LO
  obtain ⟨a, c, rfl, hx⟩ := hc
  clear hx hlay hbk FL0
  go_enter Tryz.func3, Tryz.ntmps3
  subst hnn
  rw [Int.toNat_natCast] at hcd
  have hn200 : n' ≤ 200 := by have := L1.out.next; omega
  have PI := Lib.hid (begin_inv (L := bagL cl) (dk0_ok room) hn200 h0 hcd)
  have hcd1 : ((dk0 room).sput cname (cuBy (cu00 n'))).1 = 0 := by rw [hcd]
  have hcd2 : ((dk0 room).sput cname (cuBy (cu00 n'))).2 = putX (dk0 room) cname (cuBy (cu00 n')) := by rw [hcd]
  clear hcd
  go_wp2_with (first
    | (go_at_call 4; refine BK.out.mono ?_; rintro e w1 ⟨rfl, k1⟩; have K1 := Lib.hid k1; clear k1)
    | (go_at_call 5; refine (LO.out _ K1.out).mono ?_; rintro e w2 ⟨rfl, k2⟩; have K2 := Lib.hid (K1.out.trans1 k2); clear k2)
    | (go_at_call 6; refine (BG.out _ K2.out).mono ?_; rintro e w3 ⟨lb, b, p, q, F, FL, rfl, k3, v3⟩; have K3 := Lib.hid (K2.out.trans1 k3); have V3 := Lib.hid v3; clear k3 v3)
    | (go_at_call 7; refine (dnew_any room w3 (by omega)).mono ?_; rintro e w4 ⟨p2, rfl, k4, d4⟩; have K4 := Lib.hid k4; have D4 := Lib.hid d4; clear k4 d4)
    | (go_at_call 8; refine (vopen_ok _ p2 (dk0 room) 0 0 0 w4 D4.out (dk0_free _) (dk0_lim _) (by omega) (by omega) (by omega) (dk0_ok _).tidy (dk0_has _ _)).mono ?_; rintro e w5 ⟨b2, q2, rfl, vb, k5, hb, F5, s5, nb, l5, st5⟩; obtain ⟨v5, k35, f5⟩ := V3.out.second K4.out vb k5 hb s5 nb l5 st5; have V5 := Lib.hid v5; have K5 := Lib.hid (K3.out.trans1 k35); have F5L := Lib.hid f5; have K35 := Lib.hid k35; have HB2 := Lib.hid hb; clear vb k5 hb s5 nb l5 st5 v5 k35 f5)
    | (go_at_call 9; refine (xbegin_ok w5 V5.out (dk0_ok _) L1.out HL0.out n' h0 hn' 0 hcd1).mono ?_; rintro e w6 ⟨x, he, -, k6, F6, s6, l6, st6, hx6⟩; obtain rfl := he rfl; obtain ⟨hxx, nx, xb⟩ := hx6 rfl; rw [hcd2] at st6; have E6 := Lib.hid (ex_first V5.out k6 s6 l6 st6 hxx nx xb); have F6L := Lib.hid (low_sub F5L.out s6 (Nat.le_trans (Nat.le_refl _) K35.out.size) hxx); have K6 := Lib.hid (K5.out.trans k6 (fun _ _ y => y) (fun g hg y => by have := F5L.out g y; have := K3.out.size; omega)); clear he k6 s6 l6 st6 hx6 hxx nx xb)
    | (go_at_call 11; refine (xall_ok w6 E6.out PI.out L1.out H3.out).mono ?_; rintro e w7 ⟨k, v, rfl, o⟩; have O7 := Lib.hid o; clear o; rcases O7.out with ⟨rfl, -⟩ | ⟨rfl, -⟩))
  · rcases O7.out with ⟨-, c2, pv, Z, hhi, o, pe⟩ | ⟨h, -⟩
    · obtain ⟨F7, v3, T, s7, k7, e7, ms7, hT7⟩ := o
      have hw3 := K3.out.size
      have k7w : Keep Non w w7 := K6.out.trans k7 (fun _ _ e => e) (fun g hg y => by
        have hb2 := HB2.out
        have h4 := K4.out.size
        rcases y with y | y | y
        · have := F6L.out g (.inl y); omega
        · have := F6L.out g (.inr y); omega
        · omega)
      have hlen : (exM c2).parts.length ≤ 10000 := by show c2.parts.length ≤ 10000; have := pe.few; have := pe.hi; omega
      have OV := Lib.hid (xover_ok w7 e7.ex)
      have CH1 := Lib.hid (vchain_one T b2 q2 v3 (exM c2) w7 e7.vt ms7 pe.p32 hlen)
      have EN : Hid (∀ W v, MsAt (fun g => w7.heap.size ≤ g ∧ g < W.heap.size) W v [exM c2] → Calls Tryz.prog 13 #[v] W fun e w' => e = .returned (.int .i64 n') ∧ Keep Non W w') := Lib.hid (fun W v hv => by
        have := cend_any _ v [exM c2] W hv (by simp)
        have he : (lastM [exM c2]).hi = n' := hhi
        rw [he] at this
        exact this)
      have K7 := Lib.hid k7w
      clear O7 hhi s7 k7 e7 ms7 hT7 k7w hlen pe
      go_wp2_with (first
        | (go_at_call 12; refine OV.out.mono ?_; rintro e w8 ⟨rfl, rfl⟩)
        | (go_at_call 10; refine CH1.out.mono ?_; rintro e w9 ⟨v9, rfl, k9, ms9⟩; obtain ⟨a9, c9, rfl, _⟩ := id ms9; have ENW := Lib.hid (EN.out w9 _ ms9); have K9 := Lib.hid (K7.out.trans1 k9); clear k9 ms9)
        | (go_at_call 13; refine ENW.out.mono ?_; rintro e w10 ⟨rfl, k10⟩))
      go_ret
      exact ⟨rfl, K9.out.trans1 k10⟩
    · cases h
  · rcases O7.out with ⟨h, -⟩ | ⟨-, -, c2, Z, o, pe⟩
    · cases h
    · obtain ⟨F7, pv, s7, k7, e7⟩ := o
      have hw3 := K3.out.size
      have F7L : ∀ g, F7 g → w3.heap.size ≤ g := fun g y => by
        rcases s7 g y with u | u
        · exact F6L.out g (.inl u)
        · have := K6.out.size; have := K35.out.size; have h6 := lt_of_block E6.out.ex; have hx := F6L.out x (.inr rfl); omega
      have k7w : Keep Non w w7 := K6.out.trans k7 (fun _ _ e => e) (fun g hg y => by have := F6L.out g y; omega)
      have hlen : c2.parts.length ≤ 64 := pe.ok.many
      have CU := Lib.hid (xcursor_ok w7 e7.ex (PtsAt.of e7.row pe.ok.p32) pe.ok.p32 hlen)
      have CH1 := Lib.hid (fun W (k : Keep Non w7 W) => vchain_nil b2 q2 none 0 W (nonAt k e7.vt))
      obtain ⟨G, dG, hG⟩ := e7.st.dk
      have dG' := dG.low
      have OP := Lib.hid (fun W (k : Keep Non w7 W) => vopen_ok _ p2 Z 40 40 1000000 W (dG'.keep k (fun _ _ e => e)) pe.free pe.lim (by omega) (by omega) (by omega) pe.tidy pe.title)
      have GL : Hid (∀ g, (G g ∧ g < w7.heap.size) → w3.heap.size ≤ g) := Lib.hid (fun g y => F7L g (hG g y.1).1)
      have RS := Lib.hid (fun W b q F (hb : W.heap[b]? = some (VtB q (.slice none 0 0))) (d : StoreAt F W q p2 Z) => xresume_ok (lb := lb) W hb d pe)
      have OKC := Lib.hid pe.ok
      have K7 := Lib.hid k7w
      clear O7 s7 k7 e7 dG dG' hG pe F7L k7w
      have IS := Lib.hid (is_full w7)
      unfold cuV at CU
      go_wp2_with (first
        | (go_at_call 14; refine IS.out.mono ?_; rintro e w8 ⟨rfl, rfl⟩)
        | (go_at_call 15; ((with_reducible refine CU.out.mono ?_); rintro e w8 ⟨v8, rfl, k8, o8⟩); obtain ⟨a8, c8, rfl, _, _⟩ := ownsRow_form o8; have K8 := Lib.hid k8; have O8 := Lib.hid o8; clear k8 o8)
        | (go_at_call 10; refine (CH1.out _ K8.out).mono ?_; rintro e w9 ⟨rfl, k9⟩; have K89 := Lib.hid k9; have K9 := Lib.hid (K8.out.trans1 k9); clear k9)
        | (go_at_call 8; refine (OP.out _ (K9.out.alloc (CuB c2 (.slice a8 c2.parts.length c8)))).mono ?_; rintro e w11 ⟨b9, q9, rfl, vb9, k11, hb9, F9, s9, nb9, l9, st9⟩; have RSW := Lib.hid (RS.out w11 b9 q9 F9 vb9 st9); have VB9 := Lib.hid vb9; have K11 := Lib.hid k11; clear vb9 k11 hb9 s9 nb9 l9 st9)
        | (go_at_call 16; refine RSW.out.mono ?_; rintro e w12 ⟨y, v12, rfl, k12, hy, yb, o12⟩; obtain ⟨a12, c12, rfl, _, _⟩ := ownsRow_form o12; have K12 := Lib.hid k12; have YB := Lib.hid yb; have O12 := Lib.hid o12; clear k12 hy yb o12))
      have hw7 := K7.out.size
      have kA : Keep Non w9 (w9.alloc (CuB c2 (.slice a8 c2.parts.length c8))) := (Keep.refl _ _).alloc _
      have b18 : w12.heap[w9.heap.size]? = some (CuB c2 (.slice a8 c2.parts.length c8)) := nonAt K12.out (K11.out.at (blk_new w9 (CuB c2 (.slice a8 c2.parts.length c8))) (fun e => by have := e.2; have := K9.out.size; omega))
      have r8 : w12.ownsRow w7.heap.size 101 35 (.slice a8 c2.parts.length c8) c2.parts.length (ptsC c2.parts) := ownsRow_keep (ownsRow_keep (ownsRow_keep O8.out (K89.out.trans1 kA) (fun _ _ e => e)) K11.out (fun g e y => by have := (O8.out.lt g e).1; have := y.2; omega)) K12.out (fun _ _ e => e)
      have KE : Hid (Keep Non w w12) := Lib.hid (((K7.out.trans1 K9.out).trans1 kA).trans K11.out (fun _ _ e => e) (fun g hg y => by have := GL.out g y; have := K3.out.size; omega) |>.trans1 K12.out)
      have B18 := Lib.hid b18
      have R8 := Lib.hid r8
      have BF : Hid (∀ W, Keep Non w12 W → W.cell? ⟨w9.heap.size, 0, none⟩ = some (.int .i64 c2.lo) ∧ W.cell? ⟨w9.heap.size, 1, none⟩ = some (.int .i64 c2.next) ∧ W.cell? ⟨w9.heap.size, 2, none⟩ = some (.int .i64 c2.hi) ∧ W.cell? ⟨w9.heap.size, 3, none⟩ = some (.int .i64 c2.trim) ∧ W.cell? ⟨w9.heap.size, 4, none⟩ = some (.slice a8 c2.parts.length c8)) := Lib.hid (fun W k => by
        have h := nonAt k B18.out
        exact ⟨cu_0 h, cu_1 h, cu_2 h, cu_3 h, cu_4 h⟩)
      have CH2 := Lib.hid (fun W (k : Keep Non w12 W) => vchain_nil b9 q9 none 0 W (nonAt (K12.out.trans1 k) VB9.out))
      have CU2 := Lib.hid (fun W (k : Keep Non w12 W) => xcursor_ok W (nonAt k YB.out) (PtsAt.of (ownsRow_keep O12.out k (fun _ _ e => e)) OKC.out.p32) OKC.out.p32 OKC.out.many)
      have SM := Lib.hid (fun W v (k : Keep Non w12 W) (hv : PtsAt W v c2.parts) => cusame_ok c2 v (.slice a8 c2.parts.length c8) W hv (PtsAt.of (ownsRow_keep R8.out k (fun _ _ e => e)) OKC.out.p32) OKC.out.p32 (by have := OKC.out.many; omega))
      have OV2 := Lib.hid (fun W (k : Keep Non w12 W) => xover_ok W (nonAt k YB.out))
      have P32 := Lib.hid OKC.out.p32
      have KD : Hid (Keep Non w12 w12.drew) := Lib.hid (Keep.refl Non w12).drew
      obtain ⟨g0, g1, g2, g3, g4⟩ := BF.out w12.drew KD.out
      have CH2W := Lib.hid (CH2.out w12.drew KD.out)
      clear kA b18 r8 hw7 hw3 hlen
      unfold cuV at CU2 SM
      clear g0 g1 g2 g3 g4
      refine wp_region_noPanic ?_
      refine wp_region_held_drew (S := fun W => W.cell? ⟨w9.heap.size, 0, none⟩ = some (.int .i64 c2.lo) ∧ W.cell? ⟨w9.heap.size, 1, none⟩ = some (.int .i64 c2.next) ∧ W.cell? ⟨w9.heap.size, 2, none⟩ = some (.int .i64 c2.hi) ∧ W.cell? ⟨w9.heap.size, 3, none⟩ = some (.int .i64 c2.trim) ∧ W.cell? ⟨w9.heap.size, 4, none⟩ = some (.slice a8 c2.parts.length c8)) (by as_aux_lemma => kernel_rfl) (BF.out w12.drew KD.out) (fun hHeld => ?_)
      refine tc (i := 0) (v := ?v1) ?hy1 ?rest1
      case hy1 => intro W ⟨m0, m1, m2, m3, m4⟩; go_simp; first | done | with_reducible rfl
      refine tc (i := 1) (v := ?v2) ?hy2 ?rest2
      case hy2 => intro W ⟨m0, m1, m2, m3, m4⟩; go_simp; first | done | with_reducible rfl
      refine tc (i := 2) (v := ?v3) ?hy3 ?rest3
      case hy3 => intro W ⟨m0, m1, m2, m3, m4⟩; go_simp; first | done | with_reducible rfl
      refine tc (i := 3) (v := ?v4) ?hy4 ?rest4
      case hy4 => intro W ⟨m0, m1, m2, m3, m4⟩; go_simp; first | done | with_reducible rfl
      refine rc (i := 4) (fun K hK => ?_)
      go_simp
      refine CH2W.out.mono ?_
      rintro e w13 ⟨rfl, k13⟩
      have K13 := Lib.hid (KD.out.trans1 k13)
      have CU2W := Lib.hid (CU2.out w13 K13.out)
      clear k13
      go_wp2_with fail
      refine hK.out _ _ (BF.out w13 K13.out) (fun hHeld5 => ?_)
      clear hK K
      try simp only [Act.put, List.setIfInBounds_toArray, List.set_cons_zero, List.set_cons_succ]
      refine tc (i := 5) (v := ?v6) ?hy6 ?rest6
      case hy6 => intro W ⟨m0, m1, m2, m3, m4⟩; go_simp; first | done | with_reducible rfl
      refine tc (i := 6) (v := ?v7) ?hy7 ?rest7
      case hy7 => intro W ⟨m0, m1, m2, m3, m4⟩; go_simp; first | done | with_reducible rfl
      refine tc (i := 7) (v := ?v8) ?hy8 ?rest8
      case hy8 => intro W ⟨m0, m1, m2, m3, m4⟩; go_simp; first | done | with_reducible rfl
      refine tc (i := 8) (v := ?v9) ?hy9 ?rest9
      case hy9 => intro W ⟨m0, m1, m2, m3, m4⟩; go_simp; first | done | with_reducible rfl
      refine tc (i := 9) (v := ?v10) ?hy10 ?rest10
      case hy10 => intro W ⟨m0, m1, m2, m3, m4⟩; go_simp; first | done | with_reducible rfl
      refine tc (i := 10) (v := ?v11) ?hy11 ?rest11
      case hy11 => intro W ⟨m0, m1, m2, m3, m4⟩; go_simp; first | done | with_reducible rfl
      refine tc (i := 11) (v := ?v12) ?hy12 ?rest12
      case hy12 => intro W ⟨m0, m1, m2, m3, m4⟩; go_simp; first | done | with_reducible rfl
      refine tc (i := 12) (v := ?v13) ?hy13 ?rest13
      case hy13 => intro W ⟨m0, m1, m2, m3, m4⟩; go_simp; first | done | with_reducible rfl
      refine tc (i := 13) (v := ?v14) ?hy14 ?rest14
      case hy14 => intro W ⟨m0, m1, m2, m3, m4⟩; go_simp; first | done | with_reducible rfl
      refine tc (i := 15) (v := ?v15) ?hy15 ?rest15
      case hy15 => intro W ⟨m0, m1, m2, m3, m4⟩; go_simp; first | done | with_reducible rfl
      refine rc (i := 14) (fun K hK => ?_)
      go_simp
      refine CU2W.out.mono ?_
      rintro e w14 ⟨v14, rfl, k14, o14⟩
      obtain ⟨a14, c14, rfl, _, _⟩ := ownsRow_form o14
      have K14 := Lib.hid (K13.out.trans1 k14)
      have SMW := Lib.hid (SM.out w14 _ K14.out (PtsAt.of o14 P32.out))
      clear k14 o14
      go_wp2_with fail
      refine hK.out _ _ (BF.out w14 K14.out) (fun hHeld16 => ?_)
      clear hK K
      try simp only [Act.put, List.setIfInBounds_toArray, List.set_cons_zero, List.set_cons_succ]
      refine rc (i := 16) (fun K hK => ?_)
      go_simp
      refine SMW.out.mono ?_
      rintro e w15 ⟨rfl, k15⟩
      have K15 := Lib.hid (K14.out.trans1 k15)
      have OVW := Lib.hid (OV2.out w15 K15.out)
      clear k15
      go_wp2_with fail
      refine hK.out _ _ (BF.out w15 K15.out) (fun hHeld17 => ?_)
      clear hK K
      try simp only [Act.put, List.setIfInBounds_toArray, List.set_cons_zero, List.set_cons_succ]
      refine tc (i := 17) (v := ?v18) ?hy18 ?rest18
      case hy18 => intro W ⟨m0, m1, m2, m3, m4⟩; go_simp; first | done | with_reducible rfl
      refine tc (i := 18) (v := ?v19) ?hy19 ?rest19
      case hy19 => intro W ⟨m0, m1, m2, m3, m4⟩; go_simp; first | done | with_reducible rfl
      refine tc (i := 19) (v := ?v20) ?hy20 ?rest20
      case hy20 => intro W ⟨m0, m1, m2, m3, m4⟩; go_simp; first | done | with_reducible rfl
      refine rc (i := 20) (fun K hK => ?_)
      go_simp
      refine OVW.out.mono ?_
      rintro e w16 ⟨rfl, rfl⟩
      go_wp2_with fail
      refine hK.out _ _ (BF.out _ K15.out) (fun hHeld21 => ?_)
      clear hK K
      try simp only [Act.put, List.setIfInBounds_toArray, List.set_cons_zero, List.set_cons_succ]
      refine tc (i := 21) (v := ?v22) ?hy22 ?rest22
      case hy22 => intro W ⟨m0, m1, m2, m3, m4⟩; go_simp; first | done | with_reducible rfl
      refine tc (i := 22) (v := ?v23) ?hy23 ?rest23
      case hy23 => intro W ⟨m0, m1, m2, m3, m4⟩; go_simp; first | done | with_reducible rfl
      refine tc (i := 23) (v := ?v24) ?hy24 ?rest24
      case hy24 => intro W ⟨m0, m1, m2, m3, m4⟩; go_simp; first | done | with_reducible rfl
      refine wpAnyH_done (by as_aux_lemma => kernel_rfl) ?_ _
      refine NoPanic.normal ?_
      go_wp2_with fail
      go_ret
      exact ⟨rfl, KE.out.trans1 K15.out⟩
def FLr (W w1 : World) : Nat → Prop := fun g => W.heap.size ≤ g ∧ g < w1.heap.size
theorem rs_open {w W w1 w2 w3 : World} {lb : Nat} {F' : Nat → Prop} (kW : Keep Non w W) (k1 : Keep Non W w1) (lg : LgAt (FLr W w1) w1 lb 2 lA) (k2 : Keep Non w1 w2) (k3 : Keep (fun g => w1.heap.size ≤ g ∧ g < w2.heap.size) w2 w3) (s3 : Sub F' (fun g => w1.heap.size ≤ g ∧ g < w2.heap.size) w2) :
    Keep Non w w3 ∧ LgAt (FLr W w1) w3 lb 2 lA ∧ w1.heap.size ≤ w3.heap.size ∧ ∀ g, F' g → w1.heap.size ≤ g := by
  have k13 : Keep Non w1 w3 := k2.trans k3 (fun _ _ e => e) (fun g hg e => by have := e.1; omega)
  refine ⟨(kW.trans1 k1).trans1 k13, lg.keepNon k13, k13.size, fun g y => ?_⟩
  rcases s3 g y with u | u
  · exact u.1
  · have := k2.size; omega
theorem rs_first {w W w1 w3 w4 : World} {b lb x q p : Nat} {F' : Nat → Prop} {Z : Dk} (kW : Keep Non w W) (hW : W.heap.size ≤ w1.heap.size) (o : Keep Non w w3 ∧ LgAt (FLr W w1) w3 lb 2 lA ∧ w1.heap.size ≤ w3.heap.size ∧ ∀ g, F' g → w1.heap.size ≤ g) (r : RbEnd F' w3 b lb q p Z x w4) :
    ∃ ad c F'', RsIn F'' (FLr W w1) w w4 b lb x q p c 0 ad Z lA := by
  obtain ⟨k3, lg, h13, f'⟩ := o
  obtain ⟨ad, c, F'', k4, s4, l4, d4, x1, x2, x3, x4, i4, a1, a2, a3, a4⟩ := r
  have hw := kW.size
  have h34 := k4.size
  have f'' : ∀ g, F'' g → w1.heap.size ≤ g := fun g y => by
    rcases s4 g y with u | u
    · exact f' g u
    · omega
  refine ⟨ad, c, F'', k3.trans k4 (fun _ _ e => e) (fun g hg y => by have := f' g y; omega), fun g y => ⟨by have := f'' g y; omega, l4 g y⟩, fun g y => ⟨by have := y.1; omega, by have := y.2; omega⟩, fun g y z => by have := f'' g y; have := z.2; omega, ⟨by omega, x3, fun y => by have := y.2; omega⟩, ⟨by omega, a2, a3, fun y => by have := y.2; omega, a4⟩, d4, lg.keep k4 (fun g y z => by have := f' g z; have := y.2; omega), x4, i4⟩
theorem trestored_ok {F0 T : Nat → Prop} {b q0 p0 : Nat} {lv : Value} {m : Mf} {X0 : Dk} (w : World) (v : RvIn F0 T w b q0 p0 lv m X0) (h10 : 10 ≤ w.heap.size) :
    Calls Tryz.prog 19 #[.pointer (some ⟨b, 0, none⟩), .int .i64 1] w fun e w' => ∃ lb FL, e = .returned (.tuple #[.pointer (some ⟨lb, 0, none⟩), .bool true]) ∧ Keep Non w w' ∧ LgAt FL w' lb 2 lD := by
  have kW : Keep Non w (((w.alloc o0).alloc o1).alloc (o2 w.heap.size)) := (((Keep.refl _ _).alloc _).alloc _).alloc _
  have NW := Lib.hid (lgNew_ok _ 2 _ _ (v.lay.keepNon kW) (prat_two w) (by omega) (by omega) (by have := kW.size; omega))
  have KW := Lib.hid kW
  have V := Lib.hid v
  have BG := Lib.hid (fun F FL lb q p (W : World) (k : Keep Non w W) (d : StoreAt F W q p (dk0 1048576)) (hF : ∀ g, F g → g < W.heap.size) (lg : LgAt FL W lb 2 lA) => rbegin_ok F FL T b lb q0 q p lv m (ptOf 0 [(2, [])]) (dk0 1048576) zd1 lA W (nonAt k v.hb) (v.ms.keepNon k) (by rw [v.parts]; intro y hy; rcases List.mem_cons.1 hy with rfl | hy; exact digB_len _; cases hy) (by rw [v.parts]; decide) v.ok v.num v.lo v.hi v.trim v.parts rfl rfl d hF lg rfl rfl (dk0_free _).1 (dk0_has _ _) ((dk0_lim _).mono (by omega) (by omega) (by omega)) zd1_put)
  clear v kW
  unfold o0 o1 o2 at NW
  go_enter Tryz.func19, Tryz.ntmps19
  go_wp2_with (first
    | (go_at_call 21; refine NW.out.mono ?_; rintro e w1 ⟨lb, rfl, k1, l1⟩; have K1 := Lib.hid k1; have LG1 := Lib.hid l1; clear k1 l1)
    | (go_at_call 7; refine (dnew_any 1048576 w1 (by omega)).mono ?_; rintro e w2 ⟨p, rfl, k2, d2⟩; have K2 := Lib.hid k2; have D2 := Lib.hid d2; clear k2 d2)
    | (go_at_call 23; refine (sopen_dk0 _ p 1048576 w2 D2.out).mono ?_; rintro e w3 ⟨q, rfl, hq, k3, F', s3, d3⟩; have D3 := Lib.hid d3.low; have O3 := Lib.hid (rs_open (F' := fun g => F' g ∧ g < w3.heap.size) KW.out K1.out (by exact LG1.out) K2.out k3 (fun g y => s3 g y.1)); clear k3 s3 d3 hq)
    | (go_at_call 45; refine (BG.out _ _ lb q p w3 O3.out.1 D3.out (fun g y => y.2) O3.out.2.1).mono ?_; rintro e w4 ⟨x, rfl, r4⟩; obtain ⟨ad, c, F4, r5⟩ := rs_first KW.out K1.out.size O3.out r4; have R5 := Lib.hid r5; clear r4 r5)
    | (go_at_call 46; refine (rall_st V.out R5.out (zd1_lim.mono (by omega) (by omega) (by omega)) zd2_put zd2_mild zd2_lim.map zd2_del).mono ?_; rintro e w5 ⟨n5, rfl, r6⟩; have R6 := Lib.hid r6; clear r6)
    | (go_at_call 47; refine (rover_ok w5 R6.out.2.2).mono ?_; rintro e w6 ⟨rfl, rfl⟩))
  go_ret2
  obtain ⟨FL', l6⟩ := R6.out.2.1
  exact ⟨lb, FL', rfl, R6.out.1, l6⟩
def clH : List Cl := [(2, [])]
theorem slabH : slabL (bagL clH) 1 0 = [(2, [])] := by decide
theorem nextH : (bagL clH).next = 1 := by decide
theorem partsH {Z : Dk} {c : Cu} (h : PEnd (bagL clH) Z c) (h1 : c.hi = 1) : c.parts = [ptOf 0 [(2, [])]] := by
  have a := h.few
  have b := h.stand
  have l : c.parts.length = 1 := by omega
  have e := h.parts
  rw [l, h1] at e
  rw [e]
  show [ptOf (64 * 0) (slabL (bagL clH) 1 (64 * 0))] = _
  rw [show 64 * 0 = 0 from rfl, slabH]
theorem beginH : (dk0 16777216).sput cname (cuBy (cu00 1)) = (0, putX (dk0 16777216) cname (cuBy (cu00 1))) := by
  rcases begin_cases (dk0_ok 16777216) (n := 1) (by omega) with ⟨_, h⟩ | h
  · have hr : (dk0 16777216).room = 16777216 := rfl
    rw [hr] at h
    omega
  · exact h
theorem okmH {c : Cu} (h : c.parts = [ptOf 0 [(2, [])]]) (h1 : c.hi = 1) : okMf (exM c) := by
  have e : endPts 0 [ptOf 0 [(2, [])]] = 1 := rfl
  have ok := first_ok (lo := 0) (trim := 0) (ps := [ptOf 0 [(2, [])]]) (by decide) ⟨rfl, ptOf_ok (by simp) (fun y hy => by rcases List.mem_cons.1 hy with rfl | hy; exact hole_ok; cases hy) (by decide) (by omega), trivial⟩ (by rw [e]; omega) (by omega)
  rw [e] at ok
  unfold exM
  rw [h, h1]
  exact ok
def XpOut (w : World) (F : Nat → Prop) (b q p : Nat) (w' : World) : Prop := Keep (fun g => F g ∨ g = b) w w' ∧ ∃ F2 T v3 m X, RvIn F2 T w' b q p v3 m X
theorem xp_close {F F6 FL : Nat → Prop} {w w6 w7 : World} {x b lb q p : Nat} {c : Cu} {pv : Value} {Z : Dk} (k6 : Keep F w w6) (s6 : Sub F6 F w) (hxx : w.heap.size ≤ x) (hc : c.hi = 1) (o : CmOut F6 FL w6 x b lb q p c pv Z (bagL clH) w7) (pe : PEnd (bagL clH) Z c) (okm : okMf (exM c)) (hs : fhas Z.shown (labelN 0 0) = true ∧ fget Z.shown (labelN 0 0) = segB 0 [(2, [])]) :
    Calls Tryz.prog 42 #[.pointer (some ⟨p, 0, none⟩)] w7 fun e w' => e = .returned (.tuple #[]) ∧ XpOut w F b q p w' := by
  obtain ⟨F7, v3, T, s7, k7, e7, ms7, hT7⟩ := o
  obtain ⟨G, dG, hG⟩ := e7.st.dk
  refine (dstart_up G p Z w7 dG pe.free.1).mono ?_
  rintro e w8 ⟨rfl, t⟩
  have t8 := StoreTo.of t e7.st.blk e7.st.inF hG
  obtain ⟨k8, F8, s8, d8⟩ := t8
  have k67 := k6.size
  have k77 := k7.size
  refine ⟨rfl, ?_, F8, T, v3, exM c, { Z with fuse := -1 }, ?_⟩
  · refine (k6.trans k7 (fun _ _ y => .inl y) (fun g hg y => ?_)).trans k8 (fun _ _ y => y) (fun g hg y => ?_)
    · rcases y with y | y | y
      · rcases s6 g y with u | u
        · exact .inl u
        · omega
      · omega
      · exact .inr y
    · rcases s7 g y with u | u
      · rcases s6 g u with u | u
        · exact .inl u
        · omega
      · omega
  · have hp := partsH pe hc
    refine ⟨k8.at e7.vt e7.out.2.1, d8, pe.free.1, e7.lay.keep k8 (fun g y z => by have := (e7.low g z).1; omega), ms7.keep k8 (fun g y => (hT7 g y).1), okm, rfl, rfl, hc, rfl, hp, hs.1, hs.2⟩
def Cont (L : Lg) (X : Dk) (hi n : Nat) : Prop := ∀ i, i < n → fhas X.shown (labelN 0 i) = true ∧ fget X.shown (labelN 0 i) = segB (64 * i) (slabL L hi (64 * i))
theorem Cont.put {L : Lg} {X : Dk} {hi n : Nat} {m b : Byt} (h : Cont L X hi n) (hn : ∀ i, labelN 0 i ≠ m) (h10 : n ≤ 10) : Cont L (putX X m b) hi n := fun i hi' => by
  have ho := label_ok 0 i (by omega) (by omega)
  exact ⟨by rw [putX_has ho (hn i)]; exact (h i hi').1, by rw [putX_get ho (hn i)]; exact (h i hi').2⟩
theorem Cont.del {L : Lg} {Y : Dk} {hi n : Nat} (h : Cont L Y hi n) (hf : Y.free) (hh : fhas Y.shown cname = true) : Cont L (Y.sdel cname).2 hi n := fun i hi' => by
  rw [sdel_free hf, if_pos hh]
  exact ⟨by show fhas (fdel Y.shown cname) _ = true; rw [fhas_del_other (lab_cur 0 i)]; exact (h i hi').1, by show fget (fdel Y.shown cname) _ = _; rw [fget_del_other (lab_cur 0 i)]; exact (h i hi').2⟩
def FullOut (F FL : Nat → Prop) (w : World) (x b lb q p hi : Nat) (L : Lg) (v : Value) (w' : World) : Prop :=
  v = .nilIface ∧ ∃ c pv Z, c.hi = hi ∧ CmOut F FL w x b lb q p c pv Z L w' ∧ PEnd L Z c ∧ Cont L Z hi c.parts.length
theorem xall_room {F FL : Nat → Prop} {x b lb q p : Nat} {c : Cu} {pv : Value} {X : Dk} {L : Lg} (w : World) (h : ExSt F FL w x b lb q p (.slice none 0 0) c pv false X L) (hi : PInv L X c) (hl : Log1 L) (h3 : ∀ a, (cellL L a).1 ≠ 3) (hroom : 1000000 ≤ X.room) (hc1 : c.hi ≤ 64) (hc0 : Cont L X c.hi c.parts.length) :
    Calls Tryz.prog 11 #[.pointer (some ⟨x, 0, none⟩)] w fun e w' => ∃ (n : Nat) (v : Value), e = .returned (.tuple #[.int .i64 n, v]) ∧ FullOut F FL w x b lb q p c.hi L v w' := by
  refine xall_any x w (c.hi - c.next) (by have := hi.hi; omega) (fun j W => ∃ F' c' pv' X', j = c'.hi - c'.next ∧ Sub F' F w ∧ Keep (fun g => F g ∨ g = x) w W ∧ ExSt F' FL W x b lb q p (.slice none 0 0) c' pv' false X' L ∧ PInv L X' c' ∧ c'.hi = c.hi ∧ X'.room = X.room ∧ Cont L X' c.hi c'.parts.length) (FullOut F FL w x b lb q p c.hi L) ⟨F, c, pv, X, rfl, Sub.refl _ _, Keep.refl _ _, h, hi, rfl, rfl, hc0⟩ ?_
  rintro j W ⟨F', c', pv', X', rfl, s, k, h', hi', e1, e2, hc⟩
  obtain ⟨pa, pc, rfl, _, _⟩ := ownsRow_form h'.row
  have ks : ∀ W', Keep Non W W' → ExSt F' FL W' x b lb q p (.slice none 0 0) c' (.slice pa c'.parts.length pc) false X' L ∧ Keep (fun g => F g ∨ g = x) w W' ∧ Sub F' F w := fun W' kk => ⟨h'.keep kk (fun _ _ e => e), k.trans1 kk.ofNon, s⟩
  have h10 : c'.parts.length ≤ 2 := by have := hi'.few; omega
  by_cases hd : c'.next = c'.hi
  · rcases hi'.three hd with ⟨ep, hr⟩ | ⟨ep, hm, hmap, hdel, hend⟩
    · omega
    · have hcy : Cont L (putX X' (titleN 0) (mfBy (exM c'))) c.hi c'.parts.length := hc.put (fun i => lab_tit 0 i 0) (by omega)
      have hh : fhas (putX X' (titleN 0) (mfBy (exM c'))).shown cname = true := by rw [putX_has cname_ok (cur_tit 0)]; exact hi'.cur.1
      have hcz := hcy.del (putX_free hi'.free _ _) hh
      refine (xstep_commit (fun w' => FullOut F FL w x b lb q p c.hi L .nilIface w') W h'.ex hd (fun W' kk => (xcommit_ok W' (ks W' kk).1 hi' hd _ ep hm hmap hdel).mono ?_)).mono ?_
      · rintro e w' ⟨rfl, o⟩
        exact ⟨rfl, rfl, c', _, _, e1, CmOut.trans s (ks W' kk).2.1 o, hend, hcz⟩
      · rintro e w' ⟨rfl, o⟩
        exact .inr (.inl ⟨rfl, o⟩)
  · have hlt : c'.next < c'.hi := by have := hi'.ok.le; omega
    have hnx : c'.next = 64 * c'.parts.length := by have := hi'.stand; omega
    rcases hi'.one hl with ⟨ep, hr⟩ | ep
    · omega
    · have hcd : (X'.sput (labelN 0 c'.parts.length) (segB c'.next (slabL L c'.hi c'.next))).1 = 0 := by rw [ep]
      have hsp := putX_of ep
      rcases hi'.two hl h3 hlt ep with ⟨ep2, hr⟩ | ⟨ep2, hi2⟩
      · omega
      · have hcx : Cont L (putX (putX X' (labelN 0 c'.parts.length) (segB c'.next (slabL L c'.hi c'.next))) cname (cuBy (partCu L c'))) c.hi (partCu L c').parts.length := by
          have hln : (partCu L c').parts.length = c'.parts.length + 1 := by simp [partCu]
          rw [hln]
          refine Cont.put (fun i hi4 => ?_) (fun i => lab_cur 0 i) (by omega)
          by_cases hii : i = c'.parts.length
          · subst hii
            rw [← hnx, ← e1]
            exact ⟨putX_has_same hi'.lim.map, putX_get_same hi'.lim.map⟩
          · have hcc := hc i (by omega)
            have hne : labelN 0 i ≠ labelN 0 c'.parts.length := lab_ne (by omega) (by omega) hii
            exact ⟨by rw [putX_has (label_ok 0 i (by omega) (by omega)) hne]; exact hcc.1, by rw [putX_get (label_ok 0 i (by omega) (by omega)) hne]; exact hcc.2⟩
        refine (xstep_part .nilIface (fun w' => ExOut F FL w x b lb q p (.slice none 0 0) (partCu L c') false (putX (putX X' (labelN 0 c'.parts.length) (segB c'.next (slabL L c'.hi c'.next))) cname (cuBy (partCu L c'))) L w') W h'.ex hd (fun W' kk => (xpart_any W' (ks W' kk).1 hi' hl h3 hlt hcd 0 (by rw [hsp, ep2])).mono ?_)).mono ?_
        · rintro e w' ⟨rfl, o⟩
          rw [if_pos rfl, hsp, ep2] at o
          exact ⟨rfl, ExOut.trans s (ks W' kk).2.1 o⟩
        · rintro e w' ⟨rfl, F2, pv2, s2, k2, st2⟩
          refine .inl ⟨(partCu L c').hi - (partCu L c').next, ?_, rfl, F2, _, pv2, _, rfl, s2, k2, st2, hi2, by rw [← e1]; rfl, by rw [← e2]; rfl, hcx⟩
          show c'.hi - (c'.next + (slabL L c'.hi c'.next).length) < c'.hi - c'.next
          rw [slab_len]
          omega
theorem texported_ok {F FL : Nat → Prop} {b lb q p : Nat} (w : World) (h : VtSt F FL w b lb q p (dk0 16777216) (bagL clH)) :
    Calls Tryz.prog 18 #[.pointer (some ⟨b, 0, none⟩), .pointer (some ⟨lb, 0, none⟩), .pointer (some ⟨p, 0, none⟩), .int .i64 1, .slice none 0 0] w fun e w' => e = .returned (.tuple #[.pointer (some ⟨b, 0, none⟩), .bool true]) ∧ XpOut w F b q p w' := by
  have FL0 := bagL_filled clH (by decide)
  have L1 := FL0.log (by decide)
  have PI := begin_inv (L := bagL clH) (dk0_ok 16777216) (n := 1) (by omega) (by omega) beginH
  have hcd1 : ((dk0 16777216).sput cname (cuBy (cu00 1))).1 = 0 := by rw [beginH]
  have hcd2 : ((dk0 16777216).sput cname (cuBy (cu00 1))).2 = putX (dk0 16777216) cname (cuBy (cu00 1)) := by rw [beginH]
  have BG := Lib.hid (xbegin_ok w h (dk0_ok _) L1 FL0.l 1 (by omega) (by rw [nextH]; exact Nat.le_refl _) 0 hcd1)
  have AL := Lib.hid (fun F' x W (e : ExSt F' FL W x b lb q p (.slice none 0 0) (cu00 1) (.slice none 0 0) false (putX (dk0 16777216) cname (cuBy (cu00 1))) (bagL clH)) => xall_room W e PI L1 FL0.not3 (by show 1000000 ≤ 16777216; omega) (by show 1 ≤ 64; omega) (fun i hi => by cases hi))
  have H := Lib.hid h
  have HC := Lib.hid hcd2
  clear h L1 PI hcd1 hcd2 FL0
  go_enter Tryz.func18, Tryz.ntmps18
  go_wp2_with (go_at_call 9; refine BG.out.mono ?_; rintro e w6 ⟨x, he, -, k6, F6, s6, l6, st6, hx6⟩; obtain rfl := he rfl; obtain ⟨hxx, nx, xb⟩ := hx6 rfl; rw [HC.out] at st6; have ALW := Lib.hid (AL.out F6 x w6 (ex_first H.out k6 s6 l6 st6 hxx nx xb)); have K6 := Lib.hid k6; have S6 := Lib.hid s6; have XX := Lib.hid hxx; clear he k6 s6 l6 st6 hx6 hxx nx xb)
  refine wp_loop_rounds 1 ?_
  rw [rounds_succ]
  go_wp2_with (first
    | (go_at_call 11; refine ALW.out.mono ?_; rintro e w7 ⟨k, v, rfl, rfl, c, pv, Z, hi, o, pe, ct⟩; have DS := Lib.hid (xp_close K6.out S6.out XX.out hi o pe (okmH (partsH pe hi) hi) (by have e := ct 0 (by rw [partsH pe hi]; decide); rw [show (64 * 0 : Nat) = 0 from rfl] at e; rw [show (cu00 1).hi = 1 from rfl, slabH] at e; exact e)); clear hi o pe ct)
    | (go_at_call 42; refine DS.out.mono ?_; rintro e w8 ⟨rfl, o8⟩; have O8 := Lib.hid o8; clear o8))
  go_ret2
  exact ⟨rfl, O8.out⟩
theorem tbegin_low (v : Value) (cl : List Cl) (w : World) (hc : CellsIn w v cl) (hn : cl.length ≤ 200) (hlay : Lay w) (h10 : 10 ≤ w.heap.size) :
    Calls Tryz.prog 6 #[v] w fun e w' => ∃ lb b p q F FL, e = .returned (.tuple #[.pointer (some ⟨lb, 0, none⟩), .pointer (some ⟨b, 0, none⟩), .pointer (some ⟨p, 0, none⟩), .bool true]) ∧ Keep Non w w' ∧ VtSt F FL w' b lb q p (dk0 16777216) (bagL cl) ∧ ∀ g, (F g ∨ g = b) → w.heap.size ≤ g := by
  have H := Lib.hid hc
  have HL := Lib.hid hlay
  have NW := Lib.hid (lgNew_ok _ 1 _ _ (hlay.keepNon (((Keep.refl Non w).alloc _).alloc _)) (prat_one w) (by omega) (by omega) (by simp; omega))
  obtain ⟨a, c, rfl, hx⟩ := hc
  clear hx hlay
  go_enter Tryz.func6, Tryz.ntmps6
  go_wp2_with (first
    | (go_at_call 21; refine NW.out.mono ?_; rintro e w1 ⟨lb, rfl, k1, l1⟩; have K1 := Lib.hid ((((Keep.refl Non w).alloc _).alloc _).trans1 k1); have Z1 : Hid (w.heap.size + 2 ≤ w1.heap.size) := Lib.hid (by have := k1.size; simpa using this); have LG1 := Lib.hid l1; clear k1 l1)
    | (go_at_call 7; refine (dnew_any 16777216 w1 (by omega)).mono ?_; rintro e w2 ⟨p, rfl, k2, d2⟩; have K2 := Lib.hid k2; have D2 := Lib.hid d2; clear k2 d2)
    | (go_at_call 8; refine (vopen_ok _ p (dk0 16777216) 0 0 0 w2 D2.out (dk0_free _) (dk0_lim _) (by omega) (by omega) (by omega) (dk0_ok _).tidy (dk0_has _ _)).mono ?_; rintro e w3 ⟨b, q, rfl, vb, k3, hb, F3, s3, nb, l3, st3⟩; have K3 := Lib.hid k3; have VB := Lib.hid vb; have S3 := Lib.hid (And.intro s3 (And.intro nb (And.intro l3 hb))); have ST3 := Lib.hid st3; clear vb k3 hb s3 nb l3 st3))
  have K23 : Hid (Keep Non w1 w3) := Lib.hid (K2.out.trans K3.out (fun _ _ e => e) (fun g hg e => by have := e.1; omega))
  have L3 : Hid (LgAt (fun g => w.heap.size + 2 ≤ g ∧ g < w1.heap.size) w3 lb 1 (bagL [])) := Lib.hid ((LG1.out.keepNon K23.out).mono (fun g y _ => ⟨by have := y.1; simp at this; omega, y.2⟩))
  have KW3 := Lib.hid (K1.out.trans1 K23.out)
  go_loopw [49] (fun i wr => ∃ j : Nat, j ≤ cl.length ∧ i = .int .i64 j ∧ LgTo (fun g => w.heap.size + 2 ≤ g ∧ g < w1.heap.size) w3 lb 1 (bagL (cl.take j)) wr) (fun i _ => cl.length - (intOf i).toNat)
  case atStart => exact ⟨0, by omega, rfl, LgTo.refl L3.out (Keep.refl _ _)⟩
  case round =>
    obtain ⟨j, hj, rfl, tj⟩ := hrel
    have TJ := Lib.hid tj
    obtain ⟨kj, FJ, sj, lj⟩ := tj
    have hz3 := K23.out.size
    have CJ := H.out.keep (S := fun g => w.heap.size ≤ g) ((KW3.out.mono (S := Non) (T := fun g => w.heap.size ≤ g) (fun _ _ e => e.elim)).trans kj (fun _ _ e => e) (fun g hg e => by have := e.1; omega)) (fun g hg e => by omega)
    have CJH := Lib.hid CJ
    clear kj sj lj CJ
    by_cases hlt : j < cl.length
    · have hlj : (j : Int) < (cl.length : Int) := by omega
      obtain ⟨a1, c1, e1, hx⟩ := CJH.out
      injection e1 with e1 e3 e4
      subst e1
      subst e4
      obtain ⟨g, off, sa, sc, rfl, h2, h3, h4, h5, h6⟩ := hx j hlt
      obtain ⟨kj, FJ, sj, lj⟩ := TJ.out
      have hFJ : ∀ g, FJ g → w.heap.size ≤ g := fun g y => by
        rcases sj g y with u | u
        · omega
        · have := KW3.out.size; omega
      have hst : bagL (cl.take (j + 1)) = putL (bagL (cl.take j)) j cl[j] := by
        rw [List.take_add_one, List.getElem?_eq_getElem hlt]
        show putN _ 0 (cl.take j ++ [cl[j]]) = _
        rw [putN_snoc, List.length_take, Nat.zero_add, Nat.min_eq_left (by omega)]
        rfl
      have hfl : Filled (bagL (cl.take j)) j := by
        have := bagL_filled (cl.take j) (by rw [List.length_take]; omega)
        rwa [List.length_take, Nat.min_eq_left (by omega)] at this
      have PU : Hid (∀ W, Keep Non wr W → Calls Tryz.prog 22 #[.pointer (some ⟨lb, 0, none⟩), .int .i64 j, .agg #[.int .i64 cl[j].1, .slice sa cl[j].2.length sc]] W fun r w' => (∃ e, r = .returned (errv e)) ∧ LgTo FJ W lb 1 (putL (bagL (cl.take j)) j cl[j]) w') := Lib.hid (fun W k => by
        refine lput_any W (lj.keepNon k) hfl (by omega) (HL.out.keep (S := fun g => w.heap.size ≤ g) ((KW3.out.mono (T := fun g => w.heap.size ≤ g) (fun _ _ e => e.elim)).trans (kj.trans1 k.ofNon) (fun _ _ e => e) (fun g hg e => by have := e.1; omega)) (fun g hg e => by omega)) (Rd.keepNon h5 k) (by
          rcases h6 with h6 | h6
          · exact .inl h6
          by_cases hne : cl[j].2 = []
          · exact .inl hne
          refine .inr (fun g e => ⟨fun y => ?_, k.lt (h6 g e)⟩)
          have hown : g < w.heap.size := by
            obtain ⟨_, _, e1, hx0⟩ := H.out
            injection e1 with e1 _ _
            obtain ⟨g1, off1, sa1, sc1, q1, q2, q3, q4, q5, q6⟩ := hx0 j hlt
            rw [← e1] at q1
            injection q1 with q1
            injection q1 with q1 q1'
            subst q1
            subst q1'
            have kk : Keep (fun g => w.heap.size ≤ g) w wr := (KW3.out.mono (T := fun g => w.heap.size ≤ g) (fun _ _ e => e.elim)).trans kj (fun _ _ e => e) (fun g hg e => by have := e.1; omega)
            have h4' := cell_keepS kk (by omega) q4
            rw [h4] at h4'
            injection h4' with h4'
            rw [h4'] at e
            exact (q6.resolve_left hne) g e
          have := hFJ g y
          omega))
      have HJ := Lib.hid (And.intro kj sj)
      have HST := Lib.hid hst
      clear h5 h6 hx lj hfl kj sj hst
      generalize cl[j] = y at h3 h4 PU HST
      go_wp2_with (go_at_call 22; refine (PU.out _ ((Keep.refl _ _).alloc _)).mono ?_; rintro e w5 ⟨⟨ee, rfl⟩, t5⟩; have T5 := Lib.hid t5; clear t5)
      refine ⟨⟨j + 1, by omega, by first | rfl | go_num, ?_⟩, by simp [intOf]; omega⟩
      rw [HST.out]
      exact LgTo.trans HJ.out.2 HJ.out.1 (LgTo.pre ((Keep.refl _ _).alloc _) T5.out)
    · obtain rfl : j = cl.length := by omega
      rw [List.take_length] at TJ
      go_wp2_with fail
      refine bodyPost_ret (v := .tuple #[.pointer (some ⟨lb, 0, none⟩), .pointer (some ⟨b, 0, none⟩), .pointer (some ⟨p, 0, none⟩), .bool true]) (by simp [results, Tryz.results6, go_sem]) rfl ?_
      obtain ⟨kj, FJ, sj, lj⟩ := TJ.out
      have h1 := K1.out.size
      have h2 := K2.out.size
      have h3 := K3.out.size
      have hw : w.heap.size ≤ w3.heap.size := KW3.out.size
      have hz := Z1.out
      have hF : ∀ g, F3 g → w1.heap.size ≤ g ∧ g < w3.heap.size := fun g y => by
        have := S3.out.2.2.1 g y
        rcases S3.out.1 g y with u | u
        · exact ⟨u.1, this⟩
        · exact ⟨by omega, this⟩
      have hbb := S3.out.2.2.2
      have kw : Keep Non w wr := KW3.out.trans kj (fun _ _ e => e) (fun g hg e => by have := e.1; omega)
      refine ⟨lb, b, p, q, F3, fun g => FJ g ∧ g < wr.heap.size, rfl, kw, ⟨kj.at VB.out (fun e => by have := e.2; omega), ST3.out.keep kj (fun g y e => by have := hF g y; have := e.2; omega), lj.low, HL.out.keepNon kw, ⟨S3.out.2.1, fun y => ?_, by omega⟩, fun g y z => ?_, fun g y => ⟨by have := hF g y; omega, by have := hF g y; have := kj.size; omega⟩, fun g y => y.2⟩, fun g y => y.elim (fun y => by have := hF g y; omega) (fun e => by omega)⟩
      · have hb3 : b < w3.heap.size := lt_of_block VB.out
        rcases sj b y.1 with u | u
        · have := u.2; omega
        · omega
      · have := hF g y
        rcases sj g z.1 with u | u
        · have := u.2; omega
        · omega
theorem full_any (hbk : ∀ W, Lay W → 10 ≤ W.heap.size → Calls Tryz.prog 4 #[] W fun e w' => e = .returned (.bool true) ∧ Keep Non W w')
    (v : Value) (cl : List Cl) (room n : Int) (w : World) (hc : CellsIn w v cl) (hm : cl.length ≤ 9223372036854775807) (hlay : Lay w) (h10 : 10 ≤ w.heap.size) :
    Calls Tryz.prog 3 #[v, .int .i64 room, .int .i64 n] w fun e w' => e = .returned (.bool true) ∧ Keep Non w w' := by
  by_cases hl : longL cl = true ∨ room < 0 ∨ 16777216 < room
  · exact full_long hbk v cl room n w hc hm hlay h10 hl
  · have h1 : longL cl = false := by
      cases h : longL cl
      · rfl
      · exact absurd (.inl h) hl
    have h2 : 0 ≤ room := by
      rcases Int.lt_or_le room 0 with h | h
      · exact absurd (.inr (.inl h)) hl
      · exact h
    have h3 : room ≤ 16777216 := by
      rcases Int.lt_or_le 16777216 room with h | h
      · exact absurd (.inr (.inr h)) hl
      · exact h
    have hn : cl.length ≤ 200 := by
      unfold longL at h1
      rw [Bool.or_eq_false_iff] at h1
      have := of_decide_eq_false h1.2
      omega
    by_cases hr : 0 < n ∧ n ≤ (bagL cl).next
    · have hn' : n = n.toNat := by omega
      have h200 : n.toNat ≤ 200 := by have := ((bagL_filled cl hn).log hn).next; omega
      rcases begin_cases (dk0_ok room.toNat) h200 with ⟨e, _⟩ | e
      · exact full_nosave hbk v cl room n w hc hm hlay h10 h1 hn h2 h3 n.toNat hn' (by omega) (by omega) (by rw [e])
      · exact full_go hbk v cl room n w hc hm hlay h10 h1 hn h2 h3 n.toNat hn' (by omega) (by omega) e
    · exact full_range hbk v cl room n w hc hm hlay h10 h1 hn h2 h3 hr
end Go.Proofs.YtobjlgfjfpmceaaGreatDoor
