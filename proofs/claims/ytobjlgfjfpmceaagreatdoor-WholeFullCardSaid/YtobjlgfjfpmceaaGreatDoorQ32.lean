/- chain.Next behind no manifest: walked. · slog: put, spread, Put where the act goes well: walked (printed by wip/logp.py). · slog: spread, Put, Read: w -/
import Derived.Test.YtobjlgfjfpmceaaGreatDoorQ30
set_option linter.unusedVariables false
set_option maxRecDepth 100000
set_option maxHeartbeats 16000000
namespace Go.Proofs.YtobjlgfjfpmceaaGreatDoor
open Go.RowKit
theorem mf_set2 {w : World} {b : Nat} {m : Mf} {pv : Value} (h : w.heap[b]? = some (MfB m pv)) (n : Nat) : (w.setCell ⟨b, 2, none⟩ (.int .i64 n)).heap[b]? = some (MfB { m with hi := n } pv) := blk_set h 2 _
def zD : List UInt8 := List.replicate 32 0
theorem store_zD (w : World) : (holdW 81 ⟨w.heap.size, 0, none⟩ (arrV zD)).run Tryz.prog (w.alloc (.cells z32 81)) = .ok () (w.alloc (.cells z32 81)) := by
  have h := store_z32 w
  rw [z32_eq] at h
  exact h
theorem load_zD (w : World) : (holdV 81 ⟨w.heap.size, 0, none⟩).run Tryz.prog (w.alloc (.cells z32 81)) = .ok (arrV zD) (w.alloc (.cells z32 81)) := load_z32 w
def firstM (lo hi trim : Nat) (ps : List Pt) : Mf := ⟨0, lo, hi, trim, List.replicate 32 0, ps⟩
theorem build_first (lo trim : Nat) (ps : List Pt) (a : Option Addr) (n c : Nat) (w : World) : (holdB 83 #[(0, .int .i64 0), (1, .int .i64 lo), (2, .int .i64 lo), (3, .int .i64 trim), (4, arrV zD), (5, .slice a n c)]).run Tryz.prog w = .ok (mfV (firstM lo lo trim ps) (.slice a n c)) w :=
  run_build w 83 _ _ (by kernel_rfl)
def NxEnd (w : World) (m : Mf) (v : Value) (b : Nat) (W : World) : Prop :=
  W.heap[b]? = some (MfB m v) ∧ W.heap[w.heap.size]? = some (.cells zMf 83 (0, 0)) ∧ Keep Non w W ∧ w.heap.size < b ∧ (∀ g, v.ownBlock = some g → w.heap.size < g ∧ g ≠ b) ∧ W.ownsRow w.heap.size 101 35 v m.parts.length (ptsC m.parts)
theorem nx_A {w wB w3 : World} {m : Mf} {a : Option Addr} {c : Nat} (kB : Keep Non w wB) (br : wB.heap[w.heap.size]? = some (.cells zMf 83 (0, 0))) (k3 : Keep Non wB w3) (o : w3.ownsRow wB.heap.size 101 35 (.slice a m.parts.length c) m.parts.length (ptsC m.parts)) :
    NxEnd w m (.slice a m.parts.length c) w3.heap.size (w3.alloc (MfB m (.slice a m.parts.length c))) := by
  have k : Keep Non w3 (w3.alloc (MfB m (.slice a m.parts.length c))) := (Keep.refl _ _).alloc _
  have hb := lt_of_block br
  have h3 := k3.size
  exact ⟨blk_new _ _, nonAt k (nonAt k3 br), (kB.trans1 k3).trans1 k, by omega, fun g e => by have := o.lt g e; omega, ownsRow_low (ownsRow_keep o k (fun _ _ e => e)) (by omega)⟩
theorem nx_B {w wB w3 : World} {m : Mf} {a : Option Addr} {c : Nat} (kB : Keep Non w wB) (br : wB.heap[w.heap.size]? = some (.cells zMf 83 (0, 0))) (k3 : Keep Non wB w3) (z3 : w3.heap[wB.heap.size]? = some (.cells zMf 83 (0, 0))) (o : w3.ownsRow (wB.heap.size + 1) 101 35 (.slice a m.parts.length c) m.parts.length (ptsC m.parts)) :
    NxEnd w m (.slice a m.parts.length c) wB.heap.size (w3.setRow wB.heap.size (mfC m (.slice a m.parts.length c)).toArray) := by
  have hb := lt_of_block br
  have k : Keep (One wB.heap.size) w3 (w3.setRow wB.heap.size (mfC m (.slice a m.parts.length c)).toArray) := (Keep.refl (One _) _).setRow (.inl (one_self _)) _
  exact ⟨setRow_heap _ _ _ _ _ _ z3, k.at (nonAt k3 br) (by unfold One; omega), (kB.trans1 k3).trans k (fun _ _ e => e) (fun g hg e => by have e' : g = wB.heap.size := e; have := kB.size; omega), hb, fun g e => by have := (o.lt g e).1; omega, ownsRow_low (ownsRow_keep o k (fun g e e2 => by have e' : g = wB.heap.size := e2; have := (o.lt g e).1; omega)) (by omega)⟩
theorem nx_step {w wr : World} {m : Mf} {v : Value} {b : Nat} (h : NxEnd w m v b wr) (o : Obj) (n : Nat) : NxEnd w { m with hi := n } v b ((wr.alloc o).setCell ⟨b, 2, none⟩ (.int .i64 n)) := by
  obtain ⟨h1, h2, h3, h4, h5, h6⟩ := h
  have k : Keep Non wr (wr.alloc o) := (Keep.refl _ _).alloc _
  have k2 : Keep (One b) (wr.alloc o) ((wr.alloc o).setCell ⟨b, 2, none⟩ (.int .i64 n)) := (Keep.refl _ _).setOne _ _
  exact ⟨mf_set2 (nonAt k h1) n, k2.at (nonAt k h2) (by unfold One; omega), (h3.trans1 k).trans k2 (fun _ _ e => e) (fun g hg e => by have e' : g = b := e; omega), h4, h5, ownsRow_keep (ownsRow_keep h6 k (fun _ _ e => e)) k2 (fun g e e2 => (h5 g e).2 e2)⟩
theorem first_ok {lo trim : Nat} {ps : List Pt} (h64 : ps.length ≤ 64) (hok : okPts lo ps) (hhi : endPts lo ps ≤ 1048576) (htr : trim ≤ 1048576) : okMf (firstM lo (endPts lo ps) trim ps) where
  num := by show 0 ≤ 999999; decide
  hi := hhi
  trim := htr
  prev := List.length_replicate ..
  zero := fun _ => by show isZ (List.replicate 32 0) = true; unfold isZ; exact beq_self_eq_true _
  many := Nat.le_trans h64 (by decide)
  parts := hok
  stop := rfl
section
attribute [local go_sem ↓] hV81 hV101 hV83 hW81 hW101 hW83 hB101 hB83
theorem chnext_nil (a : Option Addr) (c lo trim : Nat) (pv : Value) (ps : List Pt) (w : World) (hp : PtsAt w pv ps) (h32 : pts32 ps) (h64 : ps.length ≤ 64) (hok : okPts lo ps) (hhi : endPts lo ps ≤ 1048576) (htr : trim ≤ 1048576) :
    Calls Tryz.prog 146 #[.slice a 0 c, .int .i64 lo, .int .i64 trim, pv] w fun e w' => ∃ v', e = .returned (.tuple #[mfV (firstM lo (endPts lo ps) trim ps) v', .nilIface]) ∧ Keep Non w w' ∧ w'.ownsRow w.heap.size 101 35 v' ps.length (ptsC ps) := by
  have CL := Lib.hid (fun w1 (k : Keep Non w w1) => clone_pts pv ps w1 (hp.keepNon k) h32 (by omega))
  have PA := Lib.hid hp
  obtain ⟨ra, rc, rfl, _, _, _⟩ := hp
  have hbu := fun a n c => build_first lo trim ps a n c
  have C1 := Lib.hid (fun W => chcheck_nil a c W)
  have H1 : Hid (∀ W, Calls Tryz.prog 132 #[.slice a 0 c] W fun e w' => e = .returned (.tuple #[arrV zD, .nilIface]) ∧ Keep Non W w') := Lib.hid (fun W => chhead_nil a c W)
  go_enter Tryz.func146, Tryz.ntmps146
  go_wp2_with (first
    | (go_at_call 27; refine (C1.out _).mono ?_; rintro e w1 ⟨rfl, k1⟩; have b1 : w1.heap[w.heap.size]? = some (.cells zMf 83 (0, 0)) := nonAt k1 (by exact blk_new w (.cells zMf 83 (0, 0))); have B1 := Lib.hid b1; have K1 := Lib.hid (((Keep.refl Non w).alloc _).trans1 k1); clear k1 b1)
    | (go_at_call 132; refine (H1.out _).mono ?_; rintro e w2 ⟨rfl, k2⟩; have B2 := Lib.hid (nonAt k2 B1.out); have K2 := Lib.hid (K1.out.trans1 k2); have hs2 := store_zD w2; have hl2 := load_zD w2; dsimp only [z32] at hs2 hl2; clear k2))
  have kB : Keep Non w (w2.alloc (.cells z32 81)) := K2.out.trans1 ((Keep.refl _ _).alloc _)
  have bh : (w2.alloc (.cells z32 81)).heap[w2.heap.size]? = some (.cells z32 81 (0, 0)) := blk_new _ _
  have br : (w2.alloc (.cells z32 81)).heap[w.heap.size]? = some (.cells zMf 83 (0, 0)) := nonAt ((Keep.refl _ _).alloc _) B2.out
  obtain ⟨wB, hwB⟩ : ∃ wB, wB = w2.alloc (.cells z32 81) := ⟨_, rfl⟩
  rw [← hwB] at kB bh br
  dsimp only [z32] at hwB
  rw [← hwB]
  clear hwB hs2 hl2
  have ldH : ∀ W : World, W.heap[w2.heap.size]? = some (.cells z32 81 (0, 0)) → (holdV 81 ⟨w2.heap.size, 0, none⟩).run Tryz.prog W = .ok (arrV zD) W := fun W h => load81 W _ 0 zD rfl (fun j v hv => by
    rw [Nat.zero_add, cell_of_row _ _ j _ _ _ h]
    have e : z32 = (zD.map bv).toArray := by kernel_rfl
    rw [e]
    simpa using hv)
  have kz : ∀ W : World, Keep Non W (W.alloc (.cells zMf 83)) := fun W => (Keep.refl _ _).alloc _
  have lB := ldH wB bh
  have lBd := ldH wB.drew bh
  have lBz := ldH _ (nonAt (kz wB) bh)
  have lBzd := ldH (wB.alloc (.cells zMf 83)).drew (nonAt (kz wB).drew bh)
  have CA := Lib.hid (CL.out wB.drew (kB.trans1 (Keep.refl Non wB).drew))
  have CB := Lib.hid (CL.out (wB.alloc (.cells zMf 83)).drew (kB.trans1 (kz wB).drew))
  have NB := Lib.hid (blk_new wB (.cells zMf 83 (0, 0)))
  dsimp only [zMf] at lBz lBzd CB
  have LH := Lib.hid ldH
  have KZ := Lib.hid kz
  have KB := Lib.hid kB
  have BH := Lib.hid bh
  have BR := Lib.hid br
  have SB : Hid (w.heap.size < wB.heap.size) := Lib.hid (lt_of_block br)
  clear ldH kz kB bh br
  go_region_law (go_simp; go_at_call 38; first
    | ((with_reducible refine CA.out.mono ?_); rintro e w3 ⟨v3, rfl, k3, o3⟩; obtain ⟨a3, c3, rfl, _, _⟩ := ownsRow_form o3; have k3' := ((Keep.refl Non wB).drew).trans1 k3; have l3 := LH.out w3 (nonAt k3' BH.out); have l3z := LH.out _ (nonAt (KZ.out w3) (nonAt k3' BH.out)); have hst := store_mf0 w3 (firstM lo lo trim ps) a3 ps.length c3 rfl; dsimp only [zMf, MfB] at hst l3z; have K3 := Lib.hid k3'; have O3 : Hid (w3.ownsRow wB.heap.size 101 35 (.slice a3 ps.length c3) ps.length (ptsC ps)) := Lib.hid o3; have E : Hid (NxEnd w (firstM lo lo trim ps) (.slice a3 ps.length c3) w3.heap.size (w3.alloc (.cells (mfC (firstM lo lo trim ps) (.slice a3 ps.length c3)).toArray 83))) := Lib.hid (nx_A (m := firstM lo lo trim ps) KB.out BR.out k3' o3); clear k3 k3' o3)
    | ((with_reducible refine CB.out.mono ?_); rintro e w3 ⟨v3, rfl, k3, o3⟩; obtain ⟨a3, c3, rfl, _, _⟩ := ownsRow_form o3; have k3' := ((KZ.out wB).drew).trans1 k3; have l3 := LH.out w3 (nonAt k3' BH.out); have z3 := nonAt k3 NB.out; have hst := store_mf w3 wB.heap.size (firstM lo lo trim ps) a3 ps.length c3 zMf rfl rfl z3; have o3' : w3.ownsRow (wB.heap.size + 1) 101 35 (.slice a3 ps.length c3) ps.length (ptsC ps) := (by simpa using o3); have E : Hid (NxEnd w (firstM lo lo trim ps) (.slice a3 ps.length c3) wB.heap.size (w3.setRow wB.heap.size (mfC (firstM lo lo trim ps) (.slice a3 ps.length c3)).toArray)) := Lib.hid (nx_B (m := firstM lo lo trim ps) KB.out BR.out k3' z3 o3'); clear o3'; clear k3 k3' o3 z3))
  all_goals
    have e0 := E.out
    first
      | (obtain ⟨W4, hW⟩ : ∃ W4, W4 = w3.setRow wB.heap.size (mfC (firstM lo lo trim ps) (.slice a3 ps.length c3)).toArray := ⟨_, rfl⟩; rw [← hW] at e0 ⊢; clear hW; obtain ⟨bm, hb⟩ : ∃ bm, bm = wB.heap.size := ⟨_, rfl⟩; rw [← hb] at e0 ⊢; clear hb)
      | (obtain ⟨W4, hW⟩ : ∃ W4, W4 = w3.alloc (.cells (mfC (firstM lo lo trim ps) (.slice a3 ps.length c3)).toArray 83) := ⟨_, rfl⟩; rw [← hW] at e0 ⊢; clear hW; obtain ⟨bm, hb⟩ : ∃ bm, bm = w3.heap.size := ⟨_, rfl⟩; rw [← hb] at e0 ⊢; clear hb)
    have EN := Lib.hid e0
    clear e0
    go_wp2_with fail
  all_goals
    go_loopw [64] (fun i wr => ∃ j : Nat, j ≤ ps.length ∧ i = .int .i64 j ∧ NxEnd w (firstM lo (endPts lo (ps.take j)) trim ps) (.slice a3 ps.length c3) bm wr) (fun i _ => ps.length - (intOf i).toNat)
    case atStart => exact ⟨0, by omega, rfl, EN.out⟩
    case round =>
      obtain ⟨j, hj, rfl, hn⟩ := hrel
      have N := Lib.hid hn
      have c2 := mf_2 hn.1
      have f2 := mf_f hn.1 2
      simp only [firstM] at c2
      clear hn
      by_cases hlt : j < ps.length
      · have hlj : (j : Int) < (ps.length : Int) := by omega
        obtain ⟨p, hpj⟩ : ∃ p, ps[j]? = some p := ⟨_, List.getElem?_eq_getElem hlt⟩
        have hst := endPts_step ps lo j p hpj
        have hle := Nat.le_trans (endPts_le ps lo (j + 1)).2 hhi
        have hp5 := h32 p (List.mem_of_getElem? hpj)
        obtain ⟨a1, c1, e1, _, _, hx⟩ := PA.out.keepNon N.out.2.2.1
        injection e1 with e1 e3 e4
        subst e1
        subst e4
        obtain ⟨g, off, rfl, hcell⟩ := hx j p hpj
        have hld := load101 wr g (off + j * 35) p hp5 hcell
        have hsp := store_pt0 wr p hp5
        have q1 := ptc_1 p
        have c2p := mf_2 (nonAt ((Keep.refl Non wr).alloc (PtB p)) N.out.1)
        have f2p := mf_f (nonAt ((Keep.refl Non wr).alloc (PtB p)) N.out.1) 2
        simp only [firstM] at c2p
        dsimp only [zPt, PtB] at hsp
        dsimp only [PtB] at c2p f2p
        have ST := Lib.hid hst
        clear hx hcell hpj
        go_wp2_with fail
        have hn2 := nx_step N.out (PtB p) (endPts lo (ps.take (j + 1)))
        have ec : (((endPts lo (ps.take (j + 1)) : Nat)) : Int) = (endPts lo (ps.take j) : Int) + p.many := by rw [ST.out]; exact Int.natCast_add _ _
        dsimp only [PtB] at hn2
        rw [ec] at hn2
        exact ⟨⟨j + 1, by omega, by first | rfl | go_num, hn2⟩, by simp [intOf]; omega⟩
      · obtain rfl : j = ps.length := by omega
        rw [List.take_length] at N
        have hl3 := load_mf N.out.1 (List.length_replicate ..)
        have CK := Lib.hid (mcheck_ok (firstM lo (endPts lo ps) trim ps) (.slice a3 ps.length c3) wr (first_ok h64 hok hhi htr) (PtsAt.of N.out.2.2.2.2.2 h32))
        go_wp2_with (go_at_call 75; refine CK.out.mono ?_; rintro e w5 ⟨rfl, k5⟩; have hl5 := load_mf (nonAt k5 N.out.1) (List.length_replicate ..); have z5 := nonAt k5 N.out.2.1; have hs5 := store_mf w5 w.heap.size (firstM lo (endPts lo ps) trim ps) a3 ps.length c3 zMf (List.length_replicate ..) rfl z5; have hl6 := load_mf (m := firstM lo (endPts lo ps) trim ps) (pv := .slice a3 ps.length c3) (setRow_heap w5 w.heap.size _ (mfC (firstM lo (endPts lo ps) trim ps) (.slice a3 ps.length c3)).toArray _ _ z5) (List.length_replicate ..); have L6 := Lib.hid hl6; have K5 := Lib.hid k5; clear k5 z5 hl6)
        have hlv := L6.out
        unfold holdV at hlv
        refine bodyPost_ret (v := .tuple #[mfV (firstM lo (endPts lo ps) trim ps) (.slice a3 ps.length c3), .nilIface]) (by simp [results, Tryz.results146, asAddr, hlv]) rfl ?_
        have k6 : Keep (One w.heap.size) w5 (w5.setRow w.heap.size (mfC (firstM lo (endPts lo ps) trim ps) (.slice a3 ps.length c3)).toArray) := (Keep.refl (One w.heap.size) _).setRow (.inl (one_self _)) _
        have ho := N.out.2.2.2.2
        exact ⟨_, rfl, (N.out.2.2.1.trans1 K5.out).trans k6 (fun _ _ e => e) (fun g hg e => by have e' : g = w.heap.size := e; omega), ownsRow_keep (ownsRow_keep ho.2 K5.out (fun _ _ e => e)) k6 (fun g e e2 => by have e' : g = w.heap.size := e2; have := (ho.1 g e).1; omega)⟩
end
end Go.Proofs.YtobjlgfjfpmceaaGreatDoor
namespace Go.Proofs.YtobjlgfjfpmceaaGreatDoor
open Go.RowKit Go.Maps
theorem neq_nil_err (j : Int) (w : World) : (binOp .neq 31 .nilIface (.iface 45 (.int .i64 j))).run Tryz.prog w = .ok (.bool true) w := by
  have h : ∀ d : Nat, (Op.equalIn (d + 1) 31 .nilIface (.iface 45 (.int .i64 j))).run Tryz.prog w = .ok false w := fun d => by simp [Op.equalIn, run_underlying Tryz.underlying31]
  simp only [binOp]
  simp [Op.equal, Op.maxDepth, h 9999]
theorem lgput_hole {F : Nat → Prop} {b n u e a m c : Nat} {pa : Option Addr} {L : Lg} {s s2 : Sh} (R : (Nat → Prop) → World → Prop) (w : World) (h : LgAt F w b n L) (hs : L.shs[u]? = some s) (hlay : Lay w)
    (ha : Acts s s2 (.agg #[.int .i64 3, .int .i64 e, .int .i64 a, .slice none 0 0]) R) (hR : ∀ w' F', Keep Non w w' → (∀ g, F' g → F g) → R F' w') :
    Calls Tryz.prog 110 #[.pointer (some ⟨b, 0, none⟩), .int .i64 u, .int .i64 e, .int .i64 a, .agg #[.int .i64 2, .slice pa m c]] w fun r w' => r = .returned .nilIface ∧ LgTo F w b n { L with shs := L.shs.set u s2 } w' := by
  have DO := Lib.hid (fun W (k : Keep Non w W) => lgdo_ok 3 e a 0 0 none R W (h.keepNon k) hs (hlay.keepNon k) ha (fun w' F' k' hF => hR w' F' (k.trans1 k') hF))
  have e1 := neq_nil_err 8
  have k1 : Keep Non w ((w.alloc (ClB 2 (.slice pa m c))).alloc (ActB 3 e a (.slice none 0 0))) := ((Keep.refl _ _).alloc _).alloc _
  have b1 := blk_alloc (blk_new w (ClB 2 (.slice pa m c))) (ActB 3 e a (.slice none 0 0))
  have k0 := cl0 b1
  have kA := k1
  have DOA := Lib.hid (DO.out _ kA)
  have FIN := Lib.hid (fun w' (t : LgTo F ((w.alloc (ClB 2 (.slice pa m c))).alloc (ActB 3 e a (.slice none 0 0))) b n { L with shs := L.shs.set u s2 } w') => LgTo.pre kA t)
  have e1' := e1
  clear h hlay kA k1 DO ha hR
  dsimp only [ClB, ActB] at *
  go_enter Tryz.func110, Tryz.ntmps110
  go_wp2_with (go_at_call 171; refine DOA.out.mono ?_; rintro r w2 ⟨⟨nn, rfl⟩, t⟩; have T := Lib.hid t; clear t)
  go_ret
  exact ⟨rfl, FIN.out _ T.out⟩
theorem lgput_data {F : Nat → Prop} {b n u e a m c : Nat} {pa : Option Addr} {L : Lg} {s s2 : Sh} (R : (Nat → Prop) → World → Prop) (w : World) (h : LgAt F w b n L) (hs : L.shs[u]? = some s) (hlay : Lay w)
    (ha : Acts s s2 (.agg #[.int .i64 2, .int .i64 e, .int .i64 a, .slice pa m c]) R) (hR : ∀ w' F', Keep Non w w' → (∀ g, F' g → F g) → R F' w') :
    Calls Tryz.prog 110 #[.pointer (some ⟨b, 0, none⟩), .int .i64 u, .int .i64 e, .int .i64 a, .agg #[.int .i64 1, .slice pa m c]] w fun r w' => r = .returned .nilIface ∧ LgTo F w b n { L with shs := L.shs.set u s2 } w' := by
  have DO := Lib.hid (fun W (k : Keep Non w W) => lgdo_ok 2 e a m c pa R W (h.keepNon k) hs (hlay.keepNon k) ha (fun w' F' k' hF => hR w' F' (k.trans1 k') hF))
  have e1 := neq_nil_err 8
  have k1 : Keep Non w ((w.alloc (ClB 1 (.slice pa m c))).alloc (ActB 3 e a (.slice none 0 0))) := ((Keep.refl _ _).alloc _).alloc _
  have b1 := blk_alloc (blk_new w (ClB 1 (.slice pa m c))) (ActB 3 e a (.slice none 0 0))
  have k0 := cl0 b1
  have c1 := cl1 b1
  have a1 := alloc2_at w (ClB 1 (.slice pa m c)) (ActB 3 e a (.slice none 0 0))
  have kA : Keep Non w ((w.alloc (ClB 1 (.slice pa m c))).alloc (ActB 2 e a (.slice pa m c))).drew := (((Keep.refl _ _).alloc _).alloc _).drew
  have c1d : ((w.alloc (ClB 1 (.slice pa m c))).alloc (ActB 3 e a (.slice none 0 0))).drew.cell? ⟨w.heap.size, 1, none⟩ = some (.slice pa m c) := c1
  have b2 := blk_alloc (blk_new w (ClB 1 (.slice pa m c))) (ActB 2 e a (.slice none 0 0))
  have c1e : ((w.alloc (ClB 1 (.slice pa m c))).alloc (ActB 2 e a (.slice none 0 0))).drew.cell? ⟨w.heap.size, 1, none⟩ = some (.slice pa m c) := cl1 b2
  have b3 := blk_alloc (blk_new w (ClB 1 (.slice pa m c))) (ActB 2 e a (.slice pa m c))
  have c0g : ((w.alloc (ClB 1 (.slice pa m c))).alloc (ActB 2 e a (.slice pa m c))).drew.cell? ⟨w.heap.size, 0, none⟩ = some (.int .i64 1) := cl0 b3
  clear a1 b1 b2 b3
  have DOA := Lib.hid (DO.out _ kA)
  have FIN := Lib.hid (fun w' (t : LgTo F ((w.alloc (ClB 1 (.slice pa m c))).alloc (ActB 2 e a (.slice pa m c))).drew b n { L with shs := L.shs.set u s2 } w') => LgTo.pre kA t)
  have e1' := e1
  clear h hlay kA k1 DO ha hR
  dsimp only [ClB, ActB] at *
  go_enter Tryz.func110, Tryz.ntmps110
  go_wp2_with fail
  go_region
  all_goals go_wp2_with (go_at_call 171; refine DOA.out.mono ?_; rintro r w2 ⟨⟨nn, rfl⟩, t⟩; have T := Lib.hid t; clear t)
  all_goals
    go_ret
    exact ⟨rfl, FIN.out _ T.out⟩
theorem LgAt.low {F : Nat → Prop} {w : World} {b n : Nat} {L : Lg} (h : LgAt F w b n L) : LgAt (fun g => F g ∧ g < w.heap.size) w b n L := by
  obtain ⟨A, dps, sps, dv, sv, cv, q, h, hF⟩ := h
  exact ⟨A, dps, sps, dv, sv, cv, q, h, fun i g e => ⟨hF i g e, (h.low i g e).2⟩⟩
theorem LgTo.ofLow {F : Nat → Prop} {w w' : World} {b n : Nat} {L : Lg} {m : Nat} (h : LgTo (fun g => F g ∧ g < m) w b n L w') : LgTo F w b n L w' := by
  obtain ⟨k, F', s, h⟩ := h
  exact ⟨k.mono (fun _ _ x => x.1), F', fun g x => by rcases s g x with y | y; exact .inl y.1; exact .inr y, h⟩
def PbB (b : Nat) : Obj := .cells #[.pointer (some ⟨b, 0, none⟩)] 25 (0, 0)
theorem pb_0 {w : World} {g b : Nat} (h : w.heap[g]? = some (PbB b)) : w.cell? ⟨g, 0, none⟩ = some (.pointer (some ⟨b, 0, none⟩)) := by simp [World.cell?, h, PbB]
def InB (x : Int) : Obj := .cells #[.int .i64 x] 3 (0, 0)
theorem in_0 {w : World} {g : Nat} {x : Int} (h : w.heap[g]? = some (InB x)) : w.cell? ⟨g, 0, none⟩ = some (.int .i64 x) := by simp [World.cell?, h, InB]
theorem spread_enter (args : Array Value) (w : World) : (callFunc 109 args).run Tryz.prog w = .ok (.enter 109 args) w := enter_of Tryz.func109 (by kernel_rfl) rfl args w
theorem lgspread1_ok (u g h j b a e : Nat) (k : Int) (xa : Option Addr) (m xc : Nat) (w : World) (Q : World → Prop) (c2 : w.cell? ⟨b, 2, none⟩ = some (.int .i64 e)) (g0 : w.cell? ⟨g, 0, none⟩ = some (.pointer (some ⟨b, 0, none⟩))) (h0 : w.cell? ⟨h, 0, none⟩ = some (.int .i64 a)) (j0 : w.cell? ⟨j, 0, none⟩ = some (.int .i64 k)) (j1 : w.cell? ⟨j, 1, none⟩ = some (.slice xa m xc))
    (hp : Calls Tryz.prog 110 #[.pointer (some ⟨b, 0, none⟩), .int .i64 u, .int .i64 e, .int .i64 a, .agg #[.int .i64 k, .slice xa m xc]] w.drew fun r w' => r = .returned .nilIface ∧ Q w') :
    Calls Tryz.prog 109 #[.int .i64 u, .pointer (some ⟨g, 0, none⟩), .pointer (some ⟨h, 0, none⟩), .pointer (some ⟨j, 0, none⟩)] w fun r w' => r = .returned .nilIface ∧ Q w' := by
  have HP := Lib.hid hp
  have c2d : w.drew.cell? ⟨b, 2, none⟩ = some (.int .i64 e) := c2
  have g0d : w.drew.cell? ⟨g, 0, none⟩ = some (.pointer (some ⟨b, 0, none⟩)) := g0
  have h0d : w.drew.cell? ⟨h, 0, none⟩ = some (.int .i64 a) := h0
  have j0d : w.drew.cell? ⟨j, 0, none⟩ = some (.int .i64 k) := j0
  have j1d : w.drew.cell? ⟨j, 1, none⟩ = some (.slice xa m xc) := j1
  clear hp c2 g0 h0 j0 j1
  go_enter Tryz.func109, Tryz.ntmps109
  go_wp2_with fail
  go_region_law (go_simp; go_at_call 110; refine HP.out.mono ?_; rintro r w2 ⟨rfl, hq⟩; have HQ := Lib.hid hq; clear hq)
  all_goals go_wp2_with fail
  all_goals
    go_ret
    exact ⟨rfl, HQ.out⟩
theorem lgspread_ok {F0 : Nat → Prop} {b n a u m c xc : Nat} {k : Int} {pa : Option Addr} {xa : Option Addr} {L L2 : Lg} (w : World) (h0 : LgAt F0 w b n L) (he : L2.ep = L.ep) (hse : L2.se = L2.ep) (hu : Is w (.slice pa 1 c) [u]) (ha : a + 1 ≤ 1048576)
    (hp : ∀ W F, Keep Non w W → (∀ g, F g → F0 g ∧ g < w.heap.size) → LgAt F W b n L → Calls Tryz.prog 110 #[.pointer (some ⟨b, 0, none⟩), .int .i64 u, .int .i64 L.ep, .int .i64 a, .agg #[.int .i64 k, .slice xa m xc]] W fun r w' => r = .returned .nilIface ∧ LgTo F W b n L2 w') :
    Calls Tryz.prog 59 #[.pointer (some ⟨b, 0, none⟩), .slice pa 1 c, .int .i64 a, .agg #[.int .i64 k, .slice xa m xc]] w fun r w' => r = .returned .nilIface ∧ LgTo F0 w b n { L2 with next := max L2.next (a + 1) } w' := by
  have h := h0.low
  obtain ⟨F, hFF⟩ : ∃ F, F = fun g => F0 g ∧ g < w.heap.size := ⟨_, rfl⟩
  rw [← hFF] at h
  have kA : Keep Non w (((w.alloc (PbB b)).alloc (InB a)).alloc (ClB k (.slice xa m xc))) := (((Keep.refl _ _).alloc _).alloc _).alloc _
  have b0 : (((w.alloc (PbB b)).alloc (InB a)).alloc (ClB k (.slice xa m xc))).heap[w.heap.size]? = some (PbB b) := blk_alloc (blk_alloc (blk_new _ _) _) _
  have b1 : (((w.alloc (PbB b)).alloc (InB a)).alloc (ClB k (.slice xa m xc))).heap[w.heap.size + 1]? = some (InB a) := blk_alloc (alloc2_at' _ _ _) _
  have b2 : (((w.alloc (PbB b)).alloc (InB a)).alloc (ClB k (.slice xa m xc))).heap[w.heap.size + 1 + 1]? = some (ClB k (.slice xa m xc)) := by
    have := alloc2_at' (w.alloc (PbB b)) (InB a) (ClB k (.slice xa m xc))
    rwa [World.size_alloc] at this
  generalize hwA : ((w.alloc (PbB b)).alloc (InB a)).alloc (ClB k (.slice xa m xc)) = wA at kA b0 b1 b2
  have hA := h.keepNon kA
  have hlowF : ∀ g, F g → g < w.heap.size := fun g x => by rw [hFF] at x; exact x.2
  have c2A : wA.cell? ⟨b, 2, none⟩ = some (.int .i64 L.ep) := by
    obtain ⟨A, dps, sps, dv, sv, cv, q, h, hF⟩ := hA
    exact lg_2 h.blk
  have ALL := Lib.hid (all_at 109 (.pointer (some ⟨w.heap.size, 0, none⟩)) (.pointer (some ⟨w.heap.size + 1, 0, none⟩)) (.pointer (some ⟨w.heap.size + 1 + 1, 0, none⟩)) pa c [u]
    (fun j W => (j = 0 → W = wA) ∧ (j = 1 → LgTo F wA b n L2 W)) wA spread_enter (fun j W hj hI => by
      obtain rfl : j = 0 := by simp at hj; omega
      rw [hI.1 rfl]
      exact hu.keepNon kA) ⟨fun _ => rfl, fun x => absurd x (by omega)⟩ (by simp) (fun j u' W hj hI => by
      obtain rfl : j = 0 := by
        rcases j with _ | j
        · rfl
        · simp at hj
      obtain rfl : u = u' := by simpa using hj
      rw [hI.1 rfl]
      refine (lgspread1_ok u w.heap.size (w.heap.size + 1) (w.heap.size + 1 + 1) b a L.ep k xa m xc wA (fun w' => LgTo F wA b n L2 w') c2A (pb_0 b0) (in_0 b1) (cl0 b2) (cl1 b2) ((hp wA.drew F (kA.drew) (fun g x => by rw [hFF] at x; exact x) (hA.keepNon (Keep.refl _ _).drew)).mono (fun r w' ⟨x, y⟩ => ⟨x, LgTo.pre (Keep.refl _ _).drew y⟩))).mono (fun r w' ⟨x, y⟩ => ⟨x, fun e => absurd e (by omega), fun _ => y⟩)))
  have AFT : Hid (∀ W, LgTo F wA b n L2 W → W.cell? ⟨w.heap.size, 0, none⟩ = some (.pointer (some ⟨b, 0, none⟩)) ∧ W.cell? ⟨w.heap.size + 1, 0, none⟩ = some (.int .i64 a) ∧
      Calls Tryz.prog 111 #[.pointer (some ⟨b, 0, none⟩), .int .i64 ((a + 1 : Nat) : Int)] W fun r w' => r = .returned .nilIface ∧ LgTo F0 w b n { L2 with next := max L2.next (a + 1) } w') := Lib.hid (by
    rintro W ⟨k, F', s, hL⟩
    refine ⟨pb_0 (k.at b0 (fun x => by have := hlowF _ x; omega)), in_0 (k.at b1 (fun x => by have := hlowF _ x; omega)), (lgraise_ok W hL hse (by omega)).mono ?_⟩
    rintro r w' ⟨x, y⟩
    refine ⟨x, ?_⟩
    have t := LgTo.pre kA (LgTo.trans s k y)
    rw [hFF] at t
    exact t.ofLow)
  clear h0 h hA b0 b1 b2 c2A hu hp hlowF
  subst hwA
  dsimp only [PbB, InB, ClB, List.length_singleton] at ALL AFT
  have e1 : ((a + 1 : Nat) : Int) = (a : Int) + 1 := by omega
  rw [e1] at AFT
  go_enter Tryz.func59, Tryz.ntmps59
  go_wp2_with (first
    | (go_at_call 108; refine ALL.out.mono ?_; rintro r w2 ⟨rfl, _, t⟩; obtain ⟨p0, p1, rc⟩ := AFT.out w2 (t rfl); have RC := Lib.hid rc; clear t rc)
    | (go_at_call 111; refine RC.out.mono ?_; rintro r w3 ⟨rfl, t3⟩; have T3 := Lib.hid t3; clear t3))
  go_ret
  exact ⟨rfl, T3.out⟩
theorem lgPut_no {F : Nat → Prop} {b n a m xc : Nat} {k : Int} {xa : Option Addr} {L : Lg} (w : World) (h : LgAt F w b n L) (ha : a ≤ 1048575) (hk : cellE k m ≠ 0 ∨ k = 0 ∨ k = 3) :
    Calls Tryz.prog 22 #[.pointer (some ⟨b, 0, none⟩), .int .i64 a, .agg #[.int .i64 k, .slice xa m xc]] w fun r w' => (∃ e, r = .returned (errv e)) ∧ Keep Non w w' := by
  have hcc := ccheck_any k xa m xc
  have kA : Keep Non w (w.alloc (ClB k (.slice xa m xc))) := (Keep.refl _ _).alloc _
  have IN := Lib.hid (lgin_yes a 1048575 (w.alloc (ClB k (.slice xa m xc))) (by omega) (by omega))
  have AK := Lib.hid (lgask_ok b (w.alloc (ClB k (.slice xa m xc))))
  have KA := Lib.hid kA
  clear kA h
  by_cases hc : cellE k m = 0
  · have hk2 : k = 0 ∨ k = 3 := hk.resolve_left (fun x => x hc)
    have CC := Lib.hid (hcc (w.alloc (ClB k (.slice xa m xc))))
    have PB : Hid (∀ W, Keep Non (w.alloc (ClB k (.slice xa m xc))) W → W.cell? ⟨w.heap.size, 0, none⟩ = some (.int .i64 k)) := Lib.hid (fun W kk => cl0 (kk.at (blk_new w (ClB k (.slice xa m xc))) (fun e => e)))
    rw [hc, errv_zero] at CC
    have k0 := cl0 (blk_new w (ClB k (.slice xa m xc)))
    have k1 := cl1 (blk_new w (ClB k (.slice xa m xc)))
    dsimp only [ClB] at *
    clear hcc hc hk
    rcases hk2 with rfl | rfl
    all_goals
      go_enter Tryz.func22, Tryz.ntmps22
      go_wp2_with (first
        | (go_at_call 49; refine IN.out.mono ?_; rintro r w1 ⟨rfl, rfl⟩)
        | (go_at_call 48; refine AK.out.mono ?_; rintro r w1 ⟨rfl, rfl⟩)
        | (go_at_call 58; refine CC.out.mono ?_; rintro r w1 ⟨rfl, k⟩; have p0 := PB.out _ k; have K1 := Lib.hid k; clear k))
      go_ret
      exact ⟨⟨2, (by rw [errv_no (by decide)]; rfl)⟩, KA.out.trans1 K1.out⟩
  · have CC := Lib.hid (hcc (w.alloc (ClB k (.slice xa m xc))))
    rw [errv_no hc] at CC
    have k0 := cl0 (blk_new w (ClB k (.slice xa m xc)))
    have k1 := cl1 (blk_new w (ClB k (.slice xa m xc)))
    have EX : Hid (∃ e, (.iface 45 (.int .i64 (cellE k m)) : Value) = errv e) := Lib.hid ⟨_, (errv_no hc).symm⟩
    generalize cellE k m = ee at CC hc EX
    dsimp only [ClB] at *
    clear hcc hk
    go_enter Tryz.func22, Tryz.ntmps22
    go_wp2_with (first
      | (go_at_call 49; refine IN.out.mono ?_; rintro r w1 ⟨rfl, rfl⟩)
      | (go_at_call 48; refine AK.out.mono ?_; rintro r w1 ⟨rfl, rfl⟩)
      | (go_at_call 58; refine CC.out.mono ?_; rintro r w1 ⟨rfl, k⟩; have K1 := Lib.hid k; clear k))
    go_ret
    obtain ⟨e, he⟩ := EX.out
    exact ⟨⟨e, (by rw [← he]; rfl)⟩, KA.out.trans1 K1.out⟩
theorem lgPut_ok {F0 : Nat → Prop} {b n a m xc : Nat} {k : Int} {xa : Option Addr} {L L2 : Lg} (w : World) (h : LgAt F0 w b n L) (he : L2.ep = L.ep) (hse : L2.se = L2.ep) (hn : 0 < n) (ha : a ≤ 1048575) (hc : cellE k m = 0) (hk : k = 1 ∨ k = 2)
    (hp : ∀ W F, Keep Non w W → (∀ g, F g → F0 g ∧ g < w.heap.size) → LgAt F W b n L → Calls Tryz.prog 110 #[.pointer (some ⟨b, 0, none⟩), .int .i64 (a % n : Nat), .int .i64 L.ep, .int .i64 a, .agg #[.int .i64 k, .slice xa m xc]] W fun r w' => r = .returned .nilIface ∧ LgTo F W b n L2 w') :
    Calls Tryz.prog 22 #[.pointer (some ⟨b, 0, none⟩), .int .i64 a, .agg #[.int .i64 k, .slice xa m xc]] w fun r w' => r = .returned .nilIface ∧ LgTo F0 w b n { L2 with next := max L2.next (a + 1) } w' := by
  have CC := Lib.hid (ccheck_any k xa m xc (w.alloc (ClB k (.slice xa m xc))))
  rw [hc, errv_zero] at CC
  have kA : Keep Non w (w.alloc (ClB k (.slice xa m xc))) := (Keep.refl _ _).alloc _
  have IN := Lib.hid (lgin_yes a 1048575 (w.alloc (ClB k (.slice xa m xc))) (by omega) (by omega))
  have AK := Lib.hid (lgask_ok b (w.alloc (ClB k (.slice xa m xc))))
  have KA := Lib.hid kA
  have PB : Hid (∀ W, Keep Non (w.alloc (ClB k (.slice xa m xc))) W → W.cell? ⟨w.heap.size, 0, none⟩ = some (.int .i64 k) ∧ W.cell? ⟨w.heap.size, 1, none⟩ = some (.slice xa m xc)) := Lib.hid (fun W kk => ⟨cl0 (kk.at (blk_new w (ClB k (.slice xa m xc))) (fun e => e)), cl1 (kk.at (blk_new w (ClB k (.slice xa m xc))) (fun e => e))⟩)
  have hlow := h.low
  have HM := Lib.hid (fun W (kk : Keep Non (w.alloc (ClB k (.slice xa m xc))) W) => lghome_ok (a := a) W (h.keepNon (kA.trans1 kk)) hn ha)
  have SP := Lib.hid (fun W g o c (kk : Keep Non (w.alloc (ClB k (.slice xa m xc))) W) (hi : Is W (.slice (some ⟨g, o, none⟩) 1 c) [a % n]) => (lgspread_ok (k := k) (xa := xa) (m := m) (xc := xc) (L2 := L2) W (hlow.keepNon (kA.trans1 kk)) he hse hi (by omega) (fun W' F kk' hF hL => hp W' F ((kA.trans1 kk).trans1 kk') (fun g x => (hF g x).1) hL)).mono (fun r w' (⟨x, y⟩ : _ ∧ _) => (⟨x, (LgTo.pre (kA.trans1 kk) y).ofLow⟩ : r = _ ∧ LgTo F0 w b n { L2 with next := max L2.next (a + 1) } w')))
  have k0 := cl0 (blk_new w (ClB k (.slice xa m xc)))
  have k1 := cl1 (blk_new w (ClB k (.slice xa m xc)))
  dsimp only [ClB] at *
  clear kA h hlow hp hc
  rcases hk with rfl | rfl
  all_goals
    go_enter Tryz.func22, Tryz.ntmps22
    go_wp2_with (first
      | (go_at_call 49; refine IN.out.mono ?_; rintro r w1 ⟨rfl, rfl⟩)
      | (go_at_call 48; refine AK.out.mono ?_; rintro r w1 ⟨rfl, rfl⟩)
      | (go_at_call 58; refine CC.out.mono ?_; rintro r w1 ⟨rfl, k⟩; obtain ⟨p0, p1⟩ := PB.out _ k; obtain ⟨q0, q1⟩ := PB.out _ k.drew; have HMW := Lib.hid (HM.out _ k.drew); have K1 := Lib.hid k; clear k))
    go_region_law (first
      | (go_simp; go_at_call 50; refine HMW.out.mono ?_; rintro r w2 ⟨g2, o2, c2, rfl, k2, i2⟩; obtain ⟨s0, s1⟩ := PB.out _ (K1.out.drew.trans1 k2); have SPW := Lib.hid (SP.out w2 _ _ _ (K1.out.drew.trans1 k2) i2); clear k2 i2)
      | (go_simp; go_at_call 59; refine SPW.out.mono ?_; rintro r w3 ⟨rfl, t⟩; have T := Lib.hid t; clear t))
    all_goals go_wp2_with fail
    all_goals
      go_ret
      exact ⟨rfl, T.out⟩
theorem lgRead_ok {F : Nat → Prop} {b n a : Nat} {L : Lg} {s : Sh} (w : World) (h : LgAt F w b n L) (hn : 0 < n) (hs : L.shs[a % n]? = some s) (he : s.e = L.ep) (hd : s.X.down = false) (ha : a ≤ 1048575) (hx : (uat s.l s.D a).2.length ≤ 100000000) :
    Calls Tryz.prog 20 #[.pointer (some ⟨b, 0, none⟩), .int .i64 a] w fun r w' => ∃ v, r = .returned (.tuple #[.agg #[.int .i64 (uat s.l s.D a).1, v], .nilIface]) ∧ Keep Non w w' ∧ w'.ownsRow w.heap.size 5 1 v (uat s.l s.D a).2.length ((uat s.l s.D a).2.map bv) := by
  have kA : Keep Non w (w.alloc (ClB 0 (.slice none 0 0))) := (Keep.refl _ _).alloc _
  have IN := Lib.hid (lgin_yes a 1048575 (w.alloc (ClB 0 (.slice none 0 0))) (by omega) (by omega))
  have AK := Lib.hid (lgask_ok b (w.alloc (ClB 0 (.slice none 0 0))))
  have HM := Lib.hid (lghome_ok (a := a) _ (h.keepNon kA) hn ha)
  have RD := Lib.hid (fun W (k : Keep Non w W) => lgread1_ok (a := a) (u := a % n) W (h.keepNon k) hs he hd ha hx)
  have KA := Lib.hid kA
  have RB := Lib.hid (blk_new w (ClB 0 (.slice none 0 0)))
  generalize uat s.l s.D a = x at RD ⊢
  obtain ⟨kx, lx⟩ := x
  dsimp only at RD ⊢
  dsimp only [ClB] at IN AK HM
  clear kA h hx
  go_enter Tryz.func20, Tryz.ntmps20
  go_wp2_with (first
    | (go_at_call 49; refine IN.out.mono ?_; rintro r w1 ⟨rfl, rfl⟩)
    | (go_at_call 48; refine AK.out.mono ?_; rintro r w1 ⟨rfl, rfl⟩)
    | (go_at_call 50; refine HM.out.mono ?_; rintro r w2 ⟨g2, o2, c2, rfl, k2, i2⟩; have hcell : w2.cell? ⟨g2, o2, none⟩ = some (.int .i64 ((a % n : Nat) : Int)) := by
        obtain ⟨a', c', e, hx'⟩ := i2
        injection e with e1 e2 e3
        obtain ⟨g', off, e4, hc⟩ := hx' (by simp)
        rw [← e1] at e4
        injection e4 with e4
        injection e4 with e4 e5
        subst e4
        subst e5
        exact hc 0 _ (by rfl)
       have K2 := Lib.hid (KA.out.trans1 k2); have RB2 := Lib.hid (k2.at RB.out (fun e => e)); have RDW := Lib.hid (RD.out _ (KA.out.trans1 k2)); clear k2 i2)
    | (go_at_call 51; refine RDW.out.mono ?_; rintro r w3 ⟨v, rfl, k3, o3⟩; obtain ⟨va, vc, rfl, _, _⟩ := ownsRow_form o3; have rb3 := k3.at RB2.out (fun e => e); have r0 := cl0 rb3; have r1 := cl1 rb3; have r0f := clf rb3 0; have r1f := clf rb3 1; have q0 := cl0 (cl_set1 (cl_set0 rb3 kx) (.slice va lx.length vc)); have q1 := cl1 (cl_set1 (cl_set0 rb3 kx) (.slice va lx.length vc)); have K3 := Lib.hid k3; have O3 := Lib.hid o3; clear k3 o3 rb3))
  all_goals
    refine bodyPost_ret (v := .tuple #[.agg #[.int .i64 kx, .slice va lx.length vc], .nilIface]) (by simp [results, Tryz.results20, go_sem, q0, q1]) rfl ?_
    obtain ⟨k, o⟩ := cell_back K2.out K3.out O3.out (by have := lt_of_block RB2.out; omega) kx (.slice va lx.length vc)
    exact ⟨_, rfl, k, o⟩
theorem lghas_ok {F : Nat → Prop} {b n u : Nat} {L : Lg} (w : World) (h : LgAt F w b n L) (hu : u < L.shs.length) :
    Calls Tryz.prog 136 #[.pointer (some ⟨b, 0, none⟩), .int .i64 u] w fun r w' => r = .returned .nilIface ∧ w' = w := by
  obtain ⟨A, dps, sps, dv, sv, cv, q, h, hF⟩ := h
  have c0 := lg_0 h.blk
  obtain ⟨da, dc, rfl, _, _⟩ := ownsRow_form h.disks
  rw [h.len.1] at c0
  have IN := Lib.hid (lgin_yes u ((L.shs.length : Int) - 1) w (by omega) (by omega))
  have hsm := h.small.2
  clear h
  go_enter Tryz.func136, Tryz.ntmps136
  go_wp2_with (go_at_call 49; refine IN.out.mono ?_; rintro r w1 ⟨rfl, rfl⟩)
  go_ret
  exact ⟨rfl, rfl⟩
theorem lgUnit_ok {F : Nat → Prop} {b n u : Nat} {L : Lg} {s : Sh} (w : World) (h : LgAt F w b n L) (hs : L.shs[u]? = some s) :
    Calls Tryz.prog 80 #[.pointer (some ⟨b, 0, none⟩), .int .i64 u] w fun r w' => ∃ b' F', r = .returned (.pointer (some ⟨b', 0, none⟩)) ∧ Keep Non w w' ∧ UnAt F' w' b' s.e s.l s.D := by
  have HS := Lib.hid (lghas_ok w h (lt_of_some hs))
  obtain ⟨A, dps, sps, dv, sv, cv, q, h, hF⟩ := h
  obtain ⟨p, dp, sg, sc, dg, dc, rfl, rfl, hp, hd', hu, hcs, hcd, hsh⟩ := h.at hs
  have c1 := lg_1 h.blk
  unfold ptrV at hcs
  have UN := Lib.hid (shunit_ok w hsh)
  have hlt : (u : Int) < L.shs.length := by omega
  clear h hsh hcd hp hd' hs
  go_enter Tryz.func80, Tryz.ntmps80
  go_wp2_with (first
    | (go_at_call 136; refine HS.out.mono ?_; rintro r w1 ⟨rfl, rfl⟩)
    | (go_at_call 137; refine UN.out.mono ?_; rintro r w2 ⟨b', rfl, k2, u2⟩; have K2 := Lib.hid k2; have U2 := Lib.hid u2; clear k2 u2))
  go_ret
  exact ⟨_, _, rfl, K2.out, U2.out⟩
theorem app_after {W0 W w3 : World} {v v3 : Value} {S : Nat → Prop} (k : Keep S W0 W) (hg : W.grownBy w3 v.ownBlock) (hp : v3.ownBlock = v.ownBlock ∨ v3.ownBlock = some W.heap.size) :
    Keep (fun g => S g ∨ v.ownBlock = some g) W0 w3 ∧ (v3.ownBlock = v.ownBlock ∨ ∃ g, W0.heap.size ≤ g ∧ W.heap.size ≤ g ∧ g < w3.heap.size + 1 ∧ v3.ownBlock = some g) := by
  have kg : Keep (fun g => v.ownBlock = some g) W w3 := (Keep.refl _ _).grown hg (fun k e => .inl e)
  refine ⟨k.trans kg (fun _ _ x => .inl x) (fun _ _ x => .inr x), ?_⟩
  rcases hp with x | x
  · exact .inl x
  · exact .inr ⟨_, k.size, Nat.le_refl _, by have := kg.size; omega, x⟩
def addA (A : Nat → Nat → Prop) (m : Nat) (v3 v5 : Value) (FU : Nat → Prop) : Nat → Nat → Prop := fun j g => if j = 2 then v3.ownBlock = some g else if j = 3 then v5.ownBlock = some g else if j = 5 + m then FU g else j < 5 + m ∧ A j g
theorem LgIn.add {A : Nat → Nat → Prop} {F FU : Nat → Prop} {w W W' : World} {b : Nat} {dps sps : List Nat} {dv sv cv v3 v5 : Value} {q n p sp : Nat} {L : Lg} {s : Sh} (h : LgIn A W b dps sps dv sv cv q n L) (hF : ∀ i g, A i g → F g)
    (hw : ∀ i g, A i g → g < w.heap.size) (hww : w.heap.size ≤ W.heap.size) (h10 : 10 ≤ w.heap.size) (hsh : ShAt FU W sp p s) (hFU : ∀ g, FU g → w.heap.size ≤ g) (hl : L.shs.length < 2)
    (k : Keep (fun g => g = b ∨ dv.ownBlock = some g ∨ sv.ownBlock = some g) W W') (hb : W'.heap[b]? = some (LgB v3 v5 L.ep cv q))
    (o3 : W'.ownsRow 0 27 1 v3 (dps.length + 1) (dps.map ptrV ++ [ptrV p])) (o5 : W'.ownsRow 0 171 1 v5 (sps.length + 1) (sps.map ptrV ++ [ptrV sp]))
    (p3 : v3.ownBlock = dv.ownBlock ∨ ∃ g, W.heap.size ≤ g ∧ v3.ownBlock = some g) (p5 : v5.ownBlock = sv.ownBlock ∨ ∃ g, W.heap.size ≤ g ∧ v5.ownBlock = some g)
    (p35 : ∀ g, v3.ownBlock = some g → v5.ownBlock ≠ some g) :
    LgIn (addA A L.shs.length v3 v5 FU) W' b (dps ++ [p]) (sps ++ [sp]) v3 v5 cv q n { L with shs := L.shs ++ [s] } ∧ ∀ i g, addA A L.shs.length v3 v5 FU i g → F g ∨ w.heap.size ≤ g := by
  have lo3 : ∀ g, v3.ownBlock = some g → A 2 g ∨ W.heap.size ≤ g := fun g x => by
    rcases p3 with e | ⟨g', e1, e2⟩
    · exact .inl (h.mem.2.2.1 g (e ▸ x))
    · rw [e2] at x; injection x with x; exact .inr (x ▸ e1)
  have lo5 : ∀ g, v5.ownBlock = some g → A 3 g ∨ W.heap.size ≤ g := fun g x => by
    rcases p5 with e | ⟨g', e1, e2⟩
    · exact .inl (h.mem.2.2.2 g (e ▸ x))
    · rw [e2] at x; injection x with x; exact .inr (x ▸ e1)
  have nS : ∀ i g, A i g → i ≠ 0 → i ≠ 2 → i ≠ 3 → ¬ (g = b ∨ dv.ownBlock = some g ∨ sv.ownBlock = some g) := by
    rintro i g x h0 h2 h3 (rfl | y | y)
    · exact h0 (h.apart _ _ _ x h.mem.1)
    · exact h2 (h.apart _ _ _ x (h.mem.2.2.1 g y))
    · exact h3 (h.apart _ _ _ x (h.mem.2.2.2 g y))
  have nF : ∀ g, FU g → ¬ (g = b ∨ dv.ownBlock = some g ∨ sv.ownBlock = some g) := by
    rintro g x (rfl | y | y)
    · have := hFU g x; have := hw _ _ h.mem.1; omega
    · have := hFU g x; have := hw _ _ (h.mem.2.2.1 g y); omega
    · have := hFU g x; have := hw _ _ (h.mem.2.2.2 g y); omega
  have aq : ∀ j, j ≠ 2 → j ≠ 3 → j < 5 + L.shs.length → addA A L.shs.length v3 v5 FU j = A j := fun j h2 h3 h5 => by
    funext g
    unfold addA
    rw [if_neg h2, if_neg h3, if_neg (by omega)]
    exact propext ⟨fun x => x.2, fun x => ⟨h5, x⟩⟩
  have a2 : addA A L.shs.length v3 v5 FU 2 = fun g => v3.ownBlock = some g := by funext g; unfold addA; rw [if_pos rfl]
  have a3 : addA A L.shs.length v3 v5 FU 3 = fun g => v5.ownBlock = some g := by funext g; unfold addA; rw [if_neg (by omega), if_pos rfl]
  have a5 : addA A L.shs.length v3 v5 FU (5 + L.shs.length) = FU := by funext g; unfold addA; rw [if_neg (by omega), if_neg (by omega), if_pos rfl]
  -- what a block belongs to: an old part, or a new one
  have cls : ∀ j g, addA A L.shs.length v3 v5 FU j g → (A j g ∧ g < w.heap.size) ∨ (j = 5 + L.shs.length ∧ FU g ∧ w.heap.size ≤ g ∧ g < W.heap.size) ∨ ((j = 2 ∧ v3.ownBlock = some g ∨ j = 3 ∧ v5.ownBlock = some g) ∧ W.heap.size ≤ g) := by
    intro j g x
    unfold addA at x
    split at x
    · rename_i e; subst e
      rcases lo3 g x with y | y
      · exact .inl ⟨y, hw _ _ y⟩
      · exact .inr (.inr ⟨.inl ⟨rfl, x⟩, y⟩)
    · split at x
      · rename_i e; subst e
        rcases lo5 g x with y | y
        · exact .inl ⟨y, hw _ _ y⟩
        · exact .inr (.inr ⟨.inr ⟨rfl, x⟩, y⟩)
      · split at x
        · rename_i e
          exact .inr (.inl ⟨e, x, hFU g x, hsh.low g x⟩)
        · exact .inl ⟨x.2, hw _ _ x.2⟩
  refine ⟨⟨hb, k.at h.sq (nS 1 _ h.mem.2.1 (by omega) (by omega) (by omega)), h.sqin, ?_, ?_, ?_, ?_, ?_, ?_, ?_, ?_, ?_⟩, ?_⟩
  · simpa using o3
  · simpa using o5
  · simp [h.len.1, h.len.2]
  · rw [aq 4 (by omega) (by omega) (by omega)]
    exact h.proj.keep k (fun g x => nS 4 g x (by omega) (by omega) (by omega))
  · intro i s' p' dp' hi hpi hdi
    simp only at hi
    rcases Nat.lt_or_ge i L.shs.length with x | x
    · rw [List.getElem?_append_left x] at hi
      rw [List.getElem?_append_left (by have := h.len; omega)] at hpi hdi
      rw [aq (5 + i) (by omega) (by omega) (by omega)]
      exact (h.sh i s' p' dp' hi hpi hdi).keep k (fun g y => nS (5 + i) g y (by omega) (by omega) (by omega))
    · have e : i = L.shs.length := by have := lt_of_some hi; simp at this; omega
      subst e
      rw [List.getElem?_append_right (Nat.le_refl _)] at hi
      rw [List.getElem?_append_right (by have := h.len; omega)] at hpi hdi
      have l1 := h.len.1
      have l2 := h.len.2
      rw [Nat.sub_self] at hi
      rw [l2, Nat.sub_self] at hpi
      rw [l1, Nat.sub_self] at hdi
      simp only [List.getElem?_cons_zero, Option.some.injEq] at hi hpi hdi
      subst hi
      subst hpi
      subst hdi
      rw [a5]
      exact hsh.keep k (fun g y => nF g y)
  · rw [aq 0 (by omega) (by omega) (by omega), aq 1 (by omega) (by omega) (by omega), a2, a3]
    exact ⟨h.mem.1, h.mem.2.1, fun _ x => x, fun _ x => x⟩
  · intro i j g x y
    rcases cls i g x with ⟨x1, x2⟩ | ⟨x1, x2, x3, x4⟩ | ⟨x1, x2⟩
    · rcases cls j g y with ⟨y1, y2⟩ | ⟨y1, y2, y3, y4⟩ | ⟨y1, y2⟩
      · exact h.apart _ _ _ x1 y1
      · omega
      · omega
    · rcases cls j g y with ⟨y1, y2⟩ | ⟨y1, y2, y3, y4⟩ | ⟨y1, y2⟩
      · omega
      · omega
      · omega
    · rcases cls j g y with ⟨y1, y2⟩ | ⟨y1, y2, y3, y4⟩ | ⟨y1, y2⟩
      · omega
      · omega
      · rcases x1 with ⟨e1, e2⟩ | ⟨e1, e2⟩ <;> rcases y1 with ⟨e3, e4⟩ | ⟨e3, e4⟩
        · omega
        · exact absurd e4 (p35 g e2)
        · exact absurd e2 (p35 g e4)
        · omega
  · intro i g x
    have ks := k.size
    rcases cls i g x with ⟨x1, x2⟩ | ⟨x1, x2, x3, x4⟩ | ⟨x1, x2⟩
    · exact ⟨(h.low i g x1).1, by omega⟩
    · exact ⟨by omega, by omega⟩
    · refine ⟨by omega, ?_⟩
      rcases x1 with ⟨e1, e2⟩ | ⟨e1, e2⟩
      · exact (o3.lt g e2).2
      · exact (o5.lt g e2).2
  · simp; exact ⟨h.small.1, by omega⟩
  · intro i g x
    rcases cls i g x with ⟨x1, x2⟩ | ⟨x1, x2, x3, x4⟩ | ⟨x1, x2⟩
    · exact .inl (hF i g x1)
    · exact .inr x3
    · exact .inr (by omega)
end Go.Proofs.YtobjlgfjfpmceaaGreatDoor
