/- chain.Next behind no manifest: walked. · Exports on a disk that has power: what holds of them, step by step (plain). -/
import Derived.Test.YtdmckfkhkjkdnaaGreatDoorQ32
set_option linter.unusedVariables false
set_option maxRecDepth 100000
set_option maxHeartbeats 16000000
namespace Go.Proofs.YtdmckfkhkjkdnaaGreatDoor
open Go.RowKit
theorem mf_set2 {w : World} {b : Nat} {m : Mf} {pv : Value} (h : w.heap[b]? = some (MfB m pv)) (n : Nat) : (w.setCell ⟨b, 2, none⟩ (.int .i64 n)).heap[b]? = some (MfB { m with hi := n } pv) := blk_set h 2 _
def zD : List UInt8 := List.replicate 32 0
theorem store_zD (w : World) : (holdW 41 ⟨w.heap.size, 0, none⟩ (arrV zD)).run Tryz.prog (w.alloc (.cells z32 41)) = .ok () (w.alloc (.cells z32 41)) := by
  have h := store_z32 w
  rw [z32_eq] at h
  exact h
theorem load_zD (w : World) : (holdV 41 ⟨w.heap.size, 0, none⟩).run Tryz.prog (w.alloc (.cells z32 41)) = .ok (arrV zD) (w.alloc (.cells z32 41)) := load_z32 w
def firstM (lo hi trim : Nat) (ps : List Pt) : Mf := ⟨0, lo, hi, trim, List.replicate 32 0, ps⟩
theorem build_first (lo trim : Nat) (ps : List Pt) (a : Option Addr) (n c : Nat) (w : World) : (holdB 102 #[(0, .int .i64 0), (1, .int .i64 lo), (2, .int .i64 lo), (3, .int .i64 trim), (4, arrV zD), (5, .slice a n c)]).run Tryz.prog w = .ok (mfV (firstM lo lo trim ps) (.slice a n c)) w :=
  run_build w 102 _ _ (by kernel_rfl)
def NxEnd (w : World) (m : Mf) (v : Value) (b : Nat) (W : World) : Prop :=
  W.heap[b]? = some (MfB m v) ∧ W.heap[w.heap.size]? = some (.cells zMf 102 (0, 0)) ∧ Keep Non w W ∧ w.heap.size < b ∧ (∀ g, v.ownBlock = some g → w.heap.size < g ∧ g ≠ b) ∧ W.ownsRow w.heap.size 190 35 v m.parts.length (ptsC m.parts)
theorem nx_A {w wB w3 : World} {m : Mf} {a : Option Addr} {c : Nat} (kB : Keep Non w wB) (br : wB.heap[w.heap.size]? = some (.cells zMf 102 (0, 0))) (k3 : Keep Non wB w3) (o : w3.ownsRow wB.heap.size 190 35 (.slice a m.parts.length c) m.parts.length (ptsC m.parts)) :
    NxEnd w m (.slice a m.parts.length c) w3.heap.size (w3.alloc (MfB m (.slice a m.parts.length c))) := by
  have k : Keep Non w3 (w3.alloc (MfB m (.slice a m.parts.length c))) := (Keep.refl _ _).alloc _
  have hb := lt_of_block br
  have h3 := k3.size
  exact ⟨blk_new _ _, nonAt k (nonAt k3 br), (kB.trans1 k3).trans1 k, by omega, fun g e => by have := o.lt g e; omega, ownsRow_low (ownsRow_keep o k (fun _ _ e => e)) (by omega)⟩
theorem nx_B {w wB w3 : World} {m : Mf} {a : Option Addr} {c : Nat} (kB : Keep Non w wB) (br : wB.heap[w.heap.size]? = some (.cells zMf 102 (0, 0))) (k3 : Keep Non wB w3) (z3 : w3.heap[wB.heap.size]? = some (.cells zMf 102 (0, 0))) (o : w3.ownsRow (wB.heap.size + 1) 190 35 (.slice a m.parts.length c) m.parts.length (ptsC m.parts)) :
    NxEnd w m (.slice a m.parts.length c) wB.heap.size (w3.setRow wB.heap.size (mfC m (.slice a m.parts.length c)).toArray) := by
  have hb := lt_of_block br
  have k : Keep (One wB.heap.size) w3 (w3.setRow wB.heap.size (mfC m (.slice a m.parts.length c)).toArray) := (Keep.refl (One _) _).setRow (.inl (one_self _)) _
  exact ⟨setRow_heap _ _ _ _ _ _ z3, k.at (nonAt k3 br) (by unfold One; omega), (kB.trans1 k3).trans k (fun _ _ e => e) (fun g hg e => by have e' : g = wB.heap.size := e; have := kB.size; omega), hb, fun g e => by have := (o.lt g e).1; omega, ownsRow_low (ownsRow_keep o k (fun g e e2 => by have e' : g = wB.heap.size := e2; have := (o.lt g e).1; omega)) (by omega)⟩
theorem nx_step {w wr : World} {m : Mf} {v : Value} {b : Nat} (h : NxEnd w m v b wr) (o : Obj) (n : Nat) : NxEnd w { m with hi := n } v b ((wr.alloc o).setCell ⟨b, 2, none⟩ (.int .i64 n)) := by
  obtain ⟨h1, h2, h3, h4, h5, h6⟩ := h
  have k : Keep Non wr (wr.alloc o) := (Keep.refl _ _).alloc _
  have k2 : Keep (One b) (wr.alloc o) ((wr.alloc o).setCell ⟨b, 2, none⟩ (.int .i64 n)) := (Keep.refl _ _).setOne _ _
  exact ⟨mf_set2 (nonAt k h1) n, k2.at (nonAt k h2) (by unfold One; omega), (h3.trans1 k).trans k2 (fun _ _ e => e) (fun g hg e => by have e' : g = b := e; omega), h4, h5, ownsRow_keep (ownsRow_keep h6 k (fun _ _ e => e)) k2 (fun g e e2 => (h5 g e).2 e2)⟩
theorem first_ok {lo trim : Nat} {ps : List Pt} (h64 : ps.length ≤ 64) (hok : okPts lo ps) (hhi : endPts lo ps ≤ 1048576) (htr : trim ≤ 1048576) : okMf (firstM lo (endPts lo ps) trim ps) where
  num := by show 0 ≤ 999999; decide
  hi := hhi
  trim := htr
  prev := List.length_replicate ..
  zero := fun _ => by show isZ (List.replicate 32 0) = true; unfold isZ; exact beq_self_eq_true _
  many := Nat.le_trans h64 (by decide)
  parts := hok
  stop := rfl
section
attribute [local go_sem ↓] hV41 hV190 hV102 hW41 hW190 hW102 hB190 hB102
theorem chnext_nil (a : Option Addr) (c lo trim : Nat) (pv : Value) (ps : List Pt) (w : World) (hp : PtsAt w pv ps) (h32 : pts32 ps) (h64 : ps.length ≤ 64) (hok : okPts lo ps) (hhi : endPts lo ps ≤ 1048576) (htr : trim ≤ 1048576) :
    Calls Tryz.prog 215 #[.slice a 0 c, .int .i64 lo, .int .i64 trim, pv] w fun e w' => ∃ v', e = .returned (.tuple #[mfV (firstM lo (endPts lo ps) trim ps) v', .nilIface]) ∧ Keep Non w w' ∧ w'.ownsRow w.heap.size 190 35 v' ps.length (ptsC ps) := by
  have CL := Lib.hid (fun w1 (k : Keep Non w w1) => clone_pts pv ps w1 (hp.keepNon k) h32 (by omega))
  have PA := Lib.hid hp
  obtain ⟨ra, rc, rfl, _, _, _⟩ := hp
  have hbu := fun a n c => build_first lo trim ps a n c
  have C1 := Lib.hid (fun W => chcheck_nil a c W)
  have H1 : Hid (∀ W, Calls Tryz.prog 10 #[.slice a 0 c] W fun e w' => e = .returned (.tuple #[arrV zD, .nilIface]) ∧ Keep Non W w') := Lib.hid (fun W => chhead_nil a c W)
  go_enter Tryz.func215, Tryz.ntmps215
  go_wp2_with (first
    | (go_at_call 54; refine (C1.out _).mono ?_; rintro e w1 ⟨rfl, k1⟩; have b1 : w1.heap[w.heap.size]? = some (.cells zMf 102 (0, 0)) := nonAt k1 (by exact blk_new w (.cells zMf 102 (0, 0))); have B1 := Lib.hid b1; have K1 := Lib.hid (((Keep.refl Non w).alloc _).trans1 k1); clear k1 b1)
    | (go_at_call 10; refine (H1.out _).mono ?_; rintro e w2 ⟨rfl, k2⟩; have B2 := Lib.hid (nonAt k2 B1.out); have K2 := Lib.hid (K1.out.trans1 k2); have hs2 := store_zD w2; have hl2 := load_zD w2; dsimp only [z32] at hs2 hl2; clear k2))
  have kB : Keep Non w (w2.alloc (.cells z32 41)) := K2.out.trans1 ((Keep.refl _ _).alloc _)
  have bh : (w2.alloc (.cells z32 41)).heap[w2.heap.size]? = some (.cells z32 41 (0, 0)) := blk_new _ _
  have br : (w2.alloc (.cells z32 41)).heap[w.heap.size]? = some (.cells zMf 102 (0, 0)) := nonAt ((Keep.refl _ _).alloc _) B2.out
  obtain ⟨wB, hwB⟩ : ∃ wB, wB = w2.alloc (.cells z32 41) := ⟨_, rfl⟩
  rw [← hwB] at kB bh br
  dsimp only [z32] at hwB
  rw [← hwB]
  clear hwB hs2 hl2
  have ldH : ∀ W : World, W.heap[w2.heap.size]? = some (.cells z32 41 (0, 0)) → (holdV 41 ⟨w2.heap.size, 0, none⟩).run Tryz.prog W = .ok (arrV zD) W := fun W h => load81 W _ 0 zD rfl (fun j v hv => by
    rw [Nat.zero_add, cell_of_row _ _ j _ _ _ h]
    have e : z32 = (zD.map bv).toArray := by kernel_rfl
    rw [e]
    simpa using hv)
  have kz : ∀ W : World, Keep Non W (W.alloc (.cells zMf 102)) := fun W => (Keep.refl _ _).alloc _
  have lB := ldH wB bh
  have lBd := ldH wB.drew bh
  have lBz := ldH _ (nonAt (kz wB) bh)
  have lBzd := ldH (wB.alloc (.cells zMf 102)).drew (nonAt (kz wB).drew bh)
  have CA := Lib.hid (CL.out wB.drew (kB.trans1 (Keep.refl Non wB).drew))
  have CB := Lib.hid (CL.out (wB.alloc (.cells zMf 102)).drew (kB.trans1 (kz wB).drew))
  have NB := Lib.hid (blk_new wB (.cells zMf 102 (0, 0)))
  dsimp only [zMf] at lBz lBzd CB
  have LH := Lib.hid ldH
  have KZ := Lib.hid kz
  have KB := Lib.hid kB
  have BH := Lib.hid bh
  have BR := Lib.hid br
  have SB : Hid (w.heap.size < wB.heap.size) := Lib.hid (lt_of_block br)
  clear ldH kz kB bh br
  go_region_law (go_simp; go_at_call 85; first
    | ((with_reducible refine CA.out.mono ?_); rintro e w3 ⟨v3, rfl, k3, o3⟩; obtain ⟨a3, c3, rfl, _, _⟩ := ownsRow_form o3; have k3' := ((Keep.refl Non wB).drew).trans1 k3; have l3 := LH.out w3 (nonAt k3' BH.out); have l3z := LH.out _ (nonAt (KZ.out w3) (nonAt k3' BH.out)); have hst := store_mf0 w3 (firstM lo lo trim ps) a3 ps.length c3 rfl; dsimp only [zMf, MfB] at hst l3z; have K3 := Lib.hid k3'; have O3 : Hid (w3.ownsRow wB.heap.size 190 35 (.slice a3 ps.length c3) ps.length (ptsC ps)) := Lib.hid o3; have E : Hid (NxEnd w (firstM lo lo trim ps) (.slice a3 ps.length c3) w3.heap.size (w3.alloc (.cells (mfC (firstM lo lo trim ps) (.slice a3 ps.length c3)).toArray 102))) := Lib.hid (nx_A (m := firstM lo lo trim ps) KB.out BR.out k3' o3); clear k3 k3' o3)
    | ((with_reducible refine CB.out.mono ?_); rintro e w3 ⟨v3, rfl, k3, o3⟩; obtain ⟨a3, c3, rfl, _, _⟩ := ownsRow_form o3; have k3' := ((KZ.out wB).drew).trans1 k3; have l3 := LH.out w3 (nonAt k3' BH.out); have z3 := nonAt k3 NB.out; have hst := store_mf w3 wB.heap.size (firstM lo lo trim ps) a3 ps.length c3 zMf rfl rfl z3; have o3' : w3.ownsRow (wB.heap.size + 1) 190 35 (.slice a3 ps.length c3) ps.length (ptsC ps) := (by simpa using o3); have E : Hid (NxEnd w (firstM lo lo trim ps) (.slice a3 ps.length c3) wB.heap.size (w3.setRow wB.heap.size (mfC (firstM lo lo trim ps) (.slice a3 ps.length c3)).toArray)) := Lib.hid (nx_B (m := firstM lo lo trim ps) KB.out BR.out k3' z3 o3'); clear o3'; clear k3 k3' o3 z3))
  all_goals
    have e0 := E.out
    first
      | (obtain ⟨W4, hW⟩ : ∃ W4, W4 = w3.setRow wB.heap.size (mfC (firstM lo lo trim ps) (.slice a3 ps.length c3)).toArray := ⟨_, rfl⟩; rw [← hW] at e0 ⊢; clear hW; obtain ⟨bm, hb⟩ : ∃ bm, bm = wB.heap.size := ⟨_, rfl⟩; rw [← hb] at e0 ⊢; clear hb)
      | (obtain ⟨W4, hW⟩ : ∃ W4, W4 = w3.alloc (.cells (mfC (firstM lo lo trim ps) (.slice a3 ps.length c3)).toArray 102) := ⟨_, rfl⟩; rw [← hW] at e0 ⊢; clear hW; obtain ⟨bm, hb⟩ : ∃ bm, bm = w3.heap.size := ⟨_, rfl⟩; rw [← hb] at e0 ⊢; clear hb)
    have EN := Lib.hid e0
    clear e0
    go_wp2_with fail
  all_goals
    go_loopw [64] (fun i wr => ∃ j : Nat, j ≤ ps.length ∧ i = .int .i64 j ∧ NxEnd w (firstM lo (endPts lo (ps.take j)) trim ps) (.slice a3 ps.length c3) bm wr) (fun i _ => ps.length - (intOf i).toNat)
    case atStart => exact ⟨0, by omega, rfl, EN.out⟩
    case round =>
      obtain ⟨j, hj, rfl, hn⟩ := hrel
      have N := Lib.hid hn
      have c2 := mf_2 hn.1
      have f2 := mf_f hn.1 2
      simp only [firstM] at c2
      clear hn
      by_cases hlt : j < ps.length
      · have hlj : (j : Int) < (ps.length : Int) := by omega
        obtain ⟨p, hpj⟩ : ∃ p, ps[j]? = some p := ⟨_, List.getElem?_eq_getElem hlt⟩
        have hst := endPts_step ps lo j p hpj
        have hle := Nat.le_trans (endPts_le ps lo (j + 1)).2 hhi
        have hp5 := h32 p (List.mem_of_getElem? hpj)
        obtain ⟨a1, c1, e1, _, _, hx⟩ := PA.out.keepNon N.out.2.2.1
        injection e1 with e1 e3 e4
        subst e1
        subst e4
        obtain ⟨g, off, rfl, hcell⟩ := hx j p hpj
        have hld := load101 wr g (off + j * 35) p hp5 hcell
        have hsp := store_pt0 wr p hp5
        have q1 := ptc_1 p
        have c2p := mf_2 (nonAt ((Keep.refl Non wr).alloc (PtB p)) N.out.1)
        have f2p := mf_f (nonAt ((Keep.refl Non wr).alloc (PtB p)) N.out.1) 2
        simp only [firstM] at c2p
        dsimp only [zPt, PtB] at hsp
        dsimp only [PtB] at c2p f2p
        have ST := Lib.hid hst
        clear hx hcell hpj
        go_wp2_with fail
        have hn2 := nx_step N.out (PtB p) (endPts lo (ps.take (j + 1)))
        have ec : (((endPts lo (ps.take (j + 1)) : Nat)) : Int) = (endPts lo (ps.take j) : Int) + p.many := by rw [ST.out]; exact Int.natCast_add _ _
        dsimp only [PtB] at hn2
        rw [ec] at hn2
        exact ⟨⟨j + 1, by omega, by first | rfl | go_num, hn2⟩, by simp [intOf]; omega⟩
      · obtain rfl : j = ps.length := by omega
        rw [List.take_length] at N
        have hl3 := load_mf N.out.1 (List.length_replicate ..)
        have CK := Lib.hid (mcheck_ok (firstM lo (endPts lo ps) trim ps) (.slice a3 ps.length c3) wr (first_ok h64 hok hhi htr) (PtsAt.of N.out.2.2.2.2.2 h32))
        go_wp2_with (go_at_call 114; refine CK.out.mono ?_; rintro e w5 ⟨rfl, k5⟩; have hl5 := load_mf (nonAt k5 N.out.1) (List.length_replicate ..); have z5 := nonAt k5 N.out.2.1; have hs5 := store_mf w5 w.heap.size (firstM lo (endPts lo ps) trim ps) a3 ps.length c3 zMf (List.length_replicate ..) rfl z5; have hl6 := load_mf (m := firstM lo (endPts lo ps) trim ps) (pv := .slice a3 ps.length c3) (setRow_heap w5 w.heap.size _ (mfC (firstM lo (endPts lo ps) trim ps) (.slice a3 ps.length c3)).toArray _ _ z5) (List.length_replicate ..); have L6 := Lib.hid hl6; have K5 := Lib.hid k5; clear k5 z5 hl6)
        have hlv := L6.out
        unfold holdV at hlv
        refine bodyPost_ret (v := .tuple #[mfV (firstM lo (endPts lo ps) trim ps) (.slice a3 ps.length c3), .nilIface]) (by simp [results, Tryz.results215, asAddr, hlv]) rfl ?_
        have k6 : Keep (One w.heap.size) w5 (w5.setRow w.heap.size (mfC (firstM lo (endPts lo ps) trim ps) (.slice a3 ps.length c3)).toArray) := (Keep.refl (One w.heap.size) _).setRow (.inl (one_self _)) _
        have ho := N.out.2.2.2.2
        exact ⟨_, rfl, (N.out.2.2.1.trans1 K5.out).trans k6 (fun _ _ e => e) (fun g hg e => by have e' : g = w.heap.size := e; omega), ownsRow_keep (ownsRow_keep ho.2 K5.out (fun _ _ e => e)) k6 (fun g e e2 => by have e' : g = w.heap.size := e2; have := (ho.1 g e).1; omega)⟩
end
end Go.Proofs.YtdmckfkhkjkdnaaGreatDoor
namespace Go.Proofs.YtdmckfkhkjkdnaaGreatDoor
open Go.RowKit Go.Maps
theorem lab_ne {i j : Nat} (hi : i < 10) (hj : j < 10) (h : i ≠ j) : labelN 0 i ≠ labelN 0 j := by
  unfold labelN figN
  rw [Lib.decDigits_one hi, Lib.decDigits_one hj]
  intro e
  simp only [List.append_assoc, List.append_cancel_left_eq, List.length_singleton] at e
  injection e with e _
  have := congrArg UInt8.toNat e
  simp only [UInt8.toNat_ofNat'] at this
  omega
theorem lab_cur (n i : Nat) : labelN n i ≠ cname := by
  intro e
  simp [labelN, cname] at e
theorem lab_tit (n i m : Nat) : labelN n i ≠ titleN m := by
  intro e
  simp [labelN, titleN] at e
theorem cur_tit (m : Nat) : cname ≠ titleN m := by
  intro e
  simp [cname, titleN] at e
def putX (X : Dk) (n b : Byt) : Dk := { X with sure := putFl X.shown n b, shown := putFl X.shown n b, pend := [] }
section
variable {X : Dk} {n b m : Byt}
theorem putX_has_same (hm : IsMap X.shown) : fhas (putX X n b).shown n = true := putFl_has_same hm
theorem putX_get_same (hm : IsMap X.shown) : fget (putX X n b).shown n = b := putFl_get_same hm
theorem putX_has (h1 : okObj m) (h2 : m ≠ n) : fhas (putX X n b).shown m = fhas X.shown m := putFl_has_other h2 (h1.ne_tilde)
theorem putX_get (h1 : okObj m) (h2 : m ≠ n) : fget (putX X n b).shown m = fget X.shown m := putFl_get_other h2 (h1.ne_tilde)
end
theorem put_cases {X : Dk} (hf : X.free) {a k f : Nat} (hl : X.lim a k f) (ha : a < 512) (n b : Byt) (hb : b.length ≤ 65536) :
    (X.sput n b = (5, X) ∧ X.room < f + b.length) ∨ X.sput n b = (0, putX X n b) := by
  rw [sput_free hf hl.map n b hb]
  by_cases h : X.full (tilde n) b
  · rw [if_pos h]
    refine .inl ⟨rfl, ?_⟩
    rcases Nat.lt_or_ge X.room (f + b.length) with h2 | h2
    · exact h2
    · exact absurd h (not_full hl ha h2)
  · rw [if_neg h]
    exact .inr rfl
theorem putX_of {X : Dk} {n b : Byt} (h : X.sput n b = (0, putX X n b)) : (X.sput n b).2 = putX X n b := by rw [h]
theorem putX_lim {X : Dk} {a k f : Nat} (hl : X.lim a k f) {n b : Byt} (h : X.sput n b = (0, putX X n b)) : (putX X n b).lim (a + 2) (k + 2) (f + 2 * b.length) := by
  have := hl.sput n b
  rwa [h] at this
theorem putX_tidy {X : Dk} (ht : X.tidy) (hf : X.free) (hm : IsMap X.shown) {n b : Byt} (hn : okObj n) (hb : b.length ≤ 65536) (h : X.sput n b = (0, putX X n b)) : (putX X n b).tidy := by
  have := ht.sput hf hm hn hb
  rwa [h] at this
structure PInv (L : Lg) (X : Dk) (c : Cu) : Prop where
  ok : okCu c
  lo : c.lo = 0
  hi : c.hi ≤ 200
  pos : 0 < c.hi
  stand : c.next = min c.hi (64 * c.parts.length)
  few : 64 * c.parts.length < c.hi + 64
  parts : c.parts = (List.range c.parts.length).map (fun i => ptOf (64 * i) (slabL L c.hi (64 * i)))
  free : X.free
  lim : X.lim (4 * c.parts.length + 4) (4 * c.parts.length + 4) (30000 * c.parts.length + 30000)
  tidy : X.tidy
  segs : HasSegs X c.parts
  cur : fhas X.shown cname = true ∧ fget X.shown cname = cuBy c
  title : fhas X.shown (titleN 0) = false
  trim : c.trim = 0
structure PErr (X : Dk) (c : Cu) : Prop where
  ok : okCu c
  lo : c.lo = 0
  free : X.free
  lim : X.lim 40 40 1000000
  tidy : X.tidy
  cur : fhas X.shown cname = true ∧ fget X.shown cname = cuBy c
  title : fhas X.shown (titleN 0) = false
theorem PInv.few4 {L : Lg} {X : Dk} {c : Cu} (h : PInv L X c) : c.parts.length ≤ 4 := by
  have := h.few
  have := h.hi
  omega
theorem PInv.err {L : Lg} {X : Dk} {c : Cu} (h : PInv L X c) : PErr X c := by
  have := h.few4
  exact ⟨h.ok, h.lo, h.free, h.lim.mono (by omega) (by omega) (by omega), h.tidy, h.cur, h.title⟩
theorem okPt_nums {p : Pt} (h : okPt p) : p.many < 2 ^ 63 ∧ p.size < 2 ^ 63 ∧ p.sum.length = 32 := by
  obtain ⟨h1, h2, h3, h4, h5⟩ := h
  refine ⟨?_, ?_, h5⟩ <;> omega
theorem okPts_all : ∀ (l : List Pt) (a : Nat), okPts a l → ∀ p ∈ l, okPt p
  | [], _, _, p, hp => by cases hp
  | q :: r, a, h, p, hp => by
    rcases List.mem_cons.1 hp with rfl | hp
    · exact h.2.1
    · exact okPts_all r _ h.2.2 p hp
theorem okCu.p32 {c : Cu} (h : okCu c) : pts32 c.parts := fun p hp => (okPts_all _ _ h.parts p hp).2.2.2.2
theorem cu_len' {c : Cu} (h : okCu c) : (cuBy c).length ≤ 3300 := cu_len h (fun p hp => okPt_nums (okPts_all _ _ h.parts p hp))
theorem slab_len64 (L : Lg) (hi f : Nat) : (slabL L hi f).length ≤ 64 := by rw [slab_len]; omega
theorem slab_seg {L : Lg} (h : Log1 L) (hi f : Nat) (hf : f ≤ 1048576) : (segB f (slabL L hi f)).length ≤ 6207 := seg_len (slab_ok h) (slab_len64 _ _ _) hf
section
variable {L : Lg} {X : Dk} {c : Cu}
theorem PInv.cu (h : PInv L X c) (hl : Log1 L) (h3 : ∀ a, (cellL L a).1 ≠ 3) (hlt : c.next < c.hi) :
    okCu (partCu L c) ∧ (partCu L c).lo = 0 ∧ (partCu L c).hi = c.hi ∧ (partCu L c).parts.length = c.parts.length + 1 ∧ (partCu L c).next = min c.hi (64 * (c.parts.length + 1)) ∧ 64 * (c.parts.length + 1) < c.hi + 64 ∧
    (partCu L c).parts = (List.range (c.parts.length + 1)).map (fun i => ptOf (64 * i) (slabL L c.hi (64 * i))) ∧ (partCu L c).trim = 0 := by
  have h4 := h.few4
  have hs := h.stand
  have hn : c.next = 64 * c.parts.length := by omega
  refine ⟨partCu_ok h.ok hl hlt (by omega), h.lo, rfl, by simp [partCu], ?_, by omega, ?_, ?_⟩
  · show c.next + (slabL L c.hi c.next).length = _
    rw [slab_len]
    omega
  · show c.parts ++ [ptOf c.next (slabL L c.hi c.next)] = _
    rw [List.range_succ, List.map_append, ← h.parts, hn]
    rfl
  · show trimC c.trim c.next (slabL L c.hi c.next) = 0
    rw [trimC_none _ _ _ (fun x hx => by unfold slabL at hx; obtain ⟨j, _, rfl⟩ := List.mem_map.1 hx; exact h3 _), h.trim]
theorem segs_put {n b : Byt} {ps : List Pt} (h : HasSegs X ps) (hn : ∀ i, i < ps.length → labelN 0 i ≠ n) (hp : ps.length ≤ 10) : HasSegs (putX X n b) ps := by
  intro i pt hi
  have hlt : i < ps.length := lt_of_some hi
  obtain ⟨f, cl, e, h1, h2, h3⟩ := h i pt hi
  have ho := label_ok 0 i (by omega) (by omega)
  exact ⟨f, cl, e, by rw [putX_has ho (hn i hlt)]; exact h1, by rw [putX_get ho (hn i hlt)]; exact h2, h3⟩
theorem segs_snoc {f : Nat} {cl : List Cl} {ps : List Pt} (h : HasSegs X ps) (hm : IsMap X.shown) (hp : ps.length ≤ 8) (hne : cl ≠ []) (hl : cl.length ≤ 64) (hok : ∀ x ∈ cl, okCl x) (hf : f + cl.length ≤ 1048576) : HasSegs (putX X (labelN 0 ps.length) (segB f cl)) (ps ++ [ptOf f cl]) := by
  intro i pt hi
  rcases Nat.lt_or_ge i ps.length with hlt | hge
  · rw [List.getElem?_append_left hlt] at hi
    exact segs_put h (fun j hj => lab_ne (by omega) (by omega) (by omega)) (by omega) i pt hi
  · have hi' := lt_of_some hi
    simp at hi'
    obtain rfl : i = ps.length := by omega
    rw [List.getElem?_append_right (Nat.le_refl _)] at hi
    simp at hi
    exact ⟨f, cl, hi.symm, putX_has_same hm, putX_get_same hm, hne, hl, hok, hf⟩
theorem PInv.one (h : PInv L X c) (hl : Log1 L) :
    (X.sput (labelN 0 c.parts.length) (segB c.next (slabL L c.hi c.next)) = (5, X) ∧ X.room < 1000000) ∨ X.sput (labelN 0 c.parts.length) (segB c.next (slabL L c.hi c.next)) = (0, putX X (labelN 0 c.parts.length) (segB c.next (slabL L c.hi c.next))) := by
  have h4 := h.few4
  have hs := slab_seg hl c.hi c.next (by have := h.ok.le; have := h.ok.hi; omega)
  rcases put_cases h.free h.lim (by omega) (labelN 0 c.parts.length) _ (Nat.le_trans hs (by omega)) with ⟨e, h1⟩ | e
  · exact .inl ⟨e, by omega⟩
  · exact .inr e
theorem PInv.mid (h : PInv L X c) (hl : Log1 L) (e : X.sput (labelN 0 c.parts.length) (segB c.next (slabL L c.hi c.next)) = (0, putX X (labelN 0 c.parts.length) (segB c.next (slabL L c.hi c.next)))) :
    (putX X (labelN 0 c.parts.length) (segB c.next (slabL L c.hi c.next))).lim (4 * c.parts.length + 6) (4 * c.parts.length + 6) (30000 * c.parts.length + 30000 + 12414) ∧ PErr (putX X (labelN 0 c.parts.length) (segB c.next (slabL L c.hi c.next))) c := by
  have h4 := h.few4
  have hs := slab_seg hl c.hi c.next (by have := h.ok.le; have := h.ok.hi; omega)
  have hlim := (putX_lim h.lim e).mono (a' := 4 * c.parts.length + 6) (k' := 4 * c.parts.length + 6) (f' := 30000 * c.parts.length + 30000 + 12414) (by omega) (by omega) (by omega)
  have hlo := label_ok 0 c.parts.length (by omega) (by omega)
  refine ⟨hlim, h.ok, h.lo, h.free, hlim.mono (by omega) (by omega) (by omega), putX_tidy h.tidy h.free h.lim.map hlo (by omega) e, ?_, ?_⟩
  · rw [putX_has cname_ok (lab_cur _ _).symm, putX_get cname_ok (lab_cur _ _).symm]
    exact h.cur
  · rw [putX_has (title_ok 0 (by omega)) (lab_tit _ _ _).symm]
    exact h.title
theorem PInv.two (h : PInv L X c) (hl : Log1 L) (h3 : ∀ a, (cellL L a).1 ≠ 3) (hlt : c.next < c.hi) (e : X.sput (labelN 0 c.parts.length) (segB c.next (slabL L c.hi c.next)) = (0, putX X (labelN 0 c.parts.length) (segB c.next (slabL L c.hi c.next)))) :
    ((putX X (labelN 0 c.parts.length) (segB c.next (slabL L c.hi c.next))).sput cname (cuBy (partCu L c)) = (5, putX X (labelN 0 c.parts.length) (segB c.next (slabL L c.hi c.next))) ∧ X.room < 1000000) ∨
    ((putX X (labelN 0 c.parts.length) (segB c.next (slabL L c.hi c.next))).sput cname (cuBy (partCu L c)) = (0, putX (putX X (labelN 0 c.parts.length) (segB c.next (slabL L c.hi c.next))) cname (cuBy (partCu L c))) ∧ PInv L (putX (putX X (labelN 0 c.parts.length) (segB c.next (slabL L c.hi c.next))) cname (cuBy (partCu L c))) (partCu L c)) := by
  have h4 := h.few4
  have hs := slab_seg hl c.hi c.next (by have := h.ok.le; have := h.ok.hi; omega)
  obtain ⟨m1, m2⟩ := h.mid hl e
  obtain ⟨k1, k2, k3, k4, k5, k6, k7, k8⟩ := h.cu hl h3 hlt
  have hcl := cu_len' k1
  rcases put_cases m2.free m1 (by omega) cname (cuBy (partCu L c)) (by omega) with ⟨e2, e3⟩ | e2
  · exact .inl ⟨e2, by have e3' : X.room < _ := e3; omega⟩
  · refine .inr ⟨e2, k1, k2, by rw [k3]; exact h.hi, by rw [k3]; exact h.pos, by rw [k3, k4]; exact k5, by rw [k3, k4]; exact k6, by rw [k3, k4]; exact k7, h.free, ?_, putX_tidy m2.tidy m2.free m2.lim.map cname_ok (by omega) e2, ?_, ⟨putX_has_same m1.map, putX_get_same m1.map⟩, ?_, k8⟩
    · rw [k4]
      exact (putX_lim m1 e2).mono (by omega) (by omega) (by omega)
    · refine segs_put ?_ (fun i _ => lab_cur 0 i) (by rw [k4]; omega)
      refine segs_snoc h.segs h.lim.map (by omega) (slab_ne hlt) (slab_len64 _ _ _) (slab_ok hl) ?_
      rw [slab_len]
      have := h.ok.hi
      omega
    · rw [putX_has (title_ok 0 (by omega)) (cur_tit 0).symm]
      exact m2.title
def exM (c : Cu) : Mf := firstM 0 c.hi 0 c.parts
theorem exM_ok (h : PInv L X c) (hd : c.next = c.hi) : okMf (exM c) ∧ endPts 0 c.parts = c.hi := by
  have h4 := h.few4
  have hst := h.ok.stop
  have hp := h.ok.parts
  rw [h.lo] at hst hp
  have e : endPts 0 c.parts = c.hi := by rw [hst, hd]
  refine ⟨?_, e⟩
  unfold exM
  rw [← e]
  exact first_ok (by omega) hp (by rw [e]; exact h.ok.hi) (by omega)
theorem mf_len {m : Mf} (hm : okMf m) (h64 : m.parts.length ≤ 64) (hn : m.num ≤ 1048576) (h1 : m.lo ≤ 1048576) (h2 : m.hi ≤ 1048576) (h3 : m.trim ≤ 1048576) (hp : ∀ p ∈ m.parts, p.many < 2 ^ 63 ∧ p.size < 2 ^ 63 ∧ p.sum.length = 32) : (mfBy m).length ≤ 3400 := by
  have l1 := ptsB_len m.parts hp
  have a1 := vput_nine (n := m.num) (by omega)
  have a2 := vput_nine (n := m.lo) (by omega)
  have a3 := vput_nine (n := m.hi) (by omega)
  have a4 := vput_nine (n := m.trim) (by omega)
  have a5 := vput_nine (n := m.parts.length) (by omega)
  have hpr := hm.prev
  have h8 : (mfT m).length ≤ 3380 := by
    unfold mfT
    simp only [List.length_append]
    omega
  have h9 := frame_len (t := mfT m) (by omega)
  exact Nat.le_trans h9 (by omega)
theorem exM_len (h : PInv L X c) (hd : c.next = c.hi) : (mfBy (exM c)).length ≤ 3400 := by
  have h4 := h.few4
  have := h.hi
  exact mf_len (exM_ok h hd).1 (by show c.parts.length ≤ 64; omega) (by show 0 ≤ 1048576; omega) (by show 0 ≤ 1048576; omega) (by show c.hi ≤ 1048576; omega) (by show 0 ≤ 1048576; omega) (fun p hp => okPt_nums (okPts_all _ _ h.ok.parts p hp))
structure PEnd (L : Lg) (X : Dk) (c : Cu) : Prop where
  hi : c.hi ≤ 200
  few : 64 * c.parts.length < c.hi + 64
  stand : c.hi ≤ 64 * c.parts.length
  parts : c.parts = (List.range c.parts.length).map (fun i => ptOf (64 * i) (slabL L c.hi (64 * i)))
  free : X.free
  lim : X.lim 40 40 1000000
  tidy : X.tidy
  segs : HasSegs X c.parts
  okm : okMf (exM c)
theorem PEnd.same {L L' : Lg} {X X' : Dk} {c c' : Cu} (h : PEnd L X c) (h' : PEnd L' X' c') (e : c'.hi = c.hi) (hs : ∀ i, slabL L' c.hi (64 * i) = slabL L c.hi (64 * i)) : exM c' = exM c := by
  have hk : c'.parts.length = c.parts.length := by
    have a1 := h.few; have a2 := h.stand; have b1 := h'.few; have b2 := h'.stand
    omega
  have hp : c'.parts = c.parts := by
    rw [h'.parts, hk, e]
    conv => rhs; rw [h.parts]
    exact List.map_congr_left (fun i _ => by rw [hs i])
  unfold exM
  rw [hp, e]
theorem PInv.three (h : PInv L X c) (hd : c.next = c.hi) :
    (X.sput (titleN 0) (mfBy (exM c)) = (5, X) ∧ X.room < 1000000) ∨
    (X.sput (titleN 0) (mfBy (exM c)) = (0, putX X (titleN 0) (mfBy (exM c))) ∧ (putX X (titleN 0) (mfBy (exM c))).mild ∧ IsMap (putX X (titleN 0) (mfBy (exM c))).shown ∧ ((putX X (titleN 0) (mfBy (exM c))).sdel cname).1 = 0 ∧ PEnd L ((putX X (titleN 0) (mfBy (exM c))).sdel cname).2 c) := by
  have h4 := h.few4
  have hm := exM_len h hd
  rcases put_cases h.free h.lim (by omega) (titleN 0) (mfBy (exM c)) (by omega) with ⟨e, h1⟩ | e
  · exact .inl ⟨e, by omega⟩
  · have hlim := (putX_lim h.lim e).mono (a' := 40) (k' := 40) (f' := 1000000) (by omega) (by omega) (by omega)
    have hfr : (putX X (titleN 0) (mfBy (exM c))).free := h.free
    have hh : fhas (putX X (titleN 0) (mfBy (exM c))).shown cname = true := by rw [putX_has cname_ok (cur_tit 0)]; exact h.cur.1
    have htd := putX_tidy h.tidy h.free h.lim.map (title_ok 0 (by omega)) (by omega) e
    have hsg := segs_put (b := mfBy (exM c)) h.segs (fun i _ => lab_tit 0 i 0) (by omega)
    refine .inr ⟨e, hlim.mild (by omega) (by omega) (by omega), hlim.map, ?_⟩
    generalize putX X (titleN 0) (mfBy (exM c)) = Y at hlim hfr hh htd hsg ⊢
    rw [sdel_free hfr, if_pos hh]
    refine ⟨rfl, h.hi, h.few, by have := h.stand; omega, h.parts, hfr, ⟨Nat.le_trans (size_del_le hlim.map) hlim.files, Nat.zero_le _, Nat.le_trans (fused_del_le hlim.map) hlim.used, hlim.fuse, isMap_del hlim.map⟩, ?_, ?_, (exM_ok h hd).1⟩
    · intro n hn
      by_cases en : n = cname
      · subst en; exact cname_ok
      · have hn' : fhas (fdel Y.shown cname) n = true := hn
        rw [fhas_del_other en] at hn'
        exact htd n hn'
    · intro i pt hi
      obtain ⟨f, cl, e, a1, a2, a3⟩ := hsg i pt hi
      exact ⟨f, cl, e, by show fhas (fdel Y.shown cname) _ = true; rw [fhas_del_other (lab_cur 0 i)]; exact a1, by show fget (fdel Y.shown cname) _ = _; rw [fget_del_other (lab_cur 0 i)]; exact a2, a3⟩
end
end Go.Proofs.YtdmckfkhkjkdnaaGreatDoor
