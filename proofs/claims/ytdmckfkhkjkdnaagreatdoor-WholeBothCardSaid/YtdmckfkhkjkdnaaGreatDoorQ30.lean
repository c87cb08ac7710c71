/- vault.Open, where there is no manifest: walked. · vault.held, at the first manifest: walked. · vault.Commit of the first manifest: walked (printed by  -/
import Derived.Test.YtdmckfkhkjkdnaaGreatDoorQ27
set_option linter.unusedVariables false
set_option maxRecDepth 100000
set_option maxHeartbeats 16000000
namespace Go.Proofs.YtdmckfkhkjkdnaaGreatDoor
open Go.RowKit Go.Maps
section
attribute [local go_sem ↓] hV41 hV190 hV102 hW41 hW190 hW102 hB190 hB102
theorem vopen_ok (F0 : Nat → Prop) (p : Nat) (X : Dk) (a k f : Nat) (w : World) (d0 : DiskAt F0 w p X) (hd : X.free) (hl : X.lim a k f) (ha : a ≤ 505) (hk : k + a ≤ 990) (hf : f ≤ 400000000) (ht : X.tidy) (hh : fhas X.shown (titleN 0) = false) :
    Calls Tryz.prog 16 #[.pointer (some ⟨p, 0, none⟩)] w fun e w' => ∃ b q, e = .returned (.tuple #[.pointer (some ⟨b, 0, none⟩), .nilIface]) ∧ w'.heap[b]? = some (VtB q (.slice none 0 0)) ∧ Keep F0 w w' ∧ w.heap.size ≤ b ∧ ∃ F', Sub F' F0 w ∧ ¬ F' b ∧ (∀ g, F' g → g < w'.heap.size) ∧ StoreAt F' w' q p X := by
  have SO : Hid (Calls Tryz.prog 50 #[.pointer (some ⟨p, 0, none⟩)] w fun e w' => ∃ q, e = .returned (.tuple #[.pointer (some ⟨q, 0, none⟩), .nilIface]) ∧ w.heap.size ≤ q ∧ StoreTo F0 w q p X w') := Lib.hid (by
    refine (sopen_up F0 p X a k f w d0 hd hl ha hk hf (fun n h => (ht n h).1)).mono ?_
    rintro e w' ⟨q, ns, rfl, hq, hp, t⟩
    rw [openD_tidy ht ns hp d0.str] at t
    exact ⟨q, rfl, hq, t⟩)
  have TT := Lib.hid (fun W => vtitle_ok 0 W (by omega))
  have GT := Lib.hid (fun F q W (d : StoreAt F W q p X) => sget_none F q p (titleN 0) X W d (title_ok 0 (by omega)) hd.1 hh)
  have EE := eql_err 4 4
  clear d0 hd hl ht hh
  unfold sv at TT GT
  go_enter Tryz.func16, Tryz.ntmps16
  go_wp2_with (go_at_call 50; refine SO.out.mono ?_; rintro r w1 ⟨q, rfl, hq, k1, F1, s1, d1⟩; have K1 := Lib.hid k1; have S1 := Lib.hid s1; have D1 := Lib.hid d1; clear k1 s1 d1)
  have kB : Keep Non w1 (w1.alloc (VtB q (.slice none 0 0))) := (Keep.refl _ _).alloc _
  have BB := Lib.hid (blk_new w1 (VtB q (.slice none 0 0)))
  have x1 := vt_1 (blk_new w1 (VtB q (.slice none 0 0)))
  have KB := Lib.hid kB
  have TTB := Lib.hid (TT.out (w1.alloc (VtB q (.slice none 0 0))))
  have DB := Lib.hid (fun W (k : Keep Non (w1.alloc (VtB q (.slice none 0 0))) W) => D1.out.keep (kB.trans1 k) (fun _ _ e => e))
  have VB : Hid (∀ W, Keep Non (w1.alloc (VtB q (.slice none 0 0))) W → W.cell? ⟨w1.heap.size, 1, none⟩ = some (.slice none 0 0)) := Lib.hid (fun W k => vt_1 (k.at (blk_new w1 _) (fun e => e)))
  unfold VtB at x1 TTB
  clear kB TT
  refine wp_loop_rounds 1 ?_
  rw [rounds_succ]
  go_wp2_with (first
    | (go_at_call 52; refine TTB.out.mono ?_; rintro r w2 ⟨rfl, k2⟩; have GTW := Lib.hid (GT.out F1 q w2 (DB.out _ k2)); have K2 := Lib.hid k2; clear k2)
    | (go_at_call 51; refine GTW.out.mono ?_; rintro r w3 ⟨rfl, k3⟩; have x3 := VB.out _ (K2.out.trans1 k3); have K3 := Lib.hid (K2.out.trans1 k3); clear k3)
    | (go_at_call 54; refine (chcheck_nil none 0 w3).mono ?_; rintro r w4 ⟨rfl, k4⟩; have K4 := Lib.hid (K3.out.trans1 k4); clear k4))
  go_ret2
  have k14 := KB.out.trans1 K4.out
  have kF : Keep F0 w w4 := K1.out.trans1 k14.ofNon
  have hs1 := K1.out.size
  have hs4 := k14.size
  have sB : (w1.alloc (VtB q (.slice none 0 0))).heap.size = w1.heap.size + 1 := by simp
  have hs5 := K4.out.size
  refine ⟨_, q, rfl, K4.out.at BB.out (fun e => e), kF, hs1, fun g => F1 g ∧ g < w1.heap.size, fun g x => S1.out g x.1, fun x => by have := x.2; omega, fun g x => by have := x.2; omega, ?_⟩
  have d := D1.out
  obtain ⟨b1, i1, G, dg, hg⟩ := d
  have dl : StoreAt (fun g => F1 g ∧ g < w1.heap.size) w1 q p X := ⟨b1, ⟨i1, lt_of_block b1⟩, fun g => G g ∧ g < w1.heap.size, dg.low, fun g x => ⟨⟨(hg g x.1).1, x.2⟩, (hg g x.1).2⟩⟩
  exact dl.keep k14 (fun _ _ e => e)
end
def HasSegs (X : Dk) (ps : List Pt) : Prop := ∀ (i : Nat) pt, ps[i]? = some pt → ∃ f cl, pt = ptOf f cl ∧ fhas X.shown (labelN 0 i) = true ∧ fget X.shown (labelN 0 i) = segB f cl ∧ cl ≠ [] ∧ cl.length ≤ 64 ∧ (∀ x ∈ cl, okCl x) ∧ f + cl.length ≤ 1048576
section
attribute [local go_sem ↓] hV41 hV190 hV102 hW41 hW190 hW102 hB190 hB102
theorem vheld_ok (F : Nat → Prop) (b q p : Nat) (lv : Value) (m : Mf) (pv : Value) (X : Dk) (w : World) (hb : w.heap[b]? = some (VtB q lv)) (d : StoreAt F w q p X) (hdn : X.down = false) (hlay : Lay w) (hp : PtsAt w pv m.parts) (h32 : m.prev.length = 32) (hnum : m.num = 0) (h64 : m.parts.length ≤ 64) (hS : HasSegs X m.parts) :
    Calls Tryz.prog 272 #[.pointer (some ⟨b, 0, none⟩), mfV m pv] w fun e w' => e = .returned .nilIface ∧ Keep Non w w' := by
  have PA := Lib.hid hp
  have VS : Hid (∀ W, Keep Non w W → W.cell? ⟨b, 0, none⟩ = some (.pointer (some ⟨q, 0, none⟩))) := Lib.hid (fun W k => vt_0 (nonAt k hb))
  have B := Lib.hid hb
  have HS := Lib.hid hS
  have LY := Lib.hid hlay
  have LB := Lib.hid (fun W i (hi : i < 64) => vlabel_ok 0 i W (by omega) (by omega))
  have GT := Lib.hid (fun W i (k : Keep Non w W) f cl (h1 : fhas X.shown (labelN 0 i) = true) (h2 : fget X.shown (labelN 0 i) = segB f cl) (hi : i < 64) (hl : (segB f cl).length ≤ 131072) => by
    have := sget_ok F q p (labelN 0 i) X W (d.keep k (fun _ _ e => e)) (label_ok 0 i (by omega) (by omega)) hdn h1 (by rw [h2]; omega)
    rw [h2] at this
    exact this)
  obtain ⟨a, c, rfl, hc, ha, hx⟩ := hp
  have q36 := mfc_36 m (.slice a m.parts.length c) h32
  have MB : Hid (∀ W, Keep Non (w.alloc (MfB m (.slice a m.parts.length c))) W → W.cell? ⟨w.heap.size, 0, none⟩ = some (.int .i64 m.num) ∧ W.cell? ⟨w.heap.size, 36, none⟩ = some (.slice a m.parts.length c)) := Lib.hid (fun W k => ⟨mf_0 (nonAt k (blk_new w _)), mf_36 (nonAt k (blk_new w _)) h32⟩)
  have m36 := mf_36 (blk_new w (MfB m (.slice a m.parts.length c))) h32
  have KA := Lib.hid ((Keep.refl Non w).alloc (MfB m (.slice a m.parts.length c)))
  rw [hnum] at MB
  clear hx ha hb d hdn hlay hS
  unfold mfV
  unfold MfB at m36
  unfold sv at LB GT
  go_enter Tryz.func272, Tryz.ntmps272
  go_wp2_with fail
  have K0 : Hid (Keep Non w (w.alloc (MfB m (.slice a m.parts.length c)))) := KA
  obtain ⟨w0, hw0⟩ : ∃ w0, w0 = w.alloc (MfB m (.slice a m.parts.length c)) := ⟨_, rfl⟩
  rw [← hw0] at MB K0
  unfold MfB at hw0
  rw [← hw0]
  clear KA m36 hw0
  go_loopw [14] (fun i wr => ∃ j : Nat, j ≤ m.parts.length ∧ i = .int .i64 j ∧ Keep Non w0 wr) (fun i _ => m.parts.length - (intOf i).toNat)
  case atStart => exact ⟨0, by omega, rfl, Keep.refl _ _⟩
  case round =>
    obtain ⟨j, hj, rfl, hk⟩ := hrel
    have K := Lib.hid hk
    clear hk
    by_cases hlt : j < m.parts.length
    · have hlj : (j : Int) < (m.parts.length : Int) := by omega
      obtain ⟨pt, hpj⟩ : ∃ pt, m.parts[j]? = some pt := ⟨_, List.getElem?_eq_getElem hlt⟩
      obtain ⟨f, cl, rfl, f1, f2, hne, hcl, hokc, hfl⟩ := HS.out j pt hpj
      obtain ⟨a1, c1, e1, _, _, hx⟩ := PA.out.keepNon (K0.out.trans1 K.out)
      injection e1 with e1 e3 e4
      subst e1
      subst e4
      obtain ⟨g, off, rfl, hcell⟩ := hx j _ hpj
      have p5 : (ptOf f cl).sum.length = 32 := digB_len _
      have hsl := seg_len hokc hcl (show f ≤ 1048576 by omega)
      have hrl := run_len hokc hcl (show f ≤ 1048576 by omega)
      have MH := Lib.hid (fun W v (k : Keep Non w W) (hb : Bs W v (segB f cl)) (ho : okc v) (hv : ∀ g, v.ownBlock = some g → g < W.heap.size) => mholds_ok f v cl W hb ho hv hcl hokc hfl (by omega) (by omega) (LY.out.keepNon k).kon (LY.out.keepNon k).frs)
      have GTJ := Lib.hid (fun W (k : Keep Non w W) => GT.out W j k f cl f1 f2 (by omega) (by omega))
      have hlen : (segB f cl).length ≤ 6207 := hsl
      generalize hpt : ptOf f cl = pt at hcell p5 MH
      generalize hsb : segB f cl = sb at MH GTJ hlen
      have hld := load101 wr g (off + j * 35) pt p5 hcell
      have hsp := store_pt0 wr pt p5
      have kwp : Keep Non w (wr.alloc (PtB pt)) := (K0.out.trans1 K.out).alloc _
      have k0p : Keep Non w0 (wr.alloc (PtB pt)) := K.out.alloc _
      have v0 := VS.out _ kwp
      have n0 := (MB.out _ k0p).1
      have LBJ := Lib.hid (LB.out (wr.alloc (PtB pt)).drew j (by omega))
      have PL : Hid (∀ W, Keep Non (wr.alloc (PtB pt)) W → (holdV 190 ⟨wr.heap.size, 0, none⟩).run Tryz.prog W = .ok (ptV pt) W) := Lib.hid (fun W k => load_pt (nonAt k (blk_new wr (PtB pt))) p5)
      have KWP := Lib.hid kwp
      have NC : ((0 : Nat) : Int) = 0 := rfl
      rw [NC] at n0
      clear hx hpj hne hcl hokc hfl hsl hrl f1 f2 p5 kwp k0p hpt hsb
      dsimp only [zPt, PtB] at hsp
      dsimp only [PtB] at v0 n0 LBJ
      rw [NC] at LBJ
      go_wp2_with fail
      have kpd : Keep Non (wr.alloc (PtB pt)) (wr.alloc (PtB pt)).drew := (Keep.refl _ _).drew
      have KPD := Lib.hid kpd
      clear kpd
      go_region_law (go_simp; first
        | (go_at_call 270; refine LBJ.out.mono ?_; rintro r w2 ⟨rfl, k2⟩; have k2' := KPD.out.trans1 k2; have v2 := VS.out _ (KWP.out.trans1 k2'); have GTW := Lib.hid (GTJ.out w2 (KWP.out.trans1 k2')); have K2 := Lib.hid k2'; clear k2 k2')
        | (go_at_call 51; refine GTW.out.mono ?_; rintro r w3 ⟨v3, rfl, k3, o3⟩; obtain ⟨a3, c3, rfl, _, _⟩ := ownsRow_form o3; have k3' := K2.out.trans1 k3; have hl3 := PL.out _ k3'; have MHW := Lib.hid (MH.out w3 _ (KWP.out.trans1 k3') (Rd.ofOwns o3) (okc_own o3) (fun g e => (o3.lt g e).2)); have K3 := Lib.hid (KWP.out.trans1 k3'); have K3' := Lib.hid k3'; clear k3 o3 k3'))
      all_goals go_wp2_with (go_at_call 316; refine MHW.out.mono ?_; rintro r w4 ⟨v4, rfl, k4, xs, o4, _⟩; obtain ⟨a4, c4, rfl, _, _⟩ := ownsRow_form o4; have K4 := Lib.hid k4; clear k4 o4)
      all_goals exact ⟨⟨j + 1, by omega, by first | rfl | go_num, ((K.out.alloc _).trans1 (K3'.out.trans1 K4.out)).alloc _⟩, by simp [intOf]; omega⟩
    · obtain rfl : j = m.parts.length := by omega
      go_wp2_with fail
      go_ret
      exact ⟨rfl, K0.out.trans1 K.out⟩
end
theorem StoreAt.low {F : Nat → Prop} {w : World} {q p : Nat} {X : Dk} (d : StoreAt F w q p X) : StoreAt (fun g => F g ∧ g < w.heap.size) w q p X := by
  obtain ⟨b1, i1, G, dg, hg⟩ := d
  exact ⟨b1, ⟨i1, lt_of_block b1⟩, fun g => G g ∧ g < w.heap.size, dg.low, fun g x => ⟨⟨(hg g x.1).1, x.2⟩, (hg g x.1).2⟩⟩
theorem comm_mid {w w3 W w5 : World} {m : Mf} {a2 : Option Addr} {c2 : Nat} {v5 : Value} (hpr : m.prev.length = 32) (h32 : pts32 m.parts) (k3 : Keep Non w w3) (o3 : w3.ownsRow w.heap.size 190 35 (.slice a2 m.parts.length c2) m.parts.length (ptsC m.parts)) (kW : Keep Non w3 W) (ho : w5.ownsRow w3.heap.size 102 37 v5 (0 + 1) ([] ++ mfC m (.slice a2 m.parts.length c2))) (hg : W.grownBy w5 (Value.slice none 0 0).ownBlock) :
    Keep Non w3 w5 ∧ MsAt (fun g => w.heap.size ≤ g ∧ g < w5.heap.size) w5 v5 [m] ∧ PtsAt w5 (.slice a2 m.parts.length c2) m.parts := by
  have kg : Keep Non W w5 := Keep.grown (Keep.refl _ _) hg (fun k e => by cases e)
  have k5 := kW.trans1 kg
  rw [Nat.zero_add, List.nil_append] at ho
  have o5 := ownsRow_keep o3 k5 (fun _ _ e => e)
  have s3 := k3.size
  exact ⟨k5, MsAt.one ho hpr (PtsAt.of o5 h32) (fun g e => by have := o5.lt g e; omega) (fun g e => by have := ho.lt g e; omega), PtsAt.of o5 h32⟩
theorem comm_row {w w2 : World} {m : Mf} {a2 pa : Option Addr} {c2 pc : Nat} (h32 : pts32 m.parts) (k2 : Keep Non w w2) (bx : w2.heap[w.heap.size]? = some (MfB m (.slice pa m.parts.length pc))) (o2 : w2.ownsRow (w.heap.size + 1) 190 35 (.slice a2 m.parts.length c2) m.parts.length (ptsC m.parts)) :
    (w2.setRow w.heap.size (mfC m (.slice a2 m.parts.length c2)).toArray).heap[w.heap.size]? = some (MfB m (.slice a2 m.parts.length c2)) ∧ Keep Non w (w2.setRow w.heap.size (mfC m (.slice a2 m.parts.length c2)).toArray) ∧ (w2.setRow w.heap.size (mfC m (.slice a2 m.parts.length c2)).toArray).ownsRow w.heap.size 190 35 (.slice a2 m.parts.length c2) m.parts.length (ptsC m.parts) := by
  have k : Keep (One w.heap.size) w2 (w2.setRow w.heap.size (mfC m (.slice a2 m.parts.length c2)).toArray) := (Keep.refl (One _) _).setRow (.inl (one_self _)) _
  exact ⟨setRow_heap _ _ _ _ _ _ bx, k2.trans k (fun _ _ e => e) (fun g hg e => by have e' : g = w.heap.size := e; omega), ownsRow_low (ownsRow_keep o2 k (fun g e e2 => by have e' : g = w.heap.size := e2; have := (o2.lt g e).1; omega)) (by omega)⟩
section
attribute [local go_sem ↓] hV41 hV190 hV102 hW41 hW190 hW102 hB190 hB102 hBS44
theorem vclone_nil (w : World) :
    Calls Tryz.prog 271 #[.slice none 0 0] w fun e w' => e = .returned (.slice none 0 0) ∧ w' = w := by
  have hq := fun (w : World) => Lib.run_eql_slice_nil (P := Tryz.prog) w 44 102 none 0 0 0 0 Tryz.underlying44
  go_enter Tryz.func271, Tryz.ntmps271
  go_wp2_with fail
  go_ret
  exact ⟨rfl, rfl⟩
theorem vcomm_ok (F : Nat → Prop) (b q p : Nat) (m : Mf) (pv : Value) (X : Dk) (a k fu : Nat) (w : World) (hb : w.heap[b]? = some (VtB q (.slice none 0 0))) (d : StoreAt F w q p X) (hF : ∀ g, F g → 10 ≤ g ∧ g < w.heap.size) (hbF : ¬ F b) (hl : X.lim a k fu) (ha : a ≤ 505) (hk : k ≤ 990) (hf : fu ≤ 400000000) (hdn : X.down = false) (hlay : Lay w)
    (hp : PtsAt w pv m.parts) (hok : okMf m) (hnum : m.num = 0) (h64 : m.parts.length ≤ 64) (h32 : pts32 m.parts) (hS : HasSegs X m.parts) (hby : (mfBy m).length ≤ 65536) (code : Int) (hcd : (X.sput (titleN 0) (mfBy m)).1 = code) (hcode : code = 0) :
    Calls Tryz.prog 216 #[.pointer (some ⟨b, 0, none⟩), mfV m pv] w fun e w' => e = .returned .nilIface ∧ Keep (fun g => F g ∨ g = b) w w' ∧ ∃ v3 T F', Sub F' F w ∧ ¬ F' b ∧ (∀ g, T g → ¬ F' g ∧ g ≠ b ∧ w.heap.size ≤ g) ∧ MsAt T w' v3 [m] ∧ StoreAt F' w' q p (X.sput (titleN 0) (mfBy m)).2 ∧ w'.heap[b]? = some (VtB q v3) := by
  have hpr : m.prev.length = 32 := hok.prev
  have PA := Lib.hid hp
  have B := Lib.hid hb
  have DD := Lib.hid d
  have HF := Lib.hid hF
  have HL := Lib.hid hlay
  have HOK := Lib.hid hok
  have NC : ((0 : Nat) : Int) = 0 := rfl
  obtain ⟨pa, pc, rfl, hc, hpa, hx⟩ := hp
  have hlm := load_mf (blk_new w (MfB m (.slice pa m.parts.length pc))) hpr
  have CO := Lib.hid (mcopy_ok m (.slice pa m.parts.length pc) (w.alloc (MfB m (.slice pa m.parts.length pc))) (PA.out.keepNon ((Keep.refl Non w).alloc _)) hpr h32 (by omega))
  have TT := Lib.hid (fun W => vtitle_ok 0 W (by omega))
  have SP := Lib.hid (fun W v F0 (st : StoreAt F0 W q p X) (hv : Bs W v (mfBy m)) (hnp : ∀ g, v.ownBlock = some g → ¬ F0 g) => sput_any F0 q p v (titleN 0) (mfBy m) X a k fu W st hl ha hk hf (title_ok 0 (by omega)) hv hby hnp)
  rw [hcd] at SP
  rw [hcode, errv_zero] at SP
  have HE := Lib.hid (fun W lv pv (k : Keep Non w W) (hp : PtsAt W pv m.parts) (hb' : W.heap[b]? = some (VtB q lv)) => vheld_ok F b q p lv m pv X W hb' (d.keep k (fun _ _ e => e)) hdn (hlay.keepNon k) hp hpr hnum h64 hS)
  have CK := Lib.hid (fun W v (h : MsAt (fun g => w.heap.size ≤ g ∧ g < W.heap.size) W v [m]) => chcheck_one _ v m W h hok hnum)
  have MP := Lib.hid (fun W pv (hp : PtsAt W pv m.parts) => mput_ok m pv W hok hp h64)
  obtain ⟨i0, hi0, hz0, hz1, hz2⟩ := info_parts infoMf
  have I0 := Lib.hid (And.intro hi0 (And.intro hz0 (And.intro hz1 hz2)))
  clear hx hpa hb d hF hlay hok hS hl hi0 hz0 hz1 hz2 hby hcd
  unfold sv at TT SP
  rw [NC] at TT
  unfold MfB at hlm
  dsimp only [MfB] at CO
  unfold mfV at *
  go_enter Tryz.func216, Tryz.ntmps216
  go_wp2_with (go_at_call 39; refine CO.out.mono ?_; rintro r w2 ⟨v2, rfl, k2, o2⟩; obtain ⟨a2, c2, rfl, _, _⟩ := ownsRow_form o2; have hst := store_mf w2 w.heap.size m a2 m.parts.length c2 (mfC m (.slice pa m.parts.length pc)).toArray hpr (by rw [List.size_toArray, mfC_len hpr]) (nonAt k2 (blk_new w (MfB m (.slice pa m.parts.length pc)))); unfold mfV at hst; have K2 := Lib.hid (((Keep.refl Non w).alloc (MfB m (.slice pa m.parts.length pc))).trans1 k2); have BX2 := Lib.hid (nonAt k2 (blk_new w (MfB m (.slice pa m.parts.length pc)))); have O2 := Lib.hid o2; clear k2 o2)
  obtain ⟨m3, k3, o3⟩ := comm_row h32 K2.out BX2.out (ownsRow_low O2.out (by simp))
  obtain ⟨w3, hw3⟩ : ∃ w3, w3 = w2.setRow w.heap.size (mfC m (.slice a2 m.parts.length c2)).toArray := ⟨_, rfl⟩
  rw [← hw3] at m3 k3 o3 hst
  rw [← hw3]
  have M3 := Lib.hid m3
  have K3 := Lib.hid k3
  have O3 := Lib.hid o3
  have PLM : Hid (∀ W, Keep Non w3 W → (holdV 102 ⟨w.heap.size, 0, none⟩).run Tryz.prog W = .ok (mfV m (.slice a2 m.parts.length c2)) W) := Lib.hid (fun W kk => load_mf (nonAt kk M3.out) hpr)
  have VB : Hid (∀ W, Keep Non w3 W → W.heap[b]? = some (VtB q (.slice none 0 0))) := Lib.hid (fun W kk => nonAt (K3.out.trans1 kk) B.out)
  have MN : Hid (∀ W, Keep Non w3 W → W.cell? ⟨w.heap.size, 0, none⟩ = some (.int .i64 m.num)) := Lib.hid (fun W kk => mf_0 (nonAt kk M3.out))
  have kd : Keep Non w3 w3.drew := (Keep.refl _ _).drew
  have ka : Keep Non w3 (w3.alloc (MfB m (.slice a2 m.parts.length c2))) := (Keep.refl _ _).alloc _
  have l0 := PLM.out _ (Keep.refl _ _)
  have l1 := PLM.out _ kd
  have b0 := build_oneM m a2 m.parts.length c2 hpr w3
  have b1 := build_oneM m a2 m.parts.length c2 hpr w3.drew
  have x0 := vt_1 (VB.out _ (Keep.refl _ _))
  have x1 := vt_1 (VB.out _ ka)
  have BK := Lib.hid (blk_new w3 (MfB m (.slice a2 m.parts.length c2)))
  have KAD : Hid (Keep Non w3 (w3.alloc (MfB m (.slice a2 m.parts.length c2))).drew) := Lib.hid ka.drew
  have PLM' := Lib.hid (fun W kk => by have := PLM.out W kk; unfold mfV at this; exact this)
  clear m3 k3 o3 hw3 kd ka K2 BX2 O2 hlm CO
  unfold mfV at l0 l1 b0 b1
  dsimp only [MfB] at b0 b1 x1
  go_region_law (first
    | (go_simp; go_at_call 271; refine (vclone_nil _).mono ?_; rintro r w4 ⟨rfl, e4⟩; subst e4)
    | (refine step_append_prov (by rfl) (.tmp 21) (.tmp 23) 44 (by rfl) w3.heap.size 102 i0 (.agg zMf) 37 88 Tryz.underlying44 I0.out.1 I0.out.2.1 I0.out.2.2.1 I0.out.2.2.2 rfl (by decide) (.slice none 0 0) 0 [] (by first | rfl | simp [Act.eval, Act.put]) (World.ownsRow_nil _ _ _ _) ⟨w3.heap.size, 0, none⟩ 1 1 (mfC m (.slice a2 m.parts.length c2)) (by first | rfl | simp [Act.eval, Act.put]) (by rw [mfC_len hpr]) (by exact mf_cells (w := (w3.alloc (MfB m (.slice a2 m.parts.length c2))).drew) BK.out) (mfC_one' m a2 m.parts.length c2) (by unfold maxLen; omega) (by omega) (by exact KAD.out.size) ?_; intro v5 w5 ho hg hpp; obtain ⟨a5, c5, rfl, _, _⟩ := ownsRow_form ho; obtain ⟨k5, ms5, pt5⟩ := comm_mid hpr h32 K3.out O3.out KAD.out ho hg; have CKW := Lib.hid (CK.out w5 _ ms5); have K5 := Lib.hid k5; have MS5 := Lib.hid ms5; have PT5 := Lib.hid pt5; clear ho hg hpp k5 ms5 pt5))
  all_goals go_wp2_with (first
    | (go_at_call 54; refine CKW.out.mono ?_; rintro r w6 ⟨rfl, k6⟩; have k36 := K5.out.trans1 k6; have l6 := PLM'.out _ k36; have HEW := Lib.hid (HE.out w6 _ (.slice a2 m.parts.length c2) (K3.out.trans1 k36) (PT5.out.keepNon k6) (VB.out _ k36)); have K6 := Lib.hid k36; have K56 := Lib.hid k6; clear k6 k36)
    | (go_at_call 272; refine HEW.out.mono ?_; rintro r w7 ⟨rfl, k7⟩; have k37 := K6.out.trans1 k7; have l7 := PLM'.out _ k37; have MPW := Lib.hid (MP.out w7 (.slice a2 m.parts.length c2) (PT5.out.keepNon (K56.out.trans1 k7))); have K7 := Lib.hid k37; have K57 := Lib.hid (K56.out.trans1 k7); clear k7 k37)
    | (go_at_call 83; refine MPW.out.mono ?_; rintro r w8 ⟨v8, rfl, k8, o8⟩; obtain ⟨a8, c8, rfl, _, _⟩ := ownsRow_form o8; have k38 := K7.out.trans1 k8; have K8 := Lib.hid k38; have K58 := Lib.hid (K57.out.trans1 k8); have O8 := Lib.hid o8; clear k8 k38 o8))
  all_goals
    have k8d : Keep Non w3 w8.drew := K8.out.drew
    have y0 : w8.cell? ⟨b, 0, none⟩ = some (.pointer (some ⟨q, 0, none⟩)) := vt_0 (VB.out _ K8.out)
    have y0d : w8.drew.cell? ⟨b, 0, none⟩ = some (.pointer (some ⟨q, 0, none⟩)) := y0
    have n0 : w8.cell? ⟨w.heap.size, 0, none⟩ = some (.int .i64 (0 : Int)) := by have := MN.out _ K8.out; rw [hnum] at this; exact this
    have n0d : w8.drew.cell? ⟨w.heap.size, 0, none⟩ = some (.int .i64 (0 : Int)) := n0
    have TTW := Lib.hid (TT.out w8.drew)
    have VB8 : Hid (∀ W, Keep Non w8.drew W → W.cell? ⟨b, 0, none⟩ = some (.pointer (some ⟨q, 0, none⟩))) := Lib.hid (fun W kk => vt_0 (VB.out _ (K8.out.drew.trans1 kk)))
    have sz38 : w.heap.size ≤ w8.heap.size := Nat.le_trans K3.out.size K8.out.size
    have SPW : Hid (∀ W, Keep Non w8.drew W → Calls Tryz.prog 142 #[.pointer (some ⟨q, 0, none⟩), .string ⟨(titleN 0).toArray⟩, .slice a8 (mfBy m).length c8] W fun e w' => e = .returned .nilIface ∧ StoreTo F W q p (X.sput (titleN 0) (mfBy m)).2 w') := Lib.hid (fun W kk => SP.out W _ F (DD.out.keep (K3.out.trans1 (K8.out.drew.trans1 kk)) (fun _ _ e => e)) ((Rd.ofOwns O8.out).keepNon ((Keep.refl Non w8).drew.trans1 kk)) (fun g e x => by have := (O8.out.lt g e).1; have := (HF.out g x).2; have := K3.out.size; have := K7.out.size; omega))
    clear k8d
    go_region_law (go_simp; first
      | (go_at_call 52; refine TTW.out.mono ?_; rintro r w9 ⟨rfl, k9⟩; have y9 := VB8.out _ k9; have SPX := Lib.hid (SPW.out w9 k9); have K9 := Lib.hid k9; clear k9)
      | (go_at_call 142; refine SPX.out.mono ?_; rintro r wa ⟨rfl, ka, Fa, sa, da⟩; have k39 := K8.out.drew.trans1 K9.out; have bb := ka.at (VB.out _ k39) hbF; have z1 := vt_1 bb; have zf := vt_f bb 1; have KA := Lib.hid ka; have SA := Lib.hid sa; have DA := Lib.hid da; have BB := Lib.hid bb; have K39 := Lib.hid k39; clear ka sa da bb k39))
  all_goals go_wp2_with fail
  all_goals
    go_ret
    have hbl : b < w.heap.size := lt_of_block B.out
    have kb : Keep (One b) wa (wa.setCell ⟨b, 1, none⟩ (.slice a5 1 c5)) := (Keep.refl _ _).setOne _ _
    have k9s := K9.out.size
    have k59 : Keep Non w5 w9 := K58.out.trans1 ((Keep.refl Non w8).drew.trans1 K9.out)
    have kFa : Keep F w wa := (K3.out.trans1 K39.out).ofNon.trans KA.out (fun _ _ x => x) (fun _ _ x => x)
    have s59 := k59.size
    refine ⟨rfl, kFa.trans kb (fun g _ x => .inl x) (fun g _ x => .inr x), .slice a5 1 c5, fun g => w.heap.size ≤ g ∧ g < w5.heap.size, Fa, fun g x => ?_, ?_, fun g x => ⟨fun y => ?_, ?_, x.1⟩, ?_, ?_, blk_set BB.out 1 _⟩
    · rcases SA.out g x with y | y
      · exact .inl y
      · exact .inr (by have := K3.out.size; have := K39.out.size; omega)
    · intro x
      rcases SA.out b x with y | y
      · exact hbF y
      · have := K3.out.size; have := K39.out.size; omega
    · rcases SA.out g y with z | z
      · have := (HF.out g z).2; omega
      · omega
    · intro e; omega
    · exact ((MS5.out.keepNon k59).keep KA.out (fun g x y => by have := (HF.out g y).2; omega)).keep kb (fun g x e => by have e' : g = b := e; omega)
    · exact DA.out.keep kb (fun g x e => by have e' : g = b := e; subst e'; rcases SA.out g x with y | y; exact hbF y; have := K3.out.size; have := K39.out.size; omega)
theorem vcomm_no (F : Nat → Prop) (b q p : Nat) (m : Mf) (pv : Value) (X : Dk) (a k fu : Nat) (w : World) (hb : w.heap[b]? = some (VtB q (.slice none 0 0))) (d : StoreAt F w q p X) (hF : ∀ g, F g → 10 ≤ g ∧ g < w.heap.size) (hbF : ¬ F b) (hl : X.lim a k fu) (ha : a ≤ 505) (hk : k ≤ 990) (hf : fu ≤ 400000000) (hdn : X.down = false) (hlay : Lay w)
    (hp : PtsAt w pv m.parts) (hok : okMf m) (hnum : m.num = 0) (h64 : m.parts.length ≤ 64) (h32 : pts32 m.parts) (hS : HasSegs X m.parts) (hby : (mfBy m).length ≤ 65536) (code : Int) (hcd : (X.sput (titleN 0) (mfBy m)).1 = code) (hcode : code ≠ 0) :
    Calls Tryz.prog 216 #[.pointer (some ⟨b, 0, none⟩), mfV m pv] w fun e w' => e = .returned (.iface 84 (.int .i64 code)) ∧ StoreTo F w q p (X.sput (titleN 0) (mfBy m)).2 w' := by
  have hpr : m.prev.length = 32 := hok.prev
  have PA := Lib.hid hp
  have B := Lib.hid hb
  have DD := Lib.hid d
  have HF := Lib.hid hF
  have HL := Lib.hid hlay
  have HOK := Lib.hid hok
  have NC : ((0 : Nat) : Int) = 0 := rfl
  obtain ⟨pa, pc, rfl, hc, hpa, hx⟩ := hp
  have hlm := load_mf (blk_new w (MfB m (.slice pa m.parts.length pc))) hpr
  have CO := Lib.hid (mcopy_ok m (.slice pa m.parts.length pc) (w.alloc (MfB m (.slice pa m.parts.length pc))) (PA.out.keepNon ((Keep.refl Non w).alloc _)) hpr h32 (by omega))
  have TT := Lib.hid (fun W => vtitle_ok 0 W (by omega))
  have SP := Lib.hid (fun W v F0 (st : StoreAt F0 W q p X) (hv : Bs W v (mfBy m)) (hnp : ∀ g, v.ownBlock = some g → ¬ F0 g) => sput_any F0 q p v (titleN 0) (mfBy m) X a k fu W st hl ha hk hf (title_ok 0 (by omega)) hv hby hnp)
  rw [hcd] at SP
  rw [errv_no hcode] at SP
  have HE := Lib.hid (fun W lv pv (k : Keep Non w W) (hp : PtsAt W pv m.parts) (hb' : W.heap[b]? = some (VtB q lv)) => vheld_ok F b q p lv m pv X W hb' (d.keep k (fun _ _ e => e)) hdn (hlay.keepNon k) hp hpr hnum h64 hS)
  have CK := Lib.hid (fun W v (h : MsAt (fun g => w.heap.size ≤ g ∧ g < W.heap.size) W v [m]) => chcheck_one _ v m W h hok hnum)
  have MP := Lib.hid (fun W pv (hp : PtsAt W pv m.parts) => mput_ok m pv W hok hp h64)
  obtain ⟨i0, hi0, hz0, hz1, hz2⟩ := info_parts infoMf
  have I0 := Lib.hid (And.intro hi0 (And.intro hz0 (And.intro hz1 hz2)))
  clear hx hpa hb d hF hlay hok hS hl hi0 hz0 hz1 hz2 hby hcd
  unfold sv at TT SP
  rw [NC] at TT
  unfold MfB at hlm
  dsimp only [MfB] at CO
  unfold mfV at *
  go_enter Tryz.func216, Tryz.ntmps216
  go_wp2_with (go_at_call 39; refine CO.out.mono ?_; rintro r w2 ⟨v2, rfl, k2, o2⟩; obtain ⟨a2, c2, rfl, _, _⟩ := ownsRow_form o2; have hst := store_mf w2 w.heap.size m a2 m.parts.length c2 (mfC m (.slice pa m.parts.length pc)).toArray hpr (by rw [List.size_toArray, mfC_len hpr]) (nonAt k2 (blk_new w (MfB m (.slice pa m.parts.length pc)))); unfold mfV at hst; have K2 := Lib.hid (((Keep.refl Non w).alloc (MfB m (.slice pa m.parts.length pc))).trans1 k2); have BX2 := Lib.hid (nonAt k2 (blk_new w (MfB m (.slice pa m.parts.length pc)))); have O2 := Lib.hid o2; clear k2 o2)
  obtain ⟨m3, k3, o3⟩ := comm_row h32 K2.out BX2.out (ownsRow_low O2.out (by simp))
  obtain ⟨w3, hw3⟩ : ∃ w3, w3 = w2.setRow w.heap.size (mfC m (.slice a2 m.parts.length c2)).toArray := ⟨_, rfl⟩
  rw [← hw3] at m3 k3 o3 hst
  rw [← hw3]
  have M3 := Lib.hid m3
  have K3 := Lib.hid k3
  have O3 := Lib.hid o3
  have PLM : Hid (∀ W, Keep Non w3 W → (holdV 102 ⟨w.heap.size, 0, none⟩).run Tryz.prog W = .ok (mfV m (.slice a2 m.parts.length c2)) W) := Lib.hid (fun W kk => load_mf (nonAt kk M3.out) hpr)
  have VB : Hid (∀ W, Keep Non w3 W → W.heap[b]? = some (VtB q (.slice none 0 0))) := Lib.hid (fun W kk => nonAt (K3.out.trans1 kk) B.out)
  have MN : Hid (∀ W, Keep Non w3 W → W.cell? ⟨w.heap.size, 0, none⟩ = some (.int .i64 m.num)) := Lib.hid (fun W kk => mf_0 (nonAt kk M3.out))
  have kd : Keep Non w3 w3.drew := (Keep.refl _ _).drew
  have ka : Keep Non w3 (w3.alloc (MfB m (.slice a2 m.parts.length c2))) := (Keep.refl _ _).alloc _
  have l0 := PLM.out _ (Keep.refl _ _)
  have l1 := PLM.out _ kd
  have b0 := build_oneM m a2 m.parts.length c2 hpr w3
  have b1 := build_oneM m a2 m.parts.length c2 hpr w3.drew
  have x0 := vt_1 (VB.out _ (Keep.refl _ _))
  have x1 := vt_1 (VB.out _ ka)
  have BK := Lib.hid (blk_new w3 (MfB m (.slice a2 m.parts.length c2)))
  have KAD : Hid (Keep Non w3 (w3.alloc (MfB m (.slice a2 m.parts.length c2))).drew) := Lib.hid ka.drew
  have PLM' := Lib.hid (fun W kk => by have := PLM.out W kk; unfold mfV at this; exact this)
  clear m3 k3 o3 hw3 kd ka K2 BX2 O2 hlm CO
  unfold mfV at l0 l1 b0 b1
  dsimp only [MfB] at b0 b1 x1
  go_region_law (first
    | (go_simp; go_at_call 271; refine (vclone_nil _).mono ?_; rintro r w4 ⟨rfl, e4⟩; subst e4)
    | (refine step_append_prov (by rfl) (.tmp 21) (.tmp 23) 44 (by rfl) w3.heap.size 102 i0 (.agg zMf) 37 88 Tryz.underlying44 I0.out.1 I0.out.2.1 I0.out.2.2.1 I0.out.2.2.2 rfl (by decide) (.slice none 0 0) 0 [] (by first | rfl | simp [Act.eval, Act.put]) (World.ownsRow_nil _ _ _ _) ⟨w3.heap.size, 0, none⟩ 1 1 (mfC m (.slice a2 m.parts.length c2)) (by first | rfl | simp [Act.eval, Act.put]) (by rw [mfC_len hpr]) (by exact mf_cells (w := (w3.alloc (MfB m (.slice a2 m.parts.length c2))).drew) BK.out) (mfC_one' m a2 m.parts.length c2) (by unfold maxLen; omega) (by omega) (by exact KAD.out.size) ?_; intro v5 w5 ho hg hpp; obtain ⟨a5, c5, rfl, _, _⟩ := ownsRow_form ho; obtain ⟨k5, ms5, pt5⟩ := comm_mid hpr h32 K3.out O3.out KAD.out ho hg; have CKW := Lib.hid (CK.out w5 _ ms5); have K5 := Lib.hid k5; have MS5 := Lib.hid ms5; have PT5 := Lib.hid pt5; clear ho hg hpp k5 ms5 pt5))
  all_goals go_wp2_with (first
    | (go_at_call 54; refine CKW.out.mono ?_; rintro r w6 ⟨rfl, k6⟩; have k36 := K5.out.trans1 k6; have l6 := PLM'.out _ k36; have HEW := Lib.hid (HE.out w6 _ (.slice a2 m.parts.length c2) (K3.out.trans1 k36) (PT5.out.keepNon k6) (VB.out _ k36)); have K6 := Lib.hid k36; have K56 := Lib.hid k6; clear k6 k36)
    | (go_at_call 272; refine HEW.out.mono ?_; rintro r w7 ⟨rfl, k7⟩; have k37 := K6.out.trans1 k7; have l7 := PLM'.out _ k37; have MPW := Lib.hid (MP.out w7 (.slice a2 m.parts.length c2) (PT5.out.keepNon (K56.out.trans1 k7))); have K7 := Lib.hid k37; have K57 := Lib.hid (K56.out.trans1 k7); clear k7 k37)
    | (go_at_call 83; refine MPW.out.mono ?_; rintro r w8 ⟨v8, rfl, k8, o8⟩; obtain ⟨a8, c8, rfl, _, _⟩ := ownsRow_form o8; have k38 := K7.out.trans1 k8; have K8 := Lib.hid k38; have K58 := Lib.hid (K57.out.trans1 k8); have O8 := Lib.hid o8; clear k8 k38 o8))
  all_goals
    have k8d : Keep Non w3 w8.drew := K8.out.drew
    have y0 : w8.cell? ⟨b, 0, none⟩ = some (.pointer (some ⟨q, 0, none⟩)) := vt_0 (VB.out _ K8.out)
    have y0d : w8.drew.cell? ⟨b, 0, none⟩ = some (.pointer (some ⟨q, 0, none⟩)) := y0
    have n0 : w8.cell? ⟨w.heap.size, 0, none⟩ = some (.int .i64 (0 : Int)) := by have := MN.out _ K8.out; rw [hnum] at this; exact this
    have n0d : w8.drew.cell? ⟨w.heap.size, 0, none⟩ = some (.int .i64 (0 : Int)) := n0
    have TTW := Lib.hid (TT.out w8.drew)
    have VB8 : Hid (∀ W, Keep Non w8.drew W → W.cell? ⟨b, 0, none⟩ = some (.pointer (some ⟨q, 0, none⟩))) := Lib.hid (fun W kk => vt_0 (VB.out _ (K8.out.drew.trans1 kk)))
    have sz38 : w.heap.size ≤ w8.heap.size := Nat.le_trans K3.out.size K8.out.size
    have SPW : Hid (∀ W, Keep Non w8.drew W → Calls Tryz.prog 142 #[.pointer (some ⟨q, 0, none⟩), .string ⟨(titleN 0).toArray⟩, .slice a8 (mfBy m).length c8] W fun e w' => e = .returned (.iface 84 (.int .i64 code)) ∧ StoreTo F W q p (X.sput (titleN 0) (mfBy m)).2 w') := Lib.hid (fun W kk => SP.out W _ F (DD.out.keep (K3.out.trans1 (K8.out.drew.trans1 kk)) (fun _ _ e => e)) ((Rd.ofOwns O8.out).keepNon ((Keep.refl Non w8).drew.trans1 kk)) (fun g e x => by have := (O8.out.lt g e).1; have := (HF.out g x).2; have := K3.out.size; have := K7.out.size; omega))
    clear k8d
    go_region_law (go_simp; first
      | (go_at_call 52; refine TTW.out.mono ?_; rintro r w9 ⟨rfl, k9⟩; have y9 := VB8.out _ k9; have SPX := Lib.hid (SPW.out w9 k9); have K9 := Lib.hid k9; clear k9)
      | (go_at_call 142; refine SPX.out.mono ?_; rintro r wa ⟨rfl, ka, Fa, sa, da⟩; have k39 := K8.out.drew.trans1 K9.out; have bb := ka.at (VB.out _ k39) hbF; have z1 := vt_1 bb; have zf := vt_f bb 1; have KA := Lib.hid ka; have SA := Lib.hid sa; have DA := Lib.hid da; have BB := Lib.hid bb; have K39 := Lib.hid k39; clear ka sa da bb k39))
  all_goals go_wp2_with fail
  all_goals
    go_ret
    have hT : StoreTo F w9 q p (X.sput (titleN 0) (mfBy m)).2 wa := ⟨KA.out, Fa, SA.out, DA.out⟩
    have k9 := K3.out.trans1 K39.out
    exact ⟨rfl, k9.ofNon.trans KA.out (fun _ _ x => x) (fun _ _ x => x), Fa, fun g x => by rcases SA.out g x with y | y; exact .inl y; exact .inr (Nat.le_trans k9.size y), DA.out⟩
end
end Go.Proofs.YtdmckfkhkjkdnaaGreatDoor
