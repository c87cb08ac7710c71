/- vault.Commit of the first manifest: walked (printed by wip/vcomm.py). · A cursor stays one, a part farther. -/
import Derived.Test.YtobjlgfjfpmceaaGreatDoorQ30
set_option linter.unusedVariables false
set_option maxRecDepth 100000
set_option maxHeartbeats 16000000
namespace Go.Proofs.YtobjlgfjfpmceaaGreatDoor
open Go.RowKit Go.Maps
theorem StoreAt.low {F : Nat → Prop} {w : World} {q p : Nat} {X : Dk} (d : StoreAt F w q p X) : StoreAt (fun g => F g ∧ g < w.heap.size) w q p X := by
  obtain ⟨b1, i1, G, dg, hg⟩ := d
  exact ⟨b1, ⟨i1, lt_of_block b1⟩, fun g => G g ∧ g < w.heap.size, dg.low, fun g x => ⟨⟨(hg g x.1).1, x.2⟩, (hg g x.1).2⟩⟩
theorem comm_mid {w w3 W w5 : World} {m : Mf} {a2 : Option Addr} {c2 : Nat} {v5 : Value} (hpr : m.prev.length = 32) (h32 : pts32 m.parts) (k3 : Keep Non w w3) (o3 : w3.ownsRow w.heap.size 101 35 (.slice a2 m.parts.length c2) m.parts.length (ptsC m.parts)) (kW : Keep Non w3 W) (ho : w5.ownsRow w3.heap.size 83 37 v5 (0 + 1) ([] ++ mfC m (.slice a2 m.parts.length c2))) (hg : W.grownBy w5 (Value.slice none 0 0).ownBlock) :
    Keep Non w3 w5 ∧ MsAt (fun g => w.heap.size ≤ g ∧ g < w5.heap.size) w5 v5 [m] ∧ PtsAt w5 (.slice a2 m.parts.length c2) m.parts := by
  have kg : Keep Non W w5 := Keep.grown (Keep.refl _ _) hg (fun k e => by cases e)
  have k5 := kW.trans1 kg
  rw [Nat.zero_add, List.nil_append] at ho
  have o5 := ownsRow_keep o3 k5 (fun _ _ e => e)
  have s3 := k3.size
  exact ⟨k5, MsAt.one ho hpr (PtsAt.of o5 h32) (fun g e => by have := o5.lt g e; omega) (fun g e => by have := ho.lt g e; omega), PtsAt.of o5 h32⟩
theorem comm_row {w w2 : World} {m : Mf} {a2 pa : Option Addr} {c2 pc : Nat} (h32 : pts32 m.parts) (k2 : Keep Non w w2) (bx : w2.heap[w.heap.size]? = some (MfB m (.slice pa m.parts.length pc))) (o2 : w2.ownsRow (w.heap.size + 1) 101 35 (.slice a2 m.parts.length c2) m.parts.length (ptsC m.parts)) :
    (w2.setRow w.heap.size (mfC m (.slice a2 m.parts.length c2)).toArray).heap[w.heap.size]? = some (MfB m (.slice a2 m.parts.length c2)) ∧ Keep Non w (w2.setRow w.heap.size (mfC m (.slice a2 m.parts.length c2)).toArray) ∧ (w2.setRow w.heap.size (mfC m (.slice a2 m.parts.length c2)).toArray).ownsRow w.heap.size 101 35 (.slice a2 m.parts.length c2) m.parts.length (ptsC m.parts) := by
  have k : Keep (One w.heap.size) w2 (w2.setRow w.heap.size (mfC m (.slice a2 m.parts.length c2)).toArray) := (Keep.refl (One _) _).setRow (.inl (one_self _)) _
  exact ⟨setRow_heap _ _ _ _ _ _ bx, k2.trans k (fun _ _ e => e) (fun g hg e => by have e' : g = w.heap.size := e; omega), ownsRow_low (ownsRow_keep o2 k (fun g e e2 => by have e' : g = w.heap.size := e2; have := (o2.lt g e).1; omega)) (by omega)⟩
section
attribute [local go_sem ↓] hV81 hV101 hV83 hW81 hW101 hW83 hB101 hB83 hBS39
theorem vclone_nil (w : World) :
    Calls Tryz.prog 198 #[.slice none 0 0] w fun e w' => e = .returned (.slice none 0 0) ∧ w' = w := by
  have hq := fun (w : World) => Lib.run_eql_slice_nil (P := Tryz.prog) w 39 83 none 0 0 0 0 Tryz.underlying39
  go_enter Tryz.func198, Tryz.ntmps198
  go_wp2_with fail
  go_ret
  exact ⟨rfl, rfl⟩
theorem vcomm_ok (F : Nat → Prop) (b q p : Nat) (m : Mf) (pv : Value) (X : Dk) (a k fu : Nat) (w : World) (hb : w.heap[b]? = some (VtB q (.slice none 0 0))) (d : StoreAt F w q p X) (hF : ∀ g, F g → 10 ≤ g ∧ g < w.heap.size) (hbF : ¬ F b) (hl : X.lim a k fu) (ha : a ≤ 505) (hk : k ≤ 990) (hf : fu ≤ 400000000) (hdn : X.down = false) (hlay : Lay w)
    (hp : PtsAt w pv m.parts) (hok : okMf m) (hnum : m.num = 0) (h64 : m.parts.length ≤ 64) (h32 : pts32 m.parts) (hS : HasSegs X m.parts) (hby : (mfBy m).length ≤ 65536) (code : Int) (hcd : (X.sput (titleN 0) (mfBy m)).1 = code) (hcode : code = 0) :
    Calls Tryz.prog 147 #[.pointer (some ⟨b, 0, none⟩), mfV m pv] w fun e w' => e = .returned .nilIface ∧ Keep (fun g => F g ∨ g = b) w w' ∧ ∃ v3 T F', Sub F' F w ∧ ¬ F' b ∧ (∀ g, T g → ¬ F' g ∧ g ≠ b) ∧ MsAt T w' v3 [m] ∧ StoreAt F' w' q p (X.sput (titleN 0) (mfBy m)).2 ∧ w'.heap[b]? = some (VtB q v3) := by
  have hpr : m.prev.length = 32 := hok.prev
  have PA := Lib.hid hp
  have B := Lib.hid hb
  have DD := Lib.hid d
  have HF := Lib.hid hF
  have HL := Lib.hid hlay
  have HOK := Lib.hid hok
  have NC : ((0 : Nat) : Int) = 0 := rfl
  obtain ⟨pa, pc, rfl, hc, hpa, hx⟩ := hp
  have hlm := load_mf (blk_new w (MfB m (.slice pa m.parts.length pc))) hpr
  have CO := Lib.hid (mcopy_ok m (.slice pa m.parts.length pc) (w.alloc (MfB m (.slice pa m.parts.length pc))) (PA.out.keepNon ((Keep.refl Non w).alloc _)) hpr h32 (by omega))
  have TT := Lib.hid (fun W => vtitle_ok 0 W (by omega))
  have SP := Lib.hid (fun W v F0 (st : StoreAt F0 W q p X) (hv : Bs W v (mfBy m)) (hnp : ∀ g, v.ownBlock = some g → ¬ F0 g) => sput_any F0 q p v (titleN 0) (mfBy m) X a k fu W st hl ha hk hf (title_ok 0 (by omega)) hv hby hnp)
  rw [hcd] at SP
  rw [hcode, errv_zero] at SP
  have HE := Lib.hid (fun W lv pv (k : Keep Non w W) (hp : PtsAt W pv m.parts) (hb' : W.heap[b]? = some (VtB q lv)) => vheld_ok F b q p lv m pv X W hb' (d.keep k (fun _ _ e => e)) hdn (hlay.keepNon k) hp hpr hnum h64 hS)
  have CK := Lib.hid (fun W v (h : MsAt (fun g => w.heap.size ≤ g ∧ g < W.heap.size) W v [m]) => chcheck_one _ v m W h hok hnum)
  have MP := Lib.hid (fun W pv (hp : PtsAt W pv m.parts) => mput_ok m pv W hok hp h64)
  obtain ⟨i0, hi0, hz0, hz1, hz2⟩ := info_parts infoMf
  have I0 := Lib.hid (And.intro hi0 (And.intro hz0 (And.intro hz1 hz2)))
  clear hx hpa hb d hF hlay hok hS hl hi0 hz0 hz1 hz2 hby hcd
  unfold sv at TT SP
  rw [NC] at TT
  unfold MfB at hlm
  dsimp only [MfB] at CO
  unfold mfV at *
  go_enter Tryz.func147, Tryz.ntmps147
  go_wp2_with (go_at_call 34; refine CO.out.mono ?_; rintro r w2 ⟨v2, rfl, k2, o2⟩; obtain ⟨a2, c2, rfl, _, _⟩ := ownsRow_form o2; have hst := store_mf w2 w.heap.size m a2 m.parts.length c2 (mfC m (.slice pa m.parts.length pc)).toArray hpr (by rw [List.size_toArray, mfC_len hpr]) (nonAt k2 (blk_new w (MfB m (.slice pa m.parts.length pc)))); unfold mfV at hst; have K2 := Lib.hid (((Keep.refl Non w).alloc (MfB m (.slice pa m.parts.length pc))).trans1 k2); have BX2 := Lib.hid (nonAt k2 (blk_new w (MfB m (.slice pa m.parts.length pc)))); have O2 := Lib.hid o2; clear k2 o2)
  obtain ⟨m3, k3, o3⟩ := comm_row h32 K2.out BX2.out (ownsRow_low O2.out (by simp))
  obtain ⟨w3, hw3⟩ : ∃ w3, w3 = w2.setRow w.heap.size (mfC m (.slice a2 m.parts.length c2)).toArray := ⟨_, rfl⟩
  rw [← hw3] at m3 k3 o3 hst
  rw [← hw3]
  have M3 := Lib.hid m3
  have K3 := Lib.hid k3
  have O3 := Lib.hid o3
  have PLM : Hid (∀ W, Keep Non w3 W → (holdV 83 ⟨w.heap.size, 0, none⟩).run Tryz.prog W = .ok (mfV m (.slice a2 m.parts.length c2)) W) := Lib.hid (fun W kk => load_mf (nonAt kk M3.out) hpr)
  have VB : Hid (∀ W, Keep Non w3 W → W.heap[b]? = some (VtB q (.slice none 0 0))) := Lib.hid (fun W kk => nonAt (K3.out.trans1 kk) B.out)
  have MN : Hid (∀ W, Keep Non w3 W → W.cell? ⟨w.heap.size, 0, none⟩ = some (.int .i64 m.num)) := Lib.hid (fun W kk => mf_0 (nonAt kk M3.out))
  have kd : Keep Non w3 w3.drew := (Keep.refl _ _).drew
  have ka : Keep Non w3 (w3.alloc (MfB m (.slice a2 m.parts.length c2))) := (Keep.refl _ _).alloc _
  have l0 := PLM.out _ (Keep.refl _ _)
  have l1 := PLM.out _ kd
  have b0 := build_oneM m a2 m.parts.length c2 hpr w3
  have b1 := build_oneM m a2 m.parts.length c2 hpr w3.drew
  have x0 := vt_1 (VB.out _ (Keep.refl _ _))
  have x1 := vt_1 (VB.out _ ka)
  have BK := Lib.hid (blk_new w3 (MfB m (.slice a2 m.parts.length c2)))
  have KAD : Hid (Keep Non w3 (w3.alloc (MfB m (.slice a2 m.parts.length c2))).drew) := Lib.hid ka.drew
  have PLM' := Lib.hid (fun W kk => by have := PLM.out W kk; unfold mfV at this; exact this)
  clear m3 k3 o3 hw3 kd ka K2 BX2 O2 hlm CO
  unfold mfV at l0 l1 b0 b1
  dsimp only [MfB] at b0 b1 x1
  go_region_law (first
    | (go_simp; go_at_call 198; refine (vclone_nil _).mono ?_; rintro r w4 ⟨rfl, e4⟩; subst e4)
    | (refine step_append_prov (by rfl) (.tmp 21) (.tmp 23) 39 (by rfl) w3.heap.size 83 i0 (.agg zMf) 37 88 Tryz.underlying39 I0.out.1 I0.out.2.1 I0.out.2.2.1 I0.out.2.2.2 rfl (by decide) (.slice none 0 0) 0 [] (by first | rfl | simp [Act.eval, Act.put]) (World.ownsRow_nil _ _ _ _) ⟨w3.heap.size, 0, none⟩ 1 1 (mfC m (.slice a2 m.parts.length c2)) (by first | rfl | simp [Act.eval, Act.put]) (by rw [mfC_len hpr]) (by exact mf_cells (w := (w3.alloc (MfB m (.slice a2 m.parts.length c2))).drew) BK.out) (mfC_one' m a2 m.parts.length c2) (by unfold maxLen; omega) (by omega) (by exact KAD.out.size) ?_; intro v5 w5 ho hg hpp; obtain ⟨a5, c5, rfl, _, _⟩ := ownsRow_form ho; obtain ⟨k5, ms5, pt5⟩ := comm_mid hpr h32 K3.out O3.out KAD.out ho hg; have CKW := Lib.hid (CK.out w5 _ ms5); have K5 := Lib.hid k5; have MS5 := Lib.hid ms5; have PT5 := Lib.hid pt5; clear ho hg hpp k5 ms5 pt5))
  all_goals go_wp2_with (first
    | (go_at_call 27; refine CKW.out.mono ?_; rintro r w6 ⟨rfl, k6⟩; have k36 := K5.out.trans1 k6; have l6 := PLM'.out _ k36; have HEW := Lib.hid (HE.out w6 _ (.slice a2 m.parts.length c2) (K3.out.trans1 k36) (PT5.out.keepNon k6) (VB.out _ k36)); have K6 := Lib.hid k36; have K56 := Lib.hid k6; clear k6 k36)
    | (go_at_call 199; refine HEW.out.mono ?_; rintro r w7 ⟨rfl, k7⟩; have k37 := K6.out.trans1 k7; have l7 := PLM'.out _ k37; have MPW := Lib.hid (MP.out w7 (.slice a2 m.parts.length c2) (PT5.out.keepNon (K56.out.trans1 k7))); have K7 := Lib.hid k37; have K57 := Lib.hid (K56.out.trans1 k7); clear k7 k37)
    | (go_at_call 200; refine MPW.out.mono ?_; rintro r w8 ⟨v8, rfl, k8, o8⟩; obtain ⟨a8, c8, rfl, _, _⟩ := ownsRow_form o8; have k38 := K7.out.trans1 k8; have K8 := Lib.hid k38; have K58 := Lib.hid (K57.out.trans1 k8); have O8 := Lib.hid o8; clear k8 k38 o8))
  all_goals
    have k8d : Keep Non w3 w8.drew := K8.out.drew
    have y0 : w8.cell? ⟨b, 0, none⟩ = some (.pointer (some ⟨q, 0, none⟩)) := vt_0 (VB.out _ K8.out)
    have y0d : w8.drew.cell? ⟨b, 0, none⟩ = some (.pointer (some ⟨q, 0, none⟩)) := y0
    have n0 : w8.cell? ⟨w.heap.size, 0, none⟩ = some (.int .i64 (0 : Int)) := by have := MN.out _ K8.out; rw [hnum] at this; exact this
    have n0d : w8.drew.cell? ⟨w.heap.size, 0, none⟩ = some (.int .i64 (0 : Int)) := n0
    have TTW := Lib.hid (TT.out w8.drew)
    have VB8 : Hid (∀ W, Keep Non w8.drew W → W.cell? ⟨b, 0, none⟩ = some (.pointer (some ⟨q, 0, none⟩))) := Lib.hid (fun W kk => vt_0 (VB.out _ (K8.out.drew.trans1 kk)))
    have sz38 : w.heap.size ≤ w8.heap.size := Nat.le_trans K3.out.size K8.out.size
    have SPW : Hid (∀ W, Keep Non w8.drew W → Calls Tryz.prog 83 #[.pointer (some ⟨q, 0, none⟩), .string ⟨(titleN 0).toArray⟩, .slice a8 (mfBy m).length c8] W fun e w' => e = .returned .nilIface ∧ StoreTo F W q p (X.sput (titleN 0) (mfBy m)).2 w') := Lib.hid (fun W kk => SP.out W _ F (DD.out.keep (K3.out.trans1 (K8.out.drew.trans1 kk)) (fun _ _ e => e)) ((Rd.ofOwns O8.out).keepNon ((Keep.refl Non w8).drew.trans1 kk)) (fun g e x => by have := (O8.out.lt g e).1; have := (HF.out g x).2; have := K3.out.size; have := K7.out.size; omega))
    clear k8d
    go_region_law (go_simp; first
      | (go_at_call 25; refine TTW.out.mono ?_; rintro r w9 ⟨rfl, k9⟩; have y9 := VB8.out _ k9; have SPX := Lib.hid (SPW.out w9 k9); have K9 := Lib.hid k9; clear k9)
      | (go_at_call 83; refine SPX.out.mono ?_; rintro r wa ⟨rfl, ka, Fa, sa, da⟩; have k39 := K8.out.drew.trans1 K9.out; have bb := ka.at (VB.out _ k39) hbF; have z1 := vt_1 bb; have zf := vt_f bb 1; have KA := Lib.hid ka; have SA := Lib.hid sa; have DA := Lib.hid da; have BB := Lib.hid bb; have K39 := Lib.hid k39; clear ka sa da bb k39))
  all_goals go_wp2_with fail
  all_goals
    go_ret
    have hbl : b < w.heap.size := lt_of_block B.out
    have kb : Keep (One b) wa (wa.setCell ⟨b, 1, none⟩ (.slice a5 1 c5)) := (Keep.refl _ _).setOne _ _
    have k9s := K9.out.size
    have k59 : Keep Non w5 w9 := K58.out.trans1 ((Keep.refl Non w8).drew.trans1 K9.out)
    have kFa : Keep F w wa := (K3.out.trans1 K39.out).ofNon.trans KA.out (fun _ _ x => x) (fun _ _ x => x)
    have s59 := k59.size
    refine ⟨rfl, kFa.trans kb (fun g _ x => .inl x) (fun g _ x => .inr x), .slice a5 1 c5, fun g => w.heap.size ≤ g ∧ g < w5.heap.size, Fa, fun g x => ?_, ?_, fun g x => ⟨fun y => ?_, ?_⟩, ?_, ?_, blk_set BB.out 1 _⟩
    · rcases SA.out g x with y | y
      · exact .inl y
      · exact .inr (by have := K3.out.size; have := K39.out.size; omega)
    · intro x
      rcases SA.out b x with y | y
      · exact hbF y
      · have := K3.out.size; have := K39.out.size; omega
    · rcases SA.out g y with z | z
      · have := (HF.out g z).2; omega
      · omega
    · intro e; omega
    · exact ((MS5.out.keepNon k59).keep KA.out (fun g x y => by have := (HF.out g y).2; omega)).keep kb (fun g x e => by have e' : g = b := e; omega)
    · exact DA.out.keep kb (fun g x e => by have e' : g = b := e; subst e'; rcases SA.out g x with y | y; exact hbF y; have := K3.out.size; have := K39.out.size; omega)
theorem vcomm_no (F : Nat → Prop) (b q p : Nat) (m : Mf) (pv : Value) (X : Dk) (a k fu : Nat) (w : World) (hb : w.heap[b]? = some (VtB q (.slice none 0 0))) (d : StoreAt F w q p X) (hF : ∀ g, F g → 10 ≤ g ∧ g < w.heap.size) (hbF : ¬ F b) (hl : X.lim a k fu) (ha : a ≤ 505) (hk : k ≤ 990) (hf : fu ≤ 400000000) (hdn : X.down = false) (hlay : Lay w)
    (hp : PtsAt w pv m.parts) (hok : okMf m) (hnum : m.num = 0) (h64 : m.parts.length ≤ 64) (h32 : pts32 m.parts) (hS : HasSegs X m.parts) (hby : (mfBy m).length ≤ 65536) (code : Int) (hcd : (X.sput (titleN 0) (mfBy m)).1 = code) (hcode : code ≠ 0) :
    Calls Tryz.prog 147 #[.pointer (some ⟨b, 0, none⟩), mfV m pv] w fun e w' => e = .returned (.iface 45 (.int .i64 code)) ∧ StoreTo F w q p (X.sput (titleN 0) (mfBy m)).2 w' := by
  have hpr : m.prev.length = 32 := hok.prev
  have PA := Lib.hid hp
  have B := Lib.hid hb
  have DD := Lib.hid d
  have HF := Lib.hid hF
  have HL := Lib.hid hlay
  have HOK := Lib.hid hok
  have NC : ((0 : Nat) : Int) = 0 := rfl
  obtain ⟨pa, pc, rfl, hc, hpa, hx⟩ := hp
  have hlm := load_mf (blk_new w (MfB m (.slice pa m.parts.length pc))) hpr
  have CO := Lib.hid (mcopy_ok m (.slice pa m.parts.length pc) (w.alloc (MfB m (.slice pa m.parts.length pc))) (PA.out.keepNon ((Keep.refl Non w).alloc _)) hpr h32 (by omega))
  have TT := Lib.hid (fun W => vtitle_ok 0 W (by omega))
  have SP := Lib.hid (fun W v F0 (st : StoreAt F0 W q p X) (hv : Bs W v (mfBy m)) (hnp : ∀ g, v.ownBlock = some g → ¬ F0 g) => sput_any F0 q p v (titleN 0) (mfBy m) X a k fu W st hl ha hk hf (title_ok 0 (by omega)) hv hby hnp)
  rw [hcd] at SP
  rw [errv_no hcode] at SP
  have HE := Lib.hid (fun W lv pv (k : Keep Non w W) (hp : PtsAt W pv m.parts) (hb' : W.heap[b]? = some (VtB q lv)) => vheld_ok F b q p lv m pv X W hb' (d.keep k (fun _ _ e => e)) hdn (hlay.keepNon k) hp hpr hnum h64 hS)
  have CK := Lib.hid (fun W v (h : MsAt (fun g => w.heap.size ≤ g ∧ g < W.heap.size) W v [m]) => chcheck_one _ v m W h hok hnum)
  have MP := Lib.hid (fun W pv (hp : PtsAt W pv m.parts) => mput_ok m pv W hok hp h64)
  obtain ⟨i0, hi0, hz0, hz1, hz2⟩ := info_parts infoMf
  have I0 := Lib.hid (And.intro hi0 (And.intro hz0 (And.intro hz1 hz2)))
  clear hx hpa hb d hF hlay hok hS hl hi0 hz0 hz1 hz2 hby hcd
  unfold sv at TT SP
  rw [NC] at TT
  unfold MfB at hlm
  dsimp only [MfB] at CO
  unfold mfV at *
  go_enter Tryz.func147, Tryz.ntmps147
  go_wp2_with (go_at_call 34; refine CO.out.mono ?_; rintro r w2 ⟨v2, rfl, k2, o2⟩; obtain ⟨a2, c2, rfl, _, _⟩ := ownsRow_form o2; have hst := store_mf w2 w.heap.size m a2 m.parts.length c2 (mfC m (.slice pa m.parts.length pc)).toArray hpr (by rw [List.size_toArray, mfC_len hpr]) (nonAt k2 (blk_new w (MfB m (.slice pa m.parts.length pc)))); unfold mfV at hst; have K2 := Lib.hid (((Keep.refl Non w).alloc (MfB m (.slice pa m.parts.length pc))).trans1 k2); have BX2 := Lib.hid (nonAt k2 (blk_new w (MfB m (.slice pa m.parts.length pc)))); have O2 := Lib.hid o2; clear k2 o2)
  obtain ⟨m3, k3, o3⟩ := comm_row h32 K2.out BX2.out (ownsRow_low O2.out (by simp))
  obtain ⟨w3, hw3⟩ : ∃ w3, w3 = w2.setRow w.heap.size (mfC m (.slice a2 m.parts.length c2)).toArray := ⟨_, rfl⟩
  rw [← hw3] at m3 k3 o3 hst
  rw [← hw3]
  have M3 := Lib.hid m3
  have K3 := Lib.hid k3
  have O3 := Lib.hid o3
  have PLM : Hid (∀ W, Keep Non w3 W → (holdV 83 ⟨w.heap.size, 0, none⟩).run Tryz.prog W = .ok (mfV m (.slice a2 m.parts.length c2)) W) := Lib.hid (fun W kk => load_mf (nonAt kk M3.out) hpr)
  have VB : Hid (∀ W, Keep Non w3 W → W.heap[b]? = some (VtB q (.slice none 0 0))) := Lib.hid (fun W kk => nonAt (K3.out.trans1 kk) B.out)
  have MN : Hid (∀ W, Keep Non w3 W → W.cell? ⟨w.heap.size, 0, none⟩ = some (.int .i64 m.num)) := Lib.hid (fun W kk => mf_0 (nonAt kk M3.out))
  have kd : Keep Non w3 w3.drew := (Keep.refl _ _).drew
  have ka : Keep Non w3 (w3.alloc (MfB m (.slice a2 m.parts.length c2))) := (Keep.refl _ _).alloc _
  have l0 := PLM.out _ (Keep.refl _ _)
  have l1 := PLM.out _ kd
  have b0 := build_oneM m a2 m.parts.length c2 hpr w3
  have b1 := build_oneM m a2 m.parts.length c2 hpr w3.drew
  have x0 := vt_1 (VB.out _ (Keep.refl _ _))
  have x1 := vt_1 (VB.out _ ka)
  have BK := Lib.hid (blk_new w3 (MfB m (.slice a2 m.parts.length c2)))
  have KAD : Hid (Keep Non w3 (w3.alloc (MfB m (.slice a2 m.parts.length c2))).drew) := Lib.hid ka.drew
  have PLM' := Lib.hid (fun W kk => by have := PLM.out W kk; unfold mfV at this; exact this)
  clear m3 k3 o3 hw3 kd ka K2 BX2 O2 hlm CO
  unfold mfV at l0 l1 b0 b1
  dsimp only [MfB] at b0 b1 x1
  go_region_law (first
    | (go_simp; go_at_call 198; refine (vclone_nil _).mono ?_; rintro r w4 ⟨rfl, e4⟩; subst e4)
    | (refine step_append_prov (by rfl) (.tmp 21) (.tmp 23) 39 (by rfl) w3.heap.size 83 i0 (.agg zMf) 37 88 Tryz.underlying39 I0.out.1 I0.out.2.1 I0.out.2.2.1 I0.out.2.2.2 rfl (by decide) (.slice none 0 0) 0 [] (by first | rfl | simp [Act.eval, Act.put]) (World.ownsRow_nil _ _ _ _) ⟨w3.heap.size, 0, none⟩ 1 1 (mfC m (.slice a2 m.parts.length c2)) (by first | rfl | simp [Act.eval, Act.put]) (by rw [mfC_len hpr]) (by exact mf_cells (w := (w3.alloc (MfB m (.slice a2 m.parts.length c2))).drew) BK.out) (mfC_one' m a2 m.parts.length c2) (by unfold maxLen; omega) (by omega) (by exact KAD.out.size) ?_; intro v5 w5 ho hg hpp; obtain ⟨a5, c5, rfl, _, _⟩ := ownsRow_form ho; obtain ⟨k5, ms5, pt5⟩ := comm_mid hpr h32 K3.out O3.out KAD.out ho hg; have CKW := Lib.hid (CK.out w5 _ ms5); have K5 := Lib.hid k5; have MS5 := Lib.hid ms5; have PT5 := Lib.hid pt5; clear ho hg hpp k5 ms5 pt5))
  all_goals go_wp2_with (first
    | (go_at_call 27; refine CKW.out.mono ?_; rintro r w6 ⟨rfl, k6⟩; have k36 := K5.out.trans1 k6; have l6 := PLM'.out _ k36; have HEW := Lib.hid (HE.out w6 _ (.slice a2 m.parts.length c2) (K3.out.trans1 k36) (PT5.out.keepNon k6) (VB.out _ k36)); have K6 := Lib.hid k36; have K56 := Lib.hid k6; clear k6 k36)
    | (go_at_call 199; refine HEW.out.mono ?_; rintro r w7 ⟨rfl, k7⟩; have k37 := K6.out.trans1 k7; have l7 := PLM'.out _ k37; have MPW := Lib.hid (MP.out w7 (.slice a2 m.parts.length c2) (PT5.out.keepNon (K56.out.trans1 k7))); have K7 := Lib.hid k37; have K57 := Lib.hid (K56.out.trans1 k7); clear k7 k37)
    | (go_at_call 200; refine MPW.out.mono ?_; rintro r w8 ⟨v8, rfl, k8, o8⟩; obtain ⟨a8, c8, rfl, _, _⟩ := ownsRow_form o8; have k38 := K7.out.trans1 k8; have K8 := Lib.hid k38; have K58 := Lib.hid (K57.out.trans1 k8); have O8 := Lib.hid o8; clear k8 k38 o8))
  all_goals
    have k8d : Keep Non w3 w8.drew := K8.out.drew
    have y0 : w8.cell? ⟨b, 0, none⟩ = some (.pointer (some ⟨q, 0, none⟩)) := vt_0 (VB.out _ K8.out)
    have y0d : w8.drew.cell? ⟨b, 0, none⟩ = some (.pointer (some ⟨q, 0, none⟩)) := y0
    have n0 : w8.cell? ⟨w.heap.size, 0, none⟩ = some (.int .i64 (0 : Int)) := by have := MN.out _ K8.out; rw [hnum] at this; exact this
    have n0d : w8.drew.cell? ⟨w.heap.size, 0, none⟩ = some (.int .i64 (0 : Int)) := n0
    have TTW := Lib.hid (TT.out w8.drew)
    have VB8 : Hid (∀ W, Keep Non w8.drew W → W.cell? ⟨b, 0, none⟩ = some (.pointer (some ⟨q, 0, none⟩))) := Lib.hid (fun W kk => vt_0 (VB.out _ (K8.out.drew.trans1 kk)))
    have sz38 : w.heap.size ≤ w8.heap.size := Nat.le_trans K3.out.size K8.out.size
    have SPW : Hid (∀ W, Keep Non w8.drew W → Calls Tryz.prog 83 #[.pointer (some ⟨q, 0, none⟩), .string ⟨(titleN 0).toArray⟩, .slice a8 (mfBy m).length c8] W fun e w' => e = .returned (.iface 45 (.int .i64 code)) ∧ StoreTo F W q p (X.sput (titleN 0) (mfBy m)).2 w') := Lib.hid (fun W kk => SP.out W _ F (DD.out.keep (K3.out.trans1 (K8.out.drew.trans1 kk)) (fun _ _ e => e)) ((Rd.ofOwns O8.out).keepNon ((Keep.refl Non w8).drew.trans1 kk)) (fun g e x => by have := (O8.out.lt g e).1; have := (HF.out g x).2; have := K3.out.size; have := K7.out.size; omega))
    clear k8d
    go_region_law (go_simp; first
      | (go_at_call 25; refine TTW.out.mono ?_; rintro r w9 ⟨rfl, k9⟩; have y9 := VB8.out _ k9; have SPX := Lib.hid (SPW.out w9 k9); have K9 := Lib.hid k9; clear k9)
      | (go_at_call 83; refine SPX.out.mono ?_; rintro r wa ⟨rfl, ka, Fa, sa, da⟩; have k39 := K8.out.drew.trans1 K9.out; have bb := ka.at (VB.out _ k39) hbF; have z1 := vt_1 bb; have zf := vt_f bb 1; have KA := Lib.hid ka; have SA := Lib.hid sa; have DA := Lib.hid da; have BB := Lib.hid bb; have K39 := Lib.hid k39; clear ka sa da bb k39))
  all_goals go_wp2_with fail
  all_goals
    go_ret
    have hT : StoreTo F w9 q p (X.sput (titleN 0) (mfBy m)).2 wa := ⟨KA.out, Fa, SA.out, DA.out⟩
    have k9 := K3.out.trans1 K39.out
    exact ⟨rfl, k9.ofNon.trans KA.out (fun _ _ x => x) (fun _ _ x => x), Fa, fun g x => by rcases SA.out g x with y | y; exact .inl y; exact .inr (Nat.le_trans k9.size y), DA.out⟩
end
end Go.Proofs.YtobjlgfjfpmceaaGreatDoor
namespace Go.Proofs.YtobjlgfjfpmceaaGreatDoor
open Go.RowKit
theorem okPts_snoc : ∀ (l : List Pt) (a : Nat) (p : Pt), okPts a l → p.first = endPts a l → okPt p → okPts a (l ++ [p])
  | [], a, p, _, h, hp => ⟨h, hp, trivial⟩
  | q :: r, a, p, h, h2, hp => ⟨h.1, h.2.1, okPts_snoc r (a + q.many) p h.2.2 h2 hp⟩
theorem endPts_snoc : ∀ (l : List Pt) (a : Nat) (p : Pt), endPts a (l ++ [p]) = endPts a l + p.many
  | [], a, p => rfl
  | q :: r, a, p => endPts_snoc r (a + q.many) p
theorem ptOf_ok {f : Nat} {cl : List Cl} (hne : cl ≠ []) (h : ∀ x ∈ cl, okCl x) (hl : cl.length ≤ 64) (hf : f ≤ 1048576) : okPt (ptOf f cl) := by
  have h1 := seg_len h hl hf
  have h2 := List.length_pos_iff.2 hne
  have h3 : 1 ≤ (segB f cl).length := by
    unfold segB frameB sealB
    rw [List.length_append, fourB_len]
    omega
  exact ⟨h2, hl, h3, Nat.le_trans h1 (by decide), digB_len _⟩
theorem cuStep_ok {c : Cu} {cl : List Cl} (h : okCu c) (hne : cl ≠ []) (hok : ∀ x ∈ cl, okCl x) (hl : cl.length ≤ 64) (hs : c.next + cl.length ≤ c.hi) (hm : c.parts.length < 64) : okCu (cuStep c (ptOf c.next cl)) := by
  have hn : c.next ≤ 1048576 := by have := h.le; have := h.hi; omega
  refine ⟨okPts_snoc _ _ _ h.parts h.stop.symm (ptOf_ok hne hok hl hn), ?_, hs, h.hi, h.trim, ?_⟩
  · show endPts c.lo (c.parts ++ [ptOf c.next cl]) = _
    rw [endPts_snoc, h.stop]
    rfl
  · show (c.parts ++ [ptOf c.next cl]).length ≤ 64
    simp
    omega
end Go.Proofs.YtobjlgfjfpmceaaGreatDoor
