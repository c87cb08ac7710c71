/- slog.add: walked. · slog.New: walked. · What puts make of a log of one unit (plain), and a put. · A mirror: a log of three units in two chains, into w -/
import Derived.Test.YtdmckfkhkjkdnaaGreatDoorQ33
import Derived.Test.YtdmckfkhkjkdnaaGreatDoorQ38
set_option linter.unusedVariables false
set_option maxRecDepth 100000
set_option maxHeartbeats 16000000
namespace Go.Proofs.YtdmckfkhkjkdnaaGreatDoor
open Go.RowKit Go.Maps
set_option linter.unusedSimpArgs false
theorem lgadd_ok {F : Nat → Prop} {b n : Nat} {L : Lg} (w : World) (h : LgAt F w b n L) (hl : L.shs.length < 3) (hlay : Lay w) :
    Calls Tryz.prog 48 #[.pointer (some ⟨b, 0, none⟩), .int .i64 16777216] w fun r w' => r = .returned .nilIface ∧ LgTo F w b n { L with shs := L.shs ++ [sh1 16777216] } w' := by
  obtain ⟨A, dps, sps, dv, sv, cv, q, h, hF⟩ := h
  obtain ⟨da, dc, rfl, _, _⟩ := ownsRow_form h.disks
  obtain ⟨sa, sc, rfl, _, _⟩ := ownsRow_form h.shelves
  have h10 : 10 ≤ w.heap.size := by have := h.low 0 b h.mem.1; omega
  have DN := Lib.hid (dnew_any 16777216 w (by omega))
  have SO : Hid (∀ w1 p, Keep Non w w1 → DiskAt (fun g => w.heap.size ≤ g ∧ g < w1.heap.size) w1 p (dk0 16777216) → Calls Tryz.prog 95 #[.pointer (some ⟨p, 0, none⟩)] w1 fun e w' => ∃ sp, e = .returned (.tuple #[.pointer (some ⟨sp, 0, none⟩), .nilIface]) ∧ ∃ FU, (∀ g, FU g → w.heap.size ≤ g) ∧ ShAt FU w' sp p (sh0 16777216) ∧ Keep Non w w') := Lib.hid (by
    intro w1 p k1 d1
    refine (shopen_ok w1 d1 (hlay.keepNon k1) (fun g x => ⟨by omega, x.2⟩)).mono ?_
    rintro e w' ⟨sp, e1, k2, FU, s2, u2⟩
    exact ⟨sp, e1, FU, fun g x => by rcases s2 g x with y | y; exact y.1; have := k1.size; omega, u2, k1.trans k2 (fun _ _ e => e) (fun g hg x => by omega)⟩)
  have H := Lib.hid h
  have HFF := Lib.hid hF
  have HL := Lib.hid hl
  have HLAY := Lib.hid hlay
  have hn2 : dps.length < 3 := by rw [h.len.1]; exact hl
  have hn3 : sps.length < 3 := by rw [h.len.2]; exact hl
  obtain ⟨i1, hi1, hz1, hz2, hz3⟩ := info_parts infoD
  have I1 := Lib.hid (And.intro hi1 (And.intro hz1 (And.intro hz2 hz3)))
  obtain ⟨i2, hi2, hy1, hy2, hy3⟩ := info_parts infoS
  have I2 := Lib.hid (And.intro hi2 (And.intro hy1 (And.intro hy2 hy3)))
  clear h hF hl hlay hi1 hz1 hz2 hz3 hi2 hy1 hy2 hy3
  have DN' : Hid (Calls Tryz.prog 15 #[.int .i64 16777216] w fun e w' => ∃ p, e = .returned (.tuple #[.pointer (some ⟨p, 0, none⟩), .nilIface]) ∧ Keep Non w w' ∧ DiskAt (fun g => w.heap.size ≤ g ∧ g < w'.heap.size) w' p (dk0 16777216)) := DN
  clear DN
  go_enter Tryz.func48, Tryz.ntmps48
  go_wp2_with (first
    | (go_at_call 15; refine DN'.out.mono ?_; rintro r w1 ⟨p, rfl, k1, d1⟩; have SOW := Lib.hid (SO.out w1 p k1 d1); clear k1 d1)
    | (go_at_call 95; refine SOW.out.mono ?_; rintro r w2 ⟨sp, rfl, FU, hFU, hsh, k2⟩; have K2 := Lib.hid k2; have HFU := Lib.hid hFU; have HSH := Lib.hid hsh; clear k2 hFU hsh))
  have h2 := H.out.keep K2.out (fun _ _ _ e => e)
  have H2 := Lib.hid h2
  have kd : Keep Non w2 w2.drew := (Keep.refl _ _).drew
  have kD0 : Keep Non w2 (w2.alloc (oD p)) := (Keep.refl _ _).alloc _
  have kS0 : Keep Non w2 (w2.alloc (oS sp)) := (Keep.refl _ _).alloc _
  have kDS0 : Keep Non w2 ((w2.alloc (oD p)).alloc (oS sp)) := kD0.alloc _
  have kSD0 : Keep Non w2 ((w2.alloc (oS sp)).alloc (oD p)) := kS0.alloc _
  have kD := kD0.drew
  have kDS := kDS0.drew
  have kSD := kSD0.drew
  have KD := Lib.hid kD
  have KDS := Lib.hid kDS
  have KSD := Lib.hid kSD
  have bD : (w2.alloc (oD p)).drew.heap[w2.heap.size]? = some (oD p) := blk_new w2 (oD p)
  have bDS : ((w2.alloc (oD p)).alloc (oS sp)).drew.heap[w2.heap.size]? = some (oD p) := blk_alloc (blk_new w2 (oD p)) _
  have cDS : ((w2.alloc (oD p)).alloc (oS sp)).drew.heap[w2.heap.size + 1]? = some (oS sp) := alloc2_at' w2 (oD p) (oS sp)
  have bSD : ((w2.alloc (oS sp)).alloc (oD p)).drew.heap[w2.heap.size + 1]? = some (oD p) := alloc2_at' w2 (oS sp) (oD p)
  have cSD : ((w2.alloc (oS sp)).alloc (oD p)).drew.heap[w2.heap.size]? = some (oS sp) := blk_alloc (blk_new w2 (oS sp)) _
  have BD := Lib.hid bD
  have BDS := Lib.hid bDS
  have BSD := Lib.hid bSD
  have CDS := Lib.hid cDS
  have CSD := Lib.hid cSD
  have rD := Lib.hid (ownsRow_keep h2.disks kD (fun _ _ e => e))
  have rDS := Lib.hid (ownsRow_keep h2.disks kDS (fun _ _ e => e))
  have rSD := Lib.hid (ownsRow_keep h2.disks kSD (fun _ _ e => e))
  have x00 := lg_0 h2.blk
  have x10 := lg_1 h2.blk
  have x0D := lg_0 (kD0.at h2.blk (fun e => e))
  have x1D := lg_1 (kD0.at h2.blk (fun e => e))
  have x0S := lg_0 (kS0.at h2.blk (fun e => e))
  have x1S := lg_1 (kS0.at h2.blk (fun e => e))
  have x0DS := lg_0 (kDS0.at h2.blk (fun e => e))
  have x1DS := lg_1 (kDS0.at h2.blk (fun e => e))
  have x0SD := lg_0 (kSD0.at h2.blk (fun e => e))
  have x1SD := lg_1 (kSD0.at h2.blk (fun e => e))
  clear h2 kd kD kDS kSD kD0 kS0 kDS0 kSD0 bD bDS cDS bSD cSD
  dsimp only [oD, oS] at x00 x10 x0D x1D x0S x1S x0DS x1DS x0SD x1SD
  go_region_law (first
    | (refine step_append_prov (by rfl) (.tmp 29) (.tmp 31) 85 (by rfl) 0 28 i1 (.pointer none) 1 8 Tryz.underlying85 I1.out.1 I1.out.2.1 I1.out.2.2.1 I1.out.2.2.2 rfl (by decide) (.slice da dps.length dc) dps.length (dps.map ptrV) (by first | rfl | simp [Act.eval, Act.put]) (by exact rD.out) ⟨w2.heap.size, 0, none⟩ 1 1 [.pointer (some ⟨p, 0, none⟩)] (by first | rfl | simp [Act.eval, Act.put]) (by rfl) (by exact oD_cells BD.out) (by simp [Value.oneCell']) (by unfold maxLen; omega) (by omega) (Nat.zero_le _) ?_; intro v3 w3 ho hg hpp; obtain ⟨a8, tr⟩ := A8.of (p := p) H2.out KD.out ho hg hpp; obtain ⟨a3, c3, rfl, _, _⟩ := ownsRow_form a8.row; have y1 := lg_1 a8.blk; have y2 := lg_1 (a8.alloc (oS sp)).blk; have A8h := Lib.hid a8; clear ho hg hpp a8 tr; dsimp only [oS] at y1 y2)
    | (refine step_append_prov (by rfl) (.tmp 29) (.tmp 31) 85 (by rfl) 0 28 i1 (.pointer none) 1 8 Tryz.underlying85 I1.out.1 I1.out.2.1 I1.out.2.2.1 I1.out.2.2.2 rfl (by decide) (.slice da dps.length dc) dps.length (dps.map ptrV) (by first | rfl | simp [Act.eval, Act.put]) (by exact rDS.out) ⟨w2.heap.size, 0, none⟩ 1 1 [.pointer (some ⟨p, 0, none⟩)] (by first | rfl | simp [Act.eval, Act.put]) (by rfl) (by exact oD_cells BDS.out) (by simp [Value.oneCell']) (by unfold maxLen; omega) (by omega) (Nat.zero_le _) ?_; intro v3 w3 ho hg hpp; obtain ⟨a8, tr⟩ := A8.of (p := p) H2.out KDS.out ho hg hpp; obtain ⟨a3, c3, rfl, _, _⟩ := ownsRow_form a8.row; have y1 := lg_1 a8.blk; have y2 := lg_1 (a8.alloc (oS sp)).blk; have A8h := Lib.hid a8; have TS := Lib.hid (tr _ _ (Nat.le_succ _) CDS.out); clear ho hg hpp a8 tr; dsimp only [oS] at y1 y2)
    | (refine step_append_prov (by rfl) (.tmp 29) (.tmp 31) 85 (by rfl) 0 28 i1 (.pointer none) 1 8 Tryz.underlying85 I1.out.1 I1.out.2.1 I1.out.2.2.1 I1.out.2.2.2 rfl (by decide) (.slice da dps.length dc) dps.length (dps.map ptrV) (by first | rfl | simp [Act.eval, Act.put]) (by exact rSD.out) ⟨w2.heap.size + 1, 0, none⟩ 1 1 [.pointer (some ⟨p, 0, none⟩)] (by first | rfl | simp [Act.eval, Act.put]) (by rfl) (by exact oD_cells BSD.out) (by simp [Value.oneCell']) (by unfold maxLen; omega) (by omega) (Nat.zero_le _) ?_; intro v3 w3 ho hg hpp; obtain ⟨a8, tr⟩ := A8.of (p := p) H2.out KSD.out ho hg hpp; obtain ⟨a3, c3, rfl, _, _⟩ := ownsRow_form a8.row; have y1 := lg_1 a8.blk; have y2 := lg_1 (a8.alloc (oS sp)).blk; have A8h := Lib.hid a8; have TS := Lib.hid (tr _ _ (Nat.le_refl _) CSD.out); clear ho hg hpp a8 tr; dsimp only [oS] at y1 y2)
    | (refine step_append_prov (by rfl) (.tmp 36) (.tmp 38) 86 (by rfl) 0 191 i2 (.pointer none) 1 8 Tryz.underlying86 I2.out.1 I2.out.2.1 I2.out.2.2.1 I2.out.2.2.2 rfl (by decide) (.slice sa sps.length sc) sps.length (sps.map ptrV) (by first | rfl | simp [Act.eval, Act.put]) (by exact A8h.out.shelves) ⟨w2.heap.size + 1, 0, none⟩ 1 1 [.pointer (some ⟨sp, 0, none⟩)] (by first | rfl | simp [Act.eval, Act.put]) (by rfl) (by exact oS_cells TS.out) (by simp [Value.oneCell']) (by unfold maxLen; omega) (by omega) (Nat.zero_le _) ?_; intro v5 w5 ho hg hpp; have a15 := A15.of (sp := sp) H2.out A8h.out ho hg hpp; obtain ⟨a5, c5, rfl, _, _⟩ := ownsRow_form a15.row5; have z0 := lg_0 a15.blk; have z1 := lg_1 (lg_set0 a15.blk (.slice a3 (dps.length + 1) c3)); have f0 := lg_f a15.blk 0; have f1 := lg_f (lg_set0 a15.blk (.slice a3 (dps.length + 1) c3)) 1; have CLO := Lib.hid (add_close H.out HFF.out HL.out HLAY.out K2.out HFU.out HSH.out a15); clear ho hg hpp a15)
    | (refine step_append_prov (by rfl) (.tmp 36) (.tmp 38) 86 (by rfl) 0 191 i2 (.pointer none) 1 8 Tryz.underlying86 I2.out.1 I2.out.2.1 I2.out.2.2.1 I2.out.2.2.2 rfl (by decide) (.slice sa sps.length sc) sps.length (sps.map ptrV) (by first | rfl | simp [Act.eval, Act.put]) (by exact A8h.out.shelves) ⟨w2.heap.size, 0, none⟩ 1 1 [.pointer (some ⟨sp, 0, none⟩)] (by first | rfl | simp [Act.eval, Act.put]) (by rfl) (by exact oS_cells TS.out) (by simp [Value.oneCell']) (by unfold maxLen; omega) (by omega) (Nat.zero_le _) ?_; intro v5 w5 ho hg hpp; have a15 := A15.of (sp := sp) H2.out A8h.out ho hg hpp; obtain ⟨a5, c5, rfl, _, _⟩ := ownsRow_form a15.row5; have z0 := lg_0 a15.blk; have z1 := lg_1 (lg_set0 a15.blk (.slice a3 (dps.length + 1) c3)); have f0 := lg_f a15.blk 0; have f1 := lg_f (lg_set0 a15.blk (.slice a3 (dps.length + 1) c3)) 1; have CLO := Lib.hid (add_close H.out HFF.out HL.out HLAY.out K2.out HFU.out HSH.out a15); clear ho hg hpp a15)
    | (refine step_append_prov (by rfl) (.tmp 36) (.tmp 38) 86 (by rfl) 0 191 i2 (.pointer none) 1 8 Tryz.underlying86 I2.out.1 I2.out.2.1 I2.out.2.2.1 I2.out.2.2.2 rfl (by decide) (.slice sa sps.length sc) sps.length (sps.map ptrV) (by first | rfl | simp [Act.eval, Act.put]) (by exact (A8h.out.alloc (oS sp)).shelves) ⟨w3.heap.size, 0, none⟩ 1 1 [.pointer (some ⟨sp, 0, none⟩)] (by first | rfl | simp [Act.eval, Act.put]) (by rfl) (by exact oS_cells (blk_new w3 (oS sp))) (by simp [Value.oneCell']) (by unfold maxLen; omega) (by omega) (Nat.zero_le _) ?_; intro v5 w5 ho hg hpp; have a15 := A15.of (sp := sp) H2.out (A8h.out.alloc (oS sp)) ho hg hpp; obtain ⟨a5, c5, rfl, _, _⟩ := ownsRow_form a15.row5; have z0 := lg_0 a15.blk; have z1 := lg_1 (lg_set0 a15.blk (.slice a3 (dps.length + 1) c3)); have f0 := lg_f a15.blk 0; have f1 := lg_f (lg_set0 a15.blk (.slice a3 (dps.length + 1) c3)) 1; have CLO := Lib.hid (add_close H.out HFF.out HL.out HLAY.out K2.out HFU.out HSH.out a15); clear ho hg hpp a15))
  all_goals go_wp2_with (go_at_call 96; refine CLO.out.mono ?_; rintro r w6 ⟨⟨nn, rfl⟩, t⟩; have T := Lib.hid t; clear t)
  all_goals
    go_ret
    exact ⟨rfl, T.out⟩
theorem lg_first {w w1 w2 w3 : World} {n q b : Nat} {cv : Value} (h10 : 10 ≤ w.heap.size) (hw : w.heap.size ≤ w1.heap.size) (hn : n ≤ 3) (hp : PrAt (fun g => w.heap.size ≤ g ∧ g < w1.heap.size) w1 cv n) (hq : w1.heap.size ≤ q) (k2 : Keep Non w1 w2) (bq : w2.heap[q]? = some (SqB 0 0)) (hb : b = w2.heap.size) (hw3 : w3 = w2.alloc (LgB (.slice none 0 0) (.slice none 0 0) 1 cv q)) :
    LgAt (fun g => w.heap.size ≤ g ∧ g < w3.heap.size) w3 b n ⟨[], 1, 0, 0⟩ := by
  subst hw3
  subst hb
  have hq2 := lt_of_block bq
  have k3 : Keep Non w1 (w2.alloc (LgB (.slice none 0 0) (.slice none 0 0) 1 cv q)) := k2.trans1 ((Keep.refl _ _).alloc _)
  have sz : (w2.alloc (LgB (.slice none 0 0) (.slice none 0 0) 1 cv q)).heap.size = w2.heap.size + 1 := by simp
  have k2s := k2.size
  refine ⟨fun i g => (i = 0 ∧ g = w2.heap.size) ∨ (i = 1 ∧ g = q) ∨ (i = 4 ∧ w.heap.size ≤ g ∧ g < w1.heap.size), [], [], _, _, cv, q, ⟨blk_new _ _, blk_alloc bq _, ⟨by decide, by decide, by decide, by decide⟩, World.ownsRow_nil _ _ _ _, World.ownsRow_nil _ _ _ _, ⟨rfl, rfl⟩, ?_, fun i s p dp hi => by simp at hi, ⟨.inl ⟨rfl, rfl⟩, .inr (.inl ⟨rfl, rfl⟩), (fun g e => by cases e), (fun g e => by cases e)⟩, ?_, ?_, ⟨hn, by simp⟩⟩, ?_⟩
  · have hp3 := hp.keepNon k3
    obtain ⟨g, vs, c, e1, e2, e3, e4, e5, e6⟩ := hp3
    exact ⟨g, vs, c, e1, e2, e3, e4, .inr (.inr ⟨rfl, e5⟩), fun v hv k e => .inr (.inr ⟨rfl, e6 v hv k e⟩)⟩
  · rintro i j g (⟨h1, h2⟩ | ⟨h1, h2⟩ | ⟨h1, h2, h3⟩) (⟨h4, h5⟩ | ⟨h4, h5⟩ | ⟨h4, h5, h6⟩) <;> omega
  · rintro i g (⟨h1, h2⟩ | ⟨h1, h2⟩ | ⟨h1, h2, h3⟩) <;> constructor <;> omega
  · rintro i g (⟨h1, h2⟩ | ⟨h1, h2⟩ | ⟨h1, h2, h3⟩) <;> constructor <;> omega
theorem lgNew_ok (T : Nat → Prop) (n : Nat) (cv : Value) (w : World) (hlay : Lay w) (h : PrAt T w cv n) (h1 : 1 ≤ n) (h2 : n ≤ 3) (h10 : 10 ≤ w.heap.size) :
    Calls Tryz.prog 14 #[.int .i64 n, .int .i64 16777216, cv] w fun r w' => ∃ b, r = .returned (.tuple #[.pointer (some ⟨b, 0, none⟩), .nilIface]) ∧ Keep Non w w' ∧ LgAt (fun g => w.heap.size ≤ g ∧ g < w'.heap.size) w' b n ⟨List.replicate n (sh1 16777216), 1, 0, 1⟩ := by
  have CK := Lib.hid (fun W (k : Keep Non w W) => pcheck_one T 1 n cv W (h.keepNon k) h1 h2 (by omega))
  have UN := Lib.hid (fun W (k : Keep Non w W) => punits_ok T 1 n cv W (h.keepNon k) h1 h2)
  have CP := Lib.hid (fun W (k : Keep Non w W) => pcopy_ok T 1 n cv W (h.keepNon k) h1 h2)
  obtain ⟨g0, vs0, c0, rfl, _⟩ := id h
  have PB : Hid (∀ W, Keep Non (w.alloc (PrB 1 (.slice (some ⟨g0, 0, none⟩) (chN n) c0))) W → W.cell? ⟨w.heap.size, 0, none⟩ = some (.int .i64 (1 : Nat)) ∧ W.cell? ⟨w.heap.size, 1, none⟩ = some (.slice (some ⟨g0, 0, none⟩) (chN n) c0)) := Lib.hid (fun W kk => ⟨pr_0 (kk.at (blk_new _ _) (fun e => e)), pr_1 (kk.at (blk_new _ _) (fun e => e))⟩)
  have KA := Lib.hid ((Keep.refl Non w).alloc (PrB 1 (.slice (some ⟨g0, 0, none⟩) (chN n) c0)))
  have LY := Lib.hid hlay
  have a0 := pr_0 (blk_new w (PrB 1 (.slice (some ⟨g0, 0, none⟩) (chN n) c0)))
  have a1 := pr_1 (blk_new w (PrB 1 (.slice (some ⟨g0, 0, none⟩) (chN n) c0)))
  have CKA := Lib.hid (CK.out _ KA.out)
  dsimp only [PrB] at a0 a1 CKA
  have hn1 : ¬ (n : Int) < 1 := by omega
  have hn8 : ¬ (8 : Int) < n := by omega
  clear h hlay CK
  go_enter Tryz.func14, Tryz.ntmps14
  go_wp2_with (first
    | (go_at_call 44; refine CKA.out.mono ?_; rintro r w1 ⟨rfl, k1⟩; obtain ⟨b0, b1⟩ := PB.out _ k1; have K1 := Lib.hid k1; have UNW := Lib.hid (UN.out _ (KA.out.trans1 k1)); clear k1)
    | (go_at_call 45; refine UNW.out.mono ?_; rintro r w2 ⟨ug, uc, rfl, k2, hug, u2⟩; obtain ⟨d0, d1⟩ := PB.out _ (K1.out.trans1 k2); have K2 := Lib.hid (K1.out.trans1 k2); have U2 := Lib.hid u2; clear k2 u2))
  go_loopw [31] (fun i wr => ∃ j : Nat, j ≤ n ∧ i = .int .i64 j ∧ wr = w2) (fun i _ => n - (intOf i).toNat)
  case atStart => exact ⟨0, by omega, rfl, rfl⟩
  case round =>
    obtain ⟨j, hj, rfl, rfl⟩ := hrel
    by_cases hlt : j < n
    · have hlj : (j : Int) < (n : Int) := by omega
      have hge : ¬ (n : Int) ≤ (j : Int) := by omega
      have hcell : wr.cell? ⟨ug, j, none⟩ = some (.int .i64 (j : Int)) := by
        obtain ⟨a', c', e, hx⟩ := U2.out
        injection e with e1 e2 e3
        obtain ⟨g', off, e4, hc⟩ := hx (by intro e; have e' := List.map_eq_nil_iff.1 e; have e2 := congrArg List.length e'; simp at e2; omega)
        rw [← e1] at e4
        injection e4 with e4
        injection e4 with e4 e5
        subst e4
        subst e5
        have := hc j (iv j) (by rw [List.getElem?_map, List.getElem?_range hlt]; rfl)
        rwa [Nat.zero_add] at this
      go_wp2_with fail
      refine ⟨⟨j + 1, by omega, ?_⟩, by simp [intOf]; omega⟩
      exact ⟨rfl, trivial⟩
    · obtain rfl : j = n := by omega
      have CPW := Lib.hid (CP.out _ (KA.out.trans1 K2.out))
      go_wp2_with (first
        | (go_at_call 46; refine CPW.out.mono ?_; rintro r w3 ⟨cv', rfl, k3, p3⟩; have K3 := Lib.hid k3; have P3 := Lib.hid p3; clear k3 p3)
        | (go_at_call 47; refine (new_seq _).mono ?_; rintro r w4 ⟨q, rfl, hq, k4, b4⟩; have K4 := Lib.hid k4; have B4 := Lib.hid b4; clear k4 b4))
      have K4' := Lib.hid (KA.out.trans1 (K2.out.trans1 (K3.out.trans1 K4.out)))
      have hF0 : LgAt (fun g => w.heap.size ≤ g) (w4.alloc (LgB (.slice none 0 0) (.slice none 0 0) 1 cv' q)) w4.heap.size j ⟨[], 1, 0, 0⟩ :=
        (lg_first (w := w) (w1 := w3) (w2 := w4) h10 (by have := K3.out.size; have := K2.out.size; have := KA.out.size; simp at *; omega) h2 (by
          obtain ⟨g, vs, c, e1, e2, e3, e4, e5, e6⟩ := P3.out
          have hs : w.heap.size ≤ wr.heap.size := Nat.le_trans KA.out.size K2.out.size
          exact ⟨g, vs, c, e1, e2, e3, e4, ⟨Nat.le_trans hs e5.1, e5.2⟩, fun v hv k e => ⟨Nat.le_trans hs (e6 v hv k e).1, (e6 v hv k e).2⟩⟩) hq K4.out B4.out rfl rfl).mono (fun g x _ => x.1)
      have HF0 := Lib.hid hF0
      have ADD := Lib.hid (fun W L (hL : LgAt (fun g => w.heap.size ≤ g) W w4.heap.size j L) (hl : L.shs.length < 3) (hy : Lay W) => lgadd_ok W hL hl hy)
      generalize hwB : w4.alloc (LgB (.slice none 0 0) (.slice none 0 0) 1 cv' q) = wB at HF0 hF0
      have KB : Hid (Keep Non w wB) := Lib.hid (by rw [← hwB]; exact K4'.out.alloc _)
      dsimp only [LgB] at hwB
      rw [show ((1 : Nat) : Int) = 1 from rfl] at hwB
      rw [hwB]
      generalize w4.heap.size = b at HF0 ADD ⊢
      clear hF0 hwB
      go_loopw [46] (fun i wr => ∃ k : Nat, k ≤ j ∧ i = .int .i64 k ∧ Keep Non w wr ∧ LgAt (fun g => w.heap.size ≤ g) wr b j ⟨List.replicate k (sh1 16777216), 1, 0, 0⟩) (fun i _ => j - (intOf i).toNat)
      case atStart => exact ⟨0, by omega, rfl, KB.out, HF0.out⟩
      case round =>
        obtain ⟨k, hk, rfl, kw, hL⟩ := hrel
        have KW := Lib.hid kw
        have HL := Lib.hid hL
        clear kw hL HF0
        by_cases hlk : k < j
        · have hlk' : (k : Int) < (j : Int) := by omega
          have AD := Lib.hid (ADD.out _ _ HL.out (by simp; omega) (LY.out.keepNon KW.out))
          go_wp2_with (go_at_call 48; refine AD.out.mono ?_; rintro r w6 ⟨rfl, t⟩; have TT := Lib.hid t; clear t)
          refine ⟨⟨k + 1, by omega, by first | rfl | go_num, ?_⟩, by simp [intOf]; omega⟩
          obtain ⟨k6, F', s6, hL6⟩ := TT.out
          refine ⟨KW.out.trans k6 (fun _ _ e => e) (fun g hg e => by omega), ?_⟩
          have e1 : List.replicate k (sh1 16777216) ++ [sh1 16777216] = List.replicate (k + 1) (sh1 16777216) := by rw [List.replicate_succ']
          rw [e1] at hL6
          exact hL6.mono (fun g x _ => by rcases s6 g x with y | y; exact y; have := KW.out.size; omega)
        · obtain rfl : k = j := by omega
          obtain ⟨A, dps, sps, dv, sv, cv, q', hA, hAF⟩ := id HL.out
          have c4 := lg_4 hA.blk
          have e1 : setE 0 1 0 = 0 := by decide
          have e2 : setP 0 1 0 = 1 := by decide
          have e3 : setN 0 0 1 0 = 0 := by decide
          have SET := set_any q' 0 0 1 0 _ hA.sq hA.sqin
          rw [e1, e2, e3, errv_zero] at SET
          have SET' := Lib.hid SET
          have FIN : Hid (∀ w', Keep (One q') wr w' → w'.heap[q']? = some (SqB 1 0) → LgTo (fun g => w.heap.size ≤ g) wr b k ⟨List.replicate k (sh1 16777216), 1, 0, 1⟩ w') := Lib.hid (fun w' kk hq => hA.own (e' := 1) (nx' := 0) hAF (kk.mono (fun g _ x => .inr x)) (kk.at hA.blk (fun e => by have e' : b = q' := e; have := hA.apart 0 1 b hA.mem.1 (e' ▸ hA.mem.2.1); omega)) hq ⟨by decide, by decide, by decide, by decide⟩)
          clear SET hA
          go_wp2_with (go_at_call 49; refine SET'.out.mono ?_; rintro r w7 ⟨rfl, k7, q7⟩; have K7 := Lib.hid k7; have Q7 := Lib.hid q7; clear k7 q7)
          go_ret2
          obtain ⟨k8, F', s8, hL8⟩ := FIN.out _ K7.out Q7.out
          refine ⟨b, rfl, KW.out.trans k8 (fun _ _ e => e) (fun g hg e => by omega), hL8.mono (fun g x y => ⟨?_, y⟩)⟩
          rcases s8 g x with y | y
          · exact y
          · have := KW.out.size; omega
structure Filled (L : Lg) (i : Nat) : Prop where
  shs : L.shs = [lgS L]
  ep : L.ep = 1
  se : L.se = 1
  e : (lgS L).e = 1
  l : (lgS L).l = 0
  ok : (lgS L).ok
  nx : (lgS L).next ≤ i + 1
  next : L.next ≤ i
  map : IsMap (lgS L).D
  rest : ∀ a, i ≤ a → ucell (lgS L).D a = (0, [])
  cells : ∀ a, okCl (ucell (lgS L).D a) ∧ (ucell (lgS L).D a).1 ≠ 3
def putS (s : Sh) (i : Nat) (x : Cl) : Sh := if x.1 = 1 then s.did (actBy 2 s.e i x.2) s.e s.l (uput s.D i (1, x.2)) else s.did (actBy 3 s.e i []) s.e s.l (uput s.D i (2, []))
def putL (L : Lg) (i : Nat) (x : Cl) : Lg := if cellE x.1 x.2.length = 0 ∧ (x.1 = 1 ∨ x.1 = 2) then ⟨[putS (lgS L) i x], L.ep, max L.next (i + 1), L.se⟩ else L
theorem uat0 (D : Un) (a : Nat) : uat 0 D a = ucell D a := by unfold uat; rw [if_neg (by omega)]
theorem Filled.log {L : Lg} {i : Nat} (h : Filled L i) (hi : i ≤ 200) : Log1 L :=
  ⟨.inl (by rw [h.shs]; rfl), fun s hs => by rw [h.shs] at hs; simp only [List.mem_singleton] at hs; subst hs; exact ⟨by rw [h.e, h.ep], h.ok.free.1⟩, by rw [h.se, h.ep], by have := h.next; omega, fun a => by rw [cell_one h.shs, h.l, uat0]; exact (h.cells a).1⟩
theorem Filled.low {L : Lg} {i : Nat} (h : Filled L i) : ∀ s ∈ L.shs, s.l = 0 := fun s hs => by
  rw [h.shs] at hs
  simp only [List.mem_singleton] at hs
  rw [hs]
  exact h.l
theorem Filled.one {L : Lg} {i : Nat} (h : Filled L i) : L.shs.length = 1 := by rw [h.shs]; rfl
theorem Filled.not3 {L : Lg} {i : Nat} (h : Filled L i) (a : Nat) : (cellL L a).1 ≠ 3 := by
  rw [cell_one h.shs, h.l, uat0]
  exact (h.cells a).2
theorem Filled.step {L : Lg} {i : Nat} (h : Filled L i) {s2 : Sh} {y : Cl} (e : s2.e = 1) (l : s2.l = 0) (ok : s2.ok) (nx : s2.next ≤ i + 2) (hD : s2.D = uput (lgS L).D i y) (hy : okCl y) (hy3 : y.1 ≠ 3) : Filled ⟨[s2], L.ep, max L.next (i + 1), L.se⟩ (i + 1) := by
  refine ⟨rfl, h.ep, h.se, e, l, ok, nx, ?_, ?_, ?_, ?_⟩
  · show max L.next (i + 1) ≤ i + 1
    have := h.next
    omega
  · show IsMap s2.D
    rw [hD]
    exact h.map.put _ _
  · intro a ha
    show ucell s2.D a = _
    rw [hD, ucell_put_other (by omega)]
    exact h.rest a (by omega)
  · intro a
    show okCl (ucell s2.D a) ∧ (ucell s2.D a).1 ≠ 3
    rw [hD]
    by_cases ha : a = i
    · rw [ha, ucell_put_same h.map]
      exact ⟨hy, hy3⟩
    · rw [ucell_put_other ha]
      exact h.cells a
theorem Filled.stay {L : Lg} {i : Nat} (h : Filled L i) : Filled L (i + 1) :=
  ⟨h.shs, h.ep, h.se, h.e, h.l, h.ok, by have := h.nx; omega, by have := h.next; omega, h.map, fun a ha => h.rest a (by omega), h.cells⟩
theorem cellE_data {d : List UInt8} (h : cellE 1 d.length = 0) : d.length ≤ 64 := by
  unfold cellE at h
  rw [if_neg (by omega)] at h
  split at h
  · cases h
  · omega
theorem Filled.put {L : Lg} {i : Nat} (h : Filled L i) (hi : i < 200) (x : Cl) : Filled (putL L i x) (i + 1) := by
  unfold putL
  split
  · rename_i hc
    obtain ⟨h0, h1⟩ := hc
    have hn := h.nx
    unfold putS
    split
    · rename_i e1
      rw [e1] at h0
      have hd := cellE_data h0
      exact h.step h.e h.l (h.ok.did (by omega) (actBy_len 2 _ i x.2 (by omega) (by rw [h.e]; omega) (by omega) hd) (size_uput h.map _ _)) (by show (lgS L).next + 1 ≤ _; omega) rfl ⟨by show (0 : Int) ≤ 1; omega, by show (1 : Int) ≤ 3; omega, hd, fun e => absurd rfl e⟩ (by show (1 : Int) ≠ 3; omega)
    · exact h.step h.e h.l (h.ok.did (by omega) (actBy_len 3 _ i [] (by omega) (by rw [h.e]; omega) (by omega) (by simp)) (size_uput h.map _ _)) (by show (lgS L).next + 1 ≤ _; omega) rfl ⟨by decide, by decide, by simp, fun _ => rfl⟩ (by decide)
  · exact h.stay
theorem filled0 : Filled ⟨[sh1 16777216], 1, 0, 1⟩ 0 := by
  refine ⟨rfl, rfl, rfl, rfl, rfl, ?_, Nat.le_refl _, Nat.le_refl _, ⟨[], rfl⟩, fun a _ => rfl, fun a => ⟨⟨by show (0 : Int) ≤ 0; omega, by show (0 : Int) ≤ 3; omega, by show 0 ≤ 64; omega, fun _ => rfl⟩, by show (0 : Int) ≠ 3; omega⟩⟩
  exact sh0_ok.did (by decide) (actBy_len 1 1 0 [] (by omega) (by omega) (by omega) (by simp)) (Nat.le_succ _)
theorem lput_any {F : Nat → Prop} {b i xc : Nat} {x : Cl} {xa : Option Addr} {L : Lg} (w : World) (h : LgAt F w b 1 L) (hf : Filled L i) (hi : i < 200) (hlay : Lay w) (hx : Bs w (.slice xa x.2.length xc) x.2) (ho : x.2 = [] ∨ ∀ g, (Value.slice xa x.2.length xc).ownBlock = some g → ¬ F g ∧ g < w.heap.size) :
    Calls Tryz.prog 17 #[.pointer (some ⟨b, 0, none⟩), .int .i64 i, .agg #[.int .i64 x.1, .slice xa x.2.length xc]] w fun r w' => (∃ e, r = .returned (errv e)) ∧ LgTo F w b 1 (putL L i x) w' := by
  obtain ⟨k, d⟩ := x
  dsimp only at hx ho ⊢
  by_cases hc : cellE k d.length = 0 ∧ (k = 1 ∨ k = 2)
  · obtain ⟨h0, h1⟩ := hc
    have hn := hf.nx
    have hs0 : L.shs[0]? = some (lgS L) := by rw [hf.shs]; rfl
    have hee : (lgS L).e = L.ep := by rw [hf.e, hf.ep]
    have hlen : (0 : Nat) < 1 := by omega
    have he : putL L i (k, d) = ⟨[putS (lgS L) i (k, d)], L.ep, max L.next (i + 1), L.se⟩ := by unfold putL; rw [if_pos ⟨h0, h1⟩]
    have hset : ∀ s2 : Sh, L.shs.set 0 s2 = [s2] := fun s2 => by rw [hf.shs]; rfl
    rw [he]
    have hu : uat (lgS L).l (lgS L).D i = (0, []) := by rw [hf.l, uat0, hf.rest i (Nat.le_refl _)]
    refine (lgPut_ok (L2 := ⟨[putS (lgS L) i (k, d)], L.ep, L.next, L.se⟩) w h rfl (by rw [hf.se, hf.ep]) (by omega) (homeN_1 i) (by omega) h0 h1 ?_).mono ?_
    · intro W F' kk hF' hW
      rcases h1 with h1 | h1
      · subst h1
        have hd := cellE_data h0
        have ac := acts_write (s := lgS L) hf.ok (by omega) i xa d xc hd (by rw [hf.e]; omega) (by omega) (by rw [hu])
        rw [hee] at ac
        have := lgput_data (c := xc) (BsOut (.slice xa d.length xc) d) W hW hs0 (hlay.keepNon kk) ac (fun w' F2 k2 hF2 => ⟨hx.keepNon (kk.trans1 k2), ho.imp id (fun ho g e => ⟨fun y => (ho g e).1 (hF' g (hF2 g y)).1, by have := (ho g e).2; have := kk.size; have := k2.size; omega⟩)⟩)
        rw [hset] at this
        have e2 : putS (lgS L) i (1, d) = (lgS L).did (actBy 2 L.ep i d) L.ep (lgS L).l (uput (lgS L).D i (1, d)) := by unfold putS; rw [if_pos rfl, hee]
        rw [e2]
        exact this
      · subst h1
        have ac := acts_fill (s := lgS L) hf.ok (by omega) i (by rw [hf.e]; omega) (by omega) (by rw [hu]; decide) (by rw [hu]; decide)
        rw [hee] at ac
        have := lgput_hole (pa := xa) (m := d.length) (c := xc) Any W hW hs0 (hlay.keepNon kk) ac (fun _ _ _ _ => trivial)
        rw [hset] at this
        have e2 : putS (lgS L) i (2, d) = (lgS L).did (actBy 3 L.ep i []) L.ep (lgS L).l (uput (lgS L).D i (2, [])) := by unfold putS; rw [if_neg (by show ¬ (2 : Int) = 1; omega), hee]
        rw [e2]
        exact this
    · rintro r w' ⟨rfl, t⟩
      exact ⟨⟨0, rfl⟩, t⟩
  · have he : putL L i (k, d) = L := by unfold putL; rw [if_neg hc]
    rw [he]
    by_cases h0 : cellE k d.length = 0
    · have hk : k = 0 ∨ k = 3 := by
        have hk12 : ¬ (k = 1 ∨ k = 2) := fun e => hc ⟨h0, e⟩
        have hk03 : ¬ (k < 0 ∨ 3 < k) := fun e => by
          unfold cellE at h0
          rw [if_pos e] at h0
          cases h0
        omega
      refine (lgPut_no w h (by omega) (.inr hk)).mono ?_
      rintro r w' ⟨e, k⟩
      exact ⟨e, LgTo.refl h k⟩
    · refine (lgPut_no w h (by omega) (.inl h0)).mono ?_
      rintro r w' ⟨e, k⟩
      exact ⟨e, LgTo.refl h k⟩
structure UnitM (s : Sh) (i : Nat) : Prop where
  e : s.e = 1
  l : s.l = 0
  ok : s.ok
  nx : s.next ≤ i + 1
  map : IsMap s.D
  rest : ∀ a, i ≤ a → ucell s.D a = (0, [])
structure FilledM (M : Lg) (i : Nat) (g : Nat → Cl) : Prop where
  len : M.shs.length = 3
  ep : M.ep = 1
  se : M.se = 1
  next : M.next = i
  un : ∀ s ∈ M.shs, UnitM s i
  got : ∀ a, a < i → cellL M a = g a
def putM (M : Lg) (i : Nat) (x : Cl) : Lg :=
  { M with shs := if i % 2 = 0 then M.shs.set 0 (putS (M.shs.getD 0 (sh0 0)) i x) else (M.shs.set 1 (putS (M.shs.getD 1 (sh0 0)) i x)).set 2 (putS (M.shs.getD 2 (sh0 0)) i x), next := max M.next (i + 1) }
theorem UnitM.mono {s : Sh} {i : Nat} (h : UnitM s i) : UnitM s (i + 1) := ⟨h.e, h.l, h.ok, by have := h.nx; omega, h.map, fun a ha => h.rest a (by omega)⟩
theorem putS_unit {s : Sh} {i : Nat} {x : Cl} (h : UnitM s i) (hi : i < 200) (hx : okCl x) (hk : x.1 = 1 ∨ x.1 = 2) : UnitM (putS s i x) (i + 1) ∧ ucell (putS s i x).D i = x ∧ ∀ a, a ≠ i → ucell (putS s i x).D a = ucell s.D a := by
  obtain ⟨k, d⟩ := x
  have hn := h.nx
  have hd := hx.2.2.1
  have he := h.e
  dsimp only at hk hd
  have hrest : ∀ (y : Cl) a, i + 1 ≤ a → ucell (uput s.D i y) a = (0, []) := fun y a ha => by
    rw [ucell_put_other (by omega)]
    exact h.rest a (by omega)
  rcases hk with hk | hk
  · subst hk
    have e1 : putS s i (1, d) = s.did (actBy 2 s.e i d) s.e s.l (uput s.D i (1, d)) := by unfold putS; rw [if_pos rfl]
    rw [e1]
    refine ⟨⟨he, h.l, h.ok.did (by omega) (actBy_len 2 _ i d (by omega) (by omega) (by omega) hd) (size_uput h.map _ _), by show s.next + 1 ≤ _; omega, h.map.put _ _, hrest _⟩, ?_, fun a ha => ?_⟩
    · show ucell (uput s.D i (1, d)) i = _
      exact ucell_put_same h.map
    · show ucell (uput s.D i (1, d)) a = _
      exact ucell_put_other ha
  · subst hk
    have hd0 : d = [] := hx.2.2.2 (by show (2 : Int) ≠ 1; omega)
    subst hd0
    have e1 : putS s i (2, []) = s.did (actBy 3 s.e i []) s.e s.l (uput s.D i (2, [])) := by unfold putS; rw [if_neg (by show ¬ (2 : Int) = 1; omega)]
    rw [e1]
    refine ⟨⟨he, h.l, h.ok.did (by omega) (actBy_len 3 _ i [] (by omega) (by omega) (by omega) (by simp)) (size_uput h.map _ _), by show s.next + 1 ≤ _; omega, h.map.put _ _, hrest _⟩, ?_, fun a ha => ?_⟩
    · show ucell (uput s.D i (2, [])) i = _
      exact ucell_put_same h.map
    · show ucell (uput s.D i (2, [])) a = _
      exact ucell_put_other ha
theorem three_of {α : Type} {l : List α} (h : l.length = 3) : ∃ a b c, l = [a, b, c] := by
  match l, h with
  | [a, b, c], _ => exact ⟨a, b, c, rfl⟩
theorem cell_three {M : Lg} {s0 s1 s2 : Sh} (h : M.shs = [s0, s1, s2]) (a : Nat) : cellL M a = if a % 2 = 0 then uat s0.l s0.D a else uat s2.l s2.D a := by
  unfold cellL unitL lastN
  rw [h]
  simp only [List.length_cons, List.length_nil, Nat.zero_add, Nat.reduceAdd, homeN_3]
  split <;> rfl
theorem filledM0 (g : Nat → Cl) : FilledM ⟨List.replicate 3 (sh1 16777216), 1, 0, 1⟩ 0 g := by
  have h0 : UnitM (sh1 16777216) 0 := ⟨rfl, rfl, sh0_ok.did (by decide) (actBy_len 1 1 0 [] (by omega) (by omega) (by omega) (by simp)) (Nat.le_succ _), Nat.le_refl _, ⟨[], rfl⟩, fun a _ => rfl⟩
  exact ⟨rfl, rfl, rfl, rfl, fun s hs => by rw [List.eq_of_mem_replicate hs]; exact h0, fun a ha => by omega⟩
theorem FilledM.put {M : Lg} {i : Nat} {g : Nat → Cl} (h : FilledM M i g) (hi : i < 200) (hx : okCl (g i)) (hk : (g i).1 = 1 ∨ (g i).1 = 2) : FilledM (putM M i (g i)) (i + 1) g := by
  obtain ⟨s0, s1, s2, e⟩ := three_of h.len
  have u0 : UnitM s0 i := h.un s0 (by rw [e]; simp)
  have u1 : UnitM s1 i := h.un s1 (by rw [e]; simp)
  have u2 : UnitM s2 i := h.un s2 (by rw [e]; simp)
  obtain ⟨p0, q0, r0⟩ := putS_unit u0 hi hx hk
  obtain ⟨p1, q1, r1⟩ := putS_unit u1 hi hx hk
  obtain ⟨p2, q2, r2⟩ := putS_unit u2 hi hx hk
  have hg : ∀ a, a < i → cellL M a = g a := h.got
  have hnx : max M.next (i + 1) = i + 1 := by rw [h.next]; omega
  by_cases h2 : i % 2 = 0
  · have e' : (putM M i (g i)).shs = [putS s0 i (g i), s1, s2] := by
      unfold putM
      simp only [h2, if_true, e]
      rfl
    refine ⟨by rw [e']; rfl, h.ep, h.se, hnx, fun s hs => ?_, fun a ha => ?_⟩
    · rw [e'] at hs
      simp only [List.mem_cons, List.not_mem_nil, or_false] at hs
      rcases hs with rfl | rfl | rfl
      · exact p0
      · exact u1.mono
      · exact u2.mono
    · rw [cell_three e']
      by_cases ha2 : a % 2 = 0
      · rw [if_pos ha2, p0.l, uat0]
        by_cases hai : a = i
        · rw [hai, q0]
        · rw [r0 a hai]
          have := hg a (by omega)
          rw [cell_three e, if_pos ha2, u0.l, uat0] at this
          exact this
      · rw [if_neg ha2, u2.l, uat0]
        have := hg a (by omega)
        rw [cell_three e, if_neg ha2, u2.l, uat0] at this
        exact this
  · have e' : (putM M i (g i)).shs = [s0, putS s1 i (g i), putS s2 i (g i)] := by
      unfold putM
      simp only [h2, if_false, e]
      rfl
    refine ⟨by rw [e']; rfl, h.ep, h.se, hnx, fun s hs => ?_, fun a ha => ?_⟩
    · rw [e'] at hs
      simp only [List.mem_cons, List.not_mem_nil, or_false] at hs
      rcases hs with rfl | rfl | rfl
      · exact u0.mono
      · exact p1
      · exact p2
    · rw [cell_three e']
      by_cases ha2 : a % 2 = 0
      · rw [if_pos ha2, u0.l, uat0]
        have := hg a (by omega)
        rw [cell_three e, if_pos ha2, u0.l, uat0] at this
        exact this
      · rw [if_neg ha2, p2.l, uat0]
        by_cases hai : a = i
        · rw [hai, q2]
        · rw [r2 a hai]
          have := hg a (by omega)
          rw [cell_three e, if_neg ha2, u2.l, uat0] at this
          exact this
theorem FilledM.log {M : Lg} {i : Nat} {g : Nat → Cl} (h : FilledM M i g) (hi : i ≤ 200) (hg : ∀ a, okCl (g a)) : Log1 M := by
  obtain ⟨s0, s1, s2, e⟩ := three_of h.len
  refine ⟨.inr h.len, fun s hs => ?_, by rw [h.se, h.ep], by rw [h.next]; exact hi, fun a => ?_⟩
  · have u := h.un s hs
    exact ⟨by rw [u.e, h.ep], u.ok.free.1⟩
  · by_cases ha : a < i
    · rw [h.got a ha]
      exact hg a
    · have z : okCl ((0, []) : Cl) := ⟨by show (0 : Int) ≤ 0; omega, by show (0 : Int) ≤ 3; omega, by show 0 ≤ 64; omega, fun _ => rfl⟩
      rw [cell_three e]
      have u0 : UnitM s0 i := h.un s0 (by rw [e]; simp)
      have u2 : UnitM s2 i := h.un s2 (by rw [e]; simp)
      split
      · rw [u0.l, uat0, u0.rest a (by omega)]; exact z
      · rw [u2.l, uat0, u2.rest a (by omega)]; exact z
theorem FilledM.low {M : Lg} {i : Nat} {g : Nat → Cl} (h : FilledM M i g) : ∀ s ∈ M.shs, s.l = 0 := fun s hs => (h.un s hs).l
theorem unit_act {A' : Nat → Nat → Prop} {W : World} {b : Nat} {dps sps : List Nat} {dv sv cv : Value} {q n u i xc : Nat} {x : Cl} {xa : Option Addr} {L : Lg} {s : Sh} (h : LgIn A' W b dps sps dv sv cv q n L) (hs : L.shs[u]? = some s) (hu : UnitM s i) (hi : i < 200) (hlay : Lay W) (hx : okCl x) (hk : x.1 = 1 ∨ x.1 = 2)
    (hb : Bs W (.slice xa x.2.length xc) x.2) (ho : x.2 = [] ∨ ∀ g, (Value.slice xa x.2.length xc).ownBlock = some g → (∀ k, ¬ A' k g) ∧ g < W.heap.size) :
    Calls Tryz.prog 118 #[.pointer (some ⟨b, 0, none⟩), .int .i64 u, .int .i64 (1 : Nat), .int .i64 i, .agg #[.int .i64 x.1, .slice xa x.2.length xc]] W fun r w' => r = .returned .nilIface ∧ LgIT A' W b dps sps dv sv cv q n u { L with shs := L.shs.set u (putS s i x) } w' := by
  obtain ⟨k, d⟩ := x
  have hd := hx.2.2.1
  have hn := hu.nx
  have he := hu.e
  dsimp only at hk hd hb ho ⊢
  have h0 : uat s.l s.D i = (0, []) := by rw [hu.l, uat0, hu.rest i (Nat.le_refl _)]
  rcases hk with hk | hk
  · subst hk
    have ac := acts_write (s := s) hu.ok (by omega) i xa d xc hd (by omega) (by omega) (by rw [h0])
    have := lgputI_data (c := xc) (BsOut (.slice xa d.length xc) d) W h hs hlay ac (fun w' F2 k2 hF2 => ⟨hb.keepNon k2, ho.imp id (fun ho g e => ⟨fun y => (ho g e).1 _ (hF2 g y), by have := (ho g e).2; have := k2.size; omega⟩)⟩)
    rw [he] at this
    have e2 : putS s i (1, d) = s.did (actBy 2 s.e i d) s.e s.l (uput s.D i (1, d)) := by unfold putS; rw [if_pos rfl]
    rw [e2, he]
    exact this
  · subst hk
    have hd0 : d = [] := hx.2.2.2 (by show (2 : Int) ≠ 1; omega)
    subst hd0
    have ac := acts_fill (s := s) hu.ok (by omega) i (by omega) (by omega) (by rw [h0]; decide) (by rw [h0]; decide)
    have := lgputI_hole (pa := xa) (m := 0) (c := xc) Any W h hs hlay ac (fun _ _ _ _ => trivial)
    rw [he] at this
    have e2 : putS s i (2, []) = s.did (actBy 3 s.e i []) s.e s.l (uput s.D i (2, [])) := by unfold putS; rw [if_neg (by show ¬ (2 : Int) = 1; omega)]
    rw [e2, he]
    exact this
theorem mirput_ok {F : Nat → Prop} {b i xc : Nat} {xa : Option Addr} {M : Lg} {g : Nat → Cl} (w : World) (h : LgAt F w b 3 M) (hf : FilledM M i g) (hi : i < 200) (hlay : Lay w) (hx : okCl (g i)) (hk : (g i).1 = 1 ∨ (g i).1 = 2)
    (hb : Bs w (.slice xa (g i).2.length xc) (g i).2) (ho : (g i).2 = [] ∨ ∀ k, (Value.slice xa (g i).2.length xc).ownBlock = some k → ¬ F k ∧ k < w.heap.size) :
    Calls Tryz.prog 17 #[.pointer (some ⟨b, 0, none⟩), .int .i64 i, .agg #[.int .i64 (g i).1, .slice xa (g i).2.length xc]] w fun r w' => r = .returned .nilIface ∧ LgTo F w b 3 (putM M i (g i)) w' := by
  obtain ⟨s0, s1, s2, e⟩ := three_of hf.len
  have u0 : UnitM s0 i := hf.un s0 (by rw [e]; simp)
  have u1 : UnitM s1 i := hf.un s1 (by rw [e]; simp)
  have u2 : UnitM s2 i := hf.un s2 (by rw [e]; simp)
  generalize hgx : g i = x at hx hk hb ho ⊢
  have hce : cellE x.1 x.2.length = 0 := okCl_e hx
  obtain ⟨A, dps, sps, dv, sv, cv, q, hI, hF⟩ := h
  have hsz : ∀ i g, A i g → g < w.heap.size := fun i g y => (hI.low i g y).2
  have MEM : ∀ (w0 W : World) (A' : Nat → Nat → Prop) (L' : Lg), Keep Non w w0 → LgMid A w0 b dps sps dv sv cv q 3 L' A' W → Lay W ∧ Bs W (.slice xa x.2.length xc) x.2 ∧ (x.2 = [] ∨ ∀ k, (Value.slice xa x.2.length xc).ownBlock = some k → (∀ j, ¬ A' j k) ∧ k < W.heap.size) := fun w0 W A' L' k0 hM => by
    have kW : Keep (UnMem A) w W := k0.ofNon.trans1 hM.kp
    refine ⟨hlay.keep kW (fun g hg ⟨j, _, y⟩ => by have := (hI.low j g y).1; omega), bs_keepO hb kW (ho.imp id (fun ho k ek ⟨j, _, y⟩ => (ho k ek).1 (hF j k y))), ho.imp id (fun ho k ek => ⟨fun j y => ?_, kW.lt (ho k ek).2⟩)⟩
    rcases hM.mem j k y with z | z
    · exact (ho k ek).1 (hF j k z)
    · have := (ho k ek).2; have := k0.size; omega
  by_cases h2 : i % 2 = 0
  · have hh : homeN 3 i = [0] := by rw [homeN_3, if_pos h2]
    have ep : putM M i x = { M with shs := M.shs.set 0 (putS s0 i x), next := max M.next (i + 1) } := by
      unfold putM
      simp only [h2, if_true, e]
      rfl
    have := lgPutI_ok (a := i) (k := x.1) (m := x.2.length) (xa := xa) (xc := xc) (ep := 1) (LJ := fun j => if j = 0 then M else { M with shs := M.shs.set 0 (putS s0 i x) }) w (by exact hI) hF
      (fun j _ => by by_cases hj : j = 0 <;> simp [hj, hf.ep, hf.se]) (by omega) (by omega) hce hk (fun w0 k0 j u A' W hj hM => by
        rw [hh] at hj
        obtain ⟨rfl, rfl⟩ : j = 0 ∧ u = 0 := by
          rcases j with _ | j
          · simp at hj; exact ⟨rfl, hj.symm⟩
          · simp at hj
        obtain ⟨l1, b1, o1⟩ := MEM w0 W A' M k0 hM
        exact unit_act hM.inn (by rw [e]; rfl) u0 hi l1 hx hk b1 o1)
    rw [hh] at this
    rw [ep]
    exact this
  · have hh : homeN 3 i = [1, 2] := by rw [homeN_3, if_neg h2]
    have ep : putM M i x = { M with shs := (M.shs.set 1 (putS s1 i x)).set 2 (putS s2 i x), next := max M.next (i + 1) } := by
      unfold putM
      simp only [h2, if_false, e]
      rfl
    have := lgPutI_ok (a := i) (k := x.1) (m := x.2.length) (xa := xa) (xc := xc) (ep := 1) (LJ := fun j => if j = 0 then M else if j = 1 then { M with shs := M.shs.set 1 (putS s1 i x) } else { M with shs := (M.shs.set 1 (putS s1 i x)).set 2 (putS s2 i x) }) w (by exact hI) hF
      (fun j _ => by by_cases hj : j = 0 <;> by_cases hj1 : j = 1 <;> simp [hj, hj1, hf.ep, hf.se]) (by omega) (by omega) hce hk (fun w0 k0 j u A' W hj hM => by
        rw [hh] at hj
        rcases j with _ | _ | j
        · simp at hj
          subst hj
          obtain ⟨l1, b1, o1⟩ := MEM w0 W A' M k0 hM
          exact unit_act hM.inn (by rw [e]; rfl) u1 hi l1 hx hk b1 o1
        · simp at hj
          subst hj
          obtain ⟨l1, b1, o1⟩ := MEM w0 W A' _ k0 hM
          exact unit_act hM.inn (s := s2) (by simp only [e]; rfl) u2 hi l1 hx hk b1 o1
        · simp at hj)
    rw [hh] at this
    rw [ep]
    exact this
def newsL (L : Lg) (f : Nat) : List Cl := (slabL L L.next f).takeWhile (fun x => decide (x.1 ≠ 0))
theorem news_sub (L : Lg) (f : Nat) : ∃ r, slabL L L.next f = newsL L f ++ r ∧ ∀ x, r.head? = some x → x.1 = 0 := by
  refine ⟨(slabL L L.next f).dropWhile (fun x => decide (x.1 ≠ 0)), (List.takeWhile_append_dropWhile ..).symm, fun x hx => ?_⟩
  have := List.head?_dropWhile_not (fun x : Cl => decide (x.1 ≠ 0)) (slabL L L.next f)
  rw [hx] at this
  simpa using this
theorem news_len (L : Lg) (f : Nat) : (newsL L f).length ≤ 64 ∧ (newsL L f).length ≤ L.next - f := by
  obtain ⟨r, e, _⟩ := news_sub L f
  have h := slab_len L L.next f
  rw [e, List.length_append] at h
  omega
theorem news_get {L : Lg} {f j : Nat} (h : j < (newsL L f).length) : (newsL L f)[j]? = some (cellL L (f + j)) := by
  obtain ⟨r, e, _⟩ := news_sub L f
  have hl := slab_len L L.next f
  have h2 := hl
  rw [e, List.length_append] at h2
  have hg := slab_get (L := L) (hi := L.next) (f := f) (j := j) (by omega)
  rw [e, List.getElem?_append_left h] at hg
  exact hg
theorem news_kind {L : Lg} {f : Nat} : ∀ x ∈ newsL L f, x.1 ≠ 0 := fun x hx => by
  unfold newsL at hx
  have := List.all_eq_true.1 (List.all_takeWhile (l := slabL L L.next f) (p := fun x : Cl => decide (x.1 ≠ 0))) x hx
  simpa using this
theorem news_cell {L : Lg} {f j : Nat} (h : j < (newsL L f).length) : (cellL L (f + j)).1 ≠ 0 := news_kind _ (List.mem_of_getElem? (news_get h))
theorem news_ok {L : Lg} (hl : Log1 L) {f : Nat} : ∀ x ∈ newsL L f, okCl x := fun x hx => by
  obtain ⟨r, e, _⟩ := news_sub L f
  exact slab_ok hl x (by rw [e]; exact List.mem_append_left _ hx)
theorem news_stop {L : Lg} {f : Nat} (h : (newsL L f).length < min 64 (L.next - f)) : (cellL L (f + (newsL L f).length)).1 = 0 := by
  obtain ⟨r, e, h0⟩ := news_sub L f
  have hg := slab_get (L := L) (hi := L.next) (f := f) (j := (newsL L f).length) h
  rw [e, List.getElem?_append_right (Nat.le_refl _), Nat.sub_self] at hg
  exact h0 _ (by rw [List.head?_eq_getElem?]; exact hg)
def hearN (L : Lg) (n f : Nat) : Nat := max n (f + (newsL L f).length)
def allNon (L : Lg) (n : Nat) : Prop := n ≤ L.next ∧ ∀ a, a < n → (cellL L a).1 ≠ 0
theorem allNon.hear {L : Lg} {n f : Nat} (h : allNon L n) (hf : f ≤ n) : allNon L (hearN L n f) := by
  have hl := (news_len L f).2
  refine ⟨by unfold hearN; have := h.1; omega, fun a ha => ?_⟩
  by_cases h1 : a < n
  · exact h.2 a h1
  · have : a < f + (newsL L f).length := by unfold hearN at ha; omega
    have e : a = f + (a - f) := by omega
    rw [e]
    exact news_cell (by omega)
theorem allNon.kind {L : Lg} (hl : Log1 L) (h3 : ∀ a, (cellL L a).1 ≠ 3) {n a : Nat} (h : allNon L n) (ha : a < n) : (cellL L a).1 = 1 ∨ (cellL L a).1 = 2 := by
  have h0 := h.2 a ha
  have hk := hl.cells a
  have := hk.1
  have := hk.2.1
  have := h3 a
  omega
end Go.Proofs.YtdmckfkhkjkdnaaGreatDoor
