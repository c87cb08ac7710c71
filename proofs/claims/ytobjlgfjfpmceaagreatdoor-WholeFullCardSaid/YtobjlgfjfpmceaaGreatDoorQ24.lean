/- The taker of a cursor: address, part: walked. -/
import Derived.Test.YtobjlgfjfpmceaaGreatDoorQ19
set_option linter.unusedVariables false
set_option maxRecDepth 100000
set_option maxHeartbeats 16000000
namespace Go.Proofs.YtobjlgfjfpmceaaGreatDoor
open Go.RowKit
def pt0 (a m s : Nat) : Pt := ⟨a, m, s, List.replicate 32 0⟩
theorem pt0_len (a m s : Nat) : (pt0 a m s).sum.length = 32 := List.length_replicate ..
theorem build_pt0 (a m s : Nat) (w : World) : (holdB 101 #[(0, .int .i64 a), (1, .int .i64 m), (2, .int .i64 s)]).run Tryz.prog w = .ok (ptV (pt0 a m s)) w :=
  run_build w 101 _ _ (by kernel_rfl)
theorem one_new {w w' : World} {p : Nat} {b : Nat} {o : Obj} (k : Keep (One p) w w') (h : w.heap[b]? = some o) (hne : b ≠ p) : w'.heap[b]? = some o := k.at h hne
theorem tkaddr_ok (F : Nat → Prop) (q n : Nat) (r : List UInt8) (w : World) (h : RdAt F w q (vput n ++ r)) (hn : n ≤ 1048576) :
    Calls Tryz.prog 188 #[.agg #[.pointer (some ⟨q, 0, none⟩)]] w fun e w' => e = .returned (.int .i64 n) ∧ Keep (One q) w w' ∧ RdAt F w' q r := by
  have W1 := Lib.hid (fun w1 (k : Keep Non w w1) => within_ok F q n 1048576 r w1 (h.keep k (fun _ _ e => e)) hn (by omega))
  clear h
  go_enter Tryz.func188, Tryz.ntmps188
  go_wp2_with (go_at_call 69; refine (W1.out _ ((Keep.refl _ _).alloc _)).mono ?_; rintro e w1 ⟨rfl, k1, r1⟩; have K1 := Lib.hid (((Keep.refl Non w).alloc _).ofNon.trans1 k1); have R1 := Lib.hid r1; clear k1 r1)
  go_ret
  exact ⟨rfl, K1.out, R1.out⟩
def TkpEnd (F : Nat → Prop) (w : World) (q : Nat) (p : Pt) (r : List UInt8) (b : Nat) (W : World) : Prop :=
  W.heap[b]? = some (PtB (pt0 p.first p.many p.size)) ∧ W.heap[w.heap.size]? = some (.cells #[.pointer (some ⟨q, 0, none⟩)] 270 (0, 0)) ∧ W.heap[w.heap.size + 1]? = some (.cells zPt 101 (0, 0)) ∧ RdAt F W q (p.sum ++ r) ∧ Keep (One q) w W ∧ w.heap.size + 2 ≤ b
def TkpPre (F : Nat → Prop) (w : World) (q : Nat) (p : Pt) (r : List UInt8) (W : World) : Prop :=
  W.heap[w.heap.size]? = some (.cells #[.pointer (some ⟨q, 0, none⟩)] 270 (0, 0)) ∧ W.heap[w.heap.size + 1]? = some (.cells zPt 101 (0, 0)) ∧ RdAt F W q (p.sum ++ r) ∧ Keep (One q) w W ∧ w.heap.size + 2 ≤ W.heap.size
theorem tkp_two {F : Nat → Prop} {w wA w1 w2 : World} {q : Nat} {p : Pt} {r : List UInt8} (gA : wA.heap[w.heap.size]? = some (.cells #[.pointer (some ⟨q, 0, none⟩)] 270 (0, 0))) (zA : wA.heap[w.heap.size + 1]? = some (.cells zPt 101 (0, 0))) (kA : Keep Non w wA) (hq : q < w.heap.size) (k1 : Keep (One q) wA w1) (k2 : Keep (One q) w1 w2) (r2 : RdAt F w2 q (p.sum ++ r)) : TkpPre F w q p r w2 := by
  have k := k1.trans1 k2
  exact ⟨one_new k gA (by omega), one_new k zA (by omega), r2, kA.ofNon.trans1 k, by have := lt_of_block (one_new k zA (by omega)); omega⟩
theorem tkp_endA {F : Nat → Prop} {w w2 : World} {q : Nat} {p : Pt} {r : List UInt8} (h : TkpPre F w q p r w2) : TkpEnd F w q p r w2.heap.size (w2.alloc (PtB (pt0 p.first p.many p.size))) := by
  obtain ⟨a, b, c, d, e⟩ := h
  have k : Keep Non w2 (w2.alloc (PtB (pt0 p.first p.many p.size))) := (Keep.refl _ _).alloc _
  exact ⟨blk_new _ _, nonAt k a, nonAt k b, c.keep k (fun _ _ e => e), d.trans1 k.ofNon, e⟩
theorem tkp_endR {F : Nat → Prop} {w w2 : World} {q b : Nat} {p : Pt} {r : List UInt8} (h : TkpPre F w q p r w2) (hF : ∀ g, F g → g < w.heap.size) (hb : w.heap.size + 2 ≤ b) (hz : w2.heap[b]? = some (.cells zPt 101 (0, 0))) : TkpEnd F w q p r b (w2.setRow b (ptC (pt0 p.first p.many p.size)).toArray) := by
  obtain ⟨a, b', c, d, e⟩ := h
  have k : Keep (One b) w2 (w2.setRow b (ptC (pt0 p.first p.many p.size)).toArray) := (Keep.refl (One b) _).setRow (.inl (one_self _)) _
  exact ⟨setRow_heap _ _ _ _ _ _ hz, one_new k a (by omega), one_new k b' (by omega), c.keep k (fun g hg e2 => by have e' : g = b := e2; have := hF g hg; omega), d.trans k (fun _ _ e => e) (fun g hg e2 => by have e' : g = b := e2; omega), hb⟩
theorem info_u8 : (Tryz.prog.info? 5).map (·.size) = some 1 := by kernel_rfl
theorem copy_sum {w : World} {b g c n : Nat} {p : Pt} (h3 : p.sum.length = 32) (hb : w.heap[b]? = some (PtB (pt0 p.first p.many p.size))) (o : w.ownsRow n 5 1 (.slice (some ⟨g, 0, none⟩) 32 c) 32 (p.sum.map bv)) :
    (Builtin.copy_ #[53, 53] 3 #[.slice (some ⟨b, 3, none⟩) 32 32, .slice (some ⟨g, 0, none⟩) 32 c]).run Tryz.prog w = .ok (.int .i64 32) (w.setRow b (ptC p).toArray) := by
  have hr := Rd.ofOwns o
  have h := run_copy_rowK (P := Tryz.prog) w 53 53 3 5 1 b 3 32 32 ⟨g, 0, none⟩ 32 c (ptC (pt0 p.first p.many p.size)).toArray 101 (p.sum.map bv) Tryz.underlying53 info_u8 hb (by rw [List.length_map, h3]; rfl)
    (by
      obtain ⟨a, c', e, hx⟩ := hr
      injection e with e1 e2 e3
      obtain ⟨g', off, e4, hc⟩ := hx (by intro e; have := congrArg List.length e; rw [List.length_map, h3] at this; cases this)
      rw [← e1] at e4
      injection e4 with e4
      injection e4 with e4 e5
      subst e4
      subst e5
      intro j v hv
      rw [add_off]
      exact hc j v hv)
    (by rw [List.length_map, h3, List.size_toArray, ptC_len (pt0_len _ _ _)]; decide) (oneCell_bytes _)
  rw [h]
  have e : (ptC (pt0 p.first p.many p.size)).toArray.toList.take 3 ++ p.sum.map bv ++ (ptC (pt0 p.first p.many p.size)).toArray.toList.drop (3 + (p.sum.map bv).length) = ptC p := by
    have hd : (ptC (pt0 p.first p.many p.size)).drop (3 + 32) = [] := List.drop_eq_nil_of_le (by rw [ptC_len (pt0_len _ _ _)]; decide)
    rw [List.length_map, h3, List.toList_toArray, hd, List.append_nil]
    rfl
  rw [e]
  rfl
theorem tkp_next {F : Nat → Prop} {w wA w1 : World} {q : Nat} {p : Pt} {r : List UInt8} {T : TypeId} (gA : wA.heap[w.heap.size]? = some (.cells #[.pointer (some ⟨q, 0, none⟩)] T (0, 0))) (sA : w.heap.size + 2 = wA.heap.size) (hq : q < w.heap.size) (k1 : Keep (One q) wA w1) (r1 : RdAt F w1 q (vput p.size ++ (p.sum ++ r))) (h2 : p.size ≤ 65536) :
    w1.heap[w.heap.size]? = some (.cells #[.pointer (some ⟨q, 0, none⟩)] T (0, 0)) ∧ w1.cell? ⟨w.heap.size, 0, none⟩ = some (.pointer (some ⟨q, 0, none⟩)) ∧ (w1.alloc (.cells zPt 101)).cell? ⟨w.heap.size, 0, none⟩ = some (.pointer (some ⟨q, 0, none⟩)) ∧
    (Calls Tryz.prog 69 #[.pointer (some ⟨q, 0, none⟩), .int .u64 65536] w1 fun e w' => e = .returned (.int .i64 p.size) ∧ Keep (One q) w1 w' ∧ RdAt F w' q (p.sum ++ r)) ∧
    (Calls Tryz.prog 69 #[.pointer (some ⟨q, 0, none⟩), .int .u64 65536] (w1.alloc (.cells zPt 101)) fun e w' => e = .returned (.int .i64 p.size) ∧ Keep (One q) (w1.alloc (.cells zPt 101)) w' ∧ RdAt F w' q (p.sum ++ r)) ∧ True ∧ w.heap.size + 2 ≤ w1.heap.size := by
  have g1 := one_new k1 gA (by omega)
  have kz : Keep Non w1 (w1.alloc (.cells zPt 101)) := (Keep.refl _ _).alloc _
  have g2 := nonAt kz g1
  exact ⟨g1, by simp [World.cell?, g1], by simp [World.cell?, g2], within_ok F q p.size 65536 _ w1 r1 h2 (by omega), within_ok F q p.size 65536 _ _ (r1.keep kz (fun _ _ e => e)) h2 (by omega), trivial, by have := k1.size; omega⟩
theorem tkp_fixed {F : Nat → Prop} {w W4 w5 : World} {q b g c n : Nat} {p : Pt} {r : List UInt8} {T : TypeId} (x1 : W4.heap[b]? = some (PtB (pt0 p.first p.many p.size))) (x3 : W4.heap[w.heap.size + 1]? = some (.cells zPt 101 (0, 0))) (x5 : Keep (One q) w W4) (x6 : w.heap.size + 2 ≤ b) (hq : q < w.heap.size) (k5 : Keep (One q) W4 w5) (r5 : RdAt F w5 q r) (h3 : p.sum.length = 32) (hF : ∀ g, F g → g < w.heap.size)
    (o : w5.ownsRow n 5 1 (.slice (some ⟨g, 0, none⟩) 32 c) 32 (p.sum.map bv)) :
    (Builtin.copy_ #[53, 53] 3 #[.slice (some ⟨b, 3, none⟩) 32 32, .slice (some ⟨g, 0, none⟩) 32 c]).run Tryz.prog w5 = .ok (.int .i64 32) (w5.setRow b (ptC p).toArray) ∧
    (holdV 101 ⟨b, 0, none⟩).run Tryz.prog (w5.setRow b (ptC p).toArray) = .ok (ptV p) (w5.setRow b (ptC p).toArray) ∧
    (holdW 101 ⟨w.heap.size + 1, 0, none⟩ (ptV p)).run Tryz.prog (w5.setRow b (ptC p).toArray) = .ok () ((w5.setRow b (ptC p).toArray).setRow (w.heap.size + 1) (ptC p).toArray) ∧
    (holdV 101 ⟨w.heap.size + 1, 0, none⟩).run Tryz.prog ((w5.setRow b (ptC p).toArray).setRow (w.heap.size + 1) (ptC p).toArray) = .ok (ptV p) ((w5.setRow b (ptC p).toArray).setRow (w.heap.size + 1) (ptC p).toArray) ∧
    Keep (One q) w ((w5.setRow b (ptC p).toArray).setRow (w.heap.size + 1) (ptC p).toArray) ∧ RdAt F ((w5.setRow b (ptC p).toArray).setRow (w.heap.size + 1) (ptC p).toArray) q r := by
  have b5 := one_new k5 x1 (by omega)
  have z5 := one_new k5 x3 (by omega)
  have k6 : Keep (One b) w5 (w5.setRow b (ptC p).toArray) := (Keep.refl (One b) _).setRow (.inl (one_self _)) _
  have z6 := one_new k6 z5 (by omega)
  have k7 : Keep (One (w.heap.size + 1)) (w5.setRow b (ptC p).toArray) ((w5.setRow b (ptC p).toArray).setRow (w.heap.size + 1) (ptC p).toArray) := (Keep.refl (One (w.heap.size + 1)) _).setRow (.inl (one_self _)) _
  refine ⟨copy_sum h3 b5 o, load_pt (setRow_heap _ _ _ _ _ _ b5) h3, store_pt _ _ p zPt h3 rfl z6, load_pt (setRow_heap _ _ _ _ _ _ z6) h3, ?_, ?_⟩
  · exact ((x5.trans1 k5).trans k6 (fun _ _ e => e) (fun g hg e => by have e' : g = b := e; omega)).trans k7 (fun _ _ e => e) (fun g hg e => by have e' : g = w.heap.size + 1 := e; omega)
  · exact (r5.keep k6 (fun g hg e => by have e' : g = b := e; have := hF g hg; omega)).keep k7 (fun g hg e => by have e' : g = w.heap.size + 1 := e; have := hF g hg; omega)
section
attribute [local go_sem ↓] hV81 hV101 hV83 hW81 hW101 hW83 hB101 hB83
theorem tkpart_ok (F : Nat → Prop) (q : Nat) (p : Pt) (r : List UInt8) (w : World) (h : RdAt F w q (vput p.many ++ (vput p.size ++ (p.sum ++ r)))) (h1 : p.many ≤ 64) (h2 : p.size ≤ 65536) (h3 : p.sum.length = 32) (hF : ∀ g, F g → g < w.heap.size) :
    Calls Tryz.prog 189 #[.agg #[.pointer (some ⟨q, 0, none⟩)], .int .i64 p.first] w fun e w' => e = .returned (ptV p) ∧ Keep (One q) w w' ∧ RdAt F w' q r := by
  have hq : q < w.heap.size := by obtain ⟨_, q1, _⟩ := h; exact lt_of_block q1
  have H := Lib.hid h
  have hbu := build_pt0 p.first p.many p.size
  have HF := Lib.hid hF
  clear h hF
  go_enter Tryz.func189, Tryz.ntmps189
  go_wp2_with fail
  have kA : Keep Non w ((w.alloc (.cells #[.pointer (some ⟨q, 0, none⟩)] 270)).alloc (.cells zPt 101)) := ((Keep.refl _ _).alloc _).alloc _
  have gA : ((w.alloc (.cells #[.pointer (some ⟨q, 0, none⟩)] 270)).alloc (.cells zPt 101)).heap[w.heap.size]? = some (.cells #[.pointer (some ⟨q, 0, none⟩)] 270 (0, 0)) := blk_alloc (blk_new w _) _
  have zA : ((w.alloc (.cells #[.pointer (some ⟨q, 0, none⟩)] 270)).alloc (.cells zPt 101)).heap[w.heap.size + 1]? = some (.cells zPt 101 (0, 0)) := alloc2_at _ _ _
  have sA : w.heap.size + 2 = ((w.alloc (.cells #[.pointer (some ⟨q, 0, none⟩)] 270)).alloc (.cells zPt 101)).heap.size := by simp
  obtain ⟨wA, hwA⟩ : ∃ wA, wA = ((w.alloc (.cells #[.pointer (some ⟨q, 0, none⟩)] 270)).alloc (.cells zPt 101)) := ⟨_, rfl⟩
  rw [← hwA] at kA gA zA sA
  unfold zPt at hwA
  rw [← hwA]
  clear hwA
  have ld : ∀ W : World, W.heap[w.heap.size]? = some (.cells #[.pointer (some ⟨q, 0, none⟩)] 270 (0, 0)) → W.cell? ⟨w.heap.size, 0, none⟩ = some (.pointer (some ⟨q, 0, none⟩)) := fun W h => by simp [World.cell?, h]
  have kz : ∀ W : World, Keep Non W (W.alloc (.cells zPt 101)) := fun W => (Keep.refl _ _).alloc _
  have WI1 : ∀ W, Keep Non wA W → Calls Tryz.prog 69 #[.pointer (some ⟨q, 0, none⟩), .int .u64 64] W fun e w' => e = .returned (.int .i64 p.many) ∧ Keep (One q) W w' ∧ RdAt F w' q (vput p.size ++ (p.sum ++ r)) := fun W k => within_ok F q p.many 64 _ W (H.out.keep (kA.trans1 k) (fun _ _ e => e)) h1 (by omega)
  have c0 := ld wA gA
  have c0z := ld _ (nonAt (kz wA) gA)
  have C1a := Lib.hid (WI1 wA.drew (Keep.refl _ _).drew)
  have C1b := Lib.hid (WI1 (wA.alloc (.cells zPt 101)).drew (kz wA).drew)
  have LD := Lib.hid ld
  have KZ := Lib.hid kz
  have KA := Lib.hid kA
  have GA := Lib.hid gA
  have ZA := Lib.hid zA
  have SA := Lib.hid sA
  have N1 := Lib.hid (blk_new wA (.cells zPt 101 (0, 0)))
  dsimp only [zPt] at c0z C1b
  clear ld kz kA gA zA sA WI1
  go_region_law (first
    | (go_simp; go_at_call 69; first
      | ((with_reducible refine C1a.out.mono ?_); rintro e w1 ⟨rfl, k1', r1⟩; have k1 : Keep (One q) wA w1 := ((Keep.refl Non wA).drew).ofNon.trans1 k1'; obtain ⟨g1, c1, c1z, C2a', C2b', y1, s1⟩ := tkp_next (T := 270) (p := p) GA.out SA.out hq k1 r1 h2; have C2a := Lib.hid C2a'; have C2b := Lib.hid C2b'; have G1 := Lib.hid g1; have K1 := Lib.hid k1; have Y1 := Lib.hid (True.intro); have S1 := Lib.hid s1; dsimp only [zPt] at c1z C2b; clear k1' k1 r1 C2a' C2b' g1 s1 y1)
      | ((with_reducible refine C1b.out.mono ?_); rintro e w1 ⟨rfl, k1', r1⟩; have k1 : Keep (One q) wA w1 := ((KZ.out wA).drew).ofNon.trans1 k1'; obtain ⟨g1, c1, c1z, C2a', C2b', y1, s1⟩ := tkp_next (T := 270) (p := p) GA.out SA.out hq k1 r1 h2; have Y1 := Lib.hid (one_new k1' N1.out (by have := SA.out; omega)); have C2a := Lib.hid C2a'; have G1 := Lib.hid g1; have K1 := Lib.hid k1; have S1 := Lib.hid s1; clear k1' k1 r1 C2a' C2b' c1z g1 y1 s1)
      | ((with_reducible refine C2a.out.mono ?_); rintro e w2 ⟨rfl, k2, r2⟩; have K2 := Lib.hid k2; have R2 := Lib.hid r2; have hst0 := store_pt0 w2 (pt0 p.first p.many p.size) (pt0_len _ _ _); dsimp only [zPt, PtB] at hst0; have PR := Lib.hid (tkp_two (p := p) (r := r) GA.out ZA.out KA.out hq K1.out k2 r2); have E0 := Lib.hid (tkp_endA PR.out); first | (have y2 := one_new k2 Y1.out (by have := SA.out; omega); have hst1 := store_pt w2 wA.heap.size (pt0 p.first p.many p.size) zPt (pt0_len _ _ _) rfl y2; have E1 := Lib.hid (tkp_endR (b := wA.heap.size) PR.out HF.out (by have := SA.out; omega) y2); clear y2) | skip; clear k2 r2)
      | ((with_reducible refine C2b.out.mono ?_); rintro e w2 ⟨rfl, k2, r2⟩; have K2 := Lib.hid ((KZ.out w1).ofNon.trans1 k2); have R2 := Lib.hid r2; have y2 : w2.heap[w1.heap.size]? = some (.cells zPt 101 (0, 0)) := one_new k2 (blk_new w1 (.cells zPt 101 (0, 0))) (by have := S1.out; omega); have hst1 := store_pt w2 w1.heap.size (pt0 p.first p.many p.size) zPt (pt0_len _ _ _) rfl y2; have PR := Lib.hid (tkp_two (p := p) (r := r) GA.out ZA.out KA.out hq K1.out K2.out r2); have E1 := Lib.hid (tkp_endR (b := w1.heap.size) PR.out HF.out S1.out y2); clear k2 r2 y2)))
  all_goals first
    | (have e0 := E1.out; generalize (World.setRow w2 _ _) = W4 at e0 ⊢; first | generalize wA.heap.size = b2 at e0 ⊢ | generalize w1.heap.size = b2 at e0 ⊢)
    | (have e0 := E0.out; dsimp only [PtB] at e0; generalize (World.alloc w2 _) = W4 at e0 ⊢; generalize w2.heap.size = b2 at e0 ⊢)
  all_goals
    have E := Lib.hid e0
    have FX := Lib.hid (fixed_ok F q p.sum r W4.drew (e0.2.2.2.1.keep (Keep.refl Non W4).drew (fun _ _ e => e)) (by rw [h3]; omega))
    rw [h3] at FX
    obtain ⟨x1, x2, x3, x4, x5, x6⟩ := e0
    have d0 : W4.cell? ⟨w.heap.size, 0, none⟩ = some (.pointer (some ⟨q, 0, none⟩)) := LD.out W4 x2
    clear x1 x2 x3 x4 x5 x6
    go_wp2_with fail
  all_goals
    have d0d : W4.drew.cell? ⟨w.heap.size, 0, none⟩ = some (.pointer (some ⟨q, 0, none⟩)) := d0
    go_region_law (go_simp; go_at_call 124; refine FX.out.mono ?_; rintro e w5 ⟨v5, rfl, k5', r5, o5⟩; obtain ⟨g5, c5, rfl, _, y5, _⟩ := own_some o5 (by omega); have k5 : Keep (One q) W4 w5 := ((Keep.refl Non W4).drew).ofNon.trans1 k5'; obtain ⟨q1, q2, q3, q4, q5, q6⟩ := tkp_fixed (T := 270) E.out.1 E.out.2.2.1 E.out.2.2.2.2.1 E.out.2.2.2.2.2 hq k5 r5 h3 HF.out o5; have hcp := q1; have hlp := q2; have hsp := q3; have Q4 := Lib.hid q4; have Q5 := Lib.hid q5; have Q6 := Lib.hid q6; clear q1 q2 q3 q4 q5 q6 k5' k5 r5 o5 y5)
  all_goals
    go_wp2_with fail
    have hlv := Q4.out
    unfold holdV at hlv
    refine bodyPost_ret (v := ptV p) (by simp [results, Tryz.results189, asAddr, hlv]) rfl ?_
    exact ⟨rfl, Q5.out, Q6.out⟩
end
end Go.Proofs.YtobjlgfjfpmceaaGreatDoor
