/- A file is written: walked. -/
import Derived.Test.YtdmckfkhkjkdnaaGreatDoorQ06
set_option linter.unusedVariables false
set_option maxRecDepth 100000
set_option maxHeartbeats 16000000
namespace Go.Proofs.YtdmckfkhkjkdnaaGreatDoor
open Go.RowKit Go.Maps
theorem DiskIn.grow {F T : Nat → Prop} {w : World} {p s h : Nat} {pv v : Value} {X : Dk} (d : DiskIn F T w p s h pv X) {B : Nat} (hB : p < B ∧ s < B ∧ h < B ∧ ∀ g, pv.ownBlock = some g → g < B) (hv : ∀ g, v.ownBlock = some g → B ≤ g ∧ g < w.heap.size) :
    DiskIn (fun g => F g ∨ v.ownBlock = some g) (fun g => T g ∨ v.ownBlock = some g) w p s h pv X := by
  obtain ⟨i1, i2, i3, i4, i5⟩ := d.inF
  obtain ⟨o1, o2, o3, o4, o5⟩ := d.outT
  have k : Keep Non w w := Keep.refl _ _
  refine ⟨d.blk, d.sure.keep k (fun e => e) (fun _ _ e => e) (fun _ e => .inl e), d.shown.keep k (fun e => e) (fun _ _ e => e) (fun _ e => .inl e), d.pend.keep k (fun _ _ e => e) (fun _ _ e => e) (fun _ e => .inl e), ⟨.inl i1, .inl i2, .inl i3, fun g e => .inl (i4 g e), fun g e => by rcases e with e | e; exact .inl (i5 g e); exact .inr e⟩, d.apart, ⟨?_, ?_, ?_, ?_, ?_⟩, d.room⟩
  · rintro (e | e); exact o1 e; have := (hv _ e).1; omega
  · rintro (e | e); exact o2 e; have := (hv _ e).1; omega
  · rintro (e | e); exact o3 e; have := (hv _ e).1; omega
  · rintro g e (e2 | e2); exact o4 g e e2; have h1 := (hv g e2).1; have h2 := hB.2.2.2 g e; omega
  · rintro g (e | e); exact o5 g e; exact (hv g e).2
theorem map_block {α : Type} {w : World} {kt : TypeId} {R : Value → α → Prop} {b : Nat} {D : DataW α} (h : MapAt w kt R b D) : ∃ es clock, w.heap[b]? = some (.map es clock) ∧ es.size = size D := by
  obtain ⟨es, clock, hb, F, hs, rfl⟩ := h
  exact ⟨es, clock, hb, by simp [size, length_sorted]⟩
theorem held_S {w2 W W' : World} {p h : Nat} {r : Int} {es : Array MapEntry} {clock : Nat} (hS : W.cell? ⟨p, 0, none⟩ = some (.int .i64 r) ∧ W.cell? ⟨p, 2, none⟩ = some (.map (some h)) ∧ W.heap[h]? = some (.map es clock) ∧ Keep Non w2 W) (k : Keep Non W W') :
    W'.cell? ⟨p, 0, none⟩ = some (.int .i64 r) ∧ W'.cell? ⟨p, 2, none⟩ = some (.map (some h)) ∧ W'.heap[h]? = some (.map es clock) ∧ Keep Non w2 W' := by
  obtain ⟨h1, h2, h3, h4⟩ := hS
  exact ⟨(World.cell?_of_block (k.block p (World.block_lt_of_cell? _ _ h1) (fun e => e))).trans h1, (World.cell?_of_block (k.block p (World.block_lt_of_cell? _ _ h2) (fun e => e))).trans h2, k.at h3 (fun e => e), h4.trans1 k⟩
theorem DiskIn.lts {F T : Nat → Prop} {w : World} {p s h : Nat} {pv : Value} {X : Dk} (d : DiskIn F T w p s h pv X) : p < w.heap.size ∧ s < w.heap.size ∧ h < w.heap.size ∧ ∀ g, pv.ownBlock = some g → g < w.heap.size := by
  obtain ⟨xs, h1, _⟩ := d.pend
  exact ⟨lt_of_block d.blk, MapAt.lt d.sure, MapAt.lt d.shown, fun g e => (h1.lt g e).2⟩
theorem dwrite_keep {F T : Nat → Prop} {w w1 w4 w5 : World} {p s h : Nat} {pv v4 : Value} {X : Dk} (d : DiskIn F T w p s h pv X) (k1 : Keep (One p) w w1) (k4 : Keep Non w1 w4) (hv : ∀ g, v4.ownBlock = some g → w.heap.size ≤ g) (k5 : Keep (fun g => F g ∨ v4.ownBlock = some g) w4 w5) : Keep F w w5 :=
  ((k1.mono (fun i _ e => by have e' : i = p := e; rw [e']; exact d.inF.1)).trans1 k4.ofNon).trans k5 (fun _ _ e => e) (fun i hi e => by
    rcases e with e | e
    · exact e
    · have := hv i e; omega)
theorem dwrite_new {F : Nat → Prop} {A B g : Nat} {v4 pv' : Value} (hAB : A ≤ B) (hv : ∀ g, v4.ownBlock = some g → A ≤ g) (hpv : ∀ g, pv'.ownBlock = some g → (F g ∨ v4.ownBlock = some g) ∨ B ≤ g) (h : (F g ∨ v4.ownBlock = some g) ∨ pv'.ownBlock = some g) : F g ∨ A ≤ g := by
  rcases h with (h | h) | h
  · exact .inl h
  · exact .inr (hv g h)
  · rcases hpv g h with (q | q) | q
    · exact .inl q
    · exact .inr (hv g q)
    · exact .inr (by omega)
theorem dwrite_ok (F T : Nat → Prop) (p s h : Nat) (pv v : Value) (n b : Byt) (X : Dk) (w : World) (d : DiskIn F T w p s h pv X) (hw : X.works.1 = 0) (hfu : X.fuse ≤ 1000000000) (hv : Bs w v b) (hn : okName n) (hb : b.length ≤ 65536) (hs : size X.shown ≤ 100000) (hp : X.pend.length ≤ 1000000) (hu : fused X.shown ≤ 1000000000) (hg : (fget X.shown n).length ≤ 1000000000) (hfull : ¬ X.works.2.full n b) (hnp : ∀ g, v.ownBlock = some g → g ≠ p) :
    Calls Tryz.prog 210 #[.pointer (some ⟨p, 0, none⟩), sv n, v] w fun e w' => e = .returned .nilIface ∧ Keep F w w' ∧ ∃ F', (∀ g, F' g → F g ∨ w.heap.size ≤ g) ∧ DiskAt F' w' p (X.works.2.add (.write n b)) := by
  have W := dworks_any F T p s h pv X w d hfu
  rw [hw] at W
  have W2 : Hid (Calls Tryz.prog 169 #[.pointer (some ⟨p, 0, none⟩)] w fun e w' => e = .returned .nilIface ∧ Keep (One p) w w' ∧ DiskIn F T w' p s h pv X.works.2) := W
  have V := Lib.hid hv
  have D := Lib.hid d
  have NP := Lib.hid hnp
  clear hnp
  obtain ⟨r1, r2, r3, r4⟩ := works_room X
  have hX2 : size X.works.2.shown ≤ 100000 := by rw [r2]; exact hs
  have hP2 : X.works.2.pend.length ≤ 1000000 := by rw [r3]; exact hp
  have hU2 : fused X.works.2.shown ≤ 1000000000 := by rw [r2]; exact hu
  have hG2 : (fget X.works.2.shown n).length ≤ 1000000000 := by rw [r2]; exact hg
  obtain ⟨a, c, rfl, _⟩ := bs_cell hv
  have NP : Hid (∀ g, (Value.slice a b.length c).ownBlock = some g → ¬ One p g) := Lib.hid (fun g e e2 => NP.out g e e2)
  have law := string_keyed Tryz.underlying9
  have hkey := key_sv n (by unfold maxLen; have := hn.2.1; omega)
  have hz := fun w => Tryz.zeroValue48 w
  have hnl : n.length ≤ 1000 := by have := hn.2.1; omega
  have NM := Lib.hid (fun w => named_ok n w hn)
  clear W d hv
  generalize X.works.2 = Y at W2 hfull hX2 hP2 hU2 hG2 ⊢
  have hY := Lib.hid hfull
  unfold Dk.full at hfull
  rw [not_or] at hfull
  obtain ⟨hf1, hf2⟩ := hfull
  cases hhas : fhas Y.shown n with
  | true =>
    have hh : has Y.shown (.string n) = true := hhas
    unfold sv at hkey NM ⊢
    generalize hold : fget Y.shown n = old at hf2 hG2
    have HOLD := Lib.hid hold
    clear hold hf1
    generalize hus : fused Y.shown = us at hf2 hU2
    have HUS := Lib.hid hus
    clear hus
    go_enter Tryz.func210, Tryz.ntmps210
    go_wp2_with (first
      | (go_at_call 169; refine W2.out.mono ?_; rintro e w1 ⟨rfl, k1, d1⟩; have c2 := dk_2 d1.blk; have c0 := dk_0 d1.blk; have M1 := Lib.hid d1.shown; have K1 := Lib.hid k1; have D1 := Lib.hid d1; clear k1 d1)
      | (at_lookup; refine wpList_look_ok rfl _ _ 118 rfl 48 law Tryz.underlying118 (hz _) [] (BsIn.fun1 _ T) (bsin_nil _ _) rfl M1.out _ _ rfl hkey ?_; rw [hh]; intro lv ly hlv hat; obtain rfl : ly = old := (by have e := HOLD.out; unfold fget at e; rw [hat] at e; exact e); obtain ⟨⟨la, lc, rfl, _⟩, _⟩ := hlv; rw [List.length_map]; clear hat)
      | (go_at_call 170; refine (NM.out _).mono ?_; rintro e w2 ⟨rfl, k2⟩; have K2 := Lib.hid k2; clear k2; have B2 := K2.out.at D1.out.blk (fun e => e); have e2 := dk_2 B2; have e0 := dk_0 B2; have M2 := Lib.hid (FlAt.keep M1.out K2.out (fun e => e) (fun _ _ e => e) (fun _ e => e)); clear B2))
    obtain ⟨es, clock, hes, hsz⟩ := map_block M2.out
    have S0 : w2.drew.cell? ⟨p, 0, none⟩ = some (.int .i64 Y.room) ∧ w2.drew.cell? ⟨p, 2, none⟩ = some (.map (some h)) ∧ w2.drew.heap[h]? = some (.map es clock) ∧ Keep Non w2 w2.drew := ⟨e0, e2, hes, (Keep.refl _ _).drew⟩
    have USED : Hid (∀ W, (W.cell? ⟨p, 0, none⟩ = some (.int .i64 Y.room) ∧ W.cell? ⟨p, 2, none⟩ = some (.map (some h)) ∧ W.heap[h]? = some (.map es clock) ∧ Keep Non w2 W) → Calls Tryz.prog 268 #[.map (some h)] W fun e w' => e = .returned (.int .i64 us) ∧ Keep Non W w') := Lib.hid (fun W hW => by
      have := used_any T h Y.shown W (FlAt.keep M2.out hW.2.2.2 (fun e => e) (fun _ _ e => e) (fun _ e => e)) (by rw [HUS.out]; omega)
      rw [HUS.out] at this
      exact this)
    have wr1 : IntKind.i64.wrap ((us : Int) - (ly.length : Int)) = (us : Int) - (ly.length : Int) := IntWalk.i64_in _ (by omega)
    have wr2 : IntKind.i64.wrap ((us : Int) - (ly.length : Int) + (b.length : Int)) = (us : Int) - (ly.length : Int) + (b.length : Int) := IntWalk.i64_in _ (by omega)
    have wr3 : (us : Int) - (ly.length : Int) + (b.length : Int) ≤ (Y.room : Int) := by omega
    refine wp_region_noPanic ?_
    refine wp_region_held_drew (S := fun W => W.cell? ⟨p, 0, none⟩ = some (.int .i64 Y.room) ∧ W.cell? ⟨p, 2, none⟩ = some (.map (some h)) ∧ W.heap[h]? = some (.map es clock) ∧ Keep Non w2 W) (by as_aux_lemma => kernel_rfl) S0 (fun hHeld => ?_)
    refine tc (i := 0) (v := ?v1) ?hy1 ?rest1
    case hy1 => intro W ⟨s0, s2, s3, s4⟩; go_simp; first | done | with_reducible rfl
    refine tc (i := 1) (v := ?v2) ?hy2 ?rest2
    case hy2 => intro W ⟨s0, s2, s3, s4⟩; go_simp; first | done | with_reducible rfl
    refine tc (i := 2) (v := ?v3) ?hy3 ?rest3
    case hy3 => intro W ⟨s0, s2, s3, s4⟩; go_simp; first | done | with_reducible rfl
    refine take_calm (i := 3) (v := undef) (by simp only [List.getElem?_toArray, List.getElem?_cons_succ, List.getElem?_cons_zero]; rfl) (by as_aux_lemma => kernel_rfl) (by as_aux_lemma => kernel_rfl) (by as_aux_lemma => kernel_rfl) (fun _ _ _ h => h) (Or.inr ⟨by rfl, rfl⟩) (by assumption) ?rest4
    try simp only [Act.put, List.setIfInBounds_toArray, List.set_cons_zero, List.set_cons_succ]
    refine take_calm (i := 4) (v := undef) (by simp only [List.getElem?_toArray, List.getElem?_cons_succ, List.getElem?_cons_zero]; rfl) (by as_aux_lemma => kernel_rfl) (by as_aux_lemma => kernel_rfl) (by as_aux_lemma => kernel_rfl) (fun _ _ _ h => h) (Or.inr ⟨by rfl, rfl⟩) (by assumption) ?rest5
    try simp only [Act.put, List.setIfInBounds_toArray, List.set_cons_zero, List.set_cons_succ]
    refine take_calm (i := 5) (v := undef) (by simp only [List.getElem?_toArray, List.getElem?_cons_succ, List.getElem?_cons_zero]; rfl) (by as_aux_lemma => kernel_rfl) (by as_aux_lemma => kernel_rfl) (by as_aux_lemma => kernel_rfl) (fun _ _ _ h => h) (Or.inr ⟨by rfl, rfl⟩) (by assumption) ?rest6
    try simp only [Act.put, List.setIfInBounds_toArray, List.set_cons_zero, List.set_cons_succ]
    refine take_calm (i := 6) (v := undef) (by simp only [List.getElem?_toArray, List.getElem?_cons_succ, List.getElem?_cons_zero]; rfl) (by as_aux_lemma => kernel_rfl) (by as_aux_lemma => kernel_rfl) (by as_aux_lemma => kernel_rfl) (fun _ _ _ h => h) (Or.inr ⟨by rfl, rfl⟩) (by assumption) ?rest7
    try simp only [Act.put, List.setIfInBounds_toArray, List.set_cons_zero, List.set_cons_succ]
    refine take_calm (i := 7) (v := undef) (by simp only [List.getElem?_toArray, List.getElem?_cons_succ, List.getElem?_cons_zero]; rfl) (by as_aux_lemma => kernel_rfl) (by as_aux_lemma => kernel_rfl) (by as_aux_lemma => kernel_rfl) (fun _ _ _ h => h) (Or.inr ⟨by rfl, rfl⟩) (by assumption) ?rest8
    try simp only [Act.put, List.setIfInBounds_toArray, List.set_cons_zero, List.set_cons_succ]
    refine take_calm (i := 8) (v := undef) (by simp only [List.getElem?_toArray, List.getElem?_cons_succ, List.getElem?_cons_zero]; rfl) (by as_aux_lemma => kernel_rfl) (by as_aux_lemma => kernel_rfl) (by as_aux_lemma => kernel_rfl) (fun _ _ _ h => h) (Or.inr ⟨by rfl, rfl⟩) (by assumption) ?rest9
    try simp only [Act.put, List.setIfInBounds_toArray, List.set_cons_zero, List.set_cons_succ]
    refine tc (i := 9) (v := ?v10) ?hy10 ?rest10
    case hy10 => intro W ⟨s0, s2, s3, s4⟩; go_simp; first | done | with_reducible rfl
    refine tc (i := 10) (v := ?v11) ?hy11 ?rest11
    case hy11 => intro W ⟨s0, s2, s3, s4⟩; go_simp; first | done | with_reducible rfl
    refine tc (i := 11) (v := ?v12) ?hy12 ?rest12
    case hy12 => intro W ⟨s0, s2, s3, s4⟩; go_simp; first | done | with_reducible rfl
    refine tc (i := 12) (v := ?v13) ?hy13 ?rest13
    case hy13 => intro W ⟨s0, s2, s3, s4⟩; go_simp; first | done | with_reducible rfl
    refine tc (i := 13) (v := ?v14) ?hy14 ?rest14
    case hy14 => intro W ⟨s0, s2, s3, s4⟩; go_simp; first | done | with_reducible rfl
    refine tc (i := 14) (v := ?v15) ?hy15 ?rest15
    case hy15 => intro W ⟨s0, s2, s3, s4⟩; go_simp; first | done | with_reducible rfl
    refine tc (i := 16) (v := ?v16) ?hy16 ?rest16
    case hy16 => intro W ⟨s0, s2, s3, s4⟩; go_simp; first | done | with_reducible rfl
    refine tc (i := 17) (v := ?v17) ?hy17 ?rest17
    case hy17 => intro W ⟨s0, s2, s3, s4⟩; go_simp; first | done | with_reducible rfl
    refine tc (i := 19) (v := ?v18) ?hy18 ?rest18
    case hy18 => intro W ⟨s0, s2, s3, s4⟩; go_simp; first | done | with_reducible rfl
    refine tc (i := 20) (v := ?v19) ?hy19 ?rest19
    case hy19 => intro W ⟨s0, s2, s3, s4⟩; go_simp; first | done | with_reducible rfl
    refine tc (i := 22) (v := ?v20) ?hy20 ?rest20
    case hy20 => intro W ⟨s0, s2, s3, s4⟩; go_simp; first | done | with_reducible rfl
    refine tc (i := 23) (v := ?v21) ?hy21 ?rest21
    case hy21 => intro W ⟨s0, s2, s3, s4⟩; go_simp; first | done | with_reducible rfl
    refine tc (i := 24) (v := ?v22) ?hy22 ?rest22
    case hy22 => intro W ⟨s0, s2, s3, s4⟩; go_simp; first | done | with_reducible rfl
    refine tc (i := 25) (v := ?v23) ?hy23 ?rest23
    case hy23 => intro W ⟨s0, s2, s3, s4⟩; go_simp; first | done | with_reducible rfl
    refine rc (i := 15) (fun K hK => ?_)
    go_simp
    refine (USED.out _ (by assumption)).mono ?_
    rintro e w3 ⟨rfl, k3⟩
    go_wp2_with fail
    refine hK.out _ _ (held_S (by assumption) k3) (fun hHeld24 => ?_)
    clear hK K
    try simp only [Act.put, List.setIfInBounds_toArray, List.set_cons_zero, List.set_cons_succ]
    refine tc (i := 18) (v := ?v25) ?hy25 ?rest25
    case hy25 => intro W ⟨s0, s2, s3, s4⟩; go_simp; first | done | with_reducible rfl
    refine tc (i := 21) (v := ?v26) ?hy26 ?rest26
    case hy26 => intro W ⟨s0, s2, s3, s4⟩; go_simp; first | done | with_reducible rfl
    refine tc (i := 26) (v := ?v27) ?hy27 ?rest27
    case hy27 => intro W ⟨s0, s2, s3, s4⟩; go_simp; first | done | with_reducible rfl
    refine tc (i := 27) (v := ?v28) ?hy28 ?rest28
    case hy28 => intro W ⟨s0, s2, s3, s4⟩; go_simp; first | done | with_reducible rfl
    refine tc (i := 28) (v := ?v29) ?hy29 ?rest29
    case hy29 => intro W ⟨s0, s2, s3, s4⟩; go_simp; first | done | with_reducible rfl
    refine wpAnyH_done (by as_aux_lemma => kernel_rfl) ?_ _
    refine NoPanic.normal ?_
    go_simp
    have K3 := Lib.hid (keep_undrew k3)
    clear k3 hHeld
    go_wp2_with (first
      | (go_at_call 63; refine (clone_new _ b _ ((Rd.keep V.out K1.out NP.out).keepNon (K2.out.trans1 K3.out)) (by omega)).mono ?_; rintro e w4 ⟨v4, rfl, k4, o4⟩; obtain ⟨a4, c4, rfl, _, _⟩ := ownsRow_form o4; have K4 := Lib.hid k4; have O4 := Lib.hid o4; clear k4 o4)
      | (go_at_call 171; refine (dadd_write _ _ p s h pv (.slice a4 b.length c4) n b Y _ ((D1.out.keep ((K2.out.trans1 K3.out).trans1 K4.out) (fun _ _ e => e)).grow (B := w3.heap.size) ?g1 (fun g e => O4.out.lt g e)) ⟨Rd.ofOwns O4.out, fun g e => .inr e⟩ (by omega) hP2 hnl).mono ?_; rotate_left 1; rintro e w5 ⟨rfl, k5, hex⟩; have K5 := Lib.hid k5; have EX := Lib.hid hex; clear k5 hex))
    · go_ret
      obtain ⟨pv', hpv, dd⟩ := EX.out
      exact ⟨rfl, dwrite_keep D.out K1.out ((K2.out.trans1 K3.out).trans1 K4.out) (fun g e => Nat.le_trans (Nat.le_trans K1.out.size (K2.out.trans1 K3.out).size) (O4.out.lt g e).1) K5.out, _, fun g e => dwrite_new (Nat.le_trans K1.out.size ((K2.out.trans1 K3.out).trans1 K4.out).size) (fun g e => Nat.le_trans (Nat.le_trans K1.out.size (K2.out.trans1 K3.out).size) (O4.out.lt g e).1) hpv e, ⟨_, s, h, pv', dd⟩⟩
    · obtain ⟨l1, l2, l3, l4⟩ := D1.out.lts
      have hsz := (K2.out.trans1 K3.out).size
      exact ⟨by omega, by omega, by omega, fun g e => by have := l4 g e; omega⟩
  | false =>
    have hh : has Y.shown (.string n) = false := hhas
    have hs5 : size Y.shown < 512 := Nat.lt_of_not_le (fun e => hf1 ⟨hhas, e⟩)
    unfold sv at hkey NM ⊢
    generalize hold : fget Y.shown n = old at hf2 hG2
    have HOLD := Lib.hid hold
    clear hold hf1
    generalize hus : fused Y.shown = us at hf2 hU2
    have HUS := Lib.hid hus
    clear hus
    go_enter Tryz.func210, Tryz.ntmps210
    go_wp2_with (first
      | (go_at_call 169; refine W2.out.mono ?_; rintro e w1 ⟨rfl, k1, d1⟩; have c2 := dk_2 d1.blk; have c0 := dk_0 d1.blk; have M1 := Lib.hid d1.shown; have K1 := Lib.hid k1; have D1 := Lib.hid d1; clear k1 d1)
      | (at_lookup; refine wpList_look_ok rfl _ _ 118 rfl 48 law Tryz.underlying118 (hz _) [] (BsIn.fun1 _ T) (bsin_nil _ _) rfl M1.out _ _ rfl hkey ?_; rw [hh]; intro lv ly hlv hat; obtain rfl : ly = old := (by have e := HOLD.out; unfold fget at e; rw [hat] at e; exact e); obtain ⟨⟨la, lc, rfl, _⟩, _⟩ := hlv; rw [List.length_map]; clear hat)
      | (go_at_call 170; refine (NM.out _).mono ?_; rintro e w2 ⟨rfl, k2⟩; have K2 := Lib.hid k2; clear k2; have B2 := K2.out.at D1.out.blk (fun e => e); have e2 := dk_2 B2; have e0 := dk_0 B2; have M2 := Lib.hid (FlAt.keep M1.out K2.out (fun e => e) (fun _ _ e => e) (fun _ e => e)); clear B2))
    obtain ⟨es, clock, hes, hsz⟩ := map_block M2.out
    have LEN : ∀ W : World, W.heap[h]? = some (.map es clock) → (Builtin.len_ #[118] 3 #[.map (some h)]).run Tryz.prog W = .ok (.int .i64 es.size) W := fun W hW => by simp [Builtin.len_, run_underlying Tryz.underlying118, MapKept.run_getObj_map hW, goInt, Result.andThen]
    have hs8 : ¬ (512 : Int) ≤ (size Y.shown : Int) := by omega
    have hs6 : ¬ (512 : Int) ≤ (es.size : Int) := by omega
    have hs7 : ¬ 512 ≤ es.size := by omega
    have S0 : w2.drew.cell? ⟨p, 0, none⟩ = some (.int .i64 Y.room) ∧ w2.drew.cell? ⟨p, 2, none⟩ = some (.map (some h)) ∧ w2.drew.heap[h]? = some (.map es clock) ∧ Keep Non w2 w2.drew := ⟨e0, e2, hes, (Keep.refl _ _).drew⟩
    have USED : Hid (∀ W, (W.cell? ⟨p, 0, none⟩ = some (.int .i64 Y.room) ∧ W.cell? ⟨p, 2, none⟩ = some (.map (some h)) ∧ W.heap[h]? = some (.map es clock) ∧ Keep Non w2 W) → Calls Tryz.prog 268 #[.map (some h)] W fun e w' => e = .returned (.int .i64 us) ∧ Keep Non W w') := Lib.hid (fun W hW => by
      have := used_any T h Y.shown W (FlAt.keep M2.out hW.2.2.2 (fun e => e) (fun _ _ e => e) (fun _ e => e)) (by rw [HUS.out]; omega)
      rw [HUS.out] at this
      exact this)
    have wr1 : IntKind.i64.wrap ((us : Int) - (ly.length : Int)) = (us : Int) - (ly.length : Int) := IntWalk.i64_in _ (by omega)
    have wr2 : IntKind.i64.wrap ((us : Int) - (ly.length : Int) + (b.length : Int)) = (us : Int) - (ly.length : Int) + (b.length : Int) := IntWalk.i64_in _ (by omega)
    have wr3 : (us : Int) - (ly.length : Int) + (b.length : Int) ≤ (Y.room : Int) := by omega
    refine wp_region_noPanic ?_
    refine wp_region_held_drew (S := fun W => W.cell? ⟨p, 0, none⟩ = some (.int .i64 Y.room) ∧ W.cell? ⟨p, 2, none⟩ = some (.map (some h)) ∧ W.heap[h]? = some (.map es clock) ∧ Keep Non w2 W) (by as_aux_lemma => kernel_rfl) S0 (fun hHeld => ?_)
    refine tc (i := 0) (v := ?v30) ?hy30 ?rest30
    case hy30 => intro W ⟨s0, s2, s3, s4⟩; go_simp; first | done | with_reducible rfl
    refine tc (i := 1) (v := ?v31) ?hy31 ?rest31
    case hy31 => intro W ⟨s0, s2, s3, s4⟩; go_simp; first | done | with_reducible rfl
    refine tc (i := 2) (v := ?v32) ?hy32 ?rest32
    case hy32 => intro W ⟨s0, s2, s3, s4⟩; go_simp; first | done | with_reducible rfl
    refine tc (i := 3) (v := ?v33) ?hy33 ?rest33
    case hy33 => intro W ⟨s0, s2, s3, s4⟩; go_simp; first | done | with_reducible rfl
    refine tc (i := 4) (v := ?v34) ?hy34 ?rest34
    case hy34 => intro W ⟨s0, s2, s3, s4⟩; go_simp; first | done | with_reducible rfl
    refine tc (i := 5) (v := ?v35) ?hy35 ?rest35
    case hy35 => intro W ⟨s0, s2, s3, s4⟩; go_simp; first | done | with_reducible rfl
    refine tc (i := 6) (v := ?v36) ?hy36 ?rest36
    case hy36 => intro W ⟨s0, s2, s3, s4⟩; go_simp; first | done | with_reducible rfl
    refine tc (i := 7) (v := ?v37) ?hy37 ?rest37
    case hy37 => intro W ⟨s0, s2, s3, s4⟩; go_simp; first | done | with_reducible rfl
    refine tc (i := 8) (v := ?v38) ?hy38 ?rest38
    case hy38 => intro W ⟨s0, s2, s3, s4⟩; go_simp; first | done | with_reducible rfl
    refine tc (i := 9) (v := ?v39) ?hy39 ?rest39
    case hy39 => intro W ⟨s0, s2, s3, s4⟩; go_simp; first | done | with_reducible rfl
    refine tc (i := 10) (v := ?v40) ?hy40 ?rest40
    case hy40 => intro W ⟨s0, s2, s3, s4⟩; go_simp; first | done | with_reducible rfl
    refine tc (i := 11) (v := ?v41) ?hy41 ?rest41
    case hy41 => intro W ⟨s0, s2, s3, s4⟩; go_simp; first | done | with_reducible rfl
    refine tc (i := 12) (v := ?v42) ?hy42 ?rest42
    case hy42 => intro W ⟨s0, s2, s3, s4⟩; go_simp; first | done | with_reducible rfl
    refine tc (i := 13) (v := ?v43) ?hy43 ?rest43
    case hy43 => intro W ⟨s0, s2, s3, s4⟩; go_simp; first | done | with_reducible rfl
    refine tc (i := 14) (v := ?v44) ?hy44 ?rest44
    case hy44 => intro W ⟨s0, s2, s3, s4⟩; go_simp; first | done | with_reducible rfl
    refine tc (i := 16) (v := ?v45) ?hy45 ?rest45
    case hy45 => intro W ⟨s0, s2, s3, s4⟩; go_simp; first | done | with_reducible rfl
    refine tc (i := 17) (v := ?v46) ?hy46 ?rest46
    case hy46 => intro W ⟨s0, s2, s3, s4⟩; go_simp; first | done | with_reducible rfl
    refine tc (i := 19) (v := ?v47) ?hy47 ?rest47
    case hy47 => intro W ⟨s0, s2, s3, s4⟩; go_simp; first | done | with_reducible rfl
    refine tc (i := 20) (v := ?v48) ?hy48 ?rest48
    case hy48 => intro W ⟨s0, s2, s3, s4⟩; go_simp; first | done | with_reducible rfl
    refine tc (i := 22) (v := ?v49) ?hy49 ?rest49
    case hy49 => intro W ⟨s0, s2, s3, s4⟩; go_simp; first | done | with_reducible rfl
    refine tc (i := 23) (v := ?v50) ?hy50 ?rest50
    case hy50 => intro W ⟨s0, s2, s3, s4⟩; go_simp; first | done | with_reducible rfl
    refine tc (i := 24) (v := ?v51) ?hy51 ?rest51
    case hy51 => intro W ⟨s0, s2, s3, s4⟩; go_simp; first | done | with_reducible rfl
    refine tc (i := 25) (v := ?v52) ?hy52 ?rest52
    case hy52 => intro W ⟨s0, s2, s3, s4⟩; go_simp; first | done | with_reducible rfl
    refine rc (i := 15) (fun K hK => ?_)
    go_simp
    refine (USED.out _ (by assumption)).mono ?_
    rintro e w3 ⟨rfl, k3⟩
    go_wp2_with fail
    refine hK.out _ _ (held_S (by assumption) k3) (fun hHeld53 => ?_)
    clear hK K
    try simp only [Act.put, List.setIfInBounds_toArray, List.set_cons_zero, List.set_cons_succ]
    refine tc (i := 18) (v := ?v54) ?hy54 ?rest54
    case hy54 => intro W ⟨s0, s2, s3, s4⟩; go_simp; first | done | with_reducible rfl
    refine tc (i := 21) (v := ?v55) ?hy55 ?rest55
    case hy55 => intro W ⟨s0, s2, s3, s4⟩; go_simp; first | done | with_reducible rfl
    refine tc (i := 26) (v := ?v56) ?hy56 ?rest56
    case hy56 => intro W ⟨s0, s2, s3, s4⟩; go_simp; first | done | with_reducible rfl
    refine tc (i := 27) (v := ?v57) ?hy57 ?rest57
    case hy57 => intro W ⟨s0, s2, s3, s4⟩; go_simp; first | done | with_reducible rfl
    refine tc (i := 28) (v := ?v58) ?hy58 ?rest58
    case hy58 => intro W ⟨s0, s2, s3, s4⟩; go_simp; first | done | with_reducible rfl
    refine wpAnyH_done (by as_aux_lemma => kernel_rfl) ?_ _
    refine NoPanic.normal ?_
    go_simp
    have K3 := Lib.hid (keep_undrew k3)
    clear k3 hHeld
    go_wp2_with (first
      | (go_at_call 63; refine (clone_new _ b _ ((Rd.keep V.out K1.out NP.out).keepNon (K2.out.trans1 K3.out)) (by omega)).mono ?_; rintro e w4 ⟨v4, rfl, k4, o4⟩; obtain ⟨a4, c4, rfl, _, _⟩ := ownsRow_form o4; have K4 := Lib.hid k4; have O4 := Lib.hid o4; clear k4 o4)
      | (go_at_call 171; refine (dadd_write _ _ p s h pv (.slice a4 b.length c4) n b Y _ ((D1.out.keep ((K2.out.trans1 K3.out).trans1 K4.out) (fun _ _ e => e)).grow (B := w3.heap.size) ?g2 (fun g e => O4.out.lt g e)) ⟨Rd.ofOwns O4.out, fun g e => .inr e⟩ (by omega) hP2 hnl).mono ?_; rotate_left 1; rintro e w5 ⟨rfl, k5, hex⟩; have K5 := Lib.hid k5; have EX := Lib.hid hex; clear k5 hex))
    · go_ret
      obtain ⟨pv', hpv, dd⟩ := EX.out
      exact ⟨rfl, dwrite_keep D.out K1.out ((K2.out.trans1 K3.out).trans1 K4.out) (fun g e => Nat.le_trans (Nat.le_trans K1.out.size (K2.out.trans1 K3.out).size) (O4.out.lt g e).1) K5.out, _, fun g e => dwrite_new (Nat.le_trans K1.out.size ((K2.out.trans1 K3.out).trans1 K4.out).size) (fun g e => Nat.le_trans (Nat.le_trans K1.out.size (K2.out.trans1 K3.out).size) (O4.out.lt g e).1) hpv e, ⟨_, s, h, pv', dd⟩⟩
    · obtain ⟨l1, l2, l3, l4⟩ := D1.out.lts
      have hsz := (K2.out.trans1 K3.out).size
      exact ⟨by omega, by omega, by omega, fun g e => by have := l4 g e; omega⟩
end Go.Proofs.YtdmckfkhkjkdnaaGreatDoor
