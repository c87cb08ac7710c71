/- A file for which there is no room: walked. · A disk's operations, each by what it does to a disk in plain words. -/
import Derived.Test.YtdmckfkhkjkdnaaGreatDoorQ07
import Derived.Test.YtdmckfkhkjkdnaaGreatDoorQ10
set_option linter.unusedVariables false
set_option maxRecDepth 100000
set_option maxHeartbeats 16000000
namespace Go.Proofs.YtdmckfkhkjkdnaaGreatDoor
open Go.RowKit Go.Maps
theorem dwrite_no (F T : Nat → Prop) (p s h : Nat) (pv v : Value) (n : Byt) (X : Dk) (w : World) (d : DiskIn F T w p s h pv X) (hf : X.fuse ≤ 1000000000) (hw : X.works.1 = 14) :
    Calls Tryz.prog 210 #[.pointer (some ⟨p, 0, none⟩), sv n, v] w fun e w' => e = .returned (.iface 84 (.int .i64 14)) ∧ Keep (One p) w w' ∧ DiskIn F T w' p s h pv X.works.2 := by
  have W := dworks_any F T p s h pv X w d hf
  rw [hw] at W
  have W2 : Hid (Calls Tryz.prog 169 #[.pointer (some ⟨p, 0, none⟩)] w fun e w' => e = .returned (.iface 84 (.int .i64 14)) ∧ Keep (One p) w w' ∧ DiskIn F T w' p s h pv X.works.2) := W
  clear W d
  go_enter Tryz.func210, Tryz.ntmps210
  go_wp2_with (go_at_call 169; refine W2.out.mono ?_; rintro e w1 ⟨rfl, k1, d1⟩; have K1 := Lib.hid k1; have D1 := Lib.hid d1; clear k1 d1)
  go_ret
  exact ⟨rfl, K1.out, D1.out⟩
theorem dwrite_full (F T : Nat → Prop) (p s h : Nat) (pv v : Value) (n b : Byt) (X : Dk) (w : World) (d : DiskIn F T w p s h pv X) (hw : X.works.1 = 0) (hfu : X.fuse ≤ 1000000000) (hv : Bs w v b) (hn : okName n) (hb : b.length ≤ 65536) (hs : size X.shown ≤ 100000) (hp : X.pend.length ≤ 1000000) (hu : fused X.shown ≤ 1000000000) (hg : (fget X.shown n).length ≤ 1000000000) (hs5 : size X.shown < 512) (hover : X.works.2.room + (fget X.works.2.shown n).length < fused X.works.2.shown + b.length) :
    Calls Tryz.prog 210 #[.pointer (some ⟨p, 0, none⟩), sv n, v] w fun e w' => e = .returned (.iface 84 (.int .i64 5)) ∧ Keep F w w' ∧ DiskIn F T w' p s h pv X.works.2 := by
  have W := dworks_any F T p s h pv X w d hfu
  rw [hw] at W
  have W2 : Hid (Calls Tryz.prog 169 #[.pointer (some ⟨p, 0, none⟩)] w fun e w' => e = .returned .nilIface ∧ Keep (One p) w w' ∧ DiskIn F T w' p s h pv X.works.2) := W
  have V := Lib.hid hv
  have D := Lib.hid d
  obtain ⟨r1, r2, r3, r4⟩ := works_room X
  have hX2 : size X.works.2.shown ≤ 100000 := by rw [r2]; exact hs
  have hP2 : X.works.2.pend.length ≤ 1000000 := by rw [r3]; exact hp
  have hU2 : fused X.works.2.shown ≤ 1000000000 := by rw [r2]; exact hu
  have hG2 : (fget X.works.2.shown n).length ≤ 1000000000 := by rw [r2]; exact hg
  obtain ⟨a, c, rfl, _⟩ := bs_cell hv
  have law := string_keyed Tryz.underlying9
  have hkey := key_sv n (by unfold maxLen; have := hn.2.1; omega)
  have hz := fun w => Tryz.zeroValue48 w
  have hnl : n.length ≤ 1000 := by have := hn.2.1; omega
  have NM := Lib.hid (fun w => named_ok n w hn)
  clear W d hv
  have hs5' : size X.works.2.shown < 512 := by rw [r2]; exact hs5
  have rm : X.works.2.room ≤ 1073741824 := by rw [r1]; exact D.out.room
  generalize X.works.2 = Y at W2 hover hX2 hP2 hU2 hG2 hs5' rm ⊢
  have hf2 := hover
  clear hover
  cases hhas : fhas Y.shown n with
  | true =>
    have hh : has Y.shown (.string n) = true := hhas
    unfold sv at hkey NM ⊢
    generalize hold : fget Y.shown n = old at hf2 hG2
    have HOLD := Lib.hid hold
    clear hold
    generalize hus : fused Y.shown = us at hf2 hU2
    have HUS := Lib.hid hus
    clear hus
    go_enter Tryz.func210, Tryz.ntmps210
    go_wp2_with (first
      | (go_at_call 169; refine W2.out.mono ?_; rintro e w1 ⟨rfl, k1, d1⟩; have c2 := dk_2 d1.blk; have c0 := dk_0 d1.blk; have M1 := Lib.hid d1.shown; have K1 := Lib.hid k1; have D1 := Lib.hid d1; clear k1 d1)
      | (at_lookup; refine wpList_look_ok rfl _ _ 118 rfl 48 law Tryz.underlying118 (hz _) [] (BsIn.fun1 _ T) (bsin_nil _ _) rfl M1.out _ _ rfl hkey ?_; rw [hh]; intro lv ly hlv hat; obtain rfl : ly = old := (by have e := HOLD.out; unfold fget at e; rw [hat] at e; exact e); obtain ⟨⟨la, lc, rfl, _⟩, _⟩ := hlv; rw [List.length_map]; clear hat)
      | (go_at_call 170; refine (NM.out _).mono ?_; rintro e w2 ⟨rfl, k2⟩; have K2 := Lib.hid k2; clear k2; have B2 := K2.out.at D1.out.blk (fun e => e); have e2 := dk_2 B2; have e0 := dk_0 B2; have M2 := Lib.hid (FlAt.keep M1.out K2.out (fun e => e) (fun _ _ e => e) (fun _ e => e)); clear B2))
    obtain ⟨es, clock, hes, hsz⟩ := map_block M2.out
    have S0 : w2.drew.cell? ⟨p, 0, none⟩ = some (.int .i64 Y.room) ∧ w2.drew.cell? ⟨p, 2, none⟩ = some (.map (some h)) ∧ w2.drew.heap[h]? = some (.map es clock) ∧ Keep Non w2 w2.drew := ⟨e0, e2, hes, (Keep.refl _ _).drew⟩
    have USED : Hid (∀ W, (W.cell? ⟨p, 0, none⟩ = some (.int .i64 Y.room) ∧ W.cell? ⟨p, 2, none⟩ = some (.map (some h)) ∧ W.heap[h]? = some (.map es clock) ∧ Keep Non w2 W) → Calls Tryz.prog 268 #[.map (some h)] W fun e w' => e = .returned (.int .i64 us) ∧ Keep Non W w') := Lib.hid (fun W hW => by
      have := used_any T h Y.shown W (FlAt.keep M2.out hW.2.2.2 (fun e => e) (fun _ _ e => e) (fun _ e => e)) (by rw [HUS.out]; omega)
      rw [HUS.out] at this
      exact this)
    have wr1 : IntKind.i64.wrap ((us : Int) - (ly.length : Int)) = (us : Int) - (ly.length : Int) := IntWalk.i64_in _ (by omega)
    have wr2 : IntKind.i64.wrap ((us : Int) - (ly.length : Int) + (b.length : Int)) = (us : Int) - (ly.length : Int) + (b.length : Int) := IntWalk.i64_in _ (by omega)
    have wr3 : (Y.room : Int) < (us : Int) - (ly.length : Int) + (b.length : Int) := by omega
    refine wp_region_noPanic ?_
    refine wp_region_held_drew (S := fun W => W.cell? ⟨p, 0, none⟩ = some (.int .i64 Y.room) ∧ W.cell? ⟨p, 2, none⟩ = some (.map (some h)) ∧ W.heap[h]? = some (.map es clock) ∧ Keep Non w2 W) (by as_aux_lemma => kernel_rfl) S0 (fun hHeld => ?_)
    refine tc (i := 0) (v := ?v59) ?hy59 ?rest59
    case hy59 => intro W ⟨s0, s2, s3, s4⟩; go_simp; first | done | with_reducible rfl
    refine tc (i := 1) (v := ?v60) ?hy60 ?rest60
    case hy60 => intro W ⟨s0, s2, s3, s4⟩; go_simp; first | done | with_reducible rfl
    refine tc (i := 2) (v := ?v61) ?hy61 ?rest61
    case hy61 => intro W ⟨s0, s2, s3, s4⟩; go_simp; first | done | with_reducible rfl
    refine take_calm (i := 3) (v := undef) (by simp only [List.getElem?_toArray, List.getElem?_cons_succ, List.getElem?_cons_zero]; rfl) (by as_aux_lemma => kernel_rfl) (by as_aux_lemma => kernel_rfl) (by as_aux_lemma => kernel_rfl) (fun _ _ _ h => h) (Or.inr ⟨by rfl, rfl⟩) (by assumption) ?rest62
    try simp only [Act.put, List.setIfInBounds_toArray, List.set_cons_zero, List.set_cons_succ]
    refine take_calm (i := 4) (v := undef) (by simp only [List.getElem?_toArray, List.getElem?_cons_succ, List.getElem?_cons_zero]; rfl) (by as_aux_lemma => kernel_rfl) (by as_aux_lemma => kernel_rfl) (by as_aux_lemma => kernel_rfl) (fun _ _ _ h => h) (Or.inr ⟨by rfl, rfl⟩) (by assumption) ?rest63
    try simp only [Act.put, List.setIfInBounds_toArray, List.set_cons_zero, List.set_cons_succ]
    refine take_calm (i := 5) (v := undef) (by simp only [List.getElem?_toArray, List.getElem?_cons_succ, List.getElem?_cons_zero]; rfl) (by as_aux_lemma => kernel_rfl) (by as_aux_lemma => kernel_rfl) (by as_aux_lemma => kernel_rfl) (fun _ _ _ h => h) (Or.inr ⟨by rfl, rfl⟩) (by assumption) ?rest64
    try simp only [Act.put, List.setIfInBounds_toArray, List.set_cons_zero, List.set_cons_succ]
    refine take_calm (i := 6) (v := undef) (by simp only [List.getElem?_toArray, List.getElem?_cons_succ, List.getElem?_cons_zero]; rfl) (by as_aux_lemma => kernel_rfl) (by as_aux_lemma => kernel_rfl) (by as_aux_lemma => kernel_rfl) (fun _ _ _ h => h) (Or.inr ⟨by rfl, rfl⟩) (by assumption) ?rest65
    try simp only [Act.put, List.setIfInBounds_toArray, List.set_cons_zero, List.set_cons_succ]
    refine take_calm (i := 7) (v := undef) (by simp only [List.getElem?_toArray, List.getElem?_cons_succ, List.getElem?_cons_zero]; rfl) (by as_aux_lemma => kernel_rfl) (by as_aux_lemma => kernel_rfl) (by as_aux_lemma => kernel_rfl) (fun _ _ _ h => h) (Or.inr ⟨by rfl, rfl⟩) (by assumption) ?rest66
    try simp only [Act.put, List.setIfInBounds_toArray, List.set_cons_zero, List.set_cons_succ]
    refine take_calm (i := 8) (v := undef) (by simp only [List.getElem?_toArray, List.getElem?_cons_succ, List.getElem?_cons_zero]; rfl) (by as_aux_lemma => kernel_rfl) (by as_aux_lemma => kernel_rfl) (by as_aux_lemma => kernel_rfl) (fun _ _ _ h => h) (Or.inr ⟨by rfl, rfl⟩) (by assumption) ?rest67
    try simp only [Act.put, List.setIfInBounds_toArray, List.set_cons_zero, List.set_cons_succ]
    refine tc (i := 9) (v := ?v68) ?hy68 ?rest68
    case hy68 => intro W ⟨s0, s2, s3, s4⟩; go_simp; first | done | with_reducible rfl
    refine tc (i := 10) (v := ?v69) ?hy69 ?rest69
    case hy69 => intro W ⟨s0, s2, s3, s4⟩; go_simp; first | done | with_reducible rfl
    refine tc (i := 11) (v := ?v70) ?hy70 ?rest70
    case hy70 => intro W ⟨s0, s2, s3, s4⟩; go_simp; first | done | with_reducible rfl
    refine tc (i := 12) (v := ?v71) ?hy71 ?rest71
    case hy71 => intro W ⟨s0, s2, s3, s4⟩; go_simp; first | done | with_reducible rfl
    refine tc (i := 13) (v := ?v72) ?hy72 ?rest72
    case hy72 => intro W ⟨s0, s2, s3, s4⟩; go_simp; first | done | with_reducible rfl
    refine tc (i := 14) (v := ?v73) ?hy73 ?rest73
    case hy73 => intro W ⟨s0, s2, s3, s4⟩; go_simp; first | done | with_reducible rfl
    refine tc (i := 16) (v := ?v74) ?hy74 ?rest74
    case hy74 => intro W ⟨s0, s2, s3, s4⟩; go_simp; first | done | with_reducible rfl
    refine tc (i := 17) (v := ?v75) ?hy75 ?rest75
    case hy75 => intro W ⟨s0, s2, s3, s4⟩; go_simp; first | done | with_reducible rfl
    refine tc (i := 19) (v := ?v76) ?hy76 ?rest76
    case hy76 => intro W ⟨s0, s2, s3, s4⟩; go_simp; first | done | with_reducible rfl
    refine tc (i := 20) (v := ?v77) ?hy77 ?rest77
    case hy77 => intro W ⟨s0, s2, s3, s4⟩; go_simp; first | done | with_reducible rfl
    refine tc (i := 22) (v := ?v78) ?hy78 ?rest78
    case hy78 => intro W ⟨s0, s2, s3, s4⟩; go_simp; first | done | with_reducible rfl
    refine tc (i := 23) (v := ?v79) ?hy79 ?rest79
    case hy79 => intro W ⟨s0, s2, s3, s4⟩; go_simp; first | done | with_reducible rfl
    refine tc (i := 24) (v := ?v80) ?hy80 ?rest80
    case hy80 => intro W ⟨s0, s2, s3, s4⟩; go_simp; first | done | with_reducible rfl
    refine tc (i := 25) (v := ?v81) ?hy81 ?rest81
    case hy81 => intro W ⟨s0, s2, s3, s4⟩; go_simp; first | done | with_reducible rfl
    refine rc (i := 15) (fun K hK => ?_)
    go_simp
    refine (USED.out _ (by assumption)).mono ?_
    rintro e w3 ⟨rfl, k3⟩
    go_wp2_with fail
    refine hK.out _ _ (held_S (by assumption) k3) (fun hHeld82 => ?_)
    clear hK K
    try simp only [Act.put, List.setIfInBounds_toArray, List.set_cons_zero, List.set_cons_succ]
    refine tc (i := 18) (v := ?v83) ?hy83 ?rest83
    case hy83 => intro W ⟨s0, s2, s3, s4⟩; go_simp; first | done | with_reducible rfl
    refine tc (i := 21) (v := ?v84) ?hy84 ?rest84
    case hy84 => intro W ⟨s0, s2, s3, s4⟩; go_simp; first | done | with_reducible rfl
    refine tc (i := 26) (v := ?v85) ?hy85 ?rest85
    case hy85 => intro W ⟨s0, s2, s3, s4⟩; go_simp; first | done | with_reducible rfl
    refine tc (i := 27) (v := ?v86) ?hy86 ?rest86
    case hy86 => intro W ⟨s0, s2, s3, s4⟩; go_simp; first | done | with_reducible rfl
    refine tc (i := 28) (v := ?v87) ?hy87 ?rest87
    case hy87 => intro W ⟨s0, s2, s3, s4⟩; go_simp; first | done | with_reducible rfl
    refine wpAnyH_done (by as_aux_lemma => kernel_rfl) ?_ _
    refine NoPanic.normal ?_
    go_simp
    have K3 := Lib.hid (keep_undrew k3)
    clear k3 hHeld
    go_wp2_with fail
    go_ret
    exact ⟨rfl, (K1.out.mono (fun i _ e => by have e' : i = p := e; rw [e']; exact D.out.inF.1)).trans1 (K2.out.trans1 K3.out).ofNon, D1.out.keep (K2.out.trans1 K3.out) (fun _ _ e => e)⟩
  | false =>
    have hh : has Y.shown (.string n) = false := hhas
    unfold sv at hkey NM ⊢
    generalize hold : fget Y.shown n = old at hf2 hG2
    have HOLD := Lib.hid hold
    clear hold
    generalize hus : fused Y.shown = us at hf2 hU2
    have HUS := Lib.hid hus
    clear hus
    go_enter Tryz.func210, Tryz.ntmps210
    go_wp2_with (first
      | (go_at_call 169; refine W2.out.mono ?_; rintro e w1 ⟨rfl, k1, d1⟩; have c2 := dk_2 d1.blk; have c0 := dk_0 d1.blk; have M1 := Lib.hid d1.shown; have K1 := Lib.hid k1; have D1 := Lib.hid d1; clear k1 d1)
      | (at_lookup; refine wpList_look_ok rfl _ _ 118 rfl 48 law Tryz.underlying118 (hz _) [] (BsIn.fun1 _ T) (bsin_nil _ _) rfl M1.out _ _ rfl hkey ?_; rw [hh]; intro lv ly hlv hat; obtain rfl : ly = old := (by have e := HOLD.out; unfold fget at e; rw [hat] at e; exact e); obtain ⟨⟨la, lc, rfl, _⟩, _⟩ := hlv; rw [List.length_map]; clear hat)
      | (go_at_call 170; refine (NM.out _).mono ?_; rintro e w2 ⟨rfl, k2⟩; have K2 := Lib.hid k2; clear k2; have B2 := K2.out.at D1.out.blk (fun e => e); have e2 := dk_2 B2; have e0 := dk_0 B2; have M2 := Lib.hid (FlAt.keep M1.out K2.out (fun e => e) (fun _ _ e => e) (fun _ e => e)); clear B2))
    obtain ⟨es, clock, hes, hsz⟩ := map_block M2.out
    have LEN : ∀ W : World, W.heap[h]? = some (.map es clock) → (Builtin.len_ #[118] 3 #[.map (some h)]).run Tryz.prog W = .ok (.int .i64 es.size) W := fun W hW => by simp [Builtin.len_, run_underlying Tryz.underlying118, MapKept.run_getObj_map hW, goInt, Result.andThen]
    have hs8 : ¬ (512 : Int) ≤ (size Y.shown : Int) := by omega
    have hs6 : ¬ (512 : Int) ≤ (es.size : Int) := by omega
    have hs7 : ¬ 512 ≤ es.size := by omega
    have S0 : w2.drew.cell? ⟨p, 0, none⟩ = some (.int .i64 Y.room) ∧ w2.drew.cell? ⟨p, 2, none⟩ = some (.map (some h)) ∧ w2.drew.heap[h]? = some (.map es clock) ∧ Keep Non w2 w2.drew := ⟨e0, e2, hes, (Keep.refl _ _).drew⟩
    have USED : Hid (∀ W, (W.cell? ⟨p, 0, none⟩ = some (.int .i64 Y.room) ∧ W.cell? ⟨p, 2, none⟩ = some (.map (some h)) ∧ W.heap[h]? = some (.map es clock) ∧ Keep Non w2 W) → Calls Tryz.prog 268 #[.map (some h)] W fun e w' => e = .returned (.int .i64 us) ∧ Keep Non W w') := Lib.hid (fun W hW => by
      have := used_any T h Y.shown W (FlAt.keep M2.out hW.2.2.2 (fun e => e) (fun _ _ e => e) (fun _ e => e)) (by rw [HUS.out]; omega)
      rw [HUS.out] at this
      exact this)
    have wr1 : IntKind.i64.wrap ((us : Int) - (ly.length : Int)) = (us : Int) - (ly.length : Int) := IntWalk.i64_in _ (by omega)
    have wr2 : IntKind.i64.wrap ((us : Int) - (ly.length : Int) + (b.length : Int)) = (us : Int) - (ly.length : Int) + (b.length : Int) := IntWalk.i64_in _ (by omega)
    have wr3 : (Y.room : Int) < (us : Int) - (ly.length : Int) + (b.length : Int) := by omega
    refine wp_region_noPanic ?_
    refine wp_region_held_drew (S := fun W => W.cell? ⟨p, 0, none⟩ = some (.int .i64 Y.room) ∧ W.cell? ⟨p, 2, none⟩ = some (.map (some h)) ∧ W.heap[h]? = some (.map es clock) ∧ Keep Non w2 W) (by as_aux_lemma => kernel_rfl) S0 (fun hHeld => ?_)
    refine tc (i := 0) (v := ?v88) ?hy88 ?rest88
    case hy88 => intro W ⟨s0, s2, s3, s4⟩; go_simp; first | done | with_reducible rfl
    refine tc (i := 1) (v := ?v89) ?hy89 ?rest89
    case hy89 => intro W ⟨s0, s2, s3, s4⟩; go_simp; first | done | with_reducible rfl
    refine tc (i := 2) (v := ?v90) ?hy90 ?rest90
    case hy90 => intro W ⟨s0, s2, s3, s4⟩; go_simp; first | done | with_reducible rfl
    refine tc (i := 3) (v := ?v91) ?hy91 ?rest91
    case hy91 => intro W ⟨s0, s2, s3, s4⟩; go_simp; first | done | with_reducible rfl
    refine tc (i := 4) (v := ?v92) ?hy92 ?rest92
    case hy92 => intro W ⟨s0, s2, s3, s4⟩; go_simp; first | done | with_reducible rfl
    refine tc (i := 5) (v := ?v93) ?hy93 ?rest93
    case hy93 => intro W ⟨s0, s2, s3, s4⟩; go_simp; first | done | with_reducible rfl
    refine tc (i := 6) (v := ?v94) ?hy94 ?rest94
    case hy94 => intro W ⟨s0, s2, s3, s4⟩; go_simp; first | done | with_reducible rfl
    refine tc (i := 7) (v := ?v95) ?hy95 ?rest95
    case hy95 => intro W ⟨s0, s2, s3, s4⟩; go_simp; first | done | with_reducible rfl
    refine tc (i := 8) (v := ?v96) ?hy96 ?rest96
    case hy96 => intro W ⟨s0, s2, s3, s4⟩; go_simp; first | done | with_reducible rfl
    refine tc (i := 9) (v := ?v97) ?hy97 ?rest97
    case hy97 => intro W ⟨s0, s2, s3, s4⟩; go_simp; first | done | with_reducible rfl
    refine tc (i := 10) (v := ?v98) ?hy98 ?rest98
    case hy98 => intro W ⟨s0, s2, s3, s4⟩; go_simp; first | done | with_reducible rfl
    refine tc (i := 11) (v := ?v99) ?hy99 ?rest99
    case hy99 => intro W ⟨s0, s2, s3, s4⟩; go_simp; first | done | with_reducible rfl
    refine tc (i := 12) (v := ?v100) ?hy100 ?rest100
    case hy100 => intro W ⟨s0, s2, s3, s4⟩; go_simp; first | done | with_reducible rfl
    refine tc (i := 13) (v := ?v101) ?hy101 ?rest101
    case hy101 => intro W ⟨s0, s2, s3, s4⟩; go_simp; first | done | with_reducible rfl
    refine tc (i := 14) (v := ?v102) ?hy102 ?rest102
    case hy102 => intro W ⟨s0, s2, s3, s4⟩; go_simp; first | done | with_reducible rfl
    refine tc (i := 16) (v := ?v103) ?hy103 ?rest103
    case hy103 => intro W ⟨s0, s2, s3, s4⟩; go_simp; first | done | with_reducible rfl
    refine tc (i := 17) (v := ?v104) ?hy104 ?rest104
    case hy104 => intro W ⟨s0, s2, s3, s4⟩; go_simp; first | done | with_reducible rfl
    refine tc (i := 19) (v := ?v105) ?hy105 ?rest105
    case hy105 => intro W ⟨s0, s2, s3, s4⟩; go_simp; first | done | with_reducible rfl
    refine tc (i := 20) (v := ?v106) ?hy106 ?rest106
    case hy106 => intro W ⟨s0, s2, s3, s4⟩; go_simp; first | done | with_reducible rfl
    refine tc (i := 22) (v := ?v107) ?hy107 ?rest107
    case hy107 => intro W ⟨s0, s2, s3, s4⟩; go_simp; first | done | with_reducible rfl
    refine tc (i := 23) (v := ?v108) ?hy108 ?rest108
    case hy108 => intro W ⟨s0, s2, s3, s4⟩; go_simp; first | done | with_reducible rfl
    refine tc (i := 24) (v := ?v109) ?hy109 ?rest109
    case hy109 => intro W ⟨s0, s2, s3, s4⟩; go_simp; first | done | with_reducible rfl
    refine tc (i := 25) (v := ?v110) ?hy110 ?rest110
    case hy110 => intro W ⟨s0, s2, s3, s4⟩; go_simp; first | done | with_reducible rfl
    refine rc (i := 15) (fun K hK => ?_)
    go_simp
    refine (USED.out _ (by assumption)).mono ?_
    rintro e w3 ⟨rfl, k3⟩
    go_wp2_with fail
    refine hK.out _ _ (held_S (by assumption) k3) (fun hHeld111 => ?_)
    clear hK K
    try simp only [Act.put, List.setIfInBounds_toArray, List.set_cons_zero, List.set_cons_succ]
    refine tc (i := 18) (v := ?v112) ?hy112 ?rest112
    case hy112 => intro W ⟨s0, s2, s3, s4⟩; go_simp; first | done | with_reducible rfl
    refine tc (i := 21) (v := ?v113) ?hy113 ?rest113
    case hy113 => intro W ⟨s0, s2, s3, s4⟩; go_simp; first | done | with_reducible rfl
    refine tc (i := 26) (v := ?v114) ?hy114 ?rest114
    case hy114 => intro W ⟨s0, s2, s3, s4⟩; go_simp; first | done | with_reducible rfl
    refine tc (i := 27) (v := ?v115) ?hy115 ?rest115
    case hy115 => intro W ⟨s0, s2, s3, s4⟩; go_simp; first | done | with_reducible rfl
    refine tc (i := 28) (v := ?v116) ?hy116 ?rest116
    case hy116 => intro W ⟨s0, s2, s3, s4⟩; go_simp; first | done | with_reducible rfl
    refine wpAnyH_done (by as_aux_lemma => kernel_rfl) ?_ _
    refine NoPanic.normal ?_
    go_simp
    have K3 := Lib.hid (keep_undrew k3)
    clear k3 hHeld
    go_wp2_with fail
    go_ret
    exact ⟨rfl, (K1.out.mono (fun i _ e => by have e' : i = p := e; rw [e']; exact D.out.inF.1)).trans1 (K2.out.trans1 K3.out).ofNon, D1.out.keep (K2.out.trans1 K3.out) (fun _ _ e => e)⟩
theorem fget_le (D : Fl) (n : Byt) : (fget D n).length ≤ fused D := by
  cases D with
  | map es =>
    unfold fget fused
    simp only [DataW.atKey]
    induction es with
    | nil => simp [heldB]
    | cons y r ih =>
      rw [List.find?_cons]
      split
      · rename_i q h
        split at h
        · injection h with h; subst h; simp
        · rename_i h2
          have h3 : (heldB q.2).length ≤ (r.map (fun p => (heldB p.2).length)).sum := by
            have := ih
            rw [h] at this
            exact this
          simp only [List.map_cons, List.sum_cons]
          omega
      · simp [heldB]
  | _ => simp [fget, DataW.atKey, heldB]
def Dk.mild (X : Dk) : Prop := size X.shown < 512 ∧ X.pend.length ≤ 1000 ∧ fused X.shown ≤ 500000000 ∧ X.fuse ≤ 1000000000
def DiskTo (F : Nat → Prop) (w : World) (p : Nat) (X : Dk) (w' : World) : Prop := Keep F w w' ∧ ∃ F', Sub F' F w ∧ DiskAt F' w' p X
theorem one_sub {F T : Nat → Prop} {w w' : World} {p s h : Nat} {pv : Value} {X : Dk} (d : DiskIn F T w p s h pv X) (k : Keep (One p) w w') : Keep F w w' := k.mono (fun i _ e => by have e' : i = p := e; rw [e']; exact d.inF.1)
theorem dwrite_u (F : Nat → Prop) (p : Nat) (v : Value) (n b : Byt) (X : Dk) (w : World) (d : DiskAt F w p X) (hm : X.mild) (hn : okName n) (hv : Bs w v b) (hb : b.length ≤ 65536) (hnp : ∀ g, v.ownBlock = some g → ¬ F g) :
    Calls Tryz.prog 210 #[.pointer (some ⟨p, 0, none⟩), sv n, v] w fun e w' => e = .returned (errv (X.write n b).1) ∧ DiskTo F w p (X.write n b).2 w' := by
  obtain ⟨T, s, h, pv, d⟩ := d
  obtain ⟨m1, m2, m3, m4⟩ := hm
  obtain ⟨r1, r2, r3, r4⟩ := works_room X
  rcases works_cases X with hw | hw
  · by_cases hf : X.works.2.full n b
    · have e : X.write n b = (5, X.works.2) := by unfold Dk.write; rw [if_neg (by omega), if_neg (by omega), if_pos hf]
      rw [e]
      have hover : X.works.2.room + (fget X.works.2.shown n).length < fused X.works.2.shown + b.length := by
        rcases hf with ⟨_, h2⟩ | h2
        · rw [r2] at h2; omega
        · exact h2
      refine (dwrite_full F T p s h pv v n b X w d hw m4 hv hn hb (by omega) (by omega) (by omega) (by have := fget_le X.shown n; omega) m1 hover).mono ?_
      rintro e w' ⟨rfl, k, d'⟩
      exact ⟨rfl, k, F, Sub.refl _ _, T, s, h, pv, d'⟩
    · have e : X.write n b = (0, X.works.2.add (.write n b)) := by unfold Dk.write; rw [if_neg (by omega), if_neg (by omega), if_neg hf]
      rw [e]
      refine (dwrite_ok F T p s h pv v n b X w d hw m4 hv hn hb (by omega) (by omega) (by omega) (by have := fget_le X.shown n; omega) hf (fun g e e2 => hnp g e (e2 ▸ d.inF.1))).mono ?_
      rintro e w' ⟨rfl, k, F', hF', d'⟩
      exact ⟨rfl, k, F', hF', d'⟩
  · have e : X.write n b = X.works := by unfold Dk.write; rw [if_pos (by omega)]
    rw [e, hw]
    refine (dwrite_no F T p s h pv v n X w d m4 hw).mono ?_
    rintro e w' ⟨rfl, k, d'⟩
    exact ⟨rfl, one_sub d k, F, Sub.refl _ _, T, s, h, pv, d'⟩
theorem dsync_u (F : Nat → Prop) (p : Nat) (X : Dk) (w : World) (d : DiskAt F w p X) (hm : X.fuse ≤ 1000000000) :
    Calls Tryz.prog 102 #[.pointer (some ⟨p, 0, none⟩)] w fun e w' => e = .returned (errv X.sync.1) ∧ DiskTo F w p X.sync.2 w' := by
  obtain ⟨T, s, h, pv, d⟩ := d
  obtain ⟨r1, r2, r3, r4⟩ := works_room X
  rcases works_cases X with hw | hw
  · have e : X.sync = (0, { X.works.2 with sure := X.works.2.shown, pend := [] }) := by unfold Dk.sync; rw [if_neg (by omega)]
    rw [e, r2]
    refine (dsync_ok F T p s h pv X w d hm hw).mono ?_
    rintro e w' ⟨rfl, k, s', hs', d'⟩
    exact ⟨rfl, one_sub d k, _, fun g e => by rcases e with e | e; exact .inl e; exact .inr (by omega), T, s', h, _, d'⟩
  · have e : X.sync = X.works := by unfold Dk.sync; rw [if_pos (by omega)]
    rw [e, hw]
    refine (dsync_no F T p s h pv X w d hm hw).mono ?_
    rintro e w' ⟨rfl, k, d'⟩
    exact ⟨rfl, one_sub d k, F, Sub.refl _ _, T, s, h, pv, d'⟩
theorem drename_no (F T : Nat → Prop) (p s h : Nat) (pv : Value) (n m : Byt) (X : Dk) (w : World) (d : DiskIn F T w p s h pv X) (hf : X.fuse ≤ 1000000000) (hw : X.works.1 = 14) :
    Calls Tryz.prog 211 #[.pointer (some ⟨p, 0, none⟩), sv n, sv m] w fun e w' => e = .returned (.iface 84 (.int .i64 14)) ∧ Keep (One p) w w' ∧ DiskIn F T w' p s h pv X.works.2 := by
  have W := dworks_any F T p s h pv X w d hf
  rw [hw] at W
  have W2 : Hid (Calls Tryz.prog 169 #[.pointer (some ⟨p, 0, none⟩)] w fun e w' => e = .returned (.iface 84 (.int .i64 14)) ∧ Keep (One p) w w' ∧ DiskIn F T w' p s h pv X.works.2) := W
  clear W d
  go_enter Tryz.func211, Tryz.ntmps211
  go_wp2_with (go_at_call 169; refine W2.out.mono ?_; rintro e w1 ⟨rfl, k1, d1⟩; have K1 := Lib.hid k1; have D1 := Lib.hid d1; clear k1 d1)
  go_ret
  exact ⟨rfl, K1.out, D1.out⟩
theorem dremove_no (F T : Nat → Prop) (p s h : Nat) (pv : Value) (n : Byt) (X : Dk) (w : World) (d : DiskIn F T w p s h pv X) (hf : X.fuse ≤ 1000000000) (hw : X.works.1 = 14) :
    Calls Tryz.prog 101 #[.pointer (some ⟨p, 0, none⟩), sv n] w fun e w' => e = .returned (.iface 84 (.int .i64 14)) ∧ Keep (One p) w w' ∧ DiskIn F T w' p s h pv X.works.2 := by
  have W := dworks_any F T p s h pv X w d hf
  rw [hw] at W
  have W2 : Hid (Calls Tryz.prog 169 #[.pointer (some ⟨p, 0, none⟩)] w fun e w' => e = .returned (.iface 84 (.int .i64 14)) ∧ Keep (One p) w w' ∧ DiskIn F T w' p s h pv X.works.2) := W
  clear W d
  go_enter Tryz.func101, Tryz.ntmps101
  go_wp2_with (go_at_call 169; refine W2.out.mono ?_; rintro e w1 ⟨rfl, k1, d1⟩; have K1 := Lib.hid k1; have D1 := Lib.hid d1; clear k1 d1)
  go_ret
  exact ⟨rfl, K1.out, D1.out⟩
theorem drename_u (F : Nat → Prop) (p : Nat) (n m : Byt) (X : Dk) (w : World) (d : DiskAt F w p X) (hm : X.mild) (hn : okName n) (hn2 : okName m) :
    Calls Tryz.prog 211 #[.pointer (some ⟨p, 0, none⟩), sv n, sv m] w fun e w' => e = .returned (errv (X.rename n m).1) ∧ DiskTo F w p (X.rename n m).2 w' := by
  obtain ⟨T, s, h, pv, d⟩ := d
  obtain ⟨m1, m2, m3, m4⟩ := hm
  obtain ⟨r1, r2, r3, r4⟩ := works_room X
  rcases works_cases X with hw | hw
  · cases hh : fhas X.shown n with
    | true =>
      have e : X.rename n m = (0, X.works.2.add (.rename n m)) := by unfold Dk.rename; rw [if_neg (by omega), if_pos (by rw [r2]; exact hh)]
      rw [e]
      refine (drename_ok F T p s h pv n m X w d hw m4 hn hn2 (by omega) (by omega) hh).mono ?_
      rintro e w' ⟨rfl, k, F', hF', d'⟩
      exact ⟨rfl, k, F', hF', d'⟩
    | false =>
      have e : X.rename n m = (4, X.works.2) := by unfold Dk.rename; rw [if_neg (by omega), if_neg (by rw [r2, hh]; decide)]
      rw [e]
      refine (drename_none F T p s h pv n m X w d hw m4 hn hn2 (by omega) (by omega) hh).mono ?_
      rintro e w' ⟨rfl, k, d'⟩
      exact ⟨rfl, one_sub d k, F, Sub.refl _ _, T, s, h, pv, d'⟩
  · have e : X.rename n m = X.works := by unfold Dk.rename; rw [if_pos (by omega)]
    rw [e, hw]
    refine (drename_no F T p s h pv n m X w d m4 hw).mono ?_
    rintro e w' ⟨rfl, k, d'⟩
    exact ⟨rfl, one_sub d k, F, Sub.refl _ _, T, s, h, pv, d'⟩
theorem dremove_u (F : Nat → Prop) (p : Nat) (n : Byt) (X : Dk) (w : World) (d : DiskAt F w p X) (hm : X.mild) (hn : okName n) :
    Calls Tryz.prog 101 #[.pointer (some ⟨p, 0, none⟩), sv n] w fun e w' => e = .returned (errv (X.remove n).1) ∧ DiskTo F w p (X.remove n).2 w' := by
  obtain ⟨T, s, h, pv, d⟩ := d
  obtain ⟨m1, m2, m3, m4⟩ := hm
  obtain ⟨r1, r2, r3, r4⟩ := works_room X
  rcases works_cases X with hw | hw
  · cases hh : fhas X.shown n with
    | true =>
      have e : X.remove n = (0, X.works.2.add (.remove n)) := by unfold Dk.remove; rw [if_neg (by omega), if_pos (by rw [r2]; exact hh)]
      rw [e]
      refine (dremove_ok F T p s h pv n X w d hw m4 hn (by omega) (by omega) hh).mono ?_
      rintro e w' ⟨rfl, k, F', hF', d'⟩
      exact ⟨rfl, k, F', hF', d'⟩
    | false =>
      have e : X.remove n = (4, X.works.2) := by unfold Dk.remove; rw [if_neg (by omega), if_neg (by rw [r2, hh]; decide)]
      rw [e]
      refine (dremove_none F T p s h pv n X w d hw m4 hn (by omega) (by omega) hh).mono ?_
      rintro e w' ⟨rfl, k, d'⟩
      exact ⟨rfl, one_sub d k, F, Sub.refl _ _, T, s, h, pv, d'⟩
  · have e : X.remove n = X.works := by unfold Dk.remove; rw [if_pos (by omega)]
    rw [e, hw]
    refine (dremove_no F T p s h pv n X w d m4 hw).mono ?_
    rintro e w' ⟨rfl, k, d'⟩
    exact ⟨rfl, one_sub d k, F, Sub.refl _ _, T, s, h, pv, d'⟩
end Go.Proofs.YtdmckfkhkjkdnaaGreatDoor
