/- ShaSums, walked: the digest of any text, and of it behind any other digest. -/
import Derived.Test.YtcjjhgecmnfmdaaDoorShaAlive
import Derived.Test.YtcjjhgecmnfmdaaDoorShaTab
import Derived.Test.YtcjjhgecmnfmdaaDoorShaRSum
import Derived.Test.YtcjjhgecmnfmdaaDoorBytes
import Derived.Test.YtcjjhgecmnfmdaaDoorOpenBs
import Derived.Deep.MidRow
namespace Go.Proofs.YtcjjhgecmnfmdaaDoor
open Go.ChangeShapes Go.WideShapes Go.Deep Go.RowKit Go.Shelf
set_option linter.unusedVariables false

theorem eq_ref_arr (D E : List UInt8) (hD : D.length = 32) (hE : E.length = 32) (w : World) : (Op.equalIn 10000 34 (arrV D) (arrV E)).run Tryd.prog w = .ok (D == E) w :=
  eq_arr 34 5 Tryd.underlying34 Tryd.underlying5 sizeU8 D E hD hE w
theorem eq_plain_arr (D E : List UInt8) (hD : D.length = 32) (hE : E.length = 32) (w : World) : (Op.equalIn 10000 26 (arrV D) (arrV E)).run Tryd.prog w = .ok (D == E) w :=
  eq_arr 26 5 Tryd.underlying26 Tryd.underlying5 sizeU8 D E hD hE w

/-- The state of things between the calls: the array that came in, what stood there. -/
theorem held_call {w4 W W' : World} {g : Nat} {cs : List Value} (h : W.rangeAt g 0 cs ∧ Keep Non w4 W) (hlt : g < w4.heap.size) (k : Keep Non W W') : W'.rangeAt g 0 cs ∧ Keep Non w4 W' :=
  ⟨fun j v hj => (World.cell?_of_block (k.block g (h.2.lt hlt) (fun e => e))).trans (h.1 j v hj), h.2.trans1 k⟩

theorem held_of {w7 W : World} {g : Nat} {cs : List Value} (h : w7.rangeAt g 0 cs) (hlt : g < w7.heap.size) (k : Keep Non w7 W) : W.rangeAt g 0 cs ∧ Keep Non w7 W :=
  ⟨fun j v hj => (World.cell?_of_block (k.block g hlt (fun e => e))).trans (h j v hj), k⟩
theorem rd_range {W : World} {g : Nat} {D : List UInt8} (hD : D.length = 32) (h : W.rangeAt g 0 (D.map bv)) : Rd W (.slice (some ⟨g, 0, none⟩) 32 32) (D.map bv) :=
  ⟨_, 32, by rw [List.length_map, hD], fun _ => ⟨g, 0, rfl, fun j u hu => h j u hu⟩⟩

section
attribute [local simp high] hA26 hS26 hA27 hS27 hA34 hS34
set_option maxRecDepth 100000 in
set_option maxHeartbeats 3200000 in
theorem sums_some (l : List UInt8) (a : Option Addr) (cap : Nat) (D : List UInt8) (hD : D.length = 32) (w : World) (hb : Bs w (.slice a l.length cap) l) (hl : l.length ≤ 1000) (hk : Kon w) (hf : Frs w) :
    Calls Tryd.prog 4 #[.slice a l.length cap, arrV D] w fun e w' => e = .returned (.bool true) ∧ Keep Non w w' := by
  have HB := Lib.hid hb
  have HK := Lib.hid hk
  have HF := Lib.hid hf
  have HD := Lib.hid hD
  have h1000 : ¬ (1000 : Int) < (l.length : Int) := by omega
  clear hb hk hf hD
  obtain ⟨i0, hi0, hz0, hz1, hz2⟩ := info_parts infoU8
  unfold arrV
  go_enter Tryd.func4, Tryd.ntmps4
  go_wp2_with fail
  refine (alive_any _ (HK.out.keep ((Keep.refl _ _).alloc _)) (HF.out.keep ((Keep.refl _ _).alloc _))).mono ?_
  rintro e w2 ⟨rfl, k2⟩
  have hb2 := k2.at (blk_new w (.cells (D.map bv).toArray 26)) (fun e => e)
  have K2 := Lib.hid (((Keep.refl Non w).alloc _).trans1 k2)
  have R2 := Lib.hid hb2
  clear k2 hb2
  have own1 : Hid ((w2.alloc (.cells #[] 5)).ownsRow w2.heap.size 5 1 (.slice (some ⟨w2.heap.size, 0, none⟩) 0 0) 0 []) := Lib.hid (World.ownsRow_made (base := w2.heap.size) (e := 5) (size := 1) w2 #[] 0 (Nat.le_refl _) (by decide) rfl)
  have B1 := Lib.hid ((HB.out.keepNon K2.out).keepNon ((Keep.refl Non w2).alloc (.cells #[] 5)))
  go_wp2_with (at_builtin; refine wpList_append_rd rfl _ _ 22 rfl w2.heap.size 5 i0 (.int .u8 0) 1 Tryd.underlying22 hi0 hz0 hz1 hz2 rfl (.slice (some ⟨w2.heap.size, 0, none⟩) 0 0) 0 [] rfl own1.out (.slice a l.length cap) rfl (l.map bv) B1.out (oneCell_bytes l) (by unfold maxLen; simp; omega) (by simp; omega) (by simp) ?_; intro v1 w3 ho hg hp; have HO1 := Lib.hid ho; have HG1 := Lib.hid hg; clear ho hp hg)
  have ho1 := HO1.out
  rw [List.nil_append, show 0 + (List.map bv l).length = l.length by simp] at ho1
  have kp3 : Keep Non w2 w3 := (((Keep.refl Non w2).alloc _).grown HG1.out (fun q e => .inr (own1.out.lt q e).1))
  obtain ⟨va, vc, rfl, _, _⟩ := ownsRow_form ho1
  have hbo : Bs w3 (.slice va l.length vc) l := Rd.ofOwns ho1
  have O3 := Lib.hid hbo
  have K3 := Lib.hid (K2.out.trans1 kp3)
  have R3 := Lib.hid (kp3.at R2.out (fun e => e))
  clear kp3 hbo ho1 HO1 HG1 own1 B1 R2 K2
  refine (tables_any _).mono ?_
  rintro e w4 ⟨x, c, y, d, rfl, k4, hx4, hy4⟩
  have K4 := Lib.hid (K3.out.trans1 k4)
  have R4 := Lib.hid (k4.at R3.out (fun e => e))
  have O4 := Lib.hid (O3.out.keepNon k4)
  have X4 : Hid (Rd w4 (.slice x 64 c) kvs) := Lib.hid hx4
  have Y4 : Hid (Rd w4 (.slice y 8 d) fvs) := Lib.hid hy4
  clear k4 hx4 hy4 R3 O3 K3
  go_wp2_with fail
  have hlt : w.heap.size < w4.heap.size := lt_of_block R4.out
  have hlen : ((digB (shaS l)).map bv).length = 32 := by simp [digB_len]
  have C9 : Hid (∀ W, (W.rangeAt w.heap.size 0 (D.map bv) ∧ Keep Non w4 W) → Calls Tryd.prog 9 #[.slice va l.length vc] W fun e w' => e = .returned (arrV (digB (shaS l))) ∧ Keep Non W w') := Lib.hid (fun W h => sum_any l va vc W (O4.out.keepNon h.2) ((HK.out.keep K4.out).keep h.2) ((HF.out.keep K4.out).keep h.2) (by omega))
  have C11 : Hid (∀ W, (W.rangeAt w.heap.size 0 (D.map bv) ∧ Keep Non w4 W) → Calls Tryd.prog 11 #[.slice a l.length cap, .slice x 64 c, .slice y 8 d] W fun e w' => e = .returned (arrV (digB (shaS l))) ∧ Keep Non W w') := Lib.hid (fun W h => rsum_any l a cap x y c d W ((HB.out.keepNon K4.out).keepNon h.2) (X4.out.keepNon h.2) (Y4.out.keepNon h.2) (by omega))
  have C12 : Hid (∀ W, (W.rangeAt w.heap.size 0 (D.map bv) ∧ Keep Non w4 W) → Calls Tryd.prog 12 #[.agg (D.map bv).toArray] W fun e w' => e = .returned (.bool (isZ D)) ∧ Keep Non W w') := Lib.hid (fun W h => zero_any D HD.out W)
  have C8 : Hid (∀ W b, (W.rangeAt w.heap.size 0 (D.map bv) ∧ Keep Non w4 W) → W.heap[b]? = some (.cells #[.slice none 0 0, .slice va l.length vc] 22 (0, 0)) → Calls Tryd.prog 8 #[.slice (some ⟨b, 0, none⟩) 2 2] W fun e w' => e = .returned (arrV (digB (shaS l))) ∧ Keep Non W w') := Lib.hid (fun W b h hb => by
    have hp : Pts W (.slice (some ⟨b, 0, none⟩) [[], l].length 2) [[], l] := pts_of (vs := [.slice none 0 0, .slice va l.length vc]) hb rfl (fun i u m hu hm => by
      match i with
      | 0 =>
        simp at hu hm
        subst hu hm
        exact ⟨none, 0, rfl, fun h => absurd rfl h⟩
      | 1 =>
        simp at hu hm
        subst hu hm
        exact O4.out.keepNon h.2
      | i + 2 => simp at hu) 2
    refine (of_any [[], l] _ 2 W hp ((HK.out.keep K4.out).keep h.2) ((HF.out.keep K4.out).keep h.2) (by simp) (by simp; omega)).mono ?_
    rintro e w' ⟨rfl, kp⟩
    refine ⟨?_, kp⟩
    rw [digC_arr]
    simp)
  have hq1 : ∀ w : World, (Op.equalIn 10000 34 (.agg ((digB (shaS l)).map bv).toArray) (.agg ((digB (shaS l)).map bv).toArray)).run Tryd.prog w = .ok true w := fun w => by
    have := eq_ref_arr (digB (shaS l)) (digB (shaS l)) (digB_len _) (digB_len _) w
    rw [beq_self_eq_true] at this
    exact this
  have hq3 : ∀ w : World, (Op.equalIn 10000 27 (.agg ((digB (shaS l)).map bv).toArray) (.agg ((digB (shaS l)).map bv).toArray)).run Tryd.prog w = .ok true w := fun w => by
    have := eq_dig (digB (shaS l)) (digB (shaS l)) (digB_len _) (digB_len _) w
    rw [beq_self_eq_true] at this
    exact this
  have hq2 : ∀ w : World, (Op.equalIn 10000 26 (.agg (D.map bv).toArray) (.agg #[.int .u8 0, .int .u8 0, .int .u8 0, .int .u8 0, .int .u8 0, .int .u8 0, .int .u8 0, .int .u8 0, .int .u8 0, .int .u8 0, .int .u8 0, .int .u8 0, .int .u8 0, .int .u8 0, .int .u8 0, .int .u8 0, .int .u8 0, .int .u8 0, .int .u8 0, .int .u8 0, .int .u8 0, .int .u8 0, .int .u8 0, .int .u8 0, .int .u8 0, .int .u8 0, .int .u8 0, .int .u8 0, .int .u8 0, .int .u8 0, .int .u8 0, .int .u8 0])).run Tryd.prog w = .ok (isZ D) w := fun w => eq_plain_arr D (List.replicate 32 0) HD.out rfl w
  have hu26 : Tryd.prog.underlying 26 = some (.array 32 5) := Tryd.underlying26
  have hs26 : (Tryd.prog.info? 26).map (·.size) = some (D.map bv).length := by rw [List.length_map, HD.out]; kernel_rfl
  have S0 : w4.drew.rangeAt w.heap.size 0 (D.map bv) ∧ Keep Non w4 w4.drew := ⟨(World.rangeAt_drew _ _ _ _).2 (by
    intro j v hj
    rw [cell_of_row _ _ _ _ _ _ R4.out]
    simpa using hj), (Keep.refl _ _).drew⟩
  refine wp_region_noPanic ?_
  refine wp_region_held_drew (S := fun W => W.rangeAt w.heap.size 0 (D.map bv) ∧ Keep Non w4 W) (by as_aux_lemma => kernel_rfl) S0 (fun hHeld => ?_)
  refine take_calm (i := 0) (v := ?v1) (by simp only [List.getElem?_toArray, List.getElem?_cons_zero]; rfl) (by as_aux_lemma => kernel_rfl) (by as_aux_lemma => kernel_rfl) (by as_aux_lemma => kernel_rfl) (fun _ _ _ h => h) (Or.inl ⟨by rfl, ?hy1⟩) (by assumption) ?rest1
  case hy1 =>
    intro W hSw
    try dsimp only at hSw
    go_simp
    first | done | with_reducible rfl
  try simp only [Act.put, List.setIfInBounds_toArray, List.set_cons_zero, List.set_cons_succ]
  refine take_calm (i := 2) (v := ?v2) (by simp only [List.getElem?_toArray, List.getElem?_cons_succ, List.getElem?_cons_zero]; rfl) (by as_aux_lemma => kernel_rfl) (by as_aux_lemma => kernel_rfl) (by as_aux_lemma => kernel_rfl) (fun _ _ _ h => h) (Or.inl ⟨by rfl, ?hy2⟩) (by assumption) ?rest2
  case hy2 =>
    intro W hSw
    try dsimp only at hSw
    go_simp
    first | done | with_reducible rfl
  try simp only [Act.put, List.setIfInBounds_toArray, List.set_cons_zero, List.set_cons_succ]
  refine take_calm (i := 3) (v := ?v3) (by simp only [List.getElem?_toArray, List.getElem?_cons_succ, List.getElem?_cons_zero]; rfl) (by as_aux_lemma => kernel_rfl) (by as_aux_lemma => kernel_rfl) (by as_aux_lemma => kernel_rfl) (fun _ _ _ h => h) (Or.inl ⟨by rfl, ?hy3⟩) (by assumption) ?rest3
  case hy3 =>
    intro W hSw
    try dsimp only at hSw
    go_simp
    first | done | with_reducible rfl
  try simp only [Act.put, List.setIfInBounds_toArray, List.set_cons_zero, List.set_cons_succ]
  refine take_calm (i := 4) (v := ?v4) (by simp only [List.getElem?_toArray, List.getElem?_cons_succ, List.getElem?_cons_zero]; rfl) (by as_aux_lemma => kernel_rfl) (by as_aux_lemma => kernel_rfl) (by as_aux_lemma => kernel_rfl) (fun _ _ _ h => h) (Or.inl ⟨by rfl, ?hy4⟩) (by assumption) ?rest4
  case hy4 =>
    intro W hSw
    try dsimp only at hSw
    go_simp
    first | done | with_reducible rfl
  try simp only [Act.put, List.setIfInBounds_toArray, List.set_cons_zero, List.set_cons_succ]
  refine wpAnyH_ready (rs := [1]) (by as_aux_lemma => kernel_rfl) (by simp) ?_
  refine AllReadyH.cons (by simp only [List.getElem?_toArray, List.getElem?_cons_succ, List.getElem?_cons_zero]; rfl) (fun K hK => ?_) AllReadyH.nil
  go_simp
  refine (C9.out _ (by assumption)).mono ?_
  rintro e w' ⟨rfl, kp⟩
  unfold arrV
  go_wp2_with fail
  refine hK.out _ _ (held_call (by assumption) hlt (by assumption)) (fun hHeld5 => ?_)
  clear hK K
  try simp only [Act.put, List.setIfInBounds_toArray, List.set_cons_zero, List.set_cons_succ]
  refine wpAnyH_ready (rs := [5]) (by as_aux_lemma => kernel_rfl) (by simp) ?_
  refine AllReadyH.cons (by simp only [List.getElem?_toArray, List.getElem?_cons_succ, List.getElem?_cons_zero]; rfl) (fun K hK => ?_) AllReadyH.nil
  go_simp
  refine (C11.out _ (by assumption)).mono ?_
  rintro e w' ⟨rfl, kp⟩
  unfold arrV
  go_wp2_with fail
  refine hK.out _ _ (held_call (by assumption) hlt (by assumption)) (fun hHeld6 => ?_)
  clear hK K
  try simp only [Act.put, List.setIfInBounds_toArray, List.set_cons_zero, List.set_cons_succ]
  refine take_calm (i := 6) (v := ?v7) (by simp only [List.getElem?_toArray, List.getElem?_cons_succ, List.getElem?_cons_zero]; rfl) (by as_aux_lemma => kernel_rfl) (by as_aux_lemma => kernel_rfl) (by as_aux_lemma => kernel_rfl) (fun _ _ _ h => h) (Or.inl ⟨by rfl, ?hy7⟩) (by assumption) ?rest7
  case hy7 =>
    intro W hSw
    try dsimp only at hSw
    go_simp
    first | done | with_reducible rfl
  try simp only [Act.put, List.setIfInBounds_toArray, List.set_cons_zero, List.set_cons_succ]
  refine take_calm (i := 7) (v := ?v8) (by simp only [List.getElem?_toArray, List.getElem?_cons_succ, List.getElem?_cons_zero]; rfl) (by as_aux_lemma => kernel_rfl) (by as_aux_lemma => kernel_rfl) (by as_aux_lemma => kernel_rfl) (fun _ _ _ h => h) (Or.inl ⟨by rfl, ?hy8⟩) (by assumption) ?rest8
  case hy8 =>
    intro W hSw
    try dsimp only at hSw
    go_simp
    first | done | with_reducible rfl
  try simp only [Act.put, List.setIfInBounds_toArray, List.set_cons_zero, List.set_cons_succ]
  refine' wpAnyH_take (i := 8) (v := _) (by simp only [List.getElem?_toArray, List.getElem?_cons_succ, List.getElem?_cons_zero]; rfl) (by as_aux_lemma => kernel_rfl) (by as_aux_lemma => kernel_rfl) (by as_aux_lemma => kernel_rfl) (fun _ _ _ h => h) (yieldsIf_load_mid (by rfl) _ _ rfl _ _ rfl _ _ (fun W h => h.1) hu26 rfl hs26) (by assumption) ?rest9
  try simp only [Act.put, List.setIfInBounds_toArray, List.set_cons_zero, List.set_cons_succ]
  refine' wpAnyH_take (i := 10) (v := _) (by simp only [List.getElem?_toArray, List.getElem?_cons_succ, List.getElem?_cons_zero]; rfl) (by as_aux_lemma => kernel_rfl) (by as_aux_lemma => kernel_rfl) (by as_aux_lemma => kernel_rfl) (fun _ _ _ h => h) (yieldsIf_load_mid (by rfl) _ _ rfl _ _ rfl _ _ (fun W h => h.1) hu26 rfl hs26) (by assumption) ?rest10
  try simp only [Act.put, List.setIfInBounds_toArray, List.set_cons_zero, List.set_cons_succ]
  refine take_calm (i := 11) (v := ?v11) (by simp only [List.getElem?_toArray, List.getElem?_cons_succ, List.getElem?_cons_zero]; rfl) (by as_aux_lemma => kernel_rfl) (by as_aux_lemma => kernel_rfl) (by as_aux_lemma => kernel_rfl) (fun _ _ _ h => h) (Or.inl ⟨by rfl, ?hy11⟩) (by assumption) ?rest11
  case hy11 =>
    intro W hSw
    try dsimp only at hSw
    go_simp
    first | done | with_reducible rfl
  try simp only [Act.put, List.setIfInBounds_toArray, List.set_cons_zero, List.set_cons_succ]
  refine take_calm (i := 12) (v := ?v12) (by simp only [List.getElem?_toArray, List.getElem?_cons_succ, List.getElem?_cons_zero]; rfl) (by as_aux_lemma => kernel_rfl) (by as_aux_lemma => kernel_rfl) (by as_aux_lemma => kernel_rfl) (fun _ _ _ h => h) (Or.inl ⟨by rfl, ?hy12⟩) (by assumption) ?rest12
  case hy12 =>
    intro W hSw
    try dsimp only at hSw
    go_simp
    first | done | with_reducible rfl
  try simp only [Act.put, List.setIfInBounds_toArray, List.set_cons_zero, List.set_cons_succ]
  refine wpAnyH_ready (rs := [9]) (by as_aux_lemma => kernel_rfl) (by simp) ?_
  refine AllReadyH.cons (by simp only [List.getElem?_toArray, List.getElem?_cons_succ, List.getElem?_cons_zero]; rfl) (fun K hK => ?_) AllReadyH.nil
  go_simp
  refine (C12.out _ (by assumption)).mono ?_
  rintro e w' ⟨rfl, kp⟩
  go_wp2_with fail
  refine hK.out _ _ (held_call (by assumption) hlt (by assumption)) (fun hHeld13 => ?_)
  clear hK K
  try simp only [Act.put, List.setIfInBounds_toArray, List.set_cons_zero, List.set_cons_succ]
  refine take_calm (i := 13) (v := ?v14) (by simp only [List.getElem?_toArray, List.getElem?_cons_succ, List.getElem?_cons_zero]; rfl) (by as_aux_lemma => kernel_rfl) (by as_aux_lemma => kernel_rfl) (by as_aux_lemma => kernel_rfl) (fun _ _ _ h => h) (Or.inl ⟨by rfl, ?hy14⟩) (by assumption) ?rest14
  case hy14 =>
    intro W hSw
    try dsimp only at hSw
    go_simp
    first | done | with_reducible rfl
  try simp only [Act.put, List.setIfInBounds_toArray, List.set_cons_zero, List.set_cons_succ]
  refine take_calm (i := 14) (v := ?v15) (by simp only [List.getElem?_toArray, List.getElem?_cons_succ, List.getElem?_cons_zero]; rfl) (by as_aux_lemma => kernel_rfl) (by as_aux_lemma => kernel_rfl) (by as_aux_lemma => kernel_rfl) (fun _ _ _ h => h) (Or.inl ⟨by rfl, ?hy15⟩) (by assumption) ?rest15
  case hy15 =>
    intro W hSw
    try dsimp only at hSw
    go_simp
    first | done | with_reducible rfl
  try simp only [Act.put, List.setIfInBounds_toArray, List.set_cons_zero, List.set_cons_succ]
  refine take_calm (i := 15) (v := ?v16) (by simp only [List.getElem?_toArray, List.getElem?_cons_succ, List.getElem?_cons_zero]; rfl) (by as_aux_lemma => kernel_rfl) (by as_aux_lemma => kernel_rfl) (by as_aux_lemma => kernel_rfl) (fun _ _ _ h => h) (Or.inl ⟨by rfl, ?hy16⟩) (by assumption) ?rest16
  case hy16 =>
    intro W hSw
    try dsimp only at hSw
    go_simp
    first | done | with_reducible rfl
  try simp only [Act.put, List.setIfInBounds_toArray, List.set_cons_zero, List.set_cons_succ]
  refine take_calm (i := 16) (v := ?v17) (by simp only [List.getElem?_toArray, List.getElem?_cons_succ, List.getElem?_cons_zero]; rfl) (by as_aux_lemma => kernel_rfl) (by as_aux_lemma => kernel_rfl) (by as_aux_lemma => kernel_rfl) (fun _ _ _ h => h) (Or.inl ⟨by rfl, ?hy17⟩) (by assumption) ?rest17
  case hy17 =>
    intro W hSw
    try dsimp only at hSw
    go_simp
    first | done | with_reducible rfl
  try simp only [Act.put, List.setIfInBounds_toArray, List.set_cons_zero, List.set_cons_succ]
  refine take_calm (i := 19) (v := ?v18) (by simp only [List.getElem?_toArray, List.getElem?_cons_succ, List.getElem?_cons_zero]; rfl) (by as_aux_lemma => kernel_rfl) (by as_aux_lemma => kernel_rfl) (by as_aux_lemma => kernel_rfl) (fun _ _ _ h => h) (Or.inl ⟨by rfl, ?hy18⟩) (by assumption) ?rest18
  case hy18 =>
    intro W hSw
    try dsimp only at hSw
    go_simp
    first | done | with_reducible rfl
  try simp only [Act.put, List.setIfInBounds_toArray, List.set_cons_zero, List.set_cons_succ]
  refine wpAnyH_ready (rs := [17]) (by as_aux_lemma => kernel_rfl) (by simp) ?_
  refine AllReadyH.cons (by simp only [List.getElem?_toArray, List.getElem?_cons_succ, List.getElem?_cons_zero]; rfl) (fun K hK => ?_) AllReadyH.nil
  go_simp
  refine hK.out _ _ (held_call (by assumption) hlt ((Keep.refl _ _).alloc _)) (fun hHeld19 => ?_)
  clear hK K
  try simp only [Act.put, List.setIfInBounds_toArray, List.set_cons_zero, List.set_cons_succ]
  refine wpAnyH_ready (rs := [18]) (by as_aux_lemma => kernel_rfl) (by simp) ?_
  refine AllReadyH.cons (by simp only [List.getElem?_toArray, List.getElem?_cons_succ, List.getElem?_cons_zero]; rfl) (fun K hK => ?_) AllReadyH.nil
  go_simp
  refine (C8.out _ _ (by assumption) (blk_new _ _)).mono ?_
  rintro e w' ⟨rfl, kp⟩
  unfold arrV
  go_wp2_with fail
  refine hK.out _ _ (held_call (by assumption) hlt (by assumption)) (fun hHeld20 => ?_)
  clear hK K
  try simp only [Act.put, List.setIfInBounds_toArray, List.set_cons_zero, List.set_cons_succ]
  refine wpAnyH_ready (rs := [20]) (by as_aux_lemma => kernel_rfl) (by simp) ?_
  refine AllReadyH.cons (by simp only [List.getElem?_toArray, List.getElem?_cons_succ, List.getElem?_cons_zero]; rfl) (fun K hK => ?_) AllReadyH.nil
  go_simp
  refine (C9.out _ (by assumption)).mono ?_
  rintro e w7 ⟨rfl, kp⟩
  unfold arrV
  go_wp2_with fail
  refine hK.out _ _ (held_call (by assumption) hlt (by assumption)) (fun hHeld21 => ?_)
  clear hK K
  try simp only [Act.put, List.setIfInBounds_toArray, List.set_cons_zero, List.set_cons_succ]
  refine take_calm (i := 21) (v := ?v22) (by simp only [List.getElem?_toArray, List.getElem?_cons_succ, List.getElem?_cons_zero]; rfl) (by as_aux_lemma => kernel_rfl) (by as_aux_lemma => kernel_rfl) (by as_aux_lemma => kernel_rfl) (fun _ _ _ h => h) (Or.inl ⟨by rfl, ?hy22⟩) (by assumption) ?rest22
  case hy22 =>
    intro W hSw
    try dsimp only at hSw
    go_simp
    first | done | with_reducible rfl
  try simp only [Act.put, List.setIfInBounds_toArray, List.set_cons_zero, List.set_cons_succ]
  refine take_calm (i := 22) (v := ?v23) (by simp only [List.getElem?_toArray, List.getElem?_cons_succ, List.getElem?_cons_zero]; rfl) (by as_aux_lemma => kernel_rfl) (by as_aux_lemma => kernel_rfl) (by as_aux_lemma => kernel_rfl) (fun _ _ _ h => h) (Or.inl ⟨by rfl, ?hy23⟩) (by assumption) ?rest23
  case hy23 =>
    intro W hSw
    try dsimp only at hSw
    go_simp
    first | done | with_reducible rfl
  try simp only [Act.put, List.setIfInBounds_toArray, List.set_cons_zero, List.set_cons_succ]
  refine wpAnyH_done (by as_aux_lemma => kernel_rfl) ?_ _
  refine NoPanic.normal ?_
  have K47 := Lib.hid hHeld21.2
  have K7 := Lib.hid (K4.out.trans1 hHeld21.2)
  have A7 := Lib.hid hHeld21.1
  have LT7 : Hid (w.heap.size < w7.heap.size) := Lib.hid (hHeld21.2.lt hlt)
  obtain ⟨M, hM⟩ : ∃ M, M = D ++ l := ⟨_, rfl⟩
  have MD := Lib.hid hM
  have ML : Hid (M.length ≤ 1032) := Lib.hid (by rw [hM, List.length_append, HD.out]; omega)
  clear hM
  have C13 : Hid (∀ W, (W.rangeAt w.heap.size 0 (D.map bv) ∧ Keep Non w7 W) → Calls Tryd.prog 13 #[.agg (D.map bv).toArray, .slice va l.length vc] W fun e w' => e = .returned (arrV (digB (shaS M))) ∧ Keep Non W w') := Lib.hid (fun W h => by rw [MD.out]; exact link_any D l HD.out va vc W ((O4.out.keepNon K47.out).keepNon h.2) ((HK.out.keep K7.out).keep h.2) ((HF.out.keep K7.out).keep h.2) (by omega))
  have C14 : Hid (∀ W, (W.rangeAt w.heap.size 0 (D.map bv) ∧ Keep Non w7 W) → Calls Tryd.prog 14 #[.slice va l.length vc, .slice a l.length cap] W fun e w' => e = .returned (.bool true) ∧ W = w') := Lib.hid (fun W h => bytes_same _ _ l W ((O4.out.keepNon K47.out).keepNon h.2) ((HB.out.keepNon K7.out).keepNon h.2))
  have S7 : w7.drew.rangeAt w.heap.size 0 (D.map bv) ∧ Keep Non w7 w7.drew := ⟨(World.rangeAt_drew _ _ _ _).2 A7.out, (Keep.refl _ _).drew⟩
  clear hHeld hHeld5 hHeld6 hHeld13 hHeld19 hHeld20 hHeld21 kp S0 C8 C9 C11 C12 hq1 hq2 hq3 hlen
  have hq1 : ∀ w : World, (Op.equalIn 10000 34 (.agg ((digB (shaS M)).map bv).toArray) (.agg ((digB (shaS M)).map bv).toArray)).run Tryd.prog w = .ok true w := fun w => by
    have := eq_ref_arr (digB (shaS M)) (digB (shaS M)) (digB_len _) (digB_len _) w
    rw [beq_self_eq_true] at this
    exact this
  go_wp2_with fail
  refine wp_region_noPanic ?_
  refine wp_region_held_drew (S := fun W => W.rangeAt w.heap.size 0 (D.map bv) ∧ Keep Non w7 W) (by as_aux_lemma => kernel_rfl) S7 (fun hHeld => ?_)
  refine' wpAnyH_take (i := 0) (v := _) (by simp only [List.getElem?_toArray, List.getElem?_cons_zero]; rfl) (by as_aux_lemma => kernel_rfl) (by as_aux_lemma => kernel_rfl) (by as_aux_lemma => kernel_rfl) (fun _ _ _ h => h) (yieldsIf_load_mid (by rfl) _ _ rfl _ _ rfl _ _ (fun W h => h.1) hu26 rfl hs26) (by assumption) ?rest24
  try simp only [Act.put, List.setIfInBounds_toArray, List.set_cons_zero, List.set_cons_succ]
  refine take_calm (i := 1) (v := ?v25) (by simp only [List.getElem?_toArray, List.getElem?_cons_succ, List.getElem?_cons_zero]; rfl) (by as_aux_lemma => kernel_rfl) (by as_aux_lemma => kernel_rfl) (by as_aux_lemma => kernel_rfl) (fun _ _ _ h => h) (Or.inl ⟨by rfl, ?hy25⟩) (by assumption) ?rest25
  case hy25 =>
    intro W hSw
    try dsimp only at hSw
    go_simp
    first | done | with_reducible rfl
  try simp only [Act.put, List.setIfInBounds_toArray, List.set_cons_zero, List.set_cons_succ]
  refine take_calm (i := 4) (v := ?v26) (by simp only [List.getElem?_toArray, List.getElem?_cons_succ, List.getElem?_cons_zero]; rfl) (by as_aux_lemma => kernel_rfl) (by as_aux_lemma => kernel_rfl) (by as_aux_lemma => kernel_rfl) (fun _ _ _ h => h) (Or.inl ⟨by rfl, ?hy26⟩) (by assumption) ?rest26
  case hy26 =>
    intro W hSw
    try dsimp only at hSw
    go_simp
    first | done | with_reducible rfl
  try simp only [Act.put, List.setIfInBounds_toArray, List.set_cons_zero, List.set_cons_succ]
  refine take_calm (i := 6) (v := ?v27) (by simp only [List.getElem?_toArray, List.getElem?_cons_succ, List.getElem?_cons_zero]; rfl) (by as_aux_lemma => kernel_rfl) (by as_aux_lemma => kernel_rfl) (by as_aux_lemma => kernel_rfl) (fun _ _ _ h => h) (Or.inl ⟨by rfl, ?hy27⟩) (by assumption) ?rest27
  case hy27 =>
    intro W hSw
    try dsimp only at hSw
    go_simp
    first | done | with_reducible rfl
  try simp only [Act.put, List.setIfInBounds_toArray, List.set_cons_zero, List.set_cons_succ]
  refine take_calm (i := 8) (v := ?v28) (by simp only [List.getElem?_toArray, List.getElem?_cons_succ, List.getElem?_cons_zero]; rfl) (by as_aux_lemma => kernel_rfl) (by as_aux_lemma => kernel_rfl) (by as_aux_lemma => kernel_rfl) (fun _ _ _ h => h) (Or.inl ⟨by rfl, ?hy28⟩) (by assumption) ?rest28
  case hy28 =>
    intro W hSw
    try dsimp only at hSw
    go_simp
    first | done | with_reducible rfl
  try simp only [Act.put, List.setIfInBounds_toArray, List.set_cons_zero, List.set_cons_succ]
  refine take_calm (i := 9) (v := ?v29) (by simp only [List.getElem?_toArray, List.getElem?_cons_succ, List.getElem?_cons_zero]; rfl) (by as_aux_lemma => kernel_rfl) (by as_aux_lemma => kernel_rfl) (by as_aux_lemma => kernel_rfl) (fun _ _ _ h => h) (Or.inl ⟨by rfl, ?hy29⟩) (by assumption) ?rest29
  case hy29 =>
    intro W hSw
    try dsimp only at hSw
    go_simp
    first | done | with_reducible rfl
  try simp only [Act.put, List.setIfInBounds_toArray, List.set_cons_zero, List.set_cons_succ]
  refine wpAnyH_ready (rs := [2, 3]) (by as_aux_lemma => kernel_rfl) (by simp) ?_
  refine AllReadyH.cons (by simp only [List.getElem?_toArray, List.getElem?_cons_succ, List.getElem?_cons_zero]; rfl) (fun K hK => ?_) (AllReadyH.cons (by simp only [List.getElem?_toArray, List.getElem?_cons_succ, List.getElem?_cons_zero]; rfl) (fun K hK => ?_) AllReadyH.nil)
  · go_simp
    refine (C13.out _ (by assumption)).mono ?_
    rintro e wl ⟨rfl, kp⟩
    unfold arrV
    go_wp2_with fail
    refine hK.out _ _ (held_call (by assumption) LT7.out (by assumption)) (fun hHeld30 => ?_)
    clear hK K
    try simp only [Act.put, List.setIfInBounds_toArray, List.set_cons_zero, List.set_cons_succ]
    have own0 : (wl.alloc (.cells #[] 5)).ownsRow w7.heap.size 5 1 (.slice (some ⟨wl.heap.size, 0, none⟩) 0 0) 0 [] := World.ownsRow_made (base := w7.heap.size) (e := 5) (size := 1) wl #[] 0 (And.right (by assumption) : Keep Non w7 wl).size (by decide) rfl
    refine wpAnyH_ready (rs := [3]) (by as_aux_lemma => kernel_rfl) (by simp) ?_
    refine AllReadyH.cons (by simp only [List.getElem?_toArray, List.getElem?_cons_succ, List.getElem?_cons_zero]; rfl) (fun K hK => ?_) AllReadyH.nil
    go_simp
    refine hK.out _ _ (held_call (by assumption) LT7.out ((Keep.refl _ _).alloc _)) (fun hHeld31 => ?_)
    clear hK K
    try simp only [Act.put, List.setIfInBounds_toArray, List.set_cons_zero, List.set_cons_succ]
    refine wpAnyH_ready (rs := [5]) (by as_aux_lemma => kernel_rfl) (by simp) ?_
    refine AllReadyH.cons (by simp only [List.getElem?_toArray, List.getElem?_cons_succ, List.getElem?_cons_zero]; rfl) (fun K hK => ?_) AllReadyH.nil
    refine step_append_rd (by rfl) (.tmp 46) (.tmp 47) 22 (by rfl) w7.heap.size 5 i0 (.int .u8 0) 1 Tryd.underlying22 hi0 hz0 hz1 hz2 rfl _ _ _ (by rfl) own0 (.slice (some ⟨w.heap.size, 0, none⟩) 32 32) (by simp [Act.eval]) (D.map bv) (rd_range HD.out (And.left (by assumption))) (oneCell_bytes D) (by have := HD.out; unfold maxLen; simp; omega) (by have := HD.out; simp; omega) (And.right (by assumption) : Keep Non w7 _).size ?_
    intro vA wA hoA hgA hpA
    have KKA : Keep Non w7 wA := (And.right (by assumption) : Keep Non w7 _).grown hgA (fun q e => .inr (World.ownsRow.lt own0 q e).1)
    clear hgA hpA
    refine hK.out _ _ (held_of A7.out LT7.out KKA) (fun hHeld32 => ?_)
    clear hK K
    try simp only [Act.put, List.setIfInBounds_toArray, List.set_cons_zero, List.set_cons_succ]
    refine wpAnyH_ready (rs := [7]) (by as_aux_lemma => kernel_rfl) (by simp) ?_
    refine AllReadyH.cons (by simp only [List.getElem?_toArray, List.getElem?_cons_succ, List.getElem?_cons_zero]; rfl) (fun K hK => ?_) AllReadyH.nil
    refine step_append_rd (by rfl) (.tmp 48) (.tmp 49) 22 (by rfl) w7.heap.size 5 i0 (.int .u8 0) 1 Tryd.underlying22 hi0 hz0 hz1 hz2 rfl _ _ _ (by rfl) hoA (.slice a l.length cap) (by simp [Act.eval]) (l.map bv) ((HB.out.keepNon K7.out).keepNon KKA) (oneCell_bytes l) (by have := HD.out; unfold maxLen; simp; omega) (by have := HD.out; simp; omega) KKA.size ?_
    intro vB wB hoB hgB hpB
    have KKB : Keep Non w7 wB := (And.right (by assumption) : Keep Non w7 _).grown hgB (fun q e => .inr (World.ownsRow.lt hoA q e).1)
    clear hgB hpB
    refine hK.out _ _ (held_of A7.out LT7.out KKB) (fun hHeld33 => ?_)
    clear hK K
    try simp only [Act.put, List.setIfInBounds_toArray, List.set_cons_zero, List.set_cons_succ]
    rw [List.nil_append, ← List.map_append, show 0 + (List.map bv D).length + (List.map bv l).length = (D ++ l).length by simp, ← MD.out] at hoB
    obtain ⟨xa, xc, rfl, _, _⟩ := ownsRow_form hoB
    have CR := Lib.hid (rsum_any M xa xc x y c d wB (Rd.ofOwns hoB) ((X4.out.keepNon K47.out).keepNon KKB) ((Y4.out.keepNon K47.out).keepNon KKB) (by have := ML.out; omega))
    clear hoA hoB own0
    refine wpAnyH_ready (rs := [10]) (by as_aux_lemma => kernel_rfl) (by simp) ?_
    refine AllReadyH.cons (by simp only [List.getElem?_toArray, List.getElem?_cons_succ, List.getElem?_cons_zero]; rfl) (fun K hK => ?_) AllReadyH.nil
    go_simp
    with_reducible refine CR.out.mono ?_
    rintro e wr ⟨rfl, kp⟩
    unfold arrV
    go_wp2_with fail
    refine hK.out _ _ (held_call (by assumption) LT7.out (by assumption)) (fun hHeld34 => ?_)
    clear hK K
    try simp only [Act.put, List.setIfInBounds_toArray, List.set_cons_zero, List.set_cons_succ]
    refine take_calm (i := 11) (v := ?v35) (by simp only [List.getElem?_toArray, List.getElem?_cons_succ, List.getElem?_cons_zero]; rfl) (by as_aux_lemma => kernel_rfl) (by as_aux_lemma => kernel_rfl) (by as_aux_lemma => kernel_rfl) (fun _ _ _ h => h) (Or.inl ⟨by rfl, ?hy35⟩) (by assumption) ?rest35
    case hy35 =>
      intro W hSw
      try dsimp only at hSw
      go_simp
      first | done | with_reducible rfl
    try simp only [Act.put, List.setIfInBounds_toArray, List.set_cons_zero, List.set_cons_succ]
    refine take_calm (i := 12) (v := ?v36) (by simp only [List.getElem?_toArray, List.getElem?_cons_succ, List.getElem?_cons_zero]; rfl) (by as_aux_lemma => kernel_rfl) (by as_aux_lemma => kernel_rfl) (by as_aux_lemma => kernel_rfl) (fun _ _ _ h => h) (Or.inl ⟨by rfl, ?hy36⟩) (by assumption) ?rest36
    case hy36 =>
      intro W hSw
      try dsimp only at hSw
      go_simp
      first | done | with_reducible rfl
    try simp only [Act.put, List.setIfInBounds_toArray, List.set_cons_zero, List.set_cons_succ]
    refine take_calm (i := 13) (v := ?v37) (by simp only [List.getElem?_toArray, List.getElem?_cons_succ, List.getElem?_cons_zero]; rfl) (by as_aux_lemma => kernel_rfl) (by as_aux_lemma => kernel_rfl) (by as_aux_lemma => kernel_rfl) (fun _ _ _ h => h) (Or.inl ⟨by rfl, ?hy37⟩) (by assumption) ?rest37
    case hy37 =>
      intro W hSw
      try dsimp only at hSw
      go_simp
      first | done | with_reducible rfl
    try simp only [Act.put, List.setIfInBounds_toArray, List.set_cons_zero, List.set_cons_succ]
    refine take_calm (i := 14) (v := ?v38) (by simp only [List.getElem?_toArray, List.getElem?_cons_succ, List.getElem?_cons_zero]; rfl) (by as_aux_lemma => kernel_rfl) (by as_aux_lemma => kernel_rfl) (by as_aux_lemma => kernel_rfl) (fun _ _ _ h => h) (Or.inl ⟨by rfl, ?hy38⟩) (by assumption) ?rest38
    case hy38 =>
      intro W hSw
      try dsimp only at hSw
      go_simp
      first | done | with_reducible rfl
    try simp only [Act.put, List.setIfInBounds_toArray, List.set_cons_zero, List.set_cons_succ]
    refine wpAnyH_ready (rs := [15]) (by as_aux_lemma => kernel_rfl) (by simp) ?_
    refine AllReadyH.cons (by simp only [List.getElem?_toArray, List.getElem?_cons_succ, List.getElem?_cons_zero]; rfl) (fun K hK => ?_) AllReadyH.nil
    go_simp
    refine (C14.out _ (by assumption)).mono ?_
    rintro e wx ⟨rfl, rfl⟩
    go_wp2_with fail
    refine hK.out _ _ (by assumption) (fun hHeld39 => ?_)
    clear hK K
    try simp only [Act.put, List.setIfInBounds_toArray, List.set_cons_zero, List.set_cons_succ]
    refine take_calm (i := 16) (v := ?v40) (by simp only [List.getElem?_toArray, List.getElem?_cons_succ, List.getElem?_cons_zero]; rfl) (by as_aux_lemma => kernel_rfl) (by as_aux_lemma => kernel_rfl) (by as_aux_lemma => kernel_rfl) (fun _ _ _ h => h) (Or.inl ⟨by rfl, ?hy40⟩) (by assumption) ?rest40
    case hy40 =>
      intro W hSw
      try dsimp only at hSw
      go_simp
      first | done | with_reducible rfl
    try simp only [Act.put, List.setIfInBounds_toArray, List.set_cons_zero, List.set_cons_succ]
    refine take_calm (i := 17) (v := ?v41) (by simp only [List.getElem?_toArray, List.getElem?_cons_succ, List.getElem?_cons_zero]; rfl) (by as_aux_lemma => kernel_rfl) (by as_aux_lemma => kernel_rfl) (by as_aux_lemma => kernel_rfl) (fun _ _ _ h => h) (Or.inl ⟨by rfl, ?hy41⟩) (by assumption) ?rest41
    case hy41 =>
      intro W hSw
      try dsimp only at hSw
      go_simp
      first | done | with_reducible rfl
    try simp only [Act.put, List.setIfInBounds_toArray, List.set_cons_zero, List.set_cons_succ]
    refine wpAnyH_done (by as_aux_lemma => kernel_rfl) ?_ _
    refine NoPanic.normal ?_
    go_wp2_with fail
    go_ret
    exact ⟨rfl, K7.out.trans1 (And.right (by assumption) : Keep Non w7 _)⟩
  · go_simp
    refine hK.out _ _ (held_call (by assumption) LT7.out ((Keep.refl _ _).alloc _)) (fun hHeld42 => ?_)
    clear hK K
    try simp only [Act.put, List.setIfInBounds_toArray, List.set_cons_zero, List.set_cons_succ]
    have own1 : (w7.drew.alloc (.cells #[] 5)).ownsRow w7.heap.size 5 1 (.slice (some ⟨w7.heap.size, 0, none⟩) 0 0) 0 [] := World.ownsRow_made (base := w7.heap.size) (e := 5) (size := 1) w7.drew #[] 0 (Nat.le_refl _) (by decide) rfl
    refine wpAnyH_ready (rs := [2]) (by as_aux_lemma => kernel_rfl) (by simp) ?_
    refine AllReadyH.cons (by simp only [List.getElem?_toArray, List.getElem?_cons_succ, List.getElem?_cons_zero]; rfl) (fun K hK => ?_) AllReadyH.nil
    go_simp
    refine (C13.out _ (by assumption)).mono ?_
    rintro e wl ⟨rfl, kp⟩
    unfold arrV
    go_wp2_with fail
    refine hK.out _ _ (held_call (by assumption) LT7.out (by assumption)) (fun hHeld43 => ?_)
    clear hK K
    try simp only [Act.put, List.setIfInBounds_toArray, List.set_cons_zero, List.set_cons_succ]
    have own0 := ownsRow_keep own1 kp (fun _ _ h => h)
    refine wpAnyH_ready (rs := [5]) (by as_aux_lemma => kernel_rfl) (by simp) ?_
    refine AllReadyH.cons (by simp only [List.getElem?_toArray, List.getElem?_cons_succ, List.getElem?_cons_zero]; rfl) (fun K hK => ?_) AllReadyH.nil
    refine step_append_rd (by rfl) (.tmp 46) (.tmp 47) 22 (by rfl) w7.heap.size 5 i0 (.int .u8 0) 1 Tryd.underlying22 hi0 hz0 hz1 hz2 rfl _ _ _ (by rfl) own0 (.slice (some ⟨w.heap.size, 0, none⟩) 32 32) (by simp [Act.eval]) (D.map bv) (rd_range HD.out (And.left (by assumption))) (oneCell_bytes D) (by have := HD.out; unfold maxLen; simp; omega) (by have := HD.out; simp; omega) (And.right (by assumption) : Keep Non w7 _).size ?_
    intro vA wA hoA hgA hpA
    have KKA : Keep Non w7 wA := (And.right (by assumption) : Keep Non w7 _).grown hgA (fun q e => .inr (World.ownsRow.lt own0 q e).1)
    clear hgA hpA
    refine hK.out _ _ (held_of A7.out LT7.out KKA) (fun hHeld44 => ?_)
    clear hK K
    try simp only [Act.put, List.setIfInBounds_toArray, List.set_cons_zero, List.set_cons_succ]
    refine wpAnyH_ready (rs := [7]) (by as_aux_lemma => kernel_rfl) (by simp) ?_
    refine AllReadyH.cons (by simp only [List.getElem?_toArray, List.getElem?_cons_succ, List.getElem?_cons_zero]; rfl) (fun K hK => ?_) AllReadyH.nil
    refine step_append_rd (by rfl) (.tmp 48) (.tmp 49) 22 (by rfl) w7.heap.size 5 i0 (.int .u8 0) 1 Tryd.underlying22 hi0 hz0 hz1 hz2 rfl _ _ _ (by rfl) hoA (.slice a l.length cap) (by simp [Act.eval]) (l.map bv) ((HB.out.keepNon K7.out).keepNon KKA) (oneCell_bytes l) (by have := HD.out; unfold maxLen; simp; omega) (by have := HD.out; simp; omega) KKA.size ?_
    intro vB wB hoB hgB hpB
    have KKB : Keep Non w7 wB := (And.right (by assumption) : Keep Non w7 _).grown hgB (fun q e => .inr (World.ownsRow.lt hoA q e).1)
    clear hgB hpB
    refine hK.out _ _ (held_of A7.out LT7.out KKB) (fun hHeld45 => ?_)
    clear hK K
    try simp only [Act.put, List.setIfInBounds_toArray, List.set_cons_zero, List.set_cons_succ]
    rw [List.nil_append, ← List.map_append, show 0 + (List.map bv D).length + (List.map bv l).length = (D ++ l).length by simp, ← MD.out] at hoB
    obtain ⟨xa, xc, rfl, _, _⟩ := ownsRow_form hoB
    have CR := Lib.hid (rsum_any M xa xc x y c d wB (Rd.ofOwns hoB) ((X4.out.keepNon K47.out).keepNon KKB) ((Y4.out.keepNon K47.out).keepNon KKB) (by have := ML.out; omega))
    clear hoA hoB own0
    refine wpAnyH_ready (rs := [10]) (by as_aux_lemma => kernel_rfl) (by simp) ?_
    refine AllReadyH.cons (by simp only [List.getElem?_toArray, List.getElem?_cons_succ, List.getElem?_cons_zero]; rfl) (fun K hK => ?_) AllReadyH.nil
    go_simp
    with_reducible refine CR.out.mono ?_
    rintro e wr ⟨rfl, kp⟩
    unfold arrV
    go_wp2_with fail
    refine hK.out _ _ (held_call (by assumption) LT7.out (by assumption)) (fun hHeld46 => ?_)
    clear hK K
    try simp only [Act.put, List.setIfInBounds_toArray, List.set_cons_zero, List.set_cons_succ]
    refine take_calm (i := 11) (v := ?v47) (by simp only [List.getElem?_toArray, List.getElem?_cons_succ, List.getElem?_cons_zero]; rfl) (by as_aux_lemma => kernel_rfl) (by as_aux_lemma => kernel_rfl) (by as_aux_lemma => kernel_rfl) (fun _ _ _ h => h) (Or.inl ⟨by rfl, ?hy47⟩) (by assumption) ?rest47
    case hy47 =>
      intro W hSw
      try dsimp only at hSw
      go_simp
      first | done | with_reducible rfl
    try simp only [Act.put, List.setIfInBounds_toArray, List.set_cons_zero, List.set_cons_succ]
    refine take_calm (i := 12) (v := ?v48) (by simp only [List.getElem?_toArray, List.getElem?_cons_succ, List.getElem?_cons_zero]; rfl) (by as_aux_lemma => kernel_rfl) (by as_aux_lemma => kernel_rfl) (by as_aux_lemma => kernel_rfl) (fun _ _ _ h => h) (Or.inl ⟨by rfl, ?hy48⟩) (by assumption) ?rest48
    case hy48 =>
      intro W hSw
      try dsimp only at hSw
      go_simp
      first | done | with_reducible rfl
    try simp only [Act.put, List.setIfInBounds_toArray, List.set_cons_zero, List.set_cons_succ]
    refine take_calm (i := 13) (v := ?v49) (by simp only [List.getElem?_toArray, List.getElem?_cons_succ, List.getElem?_cons_zero]; rfl) (by as_aux_lemma => kernel_rfl) (by as_aux_lemma => kernel_rfl) (by as_aux_lemma => kernel_rfl) (fun _ _ _ h => h) (Or.inl ⟨by rfl, ?hy49⟩) (by assumption) ?rest49
    case hy49 =>
      intro W hSw
      try dsimp only at hSw
      go_simp
      first | done | with_reducible rfl
    try simp only [Act.put, List.setIfInBounds_toArray, List.set_cons_zero, List.set_cons_succ]
    refine take_calm (i := 14) (v := ?v50) (by simp only [List.getElem?_toArray, List.getElem?_cons_succ, List.getElem?_cons_zero]; rfl) (by as_aux_lemma => kernel_rfl) (by as_aux_lemma => kernel_rfl) (by as_aux_lemma => kernel_rfl) (fun _ _ _ h => h) (Or.inl ⟨by rfl, ?hy50⟩) (by assumption) ?rest50
    case hy50 =>
      intro W hSw
      try dsimp only at hSw
      go_simp
      first | done | with_reducible rfl
    try simp only [Act.put, List.setIfInBounds_toArray, List.set_cons_zero, List.set_cons_succ]
    refine wpAnyH_ready (rs := [15]) (by as_aux_lemma => kernel_rfl) (by simp) ?_
    refine AllReadyH.cons (by simp only [List.getElem?_toArray, List.getElem?_cons_succ, List.getElem?_cons_zero]; rfl) (fun K hK => ?_) AllReadyH.nil
    go_simp
    refine (C14.out _ (by assumption)).mono ?_
    rintro e wx ⟨rfl, rfl⟩
    go_wp2_with fail
    refine hK.out _ _ (by assumption) (fun hHeld51 => ?_)
    clear hK K
    try simp only [Act.put, List.setIfInBounds_toArray, List.set_cons_zero, List.set_cons_succ]
    refine take_calm (i := 16) (v := ?v52) (by simp only [List.getElem?_toArray, List.getElem?_cons_succ, List.getElem?_cons_zero]; rfl) (by as_aux_lemma => kernel_rfl) (by as_aux_lemma => kernel_rfl) (by as_aux_lemma => kernel_rfl) (fun _ _ _ h => h) (Or.inl ⟨by rfl, ?hy52⟩) (by assumption) ?rest52
    case hy52 =>
      intro W hSw
      try dsimp only at hSw
      go_simp
      first | done | with_reducible rfl
    try simp only [Act.put, List.setIfInBounds_toArray, List.set_cons_zero, List.set_cons_succ]
    refine take_calm (i := 17) (v := ?v53) (by simp only [List.getElem?_toArray, List.getElem?_cons_succ, List.getElem?_cons_zero]; rfl) (by as_aux_lemma => kernel_rfl) (by as_aux_lemma => kernel_rfl) (by as_aux_lemma => kernel_rfl) (fun _ _ _ h => h) (Or.inl ⟨by rfl, ?hy53⟩) (by assumption) ?rest53
    case hy53 =>
      intro W hSw
      try dsimp only at hSw
      go_simp
      first | done | with_reducible rfl
    try simp only [Act.put, List.setIfInBounds_toArray, List.set_cons_zero, List.set_cons_succ]
    refine wpAnyH_done (by as_aux_lemma => kernel_rfl) ?_ _
    refine NoPanic.normal ?_
    go_wp2_with fail
    go_ret
    exact ⟨rfl, K7.out.trans1 (And.right (by assumption) : Keep Non w7 _)⟩

set_option maxRecDepth 100000 in
set_option maxHeartbeats 1600000 in
theorem sums_long (a : Option Addr) (cap n : Nat) (D : List UInt8) (w : World) (hl : 1000 < n) (hk : Kon w) (hf : Frs w) :
    Calls Tryd.prog 4 #[.slice a n cap, arrV D] w fun e w' => e = .returned (.bool true) ∧ Keep Non w w' := by
  have HK := Lib.hid hk
  have HF := Lib.hid hf
  have h1000 : (1000 : Int) < (n : Int) := by omega
  clear hk hf
  unfold arrV
  go_enter Tryd.func4, Tryd.ntmps4
  go_wp2_with fail
  refine (alive_any _ (HK.out.keep ((Keep.refl _ _).alloc _)) (HF.out.keep ((Keep.refl _ _).alloc _))).mono ?_
  rintro e w2 ⟨rfl, k2⟩
  have K2 := Lib.hid (((Keep.refl Non w).alloc _).trans1 k2)
  clear k2
  go_wp2_with fail
  go_ret
  exact ⟨rfl, K2.out⟩
end

theorem sums_any (H : Type) (enc : TypeId × Value → H) (W : World) {a : Option Addr} {len cap : Nat} {d : DataW H} {p : List MemPlace}
    (h : DataW.Trod enc Tryd.prog W 0 (fun _ => true) true 22 (.slice a len cap) d p) (D : List UInt8) (hD : D.length = 32) (hk : Kon W) (hf : Frs W) :
    Calls Tryd.prog 4 #[.slice a len cap, arrV D] W fun e w' => e = .returned (.bool true) ∧ Keep Non W w' := by
  by_cases hl : 1000 < len
  · exact sums_long a cap len D W hl hk hf
  · obtain ⟨m, hm⟩ := h
    obtain ⟨a1, l, c1, e1, hb, _⟩ := open_bytes Tryd.underlying22 Tryd.underlying5 (by kernel_rfl) (by simpa [Value.cells] using hm)
    injection e1 with e1 e2 e3
    subst e1 e2 e3
    exact sums_some l a cap D hD W hb (by omega) hk hf

end Go.Proofs.YtcjjhgecmnfmdaaDoor
