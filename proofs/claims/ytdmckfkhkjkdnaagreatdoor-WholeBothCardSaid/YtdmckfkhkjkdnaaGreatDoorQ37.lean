/- (*Export).commit: walked (printed by wip/xcomm.py). -/
import Derived.Test.YtdmckfkhkjkdnaaGreatDoorQ35
set_option linter.unusedVariables false
set_option maxRecDepth 100000
set_option maxHeartbeats 16000000
namespace Go.Proofs.YtdmckfkhkjkdnaaGreatDoor
open Go.RowKit Go.Maps
structure CmEnd (WX : World) (m : Mf) (v : Value) (nb : Nat) (W5 : World) : Prop where
  bx : W5.heap[nb]? = some (MfB m v)
  lo : WX.heap.size ≤ nb
  kp : Keep Non WX W5
  row : W5.ownsRow WX.heap.size 190 35 v m.parts.length (ptsC m.parts)
theorem cm_endA {W4 w6 : World} {m : Mf} {v : Value} {B : Nat} (k6 : Keep Non W4 w6) (o : w6.ownsRow B 190 35 v m.parts.length (ptsC m.parts)) (hB : W4.heap.size ≤ B) : CmEnd W4 m v w6.heap.size (w6.alloc (MfB m v)) :=
  ⟨blk_new _ _, k6.size, k6.alloc _, ownsRow_low (ownsRow_keep o ((Keep.refl Non _).alloc _) (fun _ _ e => e)) hB⟩
theorem cm_endR {W4 w6 : World} {m : Mf} {v : Value} {B nb : Nat} (k6 : Keep Non W4 w6) (hb : w6.heap[nb]? = some (.cells zMf 102 (0, 0))) (h1 : W4.heap.size ≤ nb) (o : w6.ownsRow B 190 35 v m.parts.length (ptsC m.parts)) (hB : nb < B) :
    CmEnd W4 m v nb (w6.setRow nb (mfC m v).toArray) := by
  have k : Keep (One nb) w6 (w6.setRow nb (mfC m v).toArray) := (Keep.refl (One nb) _).setRow (.inl (one_self _)) _
  exact ⟨setRow_heap _ _ _ _ _ _ hb, h1, k6.trans k (fun _ _ e => e) (fun g hg e => by have e' : g = nb := e; omega), ownsRow_low (ownsRow_keep o k (fun g e e2 => by have e' : g = nb := e2; have := (o.lt g e).1; omega)) (by omega)⟩
def CmOut (F FL : Nat → Prop) (w : World) (x b lb q p : Nat) (c : Cu) (pv : Value) (Z : Dk) (L : Lg) (w' : World) : Prop :=
  ∃ F2 v3 T, Sub F2 F w ∧ Keep (fun g => F g ∨ g = x ∨ g = b) w w' ∧ ExSt F2 FL w' x b lb q p v3 c pv true Z L ∧ MsAt T w' v3 [exM c] ∧ ∀ g, T g → ¬ F2 g ∧ g ≠ b ∧ g < w'.heap.size ∧ w.heap.size ≤ g
theorem lt_of_cell {w : World} {g i : Nat} {v : Value} (e : w.cell? ⟨g, i, none⟩ = some v) : g < w.heap.size := by
  rcases Nat.lt_or_ge g w.heap.size with q | q
  · exact q
  · rw [World.cell?, Array.getElem?_eq_none q] at e
    cases e
def Big (w : World) (g : Nat) : Prop := ∃ i v, 30 ≤ i ∧ w.cell? ⟨g, i, none⟩ = some v
theorem Big.lt {w : World} {g : Nat} (h : Big w g) : g < w.heap.size := by obtain ⟨i, v, _, e⟩ := h; exact lt_of_cell e
theorem Big.ne {w : World} {g x b lb : Nat} {c : Cu} {pv : Value} {ov : Bool} (h : Big w g) (hx : w.heap[x]? = some (ExB b lb c pv ov)) : g ≠ x := by
  obtain ⟨i, v, hi, e⟩ := h
  rintro rfl
  simp only [World.cell?, hx, ExB] at e
  rw [Array.getElem?_eq_none (by simp; omega)] at e
  cases e
theorem MsAt.low1 {T : Nat → Prop} {w : World} {v : Value} {m : Mf} (h : MsAt T w v [m]) (hne : 0 < m.parts.length) (h32 : pts32 m.parts) : MsAt (fun g => T g ∧ Big w g) w v [m] := by
  obtain ⟨a, c, e, hc, ha, hx⟩ := h
  obtain ⟨hp, g, off, pa, pc, e2, hpt, hT, hcell⟩ := hx 0 m rfl
  have hg : Big w g := ⟨_, _, by omega, hcell 36 _ (mfc_36 m _ hp)⟩
  have hpa : ∀ g, (Value.slice pa m.parts.length pc).ownBlock = some g → Big w g := fun g' eg => by
    obtain ⟨a1, c1, e3, _, _, hy⟩ := hpt
    injection e3 with e3 _ e4
    subst e3
    obtain ⟨g1, o1, e5, hc1⟩ := hy 0 m.parts[0] (List.getElem?_eq_getElem hne)
    subst e5
    have hl : (ptC m.parts[0]).length = 35 := ptC_len (h32 _ (List.getElem_mem _))
    have hb : Big w g1 := ⟨_, _, by omega, hc1 34 _ (List.getElem?_eq_getElem (by omega))⟩
    have : g1 = g' := by
      simp [Value.ownBlock] at eg
      omega
    rw [← this]
    exact hb
  refine ⟨a, c, e, hc, fun ad ead => ?_, fun j m' hj => ?_⟩
  · rw [e2] at ead
    injection ead with ead
    subst ead
    obtain ⟨g', off', e3, t⟩ := ha ⟨g, off, none⟩ e2
    injection e3 with e3 e4
    subst e3
    subst e4
    exact ⟨g, off, rfl, t, hg⟩
  · cases j with
    | succ j => simp at hj
    | zero =>
      simp at hj
      subst hj
      exact ⟨hp, g, off, pa, pc, e2, hpt, fun g' eg => ⟨hT g' eg, hpa g' eg⟩, hcell⟩
section
attribute [local go_sem ↓] hV41 hV190 hV102 hW41 hW190 hW102 hB190 hB102
theorem xcommit_ok {F FL : Nat → Prop} {x b lb q p : Nat} {c : Cu} {pv : Value} {X : Dk} {L : Lg} (w : World) (h : ExSt F FL w x b lb q p (.slice none 0 0) c pv false X L) (hi : PInv L X c) (hd : c.next = c.hi) (Y : Dk) (hcd : X.sput (titleN 0) (mfBy (exM c)) = (0, Y)) (hmild : Y.mild) (hmap : IsMap Y.shown) (hdel : (Y.sdel cname).1 = 0) :
    Calls Tryz.prog 145 #[.pointer (some ⟨x, 0, none⟩)] w fun e w' => e = .returned .nilIface ∧ CmOut F FL w x b lb q p c pv (Y.sdel cname).2 L w' := by
  have H := Lib.hid h
  have HI := Lib.hid hi
  have h4 := hi.few4
  have hok := exM_ok hi hd
  obtain ⟨m, hm⟩ : ∃ m, m = exM c := ⟨_, rfl⟩
  have hm' : firstM c.lo (endPts c.lo c.parts) c.trim c.parts = m := by rw [hm, exM, hi.lo, hi.trim, hok.2]
  have hmp : m.parts = c.parts := by rw [hm]; rfl
  have hln := exM_len hi hd
  have OKM := Lib.hid hok.1
  rw [← hm] at OKM hln hcd
  have M32 : Hid (m.prev.length = 32) := Lib.hid OKM.out.prev
  have P32 : Hid (pts32 m.parts) := Lib.hid (by rw [hmp]; exact hi.ok.p32)
  have NX0 : Hid (∀ W v, PtsAt W v c.parts → Calls Tryz.prog 215 #[.slice none 0 0, .int .i64 c.lo, .int .i64 c.trim, v] W fun e w' => ∃ v', e = .returned (.tuple #[mfV m v', .nilIface]) ∧ Keep Non W w' ∧ w'.ownsRow W.heap.size 190 35 v' m.parts.length (ptsC m.parts)) := Lib.hid (fun W v hv => by
    have := chnext_nil none 0 c.lo c.trim v c.parts W hv hi.ok.p32 (by omega) hi.ok.parts (by rw [hi.ok.stop]; have := hi.ok.le; have := hi.ok.hi; omega) hi.ok.trim
    rw [hm', ← hmp] at this
    exact this)
  have CM0 : Hid (∀ W v, Keep Non w W → PtsAt W v m.parts → Calls Tryz.prog 216 #[.pointer (some ⟨b, 0, none⟩), mfV m v] W fun e w' => e = .returned .nilIface ∧ Keep (fun g => F g ∨ g = b) W w' ∧ ∃ v3 T F', Sub F' F W ∧ ¬ F' b ∧ (∀ g, T g → ¬ F' g ∧ g ≠ b ∧ W.heap.size ≤ g) ∧ MsAt T w' v3 [m] ∧ StoreAt F' w' q p Y ∧ w'.heap[b]? = some (VtB q v3)) := Lib.hid (fun W v k hv => by
    have hnum : m.num = 0 := by rw [hm]; rfl
    have := vcomm_ok F b q p m v X _ _ _ W (nonAt k H.out.vt) (H.out.st.keep k (fun _ _ e => e)) (fun g y => ⟨(H.out.low g y).1, k.lt (H.out.low g y).2⟩) H.out.out.2.1 hi.lim (by omega) (by omega) (by omega) hi.free.1 (H.out.lay.keepNon k) hv OKM.out hnum (by rw [hmp]; omega) P32.out (by rw [hmp]; exact hi.segs) (by omega) 0 (by rw [hcd]) rfl
    rw [hcd] at this
    exact this)
  have CH : Hid (∀ W, Keep Non w W → Calls Tryz.prog 11 #[.pointer (some ⟨b, 0, none⟩)] W fun e w' => e = .returned (.slice none 0 0) ∧ Keep Non W w') := Lib.hid (fun W k => vchain_nil b q none 0 W (nonAt k H.out.vt))
  obtain ⟨pa, pc, rfl, _, _⟩ := ownsRow_form h.row
  have NX : Hid (∀ W, Keep Non w W → Calls Tryz.prog 215 #[.slice none 0 0, .int .i64 c.lo, .int .i64 c.trim, .slice pa c.parts.length pc] W fun e w' => ∃ v', e = .returned (.tuple #[mfV m v', .nilIface]) ∧ Keep Non W w' ∧ w'.ownsRow W.heap.size 190 35 v' m.parts.length (ptsC m.parts)) := Lib.hid (fun W k => NX0.out W _ (PtsAt.of (ownsRow_keep H.out.row k (fun _ _ e => e)) HI.out.ok.p32))
  have LSw : Hid (∀ W, Keep Non w W → W.cell? ⟨x, 0, none⟩ = some (.pointer (some ⟨b, 0, none⟩)) ∧ W.cell? ⟨x, 2, none⟩ = some (.int .i64 c.lo) ∧ W.cell? ⟨x, 5, none⟩ = some (.int .i64 c.trim) ∧ W.cell? ⟨x, 6, none⟩ = some (.slice pa c.parts.length pc)) := Lib.hid (fun W k => by
    have hxx := nonAt k H.out.ex
    exact ⟨ex_0 hxx, ex_2 hxx, ex_5 hxx, ex_6 hxx⟩)
  obtain ⟨WX, hWX⟩ : ∃ WX, WX = w.drew := ⟨_, rfl⟩
  have KX : Hid (Keep Non w WX) := Lib.hid (by rw [hWX]; exact (Keep.refl _ _).drew)
  have HW : Hid (w.drew = WX) := Lib.hid hWX.symm
  have LS := Lib.hid (fun W (k : Keep Non WX W) => LSw.out W (KX.out.trans1 k))
  have LS1 := Lib.hid (LSw.out w.drew (Keep.refl _ _).drew)
  have LZ : Hid (WX.heap.size ≤ WX.heap.size) := Lib.hid (Nat.le_refl _)
  have CH := Lib.hid (fun W (k : Keep Non WX W) => CH.out W (KX.out.trans1 k))
  have NX := Lib.hid (fun W (k : Keep Non WX W) => NX.out W (KX.out.trans1 k))
  have HMP : Hid (m.parts = c.parts) := Lib.hid hmp
  have HMX : Hid (m = exM c) := Lib.hid hm
  have HPOS : Hid (0 < m.parts.length) := Lib.hid (by rw [hmp]; have := hi.stand; have := hi.pos; omega)
  have HDEL : Hid ((Y.sdel cname).1 = 0) := Lib.hid hdel
  have CL0 : Hid (∀ W F', StoreAt F' W q p Y → Calls Tryz.prog 81 #[.pointer (some ⟨q, 0, none⟩), .string ⟨cname.toArray⟩] W fun e w' => e = .returned .nilIface ∧ StoreTo F' W q p (Y.sdel cname).2 w') := Lib.hid (fun W F' d => by
    refine (cuclear_any F' q p cname Y W d hmild hmap cname_ok).mono ?_
    rintro e w' ⟨rfl, t⟩
    rw [hdel]
    exact ⟨rfl, t⟩)
  clear h hi hm hm' hok hln hWX LSw NX0 hmp hcd hmild hmap hdel
  go_enter Tryz.func145, Tryz.ntmps145
  go_wp2_with fail
  refine (fun (FIN : Hid ?T) => ?main) (Lib.hid ?fin)
  case' main => refine wp_region_noPanic ?_
  refine wp_region_held_drew (S := fun W => W.cell? ⟨x, 0, none⟩ = some (.pointer (some ⟨b, 0, none⟩)) ∧ W.cell? ⟨x, 2, none⟩ = some (.int .i64 c.lo) ∧ W.cell? ⟨x, 5, none⟩ = some (.int .i64 c.trim) ∧ W.cell? ⟨x, 6, none⟩ = some (.slice pa c.parts.length pc)) (by as_aux_lemma => kernel_rfl) LS1.out (fun hHeld => ?_)
  refine tc (i := 0) (v := ?v1) ?hy1 ?rest1
  case hy1 => intro W ⟨s0, s2, s5, s6⟩; go_simp; first | done | with_reducible rfl
  refine tc (i := 1) (v := ?v2) ?hy2 ?rest2
  case hy2 => intro W ⟨s0, s2, s5, s6⟩; go_simp; first | done | with_reducible rfl
  refine tc (i := 2) (v := ?v3) ?hy3 ?rest3
  case hy3 => intro W ⟨s0, s2, s5, s6⟩; go_simp; first | done | with_reducible rfl
  refine tc (i := 3) (v := ?v4) ?hy4 ?rest4
  case hy4 => intro W ⟨s0, s2, s5, s6⟩; go_simp; first | done | with_reducible rfl
  refine tc (i := 5) (v := ?v5) ?hy5 ?rest5
  case hy5 => intro W ⟨s0, s2, s5, s6⟩; go_simp; first | done | with_reducible rfl
  refine tc (i := 6) (v := ?v6) ?hy6 ?rest6
  case hy6 => intro W ⟨s0, s2, s5, s6⟩; go_simp; first | done | with_reducible rfl
  refine tc (i := 7) (v := ?v7) ?hy7 ?rest7
  case hy7 => intro W ⟨s0, s2, s5, s6⟩; go_simp; first | done | with_reducible rfl
  refine tc (i := 8) (v := ?v8) ?hy8 ?rest8
  case hy8 => intro W ⟨s0, s2, s5, s6⟩; go_simp; first | done | with_reducible rfl
  refine tc (i := 9) (v := ?v9) ?hy9 ?rest9
  case hy9 => intro W ⟨s0, s2, s5, s6⟩; go_simp; first | done | with_reducible rfl
  refine tc (i := 10) (v := ?v10) ?hy10 ?rest10
  case hy10 => intro W ⟨s0, s2, s5, s6⟩; go_simp; first | done | with_reducible rfl
  refine tc (i := 11) (v := ?v11) ?hy11 ?rest11
  case hy11 => intro W ⟨s0, s2, s5, s6⟩; go_simp; first | done | with_reducible rfl
  refine tc (i := 12) (v := ?v12) ?hy12 ?rest12
  case hy12 => intro W ⟨s0, s2, s5, s6⟩; go_simp; first | done | with_reducible rfl
  refine tc (i := 13) (v := ?v13) ?hy13 ?rest13
  case hy13 => intro W ⟨s0, s2, s5, s6⟩; go_simp; first | done | with_reducible rfl
  refine tc (i := 14) (v := ?v14) ?hy14 ?rest14
  case hy14 => intro W ⟨s0, s2, s5, s6⟩; go_simp; first | done | with_reducible rfl
  refine tc (i := 15) (v := ?v15) ?hy15 ?rest15
  case hy15 => intro W ⟨s0, s2, s5, s6⟩; go_simp; first | done | with_reducible rfl
  refine tc (i := 16) (v := ?v16) ?hy16 ?rest16
  case hy16 => intro W ⟨s0, s2, s5, s6⟩; go_simp; first | done | with_reducible rfl
  refine tc (i := 17) (v := ?v17) ?hy17 ?rest17
  case hy17 => intro W ⟨s0, s2, s5, s6⟩; go_simp; first | done | with_reducible rfl
  refine tc (i := 18) (v := ?v18) ?hy18 ?rest18
  case hy18 => intro W ⟨s0, s2, s5, s6⟩; go_simp; first | done | with_reducible rfl
  refine tc (i := 19) (v := ?v19) ?hy19 ?rest19
  case hy19 => intro W ⟨s0, s2, s5, s6⟩; go_simp; first | done | with_reducible rfl
  rw [HW.out]
  clear hHeld
  have hHeld := LS.out WX (Keep.refl _ _)
  refine wpAnyH_ready (rs := [4, 24]) (by as_aux_lemma => kernel_rfl) (by simp) ?_
  refine AllReadyH.cons (by simp only [List.getElem?_toArray, List.getElem?_cons_succ, List.getElem?_cons_zero]; rfl) (fun K hK => ?arm20_4) (AllReadyH.cons (by simp only [List.getElem?_toArray, List.getElem?_cons_succ, List.getElem?_cons_zero]; rfl) (fun K hK => ?arm20_24) AllReadyH.nil)
  case' arm20_4 =>
    go_simp
    refine (CH.out WX (Keep.refl Non WX)).mono ?_
    rintro e w21 ⟨rfl, t21⟩
    have k21 := Lib.hid (((Keep.refl Non WX)).trans1 t21)
    clear t21
    go_wp2_with fail
    refine hK.out _ _ (LS.out w21 k21.out) (fun hHeld21 => ?_)
    clear hK K
    try simp only [Act.put, List.setIfInBounds_toArray, List.set_cons_zero, List.set_cons_succ]
    refine wpAnyH_ready (rs := [20, 24]) (by as_aux_lemma => kernel_rfl) (by simp) ?_
    refine AllReadyH.cons (by simp only [List.getElem?_toArray, List.getElem?_cons_succ, List.getElem?_cons_zero]; rfl) (fun K hK => ?arm22_20) (AllReadyH.cons (by simp only [List.getElem?_toArray, List.getElem?_cons_succ, List.getElem?_cons_zero]; rfl) (fun K hK => ?arm22_24) AllReadyH.nil)
    case' arm22_20 =>
      go_simp
      refine (NX.out w21 k21.out).mono ?_
      rintro e w23 ⟨v6, rfl, t23, o23⟩
      obtain ⟨a6, c6, rfl⟩ : ∃ a c', v6 = .slice a m.parts.length c' := by obtain ⟨a, c', e, _, _⟩ := ownsRow_form o23; exact ⟨a, c', e⟩
      have k23 := Lib.hid ((k21.out).trans1 t23)
      have O23 := Lib.hid o23
      clear t23 o23
      go_wp2_with fail
      refine hK.out _ _ (LS.out w23 k23.out) (fun hHeld23 => ?_)
      clear hK K
      try simp only [Act.put, List.setIfInBounds_toArray, List.set_cons_zero, List.set_cons_succ]
      refine tc (i := 21) (v := ?v24) ?hy24 ?rest24
      case hy24 => intro W ⟨s0, s2, s5, s6⟩; go_simp; first | done | with_reducible rfl
      refine tc (i := 22) (v := ?v25) ?hy25 ?rest25
      case hy25 => intro W ⟨s0, s2, s5, s6⟩; go_simp; first | done | with_reducible rfl
      refine tc (i := 23) (v := ?v26) ?hy26 ?rest26
      case hy26 => intro W ⟨s0, s2, s5, s6⟩; go_simp; first | done | with_reducible rfl
      refine rc (i := 24) (fun K hK => ?_)
      go_simp
      have hst := store_mf0 w23 m a6 m.parts.length c6 M32.out
      dsimp only [zMf, MfB] at hst
      have E := Lib.hid (cm_endA (m := m) k23.out O23.out (k21.out).size)
      refine hK.out _ _ (LS.out _ ((k23.out).alloc _)) (fun hHeld27 => ?_)
      clear hK K
      try simp only [Act.put, List.setIfInBounds_toArray, List.set_cons_zero, List.set_cons_succ]
      refine rc (i := 25) (fun K hK => ?_)
      go_simp
      refine hK.out _ _ (LS.out _ ((k23.out).alloc _)) (fun hHeld28 => ?_)
      clear hK K
      try simp only [Act.put, List.setIfInBounds_toArray, List.set_cons_zero, List.set_cons_succ]
      refine tc (i := 26) (v := ?v29) ?hy29 ?rest29
      case hy29 => intro W ⟨s0, s2, s5, s6⟩; go_simp; first | done | with_reducible rfl
      refine wpAnyH_done (by as_aux_lemma => kernel_rfl) ?_ _
      refine NoPanic.normal ?_
      have e0 := E.out
      dsimp only [MfB] at e0
      generalize (w23.alloc _) = W5 at e0 ⊢
      generalize w23.heap.size = nb at e0 ⊢
      have E6 := Lib.hid e0
      try clear hst
      clear e0 E
      clear O23
      try clear hHeld21
      try clear hHeld23
      try clear hHeld27
      try clear hHeld28
      revert a6 c6 W5 nb
      exact FIN.out
    case' arm22_24 =>
      go_simp
      have k30 : Hid (Keep Non WX (w21.alloc (.cells zMf 102))) := Lib.hid ((k21.out).alloc _)
      have z30 : Hid ((w21.alloc (.cells zMf 102)).heap[w21.heap.size]? = some (.cells zMf 102 (0, 0))) := Lib.hid (blk_new w21 _)
      have y30 : Hid (WX.heap.size ≤ w21.heap.size) := Lib.hid ((k21.out).size)
      have l30 : Hid (w21.heap.size < (w21.alloc (.cells zMf 102)).heap.size) := Lib.hid (lt_of_block z30.out)
      obtain ⟨v30, hv30⟩ : ∃ v30, v30 = w21.alloc (.cells zMf 102) := ⟨_, rfl⟩
      rw [← hv30] at k30 z30 l30
      dsimp only [zMf] at hv30
      try rw [← hv30]
      clear hv30
      refine hK.out _ _ (LS.out v30 k30.out) (fun hHeld30 => ?_)
      clear hK K
      try simp only [Act.put, List.setIfInBounds_toArray, List.set_cons_zero, List.set_cons_succ]
      refine rc (i := 20) (fun K hK => ?_)
      go_simp
      refine (NX.out v30 k30.out).mono ?_
      rintro e w31 ⟨v6, rfl, t31, o31⟩
      obtain ⟨a6, c6, rfl⟩ : ∃ a c', v6 = .slice a m.parts.length c' := by obtain ⟨a, c', e, _, _⟩ := ownsRow_form o31; exact ⟨a, c', e⟩
      have k31 := Lib.hid ((k30.out).trans1 t31)
      have O31 := Lib.hid o31
      have z31 := Lib.hid (nonAt t31 z30.out)
      clear t31 o31
      go_wp2_with fail
      refine hK.out _ _ (LS.out w31 k31.out) (fun hHeld31 => ?_)
      clear hK K
      try simp only [Act.put, List.setIfInBounds_toArray, List.set_cons_zero, List.set_cons_succ]
      refine tc (i := 21) (v := ?v32) ?hy32 ?rest32
      case hy32 => intro W ⟨s0, s2, s5, s6⟩; go_simp; first | done | with_reducible rfl
      refine tc (i := 22) (v := ?v33) ?hy33 ?rest33
      case hy33 => intro W ⟨s0, s2, s5, s6⟩; go_simp; first | done | with_reducible rfl
      refine tc (i := 23) (v := ?v34) ?hy34 ?rest34
      case hy34 => intro W ⟨s0, s2, s5, s6⟩; go_simp; first | done | with_reducible rfl
      refine rc (i := 25) (fun K hK => ?_)
      have hst := store_mf w31 w21.heap.size m a6 m.parts.length c6 zMf M32.out rfl z31.out
      have E := Lib.hid (cm_endR (m := m) k31.out z31.out y30.out O31.out l30.out)
      go_simp
      refine hK.out _ _ (LS.out _ E.out.kp) (fun hHeld35 => ?_)
      clear hK K
      try simp only [Act.put, List.setIfInBounds_toArray, List.set_cons_zero, List.set_cons_succ]
      refine tc (i := 26) (v := ?v36) ?hy36 ?rest36
      case hy36 => intro W ⟨s0, s2, s5, s6⟩; go_simp; first | done | with_reducible rfl
      refine wpAnyH_done (by as_aux_lemma => kernel_rfl) ?_ _
      refine NoPanic.normal ?_
      have e0 := E.out
      generalize (w31.setRow _ _) = W5 at e0 ⊢
      generalize w21.heap.size = nb at e0 ⊢
      have E6 := Lib.hid e0
      try clear hst
      clear e0 E
      clear O31
      try clear hHeld21
      try clear hHeld30
      try clear hHeld31
      try clear hHeld35
      revert a6 c6 W5 nb
      exact FIN.out
  case' arm20_24 =>
    go_simp
    have k37 : Hid (Keep Non WX (WX.alloc (.cells zMf 102))) := Lib.hid (((Keep.refl Non WX)).alloc _)
    have z37 : Hid ((WX.alloc (.cells zMf 102)).heap[WX.heap.size]? = some (.cells zMf 102 (0, 0))) := Lib.hid (blk_new WX _)
    have y37 : Hid (WX.heap.size ≤ WX.heap.size) := Lib.hid (((Keep.refl Non WX)).size)
    have l37 : Hid (WX.heap.size < (WX.alloc (.cells zMf 102)).heap.size) := Lib.hid (lt_of_block z37.out)
    obtain ⟨v37, hv37⟩ : ∃ v37, v37 = WX.alloc (.cells zMf 102) := ⟨_, rfl⟩
    rw [← hv37] at k37 z37 l37
    dsimp only [zMf] at hv37
    try rw [← hv37]
    clear hv37
    refine hK.out _ _ (LS.out v37 k37.out) (fun hHeld37 => ?_)
    clear hK K
    try simp only [Act.put, List.setIfInBounds_toArray, List.set_cons_zero, List.set_cons_succ]
    refine rc (i := 4) (fun K hK => ?_)
    go_simp
    refine (CH.out v37 k37.out).mono ?_
    rintro e w38 ⟨rfl, t38⟩
    have k38 := Lib.hid ((k37.out).trans1 t38)
    have z38 := Lib.hid (nonAt t38 z37.out)
    have l38 := Lib.hid (Nat.lt_of_lt_of_le (l37.out) t38.size)
    clear t38
    go_wp2_with fail
    refine hK.out _ _ (LS.out w38 k38.out) (fun hHeld38 => ?_)
    clear hK K
    try simp only [Act.put, List.setIfInBounds_toArray, List.set_cons_zero, List.set_cons_succ]
    refine rc (i := 20) (fun K hK => ?_)
    go_simp
    refine (NX.out w38 k38.out).mono ?_
    rintro e w39 ⟨v6, rfl, t39, o39⟩
    obtain ⟨a6, c6, rfl⟩ : ∃ a c', v6 = .slice a m.parts.length c' := by obtain ⟨a, c', e, _, _⟩ := ownsRow_form o39; exact ⟨a, c', e⟩
    have k39 := Lib.hid ((k38.out).trans1 t39)
    have O39 := Lib.hid o39
    have z39 := Lib.hid (nonAt t39 z38.out)
    clear t39 o39
    go_wp2_with fail
    refine hK.out _ _ (LS.out w39 k39.out) (fun hHeld39 => ?_)
    clear hK K
    try simp only [Act.put, List.setIfInBounds_toArray, List.set_cons_zero, List.set_cons_succ]
    refine tc (i := 21) (v := ?v40) ?hy40 ?rest40
    case hy40 => intro W ⟨s0, s2, s5, s6⟩; go_simp; first | done | with_reducible rfl
    refine tc (i := 22) (v := ?v41) ?hy41 ?rest41
    case hy41 => intro W ⟨s0, s2, s5, s6⟩; go_simp; first | done | with_reducible rfl
    refine tc (i := 23) (v := ?v42) ?hy42 ?rest42
    case hy42 => intro W ⟨s0, s2, s5, s6⟩; go_simp; first | done | with_reducible rfl
    refine rc (i := 25) (fun K hK => ?_)
    have hst := store_mf w39 WX.heap.size m a6 m.parts.length c6 zMf M32.out rfl z39.out
    have E := Lib.hid (cm_endR (m := m) k39.out z39.out y37.out O39.out l38.out)
    go_simp
    refine hK.out _ _ (LS.out _ E.out.kp) (fun hHeld43 => ?_)
    clear hK K
    try simp only [Act.put, List.setIfInBounds_toArray, List.set_cons_zero, List.set_cons_succ]
    refine tc (i := 26) (v := ?v44) ?hy44 ?rest44
    case hy44 => intro W ⟨s0, s2, s5, s6⟩; go_simp; first | done | with_reducible rfl
    refine wpAnyH_done (by as_aux_lemma => kernel_rfl) ?_ _
    refine NoPanic.normal ?_
    have e0 := E.out
    generalize (w39.setRow _ _) = W5 at e0 ⊢
    generalize WX.heap.size = nb at e0 ⊢
    have E6 := Lib.hid e0
    try clear hst
    clear e0 E
    clear O39
    try clear hHeld37
    try clear hHeld38
    try clear hHeld39
    try clear hHeld43
    revert a6 c6 W5 nb
    exact FIN.out
  intro a6 c6 W5 nb E6
  go_wp2_with fail
  obtain ⟨wd, hwd⟩ : ∃ wd, wd = W5.drew := ⟨_, rfl⟩
  have HD : Hid (W5.drew = wd) := Lib.hid hwd.symm
  have K5 : Hid (Keep Non W5 wd) := Lib.hid (by rw [hwd]; exact (Keep.refl _ _).drew)
  have KWD : Hid (Keep Non w wd) := Lib.hid (KX.out.trans1 (E6.out.kp.trans1 K5.out))
  have hnw : w.heap.size ≤ nb := Nat.le_trans KX.out.size E6.out.lo
  have hbw : b < w.heap.size := lt_of_block H.out.vt
  have LM : Hid (∀ W, Keep (fun g => F g ∨ g = b) wd W → W.cell? ⟨x, 0, none⟩ = some (.pointer (some ⟨b, 0, none⟩)) ∧ (holdV 102 ⟨nb, 0, none⟩).run Tryz.prog W = .ok (mfV m (.slice a6 m.parts.length c6)) W) := Lib.hid (fun W k => by
    have h1 := k.at (nonAt KWD.out H.out.ex) (fun e => by rcases e with e | e; exact H.out.out.1 e; exact H.out.out.2.2.1 e)
    have h2 := k.at (nonAt K5.out E6.out.bx) (fun e => by rcases e with e | e; (have := (H.out.low _ e).2; omega); omega)
    exact ⟨ex_0 h1, load_mf h2 M32.out⟩)
  have LM0 := Lib.hid (LM.out wd (Keep.refl _ _))
  have LM1 : Hid (W5.drew.cell? ⟨x, 0, none⟩ = some (.pointer (some ⟨b, 0, none⟩)) ∧ (holdV 102 ⟨nb, 0, none⟩).run Tryz.prog W5.drew = .ok (mfV m (.slice a6 m.parts.length c6)) W5.drew) := Lib.hid (by rw [HD.out]; exact LM0.out)
  have CM := Lib.hid (CM0.out wd _ KWD.out (PtsAt.of (ownsRow_keep E6.out.row K5.out (fun _ _ e => e)) P32.out))
  have HNW := Lib.hid hnw
  have HBW := Lib.hid hbw
  clear hwd CM0 hnw hbw
  refine wp_region_noPanic ?_
  refine wp_region_held_drew (S := fun W => W.cell? ⟨x, 0, none⟩ = some (.pointer (some ⟨b, 0, none⟩)) ∧ (holdV 102 ⟨nb, 0, none⟩).run Tryz.prog W = .ok (mfV m (.slice a6 m.parts.length c6)) W) (by as_aux_lemma => kernel_rfl) LM1.out (fun hHeld => ?_)
  refine tc (i := 0) (v := ?v96) ?hy96 ?rest96
  case hy96 => intro W ⟨s0, sh⟩; go_simp; first | done | with_reducible rfl
  refine tc (i := 1) (v := ?v97) ?hy97 ?rest97
  case hy97 => intro W ⟨s0, sh⟩; go_simp; first | done | with_reducible rfl
  refine tc (i := 2) (v := ?v98) ?hy98 ?rest98
  case hy98 => intro W ⟨s0, sh⟩; go_simp; first | done | with_reducible rfl
  refine tc (i := 3) (v := ?v99) ?hy99 ?rest99
  case hy99 => intro W ⟨s0, sh⟩; go_simp; first | done | with_reducible rfl
  refine tc (i := 4) (v := ?v100) ?hy100 ?rest100
  case hy100 => intro W ⟨s0, sh⟩; go_simp; first | done | with_reducible rfl
  rw [HD.out]
  clear hHeld
  have hHeld := LM0.out
  refine rc (i := 5) (fun K hK => ?_)
  go_simp
  refine CM.out.mono ?_
  rintro e w9 ⟨rfl, t9⟩
  go_wp2_with fail
  refine hK.out _ _ (LM.out w9 t9.1) (fun hHeld101 => ?_)
  clear hK K
  try simp only [Act.put, List.setIfInBounds_toArray, List.set_cons_zero, List.set_cons_succ]
  refine tc (i := 6) (v := ?v102) ?hy102 ?rest102
  case hy102 => intro W ⟨s0, sh⟩; go_simp; first | done | with_reducible rfl
  refine wpAnyH_done (by as_aux_lemma => kernel_rfl) ?_ _
  refine NoPanic.normal ?_
  obtain ⟨k9, v3, T, F', s', nb', hT, ms, d', vb⟩ := t9
  have KF : Hid (Keep (fun g => F g ∨ g = b) w w9) := Lib.hid (KWD.out.ofNon.trans k9 (fun _ _ y => y) (fun _ _ y => y))
  have X9 := Lib.hid (KF.out.at H.out.ex (fun e => by rcases e with e | e; exact H.out.out.1 e; exact H.out.out.2.2.1 e))
  have hxw : x < w.heap.size := lt_of_block H.out.ex
  have hnx : ¬ F' x := fun y => by
    rcases s' x y with u | u
    · exact H.out.out.1 u
    · have := KWD.out.size; omega
  have kx : Keep (One x) w9 (w9.setCell ⟨x, 7, none⟩ (.bool true)) := (Keep.refl _ _).setOne _ _
  have VS := Lib.hid (kx.at vb (fun e => H.out.out.2.2.1 (by have e' : b = x := e; exact e'.symm)))
  have DS := Lib.hid (d'.keep kx (fun g y e => by have e' : g = x := e; exact hnx (e' ▸ y)))
  have ST := Lib.hid (vstore_ok b q v3 _ VS.out)
  have CL := Lib.hid (CL0.out _ _ DS.out)
  have c0 := ex_0 X9.out
  have c0s := ex_0 (ex_set7 X9.out true)
  have c7 := ex_7 X9.out
  have f7 := ex_f X9.out 7
  have MS := Lib.hid (ms.low1 HPOS.out P32.out)
  have SS := Lib.hid (And.intro s' (And.intro nb' hT))
  have KX9 := Lib.hid kx
  have HNX := Lib.hid (And.intro hnx hxw)
  clear k9 s' nb' hT ms d' vb hxw hnx kx CL0
  unfold cname at CL
  go_wp2_with (first
    | (go_at_call 77; refine ST.out.mono ?_; rintro e wS ⟨rfl, rfl⟩)
    | (go_at_call 81; refine CL.out.mono ?_; rintro e wE ⟨rfl, tE⟩))
  go_ret
  obtain ⟨kE, F2, s2, d2⟩ := tE
  have d2' := d2.low
  have hwd := KWD.out.size
  have h9 := KF.out.size
  have hE := kE.size
  have hS := KX9.out.size
  have hF2 : ∀ g, F2 g → F g ∨ w.heap.size ≤ g := fun g y => by
    rcases s2 g y with u | u
    · rcases SS.out.1 g u with v | v
      · exact .inl v
      · exact .inr (by omega)
    · exact .inr (by omega)
  have kA : Keep (fun g => F g ∨ g = x ∨ g = b) w (w9.setCell ⟨x, 7, none⟩ (.bool true)) := KF.out.trans KX9.out (fun g _ y => by rcases y with y | y; exact .inl y; exact .inr (.inr y)) (fun g _ y => .inr (.inl y))
  have kB : Keep (fun g => F g ∨ g = x ∨ g = b) w wE := kA.trans kE (fun _ _ y => y) (fun g hg y => by
    rcases SS.out.1 g y with u | u
    · exact .inl u
    · omega)
  have xE := kE.at (ex_set7 X9.out true) HNX.out.1
  have bE := kE.at VS.out SS.out.2.1
  have msE := (MS.out.keep KX9.out (fun g y e => by have e' : g = x := e; exact y.2.ne X9.out e')).keep kE (fun g y => (SS.out.2.2 g y.1).1)
  refine ⟨rfl, fun g => F2 g ∧ g < wE.heap.size, v3, fun g => T g ∧ Big w9 g, fun g y => hF2 g y.1, kB, ?_, by rw [← HMX.out]; exact msE, fun g y => ⟨fun z => ?_, (SS.out.2.2 g y.1).2.1, by have := y.2.lt; omega, by have := (SS.out.2.2 g y.1).2.2; omega⟩⟩
  · refine ⟨xE, ownsRow_keep H.out.row kB (fun g e y => ?_), bE, d2', H.out.lg.keep kB (fun g e y => ?_), H.out.lay.keep kB (fun g e y => ?_), ⟨fun y => ?_, fun y => ?_, H.out.out.2.2.1, H.out.out.2.2.2.1, H.out.out.2.2.2.2.1, H.out.out.2.2.2.2.2.1, H.out.out.2.2.2.2.2.2⟩, fun g y z => ?_, fun g y => ⟨?_, y.2⟩, fun g y => Nat.lt_of_lt_of_le (H.out.lowL g y) kB.size, fun g e => ?_⟩
    · obtain ⟨h1, h2, h3, _⟩ := H.out.pvo g e
      rcases y with y | y | y
      · exact h1 y
      · exact h2 y
      · exact h3 y
    · rcases y with y | y | y
      · exact H.out.apart g y e
      · subst y; exact H.out.out.2.2.2.1 e
      · subst y; exact H.out.out.2.2.2.2.1 e
    · have hx10 := H.out.out.2.2.2.2.2.1
      have hb10 := H.out.out.2.2.2.2.2.2
      rcases y with y | y | y
      · have := (H.out.low g y).1; omega
      · omega
      · omega
    · rcases s2 x y.1 with u | u
      · exact HNX.out.1 u
      · have := HNX.out.2; omega
    · rcases s2 b y.1 with u | u
      · exact SS.out.2.1 u
      · have := HBW.out; omega
    · rcases hF2 g y.1 with u | u
      · exact H.out.apart g u z
      · have := H.out.lowL g z; omega
    · rcases hF2 g y.1 with u | u
      · exact (H.out.low g u).1
      · have := HNX.out.2; have := H.out.out.2.2.2.2.2.1; omega
    · obtain ⟨h1, h2, h3, h4⟩ := H.out.pvo g e
      refine ⟨fun z => ?_, h2, h3, h4⟩
      have := (H.out.row.lt g e).2
      rcases hF2 g z.1 with u | u
      · exact h1 u
      · omega
  · rcases s2 g z.1 with u | u
    · exact (SS.out.2.2 g y.1).1 u
    · have := y.2.lt; omega
theorem xcommit_no {F FL : Nat → Prop} {x b lb q p : Nat} {c : Cu} {pv : Value} {X : Dk} {L : Lg} (w : World) (h : ExSt F FL w x b lb q p (.slice none 0 0) c pv false X L) (hi : PInv L X c) (hd : c.next = c.hi) (hcd : X.sput (titleN 0) (mfBy (exM c)) = (5, X)) :
    Calls Tryz.prog 145 #[.pointer (some ⟨x, 0, none⟩)] w fun e w' => e = .returned (.iface 84 (.int .i64 5)) ∧ ExOut F FL w x b lb q p (.slice none 0 0) c false X L w' := by
  have H := Lib.hid h
  have HI := Lib.hid hi
  have h4 := hi.few4
  have hok := exM_ok hi hd
  obtain ⟨m, hm⟩ : ∃ m, m = exM c := ⟨_, rfl⟩
  have hm' : firstM c.lo (endPts c.lo c.parts) c.trim c.parts = m := by rw [hm, exM, hi.lo, hi.trim, hok.2]
  have hmp : m.parts = c.parts := by rw [hm]; rfl
  have hln := exM_len hi hd
  have OKM := Lib.hid hok.1
  rw [← hm] at OKM hln hcd
  have M32 : Hid (m.prev.length = 32) := Lib.hid OKM.out.prev
  have P32 : Hid (pts32 m.parts) := Lib.hid (by rw [hmp]; exact hi.ok.p32)
  have NX0 : Hid (∀ W v, PtsAt W v c.parts → Calls Tryz.prog 215 #[.slice none 0 0, .int .i64 c.lo, .int .i64 c.trim, v] W fun e w' => ∃ v', e = .returned (.tuple #[mfV m v', .nilIface]) ∧ Keep Non W w' ∧ w'.ownsRow W.heap.size 190 35 v' m.parts.length (ptsC m.parts)) := Lib.hid (fun W v hv => by
    have := chnext_nil none 0 c.lo c.trim v c.parts W hv hi.ok.p32 (by omega) hi.ok.parts (by rw [hi.ok.stop]; have := hi.ok.le; have := hi.ok.hi; omega) hi.ok.trim
    rw [hm', ← hmp] at this
    exact this)
  have CM0 : Hid (∀ W v, Keep Non w W → PtsAt W v m.parts → Calls Tryz.prog 216 #[.pointer (some ⟨b, 0, none⟩), mfV m v] W fun e w' => e = .returned (.iface 84 (.int .i64 5)) ∧ StoreTo F W q p X w') := Lib.hid (fun W v k hv => by
    have hnum : m.num = 0 := by rw [hm]; rfl
    have := vcomm_no F b q p m v X _ _ _ W (nonAt k H.out.vt) (H.out.st.keep k (fun _ _ e => e)) (fun g y => ⟨(H.out.low g y).1, k.lt (H.out.low g y).2⟩) H.out.out.2.1 hi.lim (by omega) (by omega) (by omega) hi.free.1 (H.out.lay.keepNon k) hv OKM.out hnum (by rw [hmp]; omega) P32.out (by rw [hmp]; exact hi.segs) (by omega) 5 (by rw [hcd]) (by decide)
    rw [hcd] at this
    exact this)
  have CH : Hid (∀ W, Keep Non w W → Calls Tryz.prog 11 #[.pointer (some ⟨b, 0, none⟩)] W fun e w' => e = .returned (.slice none 0 0) ∧ Keep Non W w') := Lib.hid (fun W k => vchain_nil b q none 0 W (nonAt k H.out.vt))
  obtain ⟨pa, pc, rfl, _, _⟩ := ownsRow_form h.row
  have NX : Hid (∀ W, Keep Non w W → Calls Tryz.prog 215 #[.slice none 0 0, .int .i64 c.lo, .int .i64 c.trim, .slice pa c.parts.length pc] W fun e w' => ∃ v', e = .returned (.tuple #[mfV m v', .nilIface]) ∧ Keep Non W w' ∧ w'.ownsRow W.heap.size 190 35 v' m.parts.length (ptsC m.parts)) := Lib.hid (fun W k => NX0.out W _ (PtsAt.of (ownsRow_keep H.out.row k (fun _ _ e => e)) HI.out.ok.p32))
  have LSw : Hid (∀ W, Keep Non w W → W.cell? ⟨x, 0, none⟩ = some (.pointer (some ⟨b, 0, none⟩)) ∧ W.cell? ⟨x, 2, none⟩ = some (.int .i64 c.lo) ∧ W.cell? ⟨x, 5, none⟩ = some (.int .i64 c.trim) ∧ W.cell? ⟨x, 6, none⟩ = some (.slice pa c.parts.length pc)) := Lib.hid (fun W k => by
    have hxx := nonAt k H.out.ex
    exact ⟨ex_0 hxx, ex_2 hxx, ex_5 hxx, ex_6 hxx⟩)
  obtain ⟨WX, hWX⟩ : ∃ WX, WX = w.drew := ⟨_, rfl⟩
  have KX : Hid (Keep Non w WX) := Lib.hid (by rw [hWX]; exact (Keep.refl _ _).drew)
  have HW : Hid (w.drew = WX) := Lib.hid hWX.symm
  have LS := Lib.hid (fun W (k : Keep Non WX W) => LSw.out W (KX.out.trans1 k))
  have LS1 := Lib.hid (LSw.out w.drew (Keep.refl _ _).drew)
  have LZ : Hid (WX.heap.size ≤ WX.heap.size) := Lib.hid (Nat.le_refl _)
  have CH := Lib.hid (fun W (k : Keep Non WX W) => CH.out W (KX.out.trans1 k))
  have NX := Lib.hid (fun W (k : Keep Non WX W) => NX.out W (KX.out.trans1 k))
  have HMP : Hid (m.parts = c.parts) := Lib.hid hmp
  clear h hi hm hm' hok hln hWX LSw NX0 hmp hcd
  go_enter Tryz.func145, Tryz.ntmps145
  go_wp2_with fail
  refine (fun (FIN : Hid ?T) => ?main) (Lib.hid ?fin)
  case' main => refine wp_region_noPanic ?_
  refine wp_region_held_drew (S := fun W => W.cell? ⟨x, 0, none⟩ = some (.pointer (some ⟨b, 0, none⟩)) ∧ W.cell? ⟨x, 2, none⟩ = some (.int .i64 c.lo) ∧ W.cell? ⟨x, 5, none⟩ = some (.int .i64 c.trim) ∧ W.cell? ⟨x, 6, none⟩ = some (.slice pa c.parts.length pc)) (by as_aux_lemma => kernel_rfl) LS1.out (fun hHeld => ?_)
  refine tc (i := 0) (v := ?v45) ?hy45 ?rest45
  case hy45 => intro W ⟨s0, s2, s5, s6⟩; go_simp; first | done | with_reducible rfl
  refine tc (i := 1) (v := ?v46) ?hy46 ?rest46
  case hy46 => intro W ⟨s0, s2, s5, s6⟩; go_simp; first | done | with_reducible rfl
  refine tc (i := 2) (v := ?v47) ?hy47 ?rest47
  case hy47 => intro W ⟨s0, s2, s5, s6⟩; go_simp; first | done | with_reducible rfl
  refine tc (i := 3) (v := ?v48) ?hy48 ?rest48
  case hy48 => intro W ⟨s0, s2, s5, s6⟩; go_simp; first | done | with_reducible rfl
  refine tc (i := 5) (v := ?v49) ?hy49 ?rest49
  case hy49 => intro W ⟨s0, s2, s5, s6⟩; go_simp; first | done | with_reducible rfl
  refine tc (i := 6) (v := ?v50) ?hy50 ?rest50
  case hy50 => intro W ⟨s0, s2, s5, s6⟩; go_simp; first | done | with_reducible rfl
  refine tc (i := 7) (v := ?v51) ?hy51 ?rest51
  case hy51 => intro W ⟨s0, s2, s5, s6⟩; go_simp; first | done | with_reducible rfl
  refine tc (i := 8) (v := ?v52) ?hy52 ?rest52
  case hy52 => intro W ⟨s0, s2, s5, s6⟩; go_simp; first | done | with_reducible rfl
  refine tc (i := 9) (v := ?v53) ?hy53 ?rest53
  case hy53 => intro W ⟨s0, s2, s5, s6⟩; go_simp; first | done | with_reducible rfl
  refine tc (i := 10) (v := ?v54) ?hy54 ?rest54
  case hy54 => intro W ⟨s0, s2, s5, s6⟩; go_simp; first | done | with_reducible rfl
  refine tc (i := 11) (v := ?v55) ?hy55 ?rest55
  case hy55 => intro W ⟨s0, s2, s5, s6⟩; go_simp; first | done | with_reducible rfl
  refine tc (i := 12) (v := ?v56) ?hy56 ?rest56
  case hy56 => intro W ⟨s0, s2, s5, s6⟩; go_simp; first | done | with_reducible rfl
  refine tc (i := 13) (v := ?v57) ?hy57 ?rest57
  case hy57 => intro W ⟨s0, s2, s5, s6⟩; go_simp; first | done | with_reducible rfl
  refine tc (i := 14) (v := ?v58) ?hy58 ?rest58
  case hy58 => intro W ⟨s0, s2, s5, s6⟩; go_simp; first | done | with_reducible rfl
  refine tc (i := 15) (v := ?v59) ?hy59 ?rest59
  case hy59 => intro W ⟨s0, s2, s5, s6⟩; go_simp; first | done | with_reducible rfl
  refine tc (i := 16) (v := ?v60) ?hy60 ?rest60
  case hy60 => intro W ⟨s0, s2, s5, s6⟩; go_simp; first | done | with_reducible rfl
  refine tc (i := 17) (v := ?v61) ?hy61 ?rest61
  case hy61 => intro W ⟨s0, s2, s5, s6⟩; go_simp; first | done | with_reducible rfl
  refine tc (i := 18) (v := ?v62) ?hy62 ?rest62
  case hy62 => intro W ⟨s0, s2, s5, s6⟩; go_simp; first | done | with_reducible rfl
  refine tc (i := 19) (v := ?v63) ?hy63 ?rest63
  case hy63 => intro W ⟨s0, s2, s5, s6⟩; go_simp; first | done | with_reducible rfl
  rw [HW.out]
  clear hHeld
  have hHeld := LS.out WX (Keep.refl _ _)
  refine wpAnyH_ready (rs := [4, 24]) (by as_aux_lemma => kernel_rfl) (by simp) ?_
  refine AllReadyH.cons (by simp only [List.getElem?_toArray, List.getElem?_cons_succ, List.getElem?_cons_zero]; rfl) (fun K hK => ?arm64_4) (AllReadyH.cons (by simp only [List.getElem?_toArray, List.getElem?_cons_succ, List.getElem?_cons_zero]; rfl) (fun K hK => ?arm64_24) AllReadyH.nil)
  case' arm64_4 =>
    go_simp
    refine (CH.out WX (Keep.refl Non WX)).mono ?_
    rintro e w65 ⟨rfl, t65⟩
    have k65 := Lib.hid (((Keep.refl Non WX)).trans1 t65)
    clear t65
    go_wp2_with fail
    refine hK.out _ _ (LS.out w65 k65.out) (fun hHeld65 => ?_)
    clear hK K
    try simp only [Act.put, List.setIfInBounds_toArray, List.set_cons_zero, List.set_cons_succ]
    refine wpAnyH_ready (rs := [20, 24]) (by as_aux_lemma => kernel_rfl) (by simp) ?_
    refine AllReadyH.cons (by simp only [List.getElem?_toArray, List.getElem?_cons_succ, List.getElem?_cons_zero]; rfl) (fun K hK => ?arm66_20) (AllReadyH.cons (by simp only [List.getElem?_toArray, List.getElem?_cons_succ, List.getElem?_cons_zero]; rfl) (fun K hK => ?arm66_24) AllReadyH.nil)
    case' arm66_20 =>
      go_simp
      refine (NX.out w65 k65.out).mono ?_
      rintro e w67 ⟨v6, rfl, t67, o67⟩
      obtain ⟨a6, c6, rfl⟩ : ∃ a c', v6 = .slice a m.parts.length c' := by obtain ⟨a, c', e, _, _⟩ := ownsRow_form o67; exact ⟨a, c', e⟩
      have k67 := Lib.hid ((k65.out).trans1 t67)
      have O67 := Lib.hid o67
      clear t67 o67
      go_wp2_with fail
      refine hK.out _ _ (LS.out w67 k67.out) (fun hHeld67 => ?_)
      clear hK K
      try simp only [Act.put, List.setIfInBounds_toArray, List.set_cons_zero, List.set_cons_succ]
      refine tc (i := 21) (v := ?v68) ?hy68 ?rest68
      case hy68 => intro W ⟨s0, s2, s5, s6⟩; go_simp; first | done | with_reducible rfl
      refine tc (i := 22) (v := ?v69) ?hy69 ?rest69
      case hy69 => intro W ⟨s0, s2, s5, s6⟩; go_simp; first | done | with_reducible rfl
      refine tc (i := 23) (v := ?v70) ?hy70 ?rest70
      case hy70 => intro W ⟨s0, s2, s5, s6⟩; go_simp; first | done | with_reducible rfl
      refine rc (i := 24) (fun K hK => ?_)
      go_simp
      have hst := store_mf0 w67 m a6 m.parts.length c6 M32.out
      dsimp only [zMf, MfB] at hst
      have E := Lib.hid (cm_endA (m := m) k67.out O67.out (k65.out).size)
      refine hK.out _ _ (LS.out _ ((k67.out).alloc _)) (fun hHeld71 => ?_)
      clear hK K
      try simp only [Act.put, List.setIfInBounds_toArray, List.set_cons_zero, List.set_cons_succ]
      refine rc (i := 25) (fun K hK => ?_)
      go_simp
      refine hK.out _ _ (LS.out _ ((k67.out).alloc _)) (fun hHeld72 => ?_)
      clear hK K
      try simp only [Act.put, List.setIfInBounds_toArray, List.set_cons_zero, List.set_cons_succ]
      refine tc (i := 26) (v := ?v73) ?hy73 ?rest73
      case hy73 => intro W ⟨s0, s2, s5, s6⟩; go_simp; first | done | with_reducible rfl
      refine wpAnyH_done (by as_aux_lemma => kernel_rfl) ?_ _
      refine NoPanic.normal ?_
      have e0 := E.out
      dsimp only [MfB] at e0
      generalize (w67.alloc _) = W5 at e0 ⊢
      generalize w67.heap.size = nb at e0 ⊢
      have E6 := Lib.hid e0
      try clear hst
      clear e0 E
      clear O67
      try clear hHeld65
      try clear hHeld67
      try clear hHeld71
      try clear hHeld72
      revert a6 c6 W5 nb
      exact FIN.out
    case' arm66_24 =>
      go_simp
      have k74 : Hid (Keep Non WX (w65.alloc (.cells zMf 102))) := Lib.hid ((k65.out).alloc _)
      have z74 : Hid ((w65.alloc (.cells zMf 102)).heap[w65.heap.size]? = some (.cells zMf 102 (0, 0))) := Lib.hid (blk_new w65 _)
      have y74 : Hid (WX.heap.size ≤ w65.heap.size) := Lib.hid ((k65.out).size)
      have l74 : Hid (w65.heap.size < (w65.alloc (.cells zMf 102)).heap.size) := Lib.hid (lt_of_block z74.out)
      obtain ⟨v74, hv74⟩ : ∃ v74, v74 = w65.alloc (.cells zMf 102) := ⟨_, rfl⟩
      rw [← hv74] at k74 z74 l74
      dsimp only [zMf] at hv74
      try rw [← hv74]
      clear hv74
      refine hK.out _ _ (LS.out v74 k74.out) (fun hHeld74 => ?_)
      clear hK K
      try simp only [Act.put, List.setIfInBounds_toArray, List.set_cons_zero, List.set_cons_succ]
      refine rc (i := 20) (fun K hK => ?_)
      go_simp
      refine (NX.out v74 k74.out).mono ?_
      rintro e w75 ⟨v6, rfl, t75, o75⟩
      obtain ⟨a6, c6, rfl⟩ : ∃ a c', v6 = .slice a m.parts.length c' := by obtain ⟨a, c', e, _, _⟩ := ownsRow_form o75; exact ⟨a, c', e⟩
      have k75 := Lib.hid ((k74.out).trans1 t75)
      have O75 := Lib.hid o75
      have z75 := Lib.hid (nonAt t75 z74.out)
      clear t75 o75
      go_wp2_with fail
      refine hK.out _ _ (LS.out w75 k75.out) (fun hHeld75 => ?_)
      clear hK K
      try simp only [Act.put, List.setIfInBounds_toArray, List.set_cons_zero, List.set_cons_succ]
      refine tc (i := 21) (v := ?v76) ?hy76 ?rest76
      case hy76 => intro W ⟨s0, s2, s5, s6⟩; go_simp; first | done | with_reducible rfl
      refine tc (i := 22) (v := ?v77) ?hy77 ?rest77
      case hy77 => intro W ⟨s0, s2, s5, s6⟩; go_simp; first | done | with_reducible rfl
      refine tc (i := 23) (v := ?v78) ?hy78 ?rest78
      case hy78 => intro W ⟨s0, s2, s5, s6⟩; go_simp; first | done | with_reducible rfl
      refine rc (i := 25) (fun K hK => ?_)
      have hst := store_mf w75 w65.heap.size m a6 m.parts.length c6 zMf M32.out rfl z75.out
      have E := Lib.hid (cm_endR (m := m) k75.out z75.out y74.out O75.out l74.out)
      go_simp
      refine hK.out _ _ (LS.out _ E.out.kp) (fun hHeld79 => ?_)
      clear hK K
      try simp only [Act.put, List.setIfInBounds_toArray, List.set_cons_zero, List.set_cons_succ]
      refine tc (i := 26) (v := ?v80) ?hy80 ?rest80
      case hy80 => intro W ⟨s0, s2, s5, s6⟩; go_simp; first | done | with_reducible rfl
      refine wpAnyH_done (by as_aux_lemma => kernel_rfl) ?_ _
      refine NoPanic.normal ?_
      have e0 := E.out
      generalize (w75.setRow _ _) = W5 at e0 ⊢
      generalize w65.heap.size = nb at e0 ⊢
      have E6 := Lib.hid e0
      try clear hst
      clear e0 E
      clear O75
      try clear hHeld65
      try clear hHeld74
      try clear hHeld75
      try clear hHeld79
      revert a6 c6 W5 nb
      exact FIN.out
  case' arm64_24 =>
    go_simp
    have k81 : Hid (Keep Non WX (WX.alloc (.cells zMf 102))) := Lib.hid (((Keep.refl Non WX)).alloc _)
    have z81 : Hid ((WX.alloc (.cells zMf 102)).heap[WX.heap.size]? = some (.cells zMf 102 (0, 0))) := Lib.hid (blk_new WX _)
    have y81 : Hid (WX.heap.size ≤ WX.heap.size) := Lib.hid (((Keep.refl Non WX)).size)
    have l81 : Hid (WX.heap.size < (WX.alloc (.cells zMf 102)).heap.size) := Lib.hid (lt_of_block z81.out)
    obtain ⟨v81, hv81⟩ : ∃ v81, v81 = WX.alloc (.cells zMf 102) := ⟨_, rfl⟩
    rw [← hv81] at k81 z81 l81
    dsimp only [zMf] at hv81
    try rw [← hv81]
    clear hv81
    refine hK.out _ _ (LS.out v81 k81.out) (fun hHeld81 => ?_)
    clear hK K
    try simp only [Act.put, List.setIfInBounds_toArray, List.set_cons_zero, List.set_cons_succ]
    refine rc (i := 4) (fun K hK => ?_)
    go_simp
    refine (CH.out v81 k81.out).mono ?_
    rintro e w82 ⟨rfl, t82⟩
    have k82 := Lib.hid ((k81.out).trans1 t82)
    have z82 := Lib.hid (nonAt t82 z81.out)
    have l82 := Lib.hid (Nat.lt_of_lt_of_le (l81.out) t82.size)
    clear t82
    go_wp2_with fail
    refine hK.out _ _ (LS.out w82 k82.out) (fun hHeld82 => ?_)
    clear hK K
    try simp only [Act.put, List.setIfInBounds_toArray, List.set_cons_zero, List.set_cons_succ]
    refine rc (i := 20) (fun K hK => ?_)
    go_simp
    refine (NX.out w82 k82.out).mono ?_
    rintro e w83 ⟨v6, rfl, t83, o83⟩
    obtain ⟨a6, c6, rfl⟩ : ∃ a c', v6 = .slice a m.parts.length c' := by obtain ⟨a, c', e, _, _⟩ := ownsRow_form o83; exact ⟨a, c', e⟩
    have k83 := Lib.hid ((k82.out).trans1 t83)
    have O83 := Lib.hid o83
    have z83 := Lib.hid (nonAt t83 z82.out)
    clear t83 o83
    go_wp2_with fail
    refine hK.out _ _ (LS.out w83 k83.out) (fun hHeld83 => ?_)
    clear hK K
    try simp only [Act.put, List.setIfInBounds_toArray, List.set_cons_zero, List.set_cons_succ]
    refine tc (i := 21) (v := ?v84) ?hy84 ?rest84
    case hy84 => intro W ⟨s0, s2, s5, s6⟩; go_simp; first | done | with_reducible rfl
    refine tc (i := 22) (v := ?v85) ?hy85 ?rest85
    case hy85 => intro W ⟨s0, s2, s5, s6⟩; go_simp; first | done | with_reducible rfl
    refine tc (i := 23) (v := ?v86) ?hy86 ?rest86
    case hy86 => intro W ⟨s0, s2, s5, s6⟩; go_simp; first | done | with_reducible rfl
    refine rc (i := 25) (fun K hK => ?_)
    have hst := store_mf w83 WX.heap.size m a6 m.parts.length c6 zMf M32.out rfl z83.out
    have E := Lib.hid (cm_endR (m := m) k83.out z83.out y81.out O83.out l82.out)
    go_simp
    refine hK.out _ _ (LS.out _ E.out.kp) (fun hHeld87 => ?_)
    clear hK K
    try simp only [Act.put, List.setIfInBounds_toArray, List.set_cons_zero, List.set_cons_succ]
    refine tc (i := 26) (v := ?v88) ?hy88 ?rest88
    case hy88 => intro W ⟨s0, s2, s5, s6⟩; go_simp; first | done | with_reducible rfl
    refine wpAnyH_done (by as_aux_lemma => kernel_rfl) ?_ _
    refine NoPanic.normal ?_
    have e0 := E.out
    generalize (w83.setRow _ _) = W5 at e0 ⊢
    generalize WX.heap.size = nb at e0 ⊢
    have E6 := Lib.hid e0
    try clear hst
    clear e0 E
    clear O83
    try clear hHeld81
    try clear hHeld82
    try clear hHeld83
    try clear hHeld87
    revert a6 c6 W5 nb
    exact FIN.out
  intro a6 c6 W5 nb E6
  go_wp2_with fail
  obtain ⟨wd, hwd⟩ : ∃ wd, wd = W5.drew := ⟨_, rfl⟩
  have HD : Hid (W5.drew = wd) := Lib.hid hwd.symm
  have K5 : Hid (Keep Non W5 wd) := Lib.hid (by rw [hwd]; exact (Keep.refl _ _).drew)
  have KWD : Hid (Keep Non w wd) := Lib.hid (KX.out.trans1 (E6.out.kp.trans1 K5.out))
  have hnw : w.heap.size ≤ nb := Nat.le_trans KX.out.size E6.out.lo
  have hbw : b < w.heap.size := lt_of_block H.out.vt
  have LM : Hid (∀ W, Keep (fun g => F g ∨ g = b) wd W → W.cell? ⟨x, 0, none⟩ = some (.pointer (some ⟨b, 0, none⟩)) ∧ (holdV 102 ⟨nb, 0, none⟩).run Tryz.prog W = .ok (mfV m (.slice a6 m.parts.length c6)) W) := Lib.hid (fun W k => by
    have h1 := k.at (nonAt KWD.out H.out.ex) (fun e => by rcases e with e | e; exact H.out.out.1 e; exact H.out.out.2.2.1 e)
    have h2 := k.at (nonAt K5.out E6.out.bx) (fun e => by rcases e with e | e; (have := (H.out.low _ e).2; omega); omega)
    exact ⟨ex_0 h1, load_mf h2 M32.out⟩)
  have LM0 := Lib.hid (LM.out wd (Keep.refl _ _))
  have LM1 : Hid (W5.drew.cell? ⟨x, 0, none⟩ = some (.pointer (some ⟨b, 0, none⟩)) ∧ (holdV 102 ⟨nb, 0, none⟩).run Tryz.prog W5.drew = .ok (mfV m (.slice a6 m.parts.length c6)) W5.drew) := Lib.hid (by rw [HD.out]; exact LM0.out)
  have CM := Lib.hid (CM0.out wd _ KWD.out (PtsAt.of (ownsRow_keep E6.out.row K5.out (fun _ _ e => e)) P32.out))
  have HNW := Lib.hid hnw
  have HBW := Lib.hid hbw
  clear hwd CM0 hnw hbw
  refine wp_region_noPanic ?_
  refine wp_region_held_drew (S := fun W => W.cell? ⟨x, 0, none⟩ = some (.pointer (some ⟨b, 0, none⟩)) ∧ (holdV 102 ⟨nb, 0, none⟩).run Tryz.prog W = .ok (mfV m (.slice a6 m.parts.length c6)) W) (by as_aux_lemma => kernel_rfl) LM1.out (fun hHeld => ?_)
  refine tc (i := 0) (v := ?v89) ?hy89 ?rest89
  case hy89 => intro W ⟨s0, sh⟩; go_simp; first | done | with_reducible rfl
  refine tc (i := 1) (v := ?v90) ?hy90 ?rest90
  case hy90 => intro W ⟨s0, sh⟩; go_simp; first | done | with_reducible rfl
  refine tc (i := 2) (v := ?v91) ?hy91 ?rest91
  case hy91 => intro W ⟨s0, sh⟩; go_simp; first | done | with_reducible rfl
  refine tc (i := 3) (v := ?v92) ?hy92 ?rest92
  case hy92 => intro W ⟨s0, sh⟩; go_simp; first | done | with_reducible rfl
  refine tc (i := 4) (v := ?v93) ?hy93 ?rest93
  case hy93 => intro W ⟨s0, sh⟩; go_simp; first | done | with_reducible rfl
  rw [HD.out]
  clear hHeld
  have hHeld := LM0.out
  refine rc (i := 5) (fun K hK => ?_)
  go_simp
  refine CM.out.mono ?_
  rintro e w9 ⟨rfl, t9⟩
  go_wp2_with fail
  refine hK.out _ _ (LM.out w9 (t9.1.mono (fun _ _ y => .inl y))) (fun hHeld94 => ?_)
  clear hK K
  try simp only [Act.put, List.setIfInBounds_toArray, List.set_cons_zero, List.set_cons_succ]
  refine tc (i := 6) (v := ?v95) ?hy95 ?rest95
  case hy95 => intro W ⟨s0, sh⟩; go_simp; first | done | with_reducible rfl
  refine wpAnyH_done (by as_aux_lemma => kernel_rfl) ?_ _
  refine NoPanic.normal ?_
  go_wp2_with fail
  go_ret
  obtain ⟨k9, F', s', d'⟩ := t9
  have KF : Keep F w w9 := KWD.out.ofNon.trans k9 (fun _ _ y => y) (fun _ _ y => y)
  have sub : Sub F' F w := fun g y => by
    rcases s' g y with z | z
    · exact .inl z
    · exact .inr (Nat.le_trans KWD.out.size z)
  refine ⟨rfl, fun g => F' g ∧ g < w9.heap.size, .slice pa c.parts.length pc, fun g y => sub g y.1, KF.mono (fun _ _ y => .inl y), ?_⟩
  refine H.out.turn (KF.mono (fun _ _ y => .inl y)) (fun g y => sub g y.1) (fun g y => y.2) d'.low (KF.at H.out.ex H.out.out.1) (ownsRow_keep H.out.row KF (fun g y => (H.out.pvo g y).1)) (fun g y => ?_)
  obtain ⟨h1, h2, h3, h4'⟩ := H.out.pvo g y
  refine ⟨fun z => ?_, h2, h3, h4'⟩
  have := (H.out.row.lt g y).2
  rcases sub g z.1 with u | u
  · exact h1 u
  · omega
end
end Go.Proofs.YtdmckfkhkjkdnaaGreatDoor
