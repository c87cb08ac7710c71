/- (*Export).part, where Add goes well: walked (printed by wip/xpart.py). -/
import Derived.Test.YtdmckfkhkjkdnaaGreatDoorQ34
set_option linter.unusedVariables false
set_option maxRecDepth 100000
set_option maxHeartbeats 16000000
namespace Go.Proofs.YtdmckfkhkjkdnaaGreatDoor
open Go.RowKit Go.Maps
def ExOut (F FL : Nat → Prop) (w : World) (x b lb q p : Nat) (lv : Value) (c : Cu) (ov : Bool) (X : Dk) (L : Lg) (w' : World) : Prop :=
  ∃ F' pv', Sub F' F w ∧ Keep (fun g => F g ∨ g = x) w w' ∧ ExSt F' FL w' x b lb q p lv c pv' ov X L
structure StEnd (W4 : World) (c2 : Cu) (n : Nat) (v : Value) (nb : Nat) (W5 : World) : Prop where
  bx : W5.heap[nb]? = some (CuB c2 v)
  lo : W4.heap.size ≤ nb
  kp : Keep Non W4 W5
  row : W5.ownsRow W4.heap.size 190 35 v n (ptsC c2.parts)
  ne : ∀ g, v.ownBlock = some g → g ≠ nb
theorem st_endA {W4 w6 : World} {c2 : Cu} {v : Value} {n B : Nat} (k6 : Keep Non W4 w6) (o : w6.ownsRow B 190 35 v n (ptsC c2.parts)) (hB : W4.heap.size ≤ B) : StEnd W4 c2 n v w6.heap.size (w6.alloc (CuB c2 v)) :=
  ⟨blk_new _ _, k6.size, k6.alloc _, ownsRow_low (ownsRow_keep o ((Keep.refl Non _).alloc _) (fun _ _ e => e)) hB, fun g e => by have := (o.lt g e).2; omega⟩
theorem st_endR {W4 w6 : World} {c2 : Cu} {v : Value} {n B nb : Nat} (k6 : Keep Non W4 w6) (hb : w6.heap[nb]? = some (CuB ⟨0, 0, 0, 0, []⟩ (.slice none 0 0))) (h1 : W4.heap.size ≤ nb) (o : w6.ownsRow B 190 35 v n (ptsC c2.parts)) (hB : nb < B) :
    StEnd W4 c2 n v nb (((((w6.setCell ⟨nb, 0, none⟩ (.int .i64 c2.lo)).setCell ⟨nb, 1, none⟩ (.int .i64 c2.next)).setCell ⟨nb, 2, none⟩ (.int .i64 c2.hi)).setCell ⟨nb, 3, none⟩ (.int .i64 c2.trim)).setCell ⟨nb, 4, none⟩ v) := by
  have k : Keep (One nb) w6 (((((w6.setCell ⟨nb, 0, none⟩ (.int .i64 c2.lo)).setCell ⟨nb, 1, none⟩ (.int .i64 c2.next)).setCell ⟨nb, 2, none⟩ (.int .i64 c2.hi)).setCell ⟨nb, 3, none⟩ (.int .i64 c2.trim)).setCell ⟨nb, 4, none⟩ v) := ((((((Keep.refl _ _).setOne _ _).setOne _ _).setOne _ _).setOne _ _).setOne _ _)
  exact ⟨blk_set (blk_set (blk_set (blk_set (blk_set hb 0 (.int .i64 c2.lo)) 1 (.int .i64 c2.next)) 2 (.int .i64 c2.hi)) 3 (.int .i64 c2.trim)) 4 v, h1, k6.trans k (fun _ _ e => e) (fun g hg e => by have e' : g = nb := e; omega),
    ownsRow_low (ownsRow_keep o k (fun g e e2 => by have e' : g = nb := e2; have := (o.lt g e).1; omega)) (by omega), fun g e => by have := (o.lt g e).1; omega⟩
theorem pa_drew {F : Nat → Prop} {W1 W4 : World} {q p b5 : Nat} {Y : Dk} {o : Obj} (e : PaEnd F W1 q p Y o b5 W4) : PaEnd F W1 q p Y o b5 W4.drew := by
  obtain ⟨F', s, hl, hn, d⟩ := e.st
  exact ⟨e.bx, e.lo, e.kp.drew, F', s, hl, hn, d.keep ((Keep.refl Non W4).drew) (fun _ _ e => e)⟩
theorem ex_sets {w : World} {x b lb : Nat} {c : Cu} {pv : Value} {ov : Bool} (h : w.heap[x]? = some (ExB b lb c pv ov)) (c2 : Cu) (v : Value) :
    w.cell? ⟨x, 2, none⟩ = some (.int .i64 c.lo) ∧ (w.setCell ⟨x, 2, none⟩ (.int .i64 c2.lo)).cell? ⟨x, 3, none⟩ = some (.int .i64 c.next) ∧ ((w.setCell ⟨x, 2, none⟩ (.int .i64 c2.lo)).setCell ⟨x, 3, none⟩ (.int .i64 c2.next)).cell? ⟨x, 4, none⟩ = some (.int .i64 c.hi) ∧ (((w.setCell ⟨x, 2, none⟩ (.int .i64 c2.lo)).setCell ⟨x, 3, none⟩ (.int .i64 c2.next)).setCell ⟨x, 4, none⟩ (.int .i64 c2.hi)).cell? ⟨x, 5, none⟩ = some (.int .i64 c.trim) ∧ ((((w.setCell ⟨x, 2, none⟩ (.int .i64 c2.lo)).setCell ⟨x, 3, none⟩ (.int .i64 c2.next)).setCell ⟨x, 4, none⟩ (.int .i64 c2.hi)).setCell ⟨x, 5, none⟩ (.int .i64 c2.trim)).cell? ⟨x, 6, none⟩ = some pv ∧
    w.frozen? ⟨x, 2, none⟩ = false ∧ (w.setCell ⟨x, 2, none⟩ (.int .i64 c2.lo)).frozen? ⟨x, 3, none⟩ = false ∧ ((w.setCell ⟨x, 2, none⟩ (.int .i64 c2.lo)).setCell ⟨x, 3, none⟩ (.int .i64 c2.next)).frozen? ⟨x, 4, none⟩ = false ∧ (((w.setCell ⟨x, 2, none⟩ (.int .i64 c2.lo)).setCell ⟨x, 3, none⟩ (.int .i64 c2.next)).setCell ⟨x, 4, none⟩ (.int .i64 c2.hi)).frozen? ⟨x, 5, none⟩ = false ∧ ((((w.setCell ⟨x, 2, none⟩ (.int .i64 c2.lo)).setCell ⟨x, 3, none⟩ (.int .i64 c2.next)).setCell ⟨x, 4, none⟩ (.int .i64 c2.hi)).setCell ⟨x, 5, none⟩ (.int .i64 c2.trim)).frozen? ⟨x, 6, none⟩ = false ∧
    (((((w.setCell ⟨x, 2, none⟩ (.int .i64 c2.lo)).setCell ⟨x, 3, none⟩ (.int .i64 c2.next)).setCell ⟨x, 4, none⟩ (.int .i64 c2.hi)).setCell ⟨x, 5, none⟩ (.int .i64 c2.trim)).setCell ⟨x, 6, none⟩ v).heap[x]? = some (ExB b lb c2 v ov) ∧
    Keep (One x) w (((((w.setCell ⟨x, 2, none⟩ (.int .i64 c2.lo)).setCell ⟨x, 3, none⟩ (.int .i64 c2.next)).setCell ⟨x, 4, none⟩ (.int .i64 c2.hi)).setCell ⟨x, 5, none⟩ (.int .i64 c2.trim)).setCell ⟨x, 6, none⟩ v) := by
  have h1 : (w.setCell ⟨x, 2, none⟩ (.int .i64 c2.lo)).heap[x]? = some (ExB b lb ⟨c2.lo, c.next, c.hi, c.trim, c.parts⟩ pv ov) := ex_set2 h c2.lo
  have h2 : ((w.setCell ⟨x, 2, none⟩ (.int .i64 c2.lo)).setCell ⟨x, 3, none⟩ (.int .i64 c2.next)).heap[x]? = some (ExB b lb ⟨c2.lo, c2.next, c.hi, c.trim, c.parts⟩ pv ov) := ex_set3 h1 c2.next
  have h3 : (((w.setCell ⟨x, 2, none⟩ (.int .i64 c2.lo)).setCell ⟨x, 3, none⟩ (.int .i64 c2.next)).setCell ⟨x, 4, none⟩ (.int .i64 c2.hi)).heap[x]? = some (ExB b lb ⟨c2.lo, c2.next, c2.hi, c.trim, c.parts⟩ pv ov) := ex_set4 h2 c2.hi
  have h4 : ((((w.setCell ⟨x, 2, none⟩ (.int .i64 c2.lo)).setCell ⟨x, 3, none⟩ (.int .i64 c2.next)).setCell ⟨x, 4, none⟩ (.int .i64 c2.hi)).setCell ⟨x, 5, none⟩ (.int .i64 c2.trim)).heap[x]? = some (ExB b lb ⟨c2.lo, c2.next, c2.hi, c2.trim, c.parts⟩ pv ov) := ex_set5 h3 c2.trim
  exact ⟨ex_2 h, ex_3 (c := ⟨c2.lo, c.next, c.hi, c.trim, c.parts⟩) h1, ex_4 (c := ⟨c2.lo, c2.next, c.hi, c.trim, c.parts⟩) h2, ex_5 (c := ⟨c2.lo, c2.next, c2.hi, c.trim, c.parts⟩) h3, ex_6 h4, ex_f h 2, ex_f h1 3, ex_f h2 4, ex_f h3 5, ex_f h4 6, ex_set6 h4 v, (((((Keep.refl _ _).setOne _ _).setOne _ _).setOne _ _).setOne _ _).setOne _ _⟩
theorem pa_fin {F F4 FL : Nat → Prop} {w WX W4 wd w9 : World} {x b lb q p : Nat} {lv pv : Value} {c : Cu} {ov : Bool} {X Z : Dk} {L : Lg} (h : ExSt F FL w x b lb q p lv c pv ov X L) (kX : Keep Non w WX) (k4 : Keep F WX W4) (s4 : Sub F4 F WX) (l4 : ∀ g, F4 g → g < W4.heap.size) (kN : Keep Non W4 wd) (t : StoreTo F4 wd q p Z w9) :
    ∃ F', Sub F' F w ∧ (∀ g, F' g → g < w9.heap.size) ∧ StoreAt F' w9 q p Z ∧ Keep F w w9 ∧ ∀ g, F' g → F g ∨ (WX.heap.size ≤ g ∧ g < W4.heap.size) ∨ wd.heap.size ≤ g := by
  obtain ⟨k9, F9, s9, d9⟩ := t
  have hs1 := kX.size
  have hs2 := k4.size
  have hs3 := kN.size
  have hF : ∀ g, F9 g → F g ∨ (WX.heap.size ≤ g ∧ g < W4.heap.size) ∨ wd.heap.size ≤ g := fun g y => by
    rcases s9 g y with z | z
    · rcases s4 g z with z2 | z2
      · exact .inl z2
      · exact .inr (.inl ⟨z2, l4 g z⟩)
    · exact .inr (.inr z)
  refine ⟨fun g => F9 g ∧ g < w9.heap.size, fun g y => ?_, fun g y => y.2, d9.low, ?_, fun g y => hF g y.1⟩
  · rcases hF g y.1 with z | ⟨z, _⟩ | z
    · exact .inl z
    · exact .inr (by omega)
    · exact .inr (by omega)
  · refine ((kX.ofNon.trans k4 (fun _ _ y => y) (fun _ _ y => y)).trans1 kN.ofNon).trans k9 (fun _ _ y => y) (fun g hg y => ?_)
    rcases s4 g y with z | z
    · exact z
    · omega
section
attribute [local go_sem ↓] hV41 hV190 hV102 hW41 hW190 hW102 hB190 hB102
theorem xpart_any {F FL : Nat → Prop} {x b lb q p : Nat} {c : Cu} {pv : Value} {X : Dk} {L : Lg} (w : World) (h : ExSt F FL w x b lb q p (.slice none 0 0) c pv false X L) (hi : PInv L X c) (hl : Log1 L) (h3 : ∀ a, (cellL L a).1 ≠ 3) (hlt : c.next < c.hi) (hcd : (X.sput (labelN 0 c.parts.length) (segB c.next (slabL L c.hi c.next))).1 = 0)
    (code : Int) (hcd2 : ((X.sput (labelN 0 c.parts.length) (segB c.next (slabL L c.hi c.next))).2.sput cname (cuBy (partCu L c))).1 = code) :
    Calls Tryz.prog 144 #[.pointer (some ⟨x, 0, none⟩)] w fun e w' => e = .returned (errv code) ∧ ExOut F FL w x b lb q p (.slice none 0 0) (if code = 0 then partCu L c else c) false ((X.sput (labelN 0 c.parts.length) (segB c.next (slabL L c.hi c.next))).2.sput cname (cuBy (partCu L c))).2 L w' := by
  have H := Lib.hid h
  have RD := Lib.hid (xread_ok w h.ex h.lg hl hlt hi.ok.hi)
  have h4 := hi.few4
  obtain ⟨cl, hcl⟩ : ∃ cl, cl = slabL L c.hi c.next := ⟨_, rfl⟩
  have hne : cl ≠ [] := by rw [hcl]; exact slab_ne hlt
  have h64 : cl.length ≤ 64 := by rw [hcl]; exact slab_len64 _ _ _
  have hok : ∀ y ∈ cl, okCl y := by rw [hcl]; exact slab_ok hl
  have hln : c.next + cl.length ≤ 1048576 := by rw [hcl, slab_len]; have := hi.ok.hi; omega
  have PC := Lib.hid (partCu_ok hi.ok hl hlt (by omega))
  have hpc : partCu L c = cuStep c (ptOf c.next cl) := by
    unfold partCu cuStep
    rw [← hcl, trimC_none _ _ _ (fun y hy => by rw [hcl] at hy; unfold slabL at hy; obtain ⟨j, _, rfl⟩ := List.mem_map.1 hy; exact h3 _)]
    rfl
  rw [hpc] at PC hcd2 ⊢
  rw [← hcl] at RD hcd hcd2 ⊢
  obtain ⟨Y, hY⟩ : ∃ Y, Y = (X.sput (labelN 0 c.parts.length) (segB c.next cl)).2 := ⟨_, rfl⟩
  rw [← hY] at hcd2 ⊢
  have AD0 : Hid (∀ W v, Keep Non w W → CsAt W v cl → Calls Tryz.prog 213 #[.pointer (some ⟨b, 0, none⟩), .int .i64 0, .int .i64 c.parts.length, .agg #[.int .i64 c.next, v]] W fun e w' => e = .returned (.tuple #[ptV (ptOf c.next cl), .nilIface]) ∧ StoreTo F W q p Y w') := Lib.hid (fun W v k hv => by
    have hrl := run_len hok h64 (show c.next ≤ 1048576 by omega)
    have hsl := seg_len hok h64 (show c.next ≤ 1048576 by omega)
    rw [hY]
    exact vadd_ok F b q p 0 c.parts.length c.next none 0 v cl X _ _ _ W (nonAt k H.out.vt) (H.out.st.keep k (fun _ _ e => e)) hi.lim (by omega) (by omega) (by omega) (fun g x => k.lt (H.out.low g x).2) (by omega) (by omega) hv hne h64 hok hln (by omega) (by omega) (H.out.lay.keepNon k).kon (H.out.lay.keepNon k).frs H.out.out.2.1 hcd)
  have CH0 : Hid (∀ W, Keep Non w W → Calls Tryz.prog 11 #[.pointer (some ⟨b, 0, none⟩)] W fun e w' => e = .returned (.slice none 0 0) ∧ Keep Non W w') := Lib.hid (fun W k => vchain_nil b q none 0 W (nonAt k H.out.vt))
  obtain ⟨pa, pc, rfl, _, _⟩ := ownsRow_form h.row
  have HI := Lib.hid hi
  have k3 : ∀ y ∈ cl, ((y.1 == (3 : Int)) = false) := fun y hy => by
    rw [hcl] at hy
    unfold slabL at hy
    obtain ⟨j, _, rfl⟩ := List.mem_map.1 hy
    simpa using h3 (c.next + j)
  have YL : Hid (Y.lim 40 40 1000000) := Lib.hid (by
    have e1 : X.sput (labelN 0 c.parts.length) (segB c.next cl) = (0, putX X (labelN 0 c.parts.length) (segB c.next cl)) := by
      rcases hi.one hl with ⟨e, _⟩ | e
      · rw [← hcl] at e; rw [e] at hcd; cases hcd
      · rw [← hcl] at e; exact e
    rw [hY, e1]
    rw [hcl] at e1 ⊢
    exact (hi.mid hl e1).2.lim)
  obtain ⟨c2, hc2⟩ : ∃ c2, c2 = cuStep c (ptOf c.next cl) := ⟨_, rfl⟩
  have hc2p : c2.parts = c.parts ++ [ptOf c.next cl] := by rw [hc2]; rfl
  have NL : Hid (c2.parts.length = c.parts.length + 1) := Lib.hid (by rw [hc2p]; simp)
  have SP0 : Hid (∀ W v, PtsAt W v c.parts → Calls Tryz.prog 214 #[cuV c v, ptV (ptOf c.next cl)] W fun e w' => ∃ v', e = .returned (.tuple #[cuV c2 v', .nilIface]) ∧ Keep Non W w' ∧ w'.ownsRow W.heap.size 190 35 v' (c.parts.length + 1) (ptsC c2.parts)) := Lib.hid (fun W v hv => by
    rw [hc2p, hc2]
    exact custep_ok c (ptOf c.next cl) v W hi.ok hv hi.ok.p32 (digB_len _) PC.out)
  rw [← hc2] at PC hcd2 ⊢
  have SV0 : Hid (∀ W F' v, StoreAt F' W q p Y → (∀ g, F' g → g < W.heap.size) → PtsAt W v c2.parts → Calls Tryz.prog 76 #[.pointer (some ⟨q, 0, none⟩), .string ⟨cname.toArray⟩, cuV c2 v] W fun e w' => e = .returned (errv code) ∧ StoreTo F' W q p (Y.sput cname (cuBy c2)).2 w') := Lib.hid (fun W F' v d hF' hv => by
    rw [← hcd2]
    exact cusave_any F' q p c2 v cname Y _ _ _ W d YL.out (by omega) (by omega) (by omega) hF' cname_ok PC.out hv (Nat.le_trans (cu_len' PC.out) (by omega)))
  clear h hi hcd hcl hY hl hlt hpc hcd2 hc2 hc2p h3
  go_enter Tryz.func144, Tryz.ntmps144
  go_wp2_with (go_at_call 212; refine RD.out.mono ?_; rintro e w1 ⟨v1, rfl, k1, xs, o1, q1⟩; obtain ⟨a1, c1, rfl, _, _⟩ := ownsRow_form o1; have K1 := Lib.hid k1; have O1 := Lib.hid o1; have Q1 := Lib.hid q1; clear k1 o1 q1)
  obtain ⟨WX, hWX⟩ : ∃ WX, WX = (w1.alloc (SgB c.next (.slice a1 cl.length c1))).drew := ⟨_, rfl⟩
  have hHX := hWX
  have KX : Hid (Keep Non w WX) := Lib.hid (by rw [hWX]; exact (K1.out.alloc _).drew)
  have SX : Hid (WX.heap[w1.heap.size]? = some (SgB c.next (.slice a1 cl.length c1))) := Lib.hid (by rw [hWX]; exact blk_new w1 _)
  have CSX : Hid (∀ W, Keep Non WX W → CsAt W (.slice a1 cl.length c1) cl) := Lib.hid (fun W k => by
    have k1 : Keep Non w1 WX := by rw [hWX]; exact ((Keep.refl _ _).alloc _).drew
    exact CsAt.of (ownsRow_keep O1.out (k1.trans1 k) (fun _ _ e => e)) (Q1.out.keep (S' := Non) (k1.trans1 k) (fun _ _ e => e) (fun _ _ e => e)))
  have HF : Hid (∀ g, F g → g < WX.heap.size) := Lib.hid (fun g y => KX.out.lt (H.out.low g y).2)
  have LS : Hid (∀ W, Keep F WX W → W.cell? ⟨x, 0, none⟩ = some (.pointer (some ⟨b, 0, none⟩)) ∧ W.cell? ⟨x, 6, none⟩ = some (.slice pa c.parts.length pc) ∧ W.cell? ⟨w1.heap.size, 0, none⟩ = some (.int .i64 c.next) ∧ W.cell? ⟨w1.heap.size, 1, none⟩ = some (.slice a1 cl.length c1)) := Lib.hid (fun W k => by
    have hxx := k.at (nonAt KX.out H.out.ex) H.out.out.1
    have hss := k.at SX.out (fun y => by have := (H.out.low _ y).2; have := K1.out.size; omega)
    exact ⟨ex_0 hxx, ex_6 hxx, sg_0 hss, sg_1 hss⟩)
  have CH : Hid (∀ W, Keep Non WX W → Calls Tryz.prog 11 #[.pointer (some ⟨b, 0, none⟩)] W fun e w' => e = .returned (.slice none 0 0) ∧ Keep Non W w') := Lib.hid (fun W k => CH0.out W (KX.out.trans1 k))
  have AD := Lib.hid (fun W (k : Keep Non WX W) => AD0.out W _ (KX.out.trans1 k) (CSX.out W k))
  have HW : Hid ((w1.alloc (.cells #[.int .i64 c.next, .slice a1 cl.length c1] 147)).drew = WX) := Lib.hid hWX.symm
  have LS0 := LS.out WX (Keep.refl _ _)
  rw [hWX] at LS0
  have LS1 := Lib.hid LS0
  clear AD0 CH0 hWX hHX LS0
  refine (fun (FIN : Hid ?T) => ?main) (Lib.hid ?fin)
  case' main => refine wp_region_noPanic ?_
  refine wp_region_held_drew (S := fun W => W.cell? ⟨x, 0, none⟩ = some (.pointer (some ⟨b, 0, none⟩)) ∧ W.cell? ⟨x, 6, none⟩ = some (.slice pa c.parts.length pc) ∧ W.cell? ⟨w1.heap.size, 0, none⟩ = some (.int .i64 c.next) ∧ W.cell? ⟨w1.heap.size, 1, none⟩ = some (.slice a1 cl.length c1)) (by as_aux_lemma => kernel_rfl) LS1.out (fun hHeld => ?_)
  refine tc (i := 0) (v := ?v9) ?hy9 ?rest9
  case hy9 => intro W ⟨s0, s6, s1, s2⟩; go_simp; first | done | with_reducible rfl
  refine tc (i := 1) (v := ?v10) ?hy10 ?rest10
  case hy10 => intro W ⟨s0, s6, s1, s2⟩; go_simp; first | done | with_reducible rfl
  refine tc (i := 2) (v := ?v11) ?hy11 ?rest11
  case hy11 => intro W ⟨s0, s6, s1, s2⟩; go_simp; first | done | with_reducible rfl
  refine tc (i := 3) (v := ?v12) ?hy12 ?rest12
  case hy12 => intro W ⟨s0, s6, s1, s2⟩; go_simp; first | done | with_reducible rfl
  refine tc (i := 4) (v := ?v13) ?hy13 ?rest13
  case hy13 => intro W ⟨s0, s6, s1, s2⟩; go_simp; first | done | with_reducible rfl
  refine tc (i := 5) (v := ?v14) ?hy14 ?rest14
  case hy14 => intro W ⟨s0, s6, s1, s2⟩; go_simp; first | done | with_reducible rfl
  refine tc (i := 6) (v := ?v15) ?hy15 ?rest15
  case hy15 => intro W ⟨s0, s6, s1, s2⟩; go_simp; first | done | with_reducible rfl
  refine tc (i := 7) (v := ?v16) ?hy16 ?rest16
  case hy16 => intro W ⟨s0, s6, s1, s2⟩; go_simp; first | done | with_reducible rfl
  refine tc (i := 10) (v := ?v17) ?hy17 ?rest17
  case hy17 => intro W ⟨s0, s6, s1, s2⟩; go_simp; first | done | with_reducible rfl
  refine tc (i := 11) (v := ?v18) ?hy18 ?rest18
  case hy18 => intro W ⟨s0, s6, s1, s2⟩; go_simp; first | done | with_reducible rfl
  refine tc (i := 12) (v := ?v19) ?hy19 ?rest19
  case hy19 => intro W ⟨s0, s6, s1, s2⟩; go_simp; first | done | with_reducible rfl
  refine tc (i := 13) (v := ?v20) ?hy20 ?rest20
  case hy20 => intro W ⟨s0, s6, s1, s2⟩; go_simp; first | done | with_reducible rfl
  refine tc (i := 14) (v := ?v21) ?hy21 ?rest21
  case hy21 => intro W ⟨s0, s6, s1, s2⟩; go_simp; first | done | with_reducible rfl
  refine tc (i := 15) (v := ?v22) ?hy22 ?rest22
  case hy22 => intro W ⟨s0, s6, s1, s2⟩; go_simp; first | done | with_reducible rfl
  refine tc (i := 16) (v := ?v23) ?hy23 ?rest23
  case hy23 => intro W ⟨s0, s6, s1, s2⟩; go_simp; first | done | with_reducible rfl
  rw [HW.out]
  clear hHeld
  have hHeld := LS.out WX (Keep.refl _ _)
  refine wpAnyH_ready (rs := [8, 21]) (by as_aux_lemma => kernel_rfl) (by simp) ?_
  refine AllReadyH.cons (by simp only [List.getElem?_toArray, List.getElem?_cons_succ, List.getElem?_cons_zero]; rfl) (fun K hK => ?arm24_8) (AllReadyH.cons (by simp only [List.getElem?_toArray, List.getElem?_cons_succ, List.getElem?_cons_zero]; rfl) (fun K hK => ?arm24_21) AllReadyH.nil)
  case' arm24_8 =>
    go_simp
    refine (CH.out WX (Keep.refl Non WX)).mono ?_
    rintro e w25 ⟨rfl, t25⟩
    have k25 := Lib.hid (((Keep.refl Non WX)).trans1 t25)
    clear t25
    go_wp2_with fail
    refine hK.out _ _ (LS.out w25 k25.out.ofNon) (fun hHeld25 => ?_)
    clear hK K
    try simp only [Act.put, List.setIfInBounds_toArray, List.set_cons_zero, List.set_cons_succ]
    refine tc (i := 9) (v := ?v26) ?hy26 ?rest26
    case hy26 => intro W ⟨s0, s6, s1, s2⟩; go_simp; first | done | with_reducible rfl
    refine wpAnyH_ready (rs := [17, 21]) (by as_aux_lemma => kernel_rfl) (by simp) ?_
    refine AllReadyH.cons (by simp only [List.getElem?_toArray, List.getElem?_cons_succ, List.getElem?_cons_zero]; rfl) (fun K hK => ?arm27_17) (AllReadyH.cons (by simp only [List.getElem?_toArray, List.getElem?_cons_succ, List.getElem?_cons_zero]; rfl) (fun K hK => ?arm27_21) AllReadyH.nil)
    case' arm27_17 =>
      go_simp
      refine (AD.out w25 k25.out).mono ?_
      rintro e w28 ⟨rfl, t28⟩
      have T28 := Lib.hid t28
      have kf28 : Hid (Keep F WX w28) := Lib.hid ((k25.out).ofNon.trans t28.1 (fun _ _ x => x) (fun _ _ x => x))
      clear t28
      go_wp2_with fail
      refine hK.out _ _ (LS.out w28 kf28.out) (fun hHeld28 => ?_)
      clear hK K
      try simp only [Act.put, List.setIfInBounds_toArray, List.set_cons_zero, List.set_cons_succ]
      refine tc (i := 18) (v := ?v29) ?hy29 ?rest29
      case hy29 => intro W ⟨s0, s6, s1, s2⟩; go_simp; first | done | with_reducible rfl
      refine tc (i := 19) (v := ?v30) ?hy30 ?rest30
      case hy30 => intro W ⟨s0, s6, s1, s2⟩; go_simp; first | done | with_reducible rfl
      refine tc (i := 20) (v := ?v31) ?hy31 ?rest31
      case hy31 => intro W ⟨s0, s6, s1, s2⟩; go_simp; first | done | with_reducible rfl
      refine rc (i := 21) (fun K hK => ?_)
      go_simp
      have hst := store_pt0 w28 (ptOf c.next cl) (digB_len _)
      have E := Lib.hid (pa_endA (o := (PtB (ptOf c.next cl))) k25.out T28.out HF.out)
      dsimp only [zPt, PtB] at hst
      refine hK.out _ _ (LS.out _ (kf28.out.alloc _)) (fun hHeld32 => ?_)
      clear hK K
      try simp only [Act.put, List.setIfInBounds_toArray, List.set_cons_zero, List.set_cons_succ]
      refine rc (i := 22) (fun K hK => ?_)
      go_simp
      refine hK.out _ _ (LS.out _ (kf28.out.alloc _)) (fun hHeld33 => ?_)
      clear hK K
      try simp only [Act.put, List.setIfInBounds_toArray, List.set_cons_zero, List.set_cons_succ]
      refine tc (i := 23) (v := ?v34) ?hy34 ?rest34
      case hy34 => intro W ⟨s0, s6, s1, s2⟩; go_simp; first | done | with_reducible rfl
      refine wpAnyH_done (by as_aux_lemma => kernel_rfl) ?_ _
      refine NoPanic.normal ?_
      have e0 := E.out
      dsimp only [PtB] at e0
      generalize (w28.alloc _) = W4 at e0 ⊢
      generalize w28.heap.size = b5 at e0 ⊢
      have E5 := Lib.hid e0
      clear e0
      revert W4 b5
      exact FIN.out
    case' arm27_21 =>
      go_simp
      have k35 : Hid (Keep Non WX (w25.alloc (.cells zPt 190))) := Lib.hid ((k25.out).alloc _)
      have z35 := Lib.hid (blk_new w25 (.cells zPt 190 (0, 0)))
      have y35 : Hid (WX.heap.size ≤ w25.heap.size) := Lib.hid ((k25.out).size)
      obtain ⟨v35, hv35⟩ : ∃ v35, v35 = w25.alloc (.cells zPt 190) := ⟨_, rfl⟩
      rw [← hv35] at k35 z35
      dsimp only [zPt] at hv35
      try rw [← hv35]
      clear hv35
      refine hK.out _ _ (LS.out v35 k35.out.ofNon) (fun hHeld35 => ?_)
      clear hK K
      try simp only [Act.put, List.setIfInBounds_toArray, List.set_cons_zero, List.set_cons_succ]
      refine rc (i := 17) (fun K hK => ?_)
      go_simp
      refine (AD.out v35 k35.out).mono ?_
      rintro e w36 ⟨rfl, t36⟩
      have T36 := Lib.hid t36
      have kf36 : Hid (Keep F WX w36) := Lib.hid ((k35.out).ofNon.trans t36.1 (fun _ _ x => x) (fun _ _ x => x))
      clear t36
      go_wp2_with fail
      refine hK.out _ _ (LS.out w36 kf36.out) (fun hHeld36 => ?_)
      clear hK K
      try simp only [Act.put, List.setIfInBounds_toArray, List.set_cons_zero, List.set_cons_succ]
      refine tc (i := 18) (v := ?v37) ?hy37 ?rest37
      case hy37 => intro W ⟨s0, s6, s1, s2⟩; go_simp; first | done | with_reducible rfl
      refine tc (i := 19) (v := ?v38) ?hy38 ?rest38
      case hy38 => intro W ⟨s0, s6, s1, s2⟩; go_simp; first | done | with_reducible rfl
      refine tc (i := 20) (v := ?v39) ?hy39 ?rest39
      case hy39 => intro W ⟨s0, s6, s1, s2⟩; go_simp; first | done | with_reducible rfl
      refine rc (i := 22) (fun K hK => ?_)
      have E2 := pa_endR (o := (PtB (ptOf c.next cl))) (arr := (ptC (ptOf c.next cl)).toArray) rfl k35.out z35.out y35.out T36.out HF.out
      have hst := store_pt w36 w25.heap.size (ptOf c.next cl) zPt (digB_len _) rfl E2.1
      have E := Lib.hid E2.2
      clear E2
      go_simp
      refine hK.out _ _ (LS.out _ E.out.kp) (fun hHeld40 => ?_)
      clear hK K
      try simp only [Act.put, List.setIfInBounds_toArray, List.set_cons_zero, List.set_cons_succ]
      refine tc (i := 23) (v := ?v41) ?hy41 ?rest41
      case hy41 => intro W ⟨s0, s6, s1, s2⟩; go_simp; first | done | with_reducible rfl
      refine wpAnyH_done (by as_aux_lemma => kernel_rfl) ?_ _
      refine NoPanic.normal ?_
      have e0 := E.out
      generalize (w36.setRow _ _) = W4 at e0 ⊢
      generalize w25.heap.size = b5 at e0 ⊢
      have E5 := Lib.hid e0
      clear e0
      revert W4 b5
      exact FIN.out
  case' arm24_21 =>
    go_simp
    have k42 : Hid (Keep Non WX (WX.alloc (.cells zPt 190))) := Lib.hid (((Keep.refl Non WX)).alloc _)
    have z42 := Lib.hid (blk_new WX (.cells zPt 190 (0, 0)))
    have y42 : Hid (WX.heap.size ≤ WX.heap.size) := Lib.hid (((Keep.refl Non WX)).size)
    obtain ⟨v42, hv42⟩ : ∃ v42, v42 = WX.alloc (.cells zPt 190) := ⟨_, rfl⟩
    rw [← hv42] at k42 z42
    dsimp only [zPt] at hv42
    try rw [← hv42]
    clear hv42
    refine hK.out _ _ (LS.out v42 k42.out.ofNon) (fun hHeld42 => ?_)
    clear hK K
    try simp only [Act.put, List.setIfInBounds_toArray, List.set_cons_zero, List.set_cons_succ]
    refine rc (i := 8) (fun K hK => ?_)
    go_simp
    refine (CH.out v42 k42.out).mono ?_
    rintro e w43 ⟨rfl, t43⟩
    have k43 := Lib.hid ((k42.out).trans1 t43)
    have z43 := Lib.hid (nonAt t43 z42.out)
    clear t43
    go_wp2_with fail
    refine hK.out _ _ (LS.out w43 k43.out.ofNon) (fun hHeld43 => ?_)
    clear hK K
    try simp only [Act.put, List.setIfInBounds_toArray, List.set_cons_zero, List.set_cons_succ]
    refine tc (i := 9) (v := ?v44) ?hy44 ?rest44
    case hy44 => intro W ⟨s0, s6, s1, s2⟩; go_simp; first | done | with_reducible rfl
    refine rc (i := 17) (fun K hK => ?_)
    go_simp
    refine (AD.out w43 k43.out).mono ?_
    rintro e w45 ⟨rfl, t45⟩
    have T45 := Lib.hid t45
    have kf45 : Hid (Keep F WX w45) := Lib.hid ((k43.out).ofNon.trans t45.1 (fun _ _ x => x) (fun _ _ x => x))
    clear t45
    go_wp2_with fail
    refine hK.out _ _ (LS.out w45 kf45.out) (fun hHeld45 => ?_)
    clear hK K
    try simp only [Act.put, List.setIfInBounds_toArray, List.set_cons_zero, List.set_cons_succ]
    refine tc (i := 18) (v := ?v46) ?hy46 ?rest46
    case hy46 => intro W ⟨s0, s6, s1, s2⟩; go_simp; first | done | with_reducible rfl
    refine tc (i := 19) (v := ?v47) ?hy47 ?rest47
    case hy47 => intro W ⟨s0, s6, s1, s2⟩; go_simp; first | done | with_reducible rfl
    refine tc (i := 20) (v := ?v48) ?hy48 ?rest48
    case hy48 => intro W ⟨s0, s6, s1, s2⟩; go_simp; first | done | with_reducible rfl
    refine rc (i := 22) (fun K hK => ?_)
    have E2 := pa_endR (o := (PtB (ptOf c.next cl))) (arr := (ptC (ptOf c.next cl)).toArray) rfl k43.out z43.out y42.out T45.out HF.out
    have hst := store_pt w45 WX.heap.size (ptOf c.next cl) zPt (digB_len _) rfl E2.1
    have E := Lib.hid E2.2
    clear E2
    go_simp
    refine hK.out _ _ (LS.out _ E.out.kp) (fun hHeld49 => ?_)
    clear hK K
    try simp only [Act.put, List.setIfInBounds_toArray, List.set_cons_zero, List.set_cons_succ]
    refine tc (i := 23) (v := ?v50) ?hy50 ?rest50
    case hy50 => intro W ⟨s0, s6, s1, s2⟩; go_simp; first | done | with_reducible rfl
    refine wpAnyH_done (by as_aux_lemma => kernel_rfl) ?_ _
    refine NoPanic.normal ?_
    have e0 := E.out
    generalize (w45.setRow _ _) = W4 at e0 ⊢
    generalize WX.heap.size = b5 at e0 ⊢
    have E5 := Lib.hid e0
    clear e0
    revert W4 b5
    exact FIN.out
  intro V4 b5 E5
  have E5 := Lib.hid (pa_drew E5.out)
  obtain ⟨W4, hW4⟩ : ∃ W4, W4 = V4.drew := ⟨_, rfl⟩
  rw [← hW4] at E5
  have HW4 : Hid (V4.drew = W4) := Lib.hid hW4.symm
  clear hW4
  have XF : Hid (∀ W, Keep F WX W → W.heap[x]? = some (ExB b lb c (.slice pa c.parts.length pc) false)) := Lib.hid (fun W k => k.at (nonAt KX.out H.out.ex) H.out.out.1)
  have LC : Hid (∀ W, Keep Non W4 W → W.cell? ⟨x, 2, none⟩ = some (.int .i64 c.lo) ∧ W.cell? ⟨x, 3, none⟩ = some (.int .i64 c.next) ∧ W.cell? ⟨x, 4, none⟩ = some (.int .i64 c.hi) ∧ W.cell? ⟨x, 5, none⟩ = some (.int .i64 c.trim) ∧ W.cell? ⟨x, 6, none⟩ = some (.slice pa c.parts.length pc) ∧ (holdV 190 ⟨b5, 0, none⟩).run Tryz.prog W = .ok (ptV (ptOf c.next cl)) W) := Lib.hid (fun W k => by
    have hxx := XF.out W (E5.out.kp.trans1 k.ofNon)
    exact ⟨ex_2 hxx, ex_3 hxx, ex_4 hxx, ex_5 hxx, ex_6 hxx, load_pt (nonAt k E5.out.bx) (digB_len _)⟩)
  have LC1 : Hid (V4.drew.cell? ⟨x, 2, none⟩ = some (.int .i64 c.lo) ∧ V4.drew.cell? ⟨x, 3, none⟩ = some (.int .i64 c.next) ∧ V4.drew.cell? ⟨x, 4, none⟩ = some (.int .i64 c.hi) ∧ V4.drew.cell? ⟨x, 5, none⟩ = some (.int .i64 c.trim) ∧ V4.drew.cell? ⟨x, 6, none⟩ = some (.slice pa c.parts.length pc) ∧ (holdV 190 ⟨b5, 0, none⟩).run Tryz.prog V4.drew = .ok (ptV (ptOf c.next cl)) V4.drew) := Lib.hid (by
    have := LC.out W4 (Keep.refl _ _)
    rw [← HW4.out] at this
    exact this)
  have SP : Hid (∀ W, Keep Non W4 W → Calls Tryz.prog 214 #[.agg #[.int .i64 c.lo, .int .i64 c.next, .int .i64 c.hi, .int .i64 c.trim, .slice pa c.parts.length pc], ptV (ptOf c.next cl)] W fun e w' => ∃ v', e = .returned (.tuple #[.agg #[.int .i64 c2.lo, .int .i64 c2.next, .int .i64 c2.hi, .int .i64 c2.trim, v'], .nilIface]) ∧ Keep Non W w' ∧ w'.ownsRow W.heap.size 190 35 v' (c.parts.length + 1) (ptsC c2.parts)) := Lib.hid (fun W k => SP0.out W _ (PtsAt.of (ownsRow_keep (ownsRow_keep (ownsRow_keep H.out.row KX.out (fun _ _ e => e)) E5.out.kp (fun g e => (H.out.pvo g e).1)) k (fun _ _ e => e)) HI.out.ok.p32))
  have LZ : Hid (W4.heap.size ≤ W4.heap.size) := Lib.hid (Nat.le_refl _)
  clear SP0
  go_wp2_with fail
  refine (fun (FIN2 : Hid ?T2) => ?main2) (Lib.hid ?fin2)
  case' main2 => refine wp_region_noPanic ?_
  refine wp_region_held_drew (S := fun W => W.cell? ⟨x, 2, none⟩ = some (.int .i64 c.lo) ∧ W.cell? ⟨x, 3, none⟩ = some (.int .i64 c.next) ∧ W.cell? ⟨x, 4, none⟩ = some (.int .i64 c.hi) ∧ W.cell? ⟨x, 5, none⟩ = some (.int .i64 c.trim) ∧ W.cell? ⟨x, 6, none⟩ = some (.slice pa c.parts.length pc) ∧ (holdV 190 ⟨b5, 0, none⟩).run Tryz.prog W = .ok (ptV (ptOf c.next cl)) W) (by as_aux_lemma => kernel_rfl) LC1.out (fun hHeld => ?_)
  refine tc (i := 0) (v := ?v51) ?hy51 ?rest51
  case hy51 => intro W ⟨s2, s3, s4, s5, s6, sh⟩; go_simp; first | done | with_reducible rfl
  refine tc (i := 1) (v := ?v52) ?hy52 ?rest52
  case hy52 => intro W ⟨s2, s3, s4, s5, s6, sh⟩; go_simp; first | done | with_reducible rfl
  refine tc (i := 2) (v := ?v53) ?hy53 ?rest53
  case hy53 => intro W ⟨s2, s3, s4, s5, s6, sh⟩; go_simp; first | done | with_reducible rfl
  refine tc (i := 3) (v := ?v54) ?hy54 ?rest54
  case hy54 => intro W ⟨s2, s3, s4, s5, s6, sh⟩; go_simp; first | done | with_reducible rfl
  refine tc (i := 4) (v := ?v55) ?hy55 ?rest55
  case hy55 => intro W ⟨s2, s3, s4, s5, s6, sh⟩; go_simp; first | done | with_reducible rfl
  rw [HW4.out]
  clear hHeld
  have hHeld := LC.out W4 (Keep.refl _ _)
  refine wpAnyH_ready (rs := [5, 9]) (by as_aux_lemma => kernel_rfl) (by simp) ?_
  refine AllReadyH.cons (by simp only [List.getElem?_toArray, List.getElem?_cons_succ, List.getElem?_cons_zero]; rfl) (fun K hK => ?arm56_5) (AllReadyH.cons (by simp only [List.getElem?_toArray, List.getElem?_cons_succ, List.getElem?_cons_zero]; rfl) (fun K hK => ?arm56_9) AllReadyH.nil)
  case' arm56_5 =>
    go_simp
    refine (SP.out W4 (Keep.refl Non W4)).mono ?_
    rintro e w57 ⟨v6, rfl, t57, o57⟩
    obtain ⟨a6, c6, rfl⟩ : ∃ a c', v6 = .slice a (c.parts.length + 1) c' := by obtain ⟨a, c', e, _, _⟩ := ownsRow_form o57; exact ⟨a, c', e⟩
    have k57 := Lib.hid (((Keep.refl Non W4)).trans1 t57)
    have O57 := Lib.hid o57
    clear t57 o57
    go_wp2_with fail
    refine hK.out _ _ (LC.out w57 k57.out) (fun hHeld57 => ?_)
    clear hK K
    try simp only [Act.put, List.setIfInBounds_toArray, List.set_cons_zero, List.set_cons_succ]
    refine tc (i := 6) (v := ?v58) ?hy58 ?rest58
    case hy58 => intro W ⟨s2, s3, s4, s5, s6, sh⟩; go_simp; first | done | with_reducible rfl
    refine tc (i := 7) (v := ?v59) ?hy59 ?rest59
    case hy59 => intro W ⟨s2, s3, s4, s5, s6, sh⟩; go_simp; first | done | with_reducible rfl
    refine tc (i := 8) (v := ?v60) ?hy60 ?rest60
    case hy60 => intro W ⟨s2, s3, s4, s5, s6, sh⟩; go_simp; first | done | with_reducible rfl
    refine rc (i := 9) (fun K hK => ?_)
    go_simp
    have E := Lib.hid (st_endA k57.out O57.out LZ.out)
    refine hK.out _ _ (LC.out _ ((k57.out).alloc _)) (fun hHeld61 => ?_)
    clear hK K
    try simp only [Act.put, List.setIfInBounds_toArray, List.set_cons_zero, List.set_cons_succ]
    refine rc (i := 10) (fun K hK => ?_)
    go_simp
    refine hK.out _ _ (LC.out _ ((k57.out).alloc _)) (fun hHeld62 => ?_)
    clear hK K
    try simp only [Act.put, List.setIfInBounds_toArray, List.set_cons_zero, List.set_cons_succ]
    refine tc (i := 11) (v := ?v63) ?hy63 ?rest63
    case hy63 => intro W ⟨s2, s3, s4, s5, s6, sh⟩; go_simp; first | done | with_reducible rfl
    refine wpAnyH_done (by as_aux_lemma => kernel_rfl) ?_ _
    refine NoPanic.normal ?_
    have e0 := E.out
    dsimp only [CuB] at e0
    generalize (w57.alloc _) = W5 at e0 ⊢
    generalize w57.heap.size = nb at e0 ⊢
    have E6 := Lib.hid e0
    clear e0 E
    clear O57
    try clear hHeld57
    try clear hHeld61
    try clear hHeld62
    revert a6 c6 W5 nb
    exact FIN2.out
  case' arm56_9 =>
    go_simp
    have k64 : Hid (Keep Non W4 (W4.alloc (.cells #[.int .i64 0, .int .i64 0, .int .i64 0, .int .i64 0, .slice none 0 0] 170 (0, 0)))) := Lib.hid (((Keep.refl Non W4)).alloc _)
    have z64 : Hid ((W4.alloc (.cells #[.int .i64 0, .int .i64 0, .int .i64 0, .int .i64 0, .slice none 0 0] 170 (0, 0))).heap[W4.heap.size]? = some (CuB ⟨0, 0, 0, 0, []⟩ (.slice none 0 0))) := Lib.hid (blk_new W4 _)
    have y64 : Hid (W4.heap.size ≤ W4.heap.size) := Lib.hid (((Keep.refl Non W4)).size)
    have l64 : Hid (W4.heap.size < (W4.alloc (.cells #[.int .i64 0, .int .i64 0, .int .i64 0, .int .i64 0, .slice none 0 0] 170 (0, 0))).heap.size) := Lib.hid (lt_of_block z64.out)
    obtain ⟨v64, hv64⟩ : ∃ v64, v64 = W4.alloc (.cells #[.int .i64 0, .int .i64 0, .int .i64 0, .int .i64 0, .slice none 0 0] 170 (0, 0)) := ⟨_, rfl⟩
    rw [← hv64] at k64 z64 l64
    try rw [← hv64]
    clear hv64
    refine hK.out _ _ (LC.out v64 k64.out) (fun hHeld64 => ?_)
    clear hK K
    try simp only [Act.put, List.setIfInBounds_toArray, List.set_cons_zero, List.set_cons_succ]
    refine rc (i := 5) (fun K hK => ?_)
    go_simp
    refine (SP.out v64 k64.out).mono ?_
    rintro e w65 ⟨v6, rfl, t65, o65⟩
    obtain ⟨a6, c6, rfl⟩ : ∃ a c', v6 = .slice a (c.parts.length + 1) c' := by obtain ⟨a, c', e, _, _⟩ := ownsRow_form o65; exact ⟨a, c', e⟩
    have k65 := Lib.hid ((k64.out).trans1 t65)
    have O65 := Lib.hid o65
    have z65 := Lib.hid (nonAt t65 z64.out)
    clear t65 o65
    go_wp2_with fail
    refine hK.out _ _ (LC.out w65 k65.out) (fun hHeld65 => ?_)
    clear hK K
    try simp only [Act.put, List.setIfInBounds_toArray, List.set_cons_zero, List.set_cons_succ]
    refine tc (i := 6) (v := ?v66) ?hy66 ?rest66
    case hy66 => intro W ⟨s2, s3, s4, s5, s6, sh⟩; go_simp; first | done | with_reducible rfl
    refine tc (i := 7) (v := ?v67) ?hy67 ?rest67
    case hy67 => intro W ⟨s2, s3, s4, s5, s6, sh⟩; go_simp; first | done | with_reducible rfl
    refine tc (i := 8) (v := ?v68) ?hy68 ?rest68
    case hy68 => intro W ⟨s2, s3, s4, s5, s6, sh⟩; go_simp; first | done | with_reducible rfl
    refine rc (i := 10) (fun K hK => ?_)
    obtain ⟨y0, y1, y2, y3, y4, z0, z1, z2, z3, z4⟩ := ct_sets z65.out c2.lo c2.next c2.hi c2.trim
    have E := Lib.hid (st_endR k65.out z65.out y64.out O65.out l64.out)
    go_simp
    refine hK.out _ _ (LC.out _ E.out.kp) (fun hHeld69 => ?_)
    clear hK K
    try simp only [Act.put, List.setIfInBounds_toArray, List.set_cons_zero, List.set_cons_succ]
    refine tc (i := 11) (v := ?v70) ?hy70 ?rest70
    case hy70 => intro W ⟨s2, s3, s4, s5, s6, sh⟩; go_simp; first | done | with_reducible rfl
    refine wpAnyH_done (by as_aux_lemma => kernel_rfl) ?_ _
    refine NoPanic.normal ?_
    have e0 := E.out
    clear y0 y1 y2 y3 y4 z0 z1 z2 z3 z4
    generalize (World.setCell (World.setCell (World.setCell (World.setCell (World.setCell w65 _ _) _ _) _ _) _ _) _ _) = W5 at e0 ⊢
    generalize W4.heap.size = nb at e0 ⊢
    have E6 := Lib.hid e0
    clear e0 E
    clear O65
    try clear hHeld64
    try clear hHeld65
    try clear hHeld69
    revert a6 c6 W5 nb
    exact FIN2.out
  intro a6 c6 W5 nb E6
  have KF5 : Hid (Keep F WX W5) := Lib.hid (E5.out.kp.trans1 E6.out.kp.ofNon)
  have SB5 : Hid (∀ W, Keep Non W5 W → W.heap[w1.heap.size]? = some (SgB c.next (.slice a1 cl.length c1))) := Lib.hid (fun W k => (KF5.out.trans1 k.ofNon).at SX.out (fun y => by have := (H.out.low _ y).2; have := K1.out.size; omega))
  have k1X : Keep Non w1 WX := by rw [← HW.out]; exact ((Keep.refl _ _).alloc _).drew
  have CS5 : Hid (∀ W, Keep Non W5 W → CsAt W (.slice a1 cl.length c1) cl) := Lib.hid (fun W k => by
    have kk : Keep F WX W := KF5.out.trans1 k.ofNon
    refine CsAt.of (ownsRow_keep (ownsRow_keep O1.out k1X (fun _ _ e => e)) kk (fun g e y => by have := (O1.out.lt g e).1; have := (H.out.low g y).2; omega)) ((Q1.out.keep (S' := Non) k1X (fun _ _ e => e) (fun _ _ e => e)).keep (S' := Non) kk (fun g hg y => by have := (H.out.low g y).2; omega) (fun _ _ e => e)))
  have s1 := sg_1 (SB5.out W5 (Keep.refl _ _))
  have KK3 := Lib.hid k3
  clear k1X k3
  go_wp2_with fail
  clear s1
  go_loopw [57] (fun i wr => ∃ j : Nat, j ≤ cl.length ∧ i = .int .i64 j ∧ Keep Non W5 wr) (fun i _ => cl.length - (intOf i).toNat)
  case atStart => exact ⟨0, by omega, rfl, Keep.refl _ _⟩
  case round =>
    obtain ⟨j, hj, rfl, hk⟩ := hrel
    have HK := Lib.hid hk
    clear hk
    by_cases hlt : j < cl.length
    · have hlj : (j : Int) < (cl.length : Int) := by omega
      obtain ⟨a1', c1', e1, _, _, hx⟩ := CS5.out wr HK.out
      injection e1 with e1 e3 e4
      subst e1
      subst e4
      obtain ⟨g, off, sv1, rfl, h0, h1, hb1, _⟩ := hx j hlt
      have hk3 := KK3.out cl[j] (List.getElem_mem _)
      generalize cl[j] = y at h0 h1 hb1 hk3
      obtain ⟨av, nv, rfl, _⟩ := bs_cell hb1
      clear hx hb1
      go_wp2_with fail
      exact ⟨⟨j + 1, by omega, by first | rfl | go_num, HK.out.alloc _⟩, by simp [intOf]; omega⟩
    · obtain rfl : j = cl.length := by omega
      obtain ⟨F4, t4, l4, n4, d4⟩ := E5.out.st
      have KD : Hid (Keep Non W4 wr.drew) := Lib.hid ((E6.out.kp.trans1 HK.out).drew)
      have K5D : Hid (Keep Non W5 wr.drew) := Lib.hid HK.out.drew
      obtain ⟨wd, hwd⟩ : ∃ wd, wd = wr.drew := ⟨_, rfl⟩
      have HWD : Hid (wr.drew = wd) := Lib.hid hwd.symm
      rw [← hwd] at KD K5D
      have D4 := Lib.hid (d4.keep KD.out (fun _ _ e => e))
      have NB := Lib.hid (nonAt K5D.out E6.out.bx)
      have XD := Lib.hid (XF.out wd (E5.out.kp.trans1 KD.out.ofNon))
      have x0 := ex_0 XD.out
      have n0 := cu_0 NB.out
      have n1 := cu_1 NB.out
      have n2 := cu_2 NB.out
      have n3 := cu_3 NB.out
      have n4' := cu_4 NB.out
      have p32 := PC.out.p32
      have BVT : Hid (wd.heap[b]? = some (VtB q (.slice none 0 0))) := Lib.hid ((E5.out.kp.trans1 KD.out.ofNon).at (nonAt KX.out H.out.vt) H.out.out.2.1)
      have SV := Lib.hid (SV0.out wd F4 (.slice a6 (c.parts.length + 1) c6) D4.out (fun g y => KD.out.lt (l4 g y)) (by
        have hr := ownsRow_keep E6.out.row K5D.out (fun _ _ e => e)
        exact PtsAt.of (by rw [NL.out]; exact hr) p32))
      have ST := Lib.hid (vstore_ok b q (.slice none 0 0) wd BVT.out)
      have T4 := Lib.hid (And.intro t4 (And.intro l4 n4))
      unfold cuV cname at SV
      rw [hwd] at x0 n0 n1 n2 n3 n4'
      clear d4 SV0 hwd t4 l4 n4 p32
      have LN : Hid (∀ W, Keep F4 wd W → W.cell? ⟨x, 0, none⟩ = some (.pointer (some ⟨b, 0, none⟩)) ∧ W.cell? ⟨nb, 0, none⟩ = some (.int .i64 c2.lo) ∧ W.cell? ⟨nb, 1, none⟩ = some (.int .i64 c2.next) ∧ W.cell? ⟨nb, 2, none⟩ = some (.int .i64 c2.hi) ∧ W.cell? ⟨nb, 3, none⟩ = some (.int .i64 c2.trim) ∧ W.cell? ⟨nb, 4, none⟩ = some (.slice a6 (c.parts.length + 1) c6)) := Lib.hid (fun W k => by
        have h1 := k.at NB.out (fun e => by have := T4.out.2.1 _ e; have := E6.out.lo; omega)
        have h2 := k.at XD.out (fun y => by
          rcases T4.out.1 _ y with u | u
          · exact H.out.out.1 u
          · have := lt_of_block H.out.ex; have := KX.out.size; omega)
        exact ⟨ex_0 h2, cu_0 h1, cu_1 h1, cu_2 h1, cu_3 h1, cu_4 h1⟩)
      have LN1 : Hid (wr.drew.cell? ⟨x, 0, none⟩ = some (.pointer (some ⟨b, 0, none⟩)) ∧ wr.drew.cell? ⟨nb, 0, none⟩ = some (.int .i64 c2.lo) ∧ wr.drew.cell? ⟨nb, 1, none⟩ = some (.int .i64 c2.next) ∧ wr.drew.cell? ⟨nb, 2, none⟩ = some (.int .i64 c2.hi) ∧ wr.drew.cell? ⟨nb, 3, none⟩ = some (.int .i64 c2.trim) ∧ wr.drew.cell? ⟨nb, 4, none⟩ = some (.slice a6 (c.parts.length + 1) c6)) := Lib.hid (by rw [HWD.out]; exact LN.out wd (Keep.refl _ _))
      clear x0 n0 n1 n2 n3 n4'
      go_wp2_with fail
      refine wp_region_noPanic ?_
      refine wp_region_held_drew (S := fun W => W.cell? ⟨x, 0, none⟩ = some (.pointer (some ⟨b, 0, none⟩)) ∧ W.cell? ⟨nb, 0, none⟩ = some (.int .i64 c2.lo) ∧ W.cell? ⟨nb, 1, none⟩ = some (.int .i64 c2.next) ∧ W.cell? ⟨nb, 2, none⟩ = some (.int .i64 c2.hi) ∧ W.cell? ⟨nb, 3, none⟩ = some (.int .i64 c2.trim) ∧ W.cell? ⟨nb, 4, none⟩ = some (.slice a6 (c.parts.length + 1) c6)) (by as_aux_lemma => kernel_rfl) LN1.out (fun hHeld => ?_)
      refine tc (i := 0) (v := ?v1) ?hy1 ?rest1
      case hy1 => intro W ⟨s0, m0, m1, m2, m3, m4⟩; go_simp; first | done | with_reducible rfl
      refine tc (i := 1) (v := ?v2) ?hy2 ?rest2
      case hy2 => intro W ⟨s0, m0, m1, m2, m3, m4⟩; go_simp; first | done | with_reducible rfl
      refine tc (i := 2) (v := ?v3) ?hy3 ?rest3
      case hy3 => intro W ⟨s0, m0, m1, m2, m3, m4⟩; go_simp; first | done | with_reducible rfl
      refine tc (i := 3) (v := ?v4) ?hy4 ?rest4
      case hy4 => intro W ⟨s0, m0, m1, m2, m3, m4⟩; go_simp; first | done | with_reducible rfl
      refine tc (i := 5) (v := ?v5) ?hy5 ?rest5
      case hy5 => intro W ⟨s0, m0, m1, m2, m3, m4⟩; go_simp; first | done | with_reducible rfl
      rw [HWD.out]
      clear hHeld
      have hHeld := LN.out wd (Keep.refl _ _)
      refine rc (i := 4) (fun K hK => ?_)
      go_simp
      refine ST.out.mono ?_
      rintro e w8 ⟨rfl, rfl⟩
      go_wp2_with fail
      refine hK.out _ _ (LN.out _ (Keep.refl _ _)) (fun hHeld6 => ?_)
      clear hK K
      try simp only [Act.put, List.setIfInBounds_toArray, List.set_cons_zero, List.set_cons_succ]
      refine rc (i := 6) (fun K hK => ?_)
      go_simp
      refine SV.out.mono ?_
      rintro e w9 ⟨rfl, t9⟩
      go_wp2_with fail
      refine hK.out _ _ (LN.out w9 t9.1) (fun hHeld7 => ?_)
      clear hK K
      try simp only [Act.put, List.setIfInBounds_toArray, List.set_cons_zero, List.set_cons_succ]
      refine tc (i := 7) (v := ?v8) ?hy8 ?rest8
      case hy8 => intro W ⟨s0, m0, m1, m2, m3, m4⟩; go_simp; first | done | with_reducible rfl
      refine wpAnyH_done (by as_aux_lemma => kernel_rfl) ?_ _
      refine NoPanic.normal ?_
      obtain ⟨F', s', l', d', k', hF'⟩ := pa_fin H.out KX.out E5.out.kp T4.out.1 T4.out.2.1 KD.out t9
      have K9 := Lib.hid k'
      have D9 := Lib.hid d'
      have S9 := Lib.hid (And.intro s' (And.intro l' hF'))
      have N9 := Lib.hid (t9.1.at NB.out (fun e => by have := T4.out.2.1 _ e; have := E6.out.lo; omega))
      have R9 := Lib.hid (ownsRow_keep (ownsRow_keep E6.out.row K5D.out (fun _ _ e => e)) t9.1 (fun g e y => by have := (E6.out.row.lt g e).1; have := T4.out.2.1 _ y; omega))
      have X9 := Lib.hid (k'.at H.out.ex H.out.out.1)
      clear s' l' d' k' hF' t9
      by_cases hc : code = 0
      · rw [errv_ok hc]
        obtain ⟨e2, e3, e4, e5, e6, f2, f3, f4, f5, f6, xx, kx⟩ := ex_sets X9.out c2 (.slice a6 (c.parts.length + 1) c6)
        have XX := Lib.hid xx
        have KX9 := Lib.hid kx
        have m0 := cu_0 N9.out
        have m1 := cu_1 N9.out
        have m2 := cu_2 N9.out
        have m3 := cu_3 N9.out
        have m4 := cu_4 N9.out
        clear xx kx
        go_wp2_with fail
        go_ret
        have hxw : x < w.heap.size := lt_of_block H.out.ex
        have hbw : b < w.heap.size := lt_of_block H.out.vt
        have z1 := KX.out.size
        have z2 := E5.out.kp.size
        have z3 := K5D.out.size
        have hnx : ¬ F' x := fun y => by
          rcases S9.out.2.2 x y with u | u | u
          · exact H.out.out.1 u
          · omega
          · have := KD.out.size; omega
        refine ⟨by first | rfl | (rw [errv_ok hc]; rfl), F', .slice a6 (c.parts.length + 1) c6, S9.out.1, K9.out.trans KX9.out (fun _ _ y => .inl y) (fun g _ e => .inr e), ?_⟩
        refine H.out.turn (K9.out.trans KX9.out (fun _ _ y => .inl y) (fun g _ e => .inr e)) S9.out.1 (fun g y => KX9.out.lt (S9.out.2.1 g y)) (D9.out.keep KX9.out (fun g y e => by have e' : g = x := e; exact hnx (e' ▸ y))) XX.out ?_ (fun g e => ?_)
        · rw [NL.out]
          exact ownsRow_low (ownsRow_keep R9.out KX9.out (fun g e y => by have e' : g = x := y; have := (R9.out.lt g e).1; omega)) (by omega)
        · have h5 := E6.out.row.lt g e
          refine ⟨fun y => ?_, by omega, by omega, fun y => by have := H.out.lowL g y; omega⟩
          rcases S9.out.2.2 g y with u | u | u
          · have := (H.out.low g u).2; omega
          · omega
          · omega
      · rw [errv_no hc]
        go_wp2_with fail
        go_ret
        refine ⟨by first | rfl | (rw [errv_no hc]; rfl), F', .slice pa c.parts.length pc, S9.out.1, K9.out.mono (fun _ _ y => .inl y), ?_⟩
        refine H.out.turn (K9.out.mono (fun _ _ y => .inl y)) S9.out.1 S9.out.2.1 D9.out X9.out (ownsRow_keep H.out.row K9.out (fun g y => (H.out.pvo g y).1)) (fun g y => ?_)
        obtain ⟨h1, h2, h3, h4'⟩ := H.out.pvo g y
        refine ⟨fun z => ?_, h2, h3, h4'⟩
        have := (H.out.row.lt g y).2
        have z1 := KX.out.size
        have z2 := KD.out.size
        have z3 := E5.out.kp.size
        rcases S9.out.2.2 g z with u | u | u
        · exact h1 u
        · omega
        · omega
end
end Go.Proofs.YtdmckfkhkjkdnaaGreatDoor
