/- parcel.Put, PutReceipt: walked. · apply.cells, Take, Hear: walked. · ship.Message: walked; how long a parcel is. · A log, its mirror, shipper, applier -/
import Derived.Test.YtdmckfkhkjkdnaaGreatDoorQ41
set_option linter.unusedVariables false
set_option maxRecDepth 100000
set_option maxHeartbeats 16000000
namespace Go.Proofs.YtdmckfkhkjkdnaaGreatDoor
open Go.RowKit Go.Maps
theorem parT_len {e t f : Nat} {cl : List Cl} (h : ∀ x ∈ cl, okCl x) (hl : cl.length ≤ 64) (he : e ≤ 1099511627776) (ht : t ≤ 1048576) (hf : f ≤ 1048576) : (parT e t f cl).length ≤ 6300 := by
  have h1 := vputs_len [1, e, t, f] (by intro n hn; simp at hn; omega)
  have h2 := run_len (f := 0) h hl (by omega)
  unfold parT
  simp only [List.length_append, List.length_cons, List.length_nil] at h1 h2 ⊢
  omega
theorem pput_ok (e t f : Nat) (v : Value) (cl : List Cl) (w : World) (h : CsAt w v cl) (hl : cl.length ≤ 64) (hok : ∀ x ∈ cl, okCl x) (he : e ≤ 1099511627776) (ht : t ≤ 1048576) (hf : f + cl.length ≤ 1048576) :
    Calls Tryz.prog 61 #[.agg #[.int .i64 e, .int .i64 t, .int .i64 f, v]] w fun r w' => ∃ v', r = .returned (.tuple #[v', .nilIface]) ∧ Keep Non w w' ∧ w'.ownsRow w.heap.size 5 1 v' (parB e t f cl).length ((parB e t f cl).map bv) := by
  have H := Lib.hid h
  have hb := parT_len hok hl he ht (by omega : f ≤ 1048576)
  have h0l := vputs_len [1, e, t, f] (by intro n hn; simp at hn; omega)
  have CK := Lib.hid (fun w1 (k : Keep Non w w1) => pacheck_ok e t f v cl w1 (h.keepNon k) hl hok he ht hf)
  obtain ⟨a, c, rfl, hc, ha, hx⟩ := h
  have b0 := blk_new w (PaB e t f (.slice a cl.length c))
  have c0 := pa_0 b0
  have c1 := pa_1 b0
  have c2 := pa_2 b0
  have c3 := pa_3 b0
  dsimp only [PaB] at c0 c1 c2 c3
  clear hx ha b0
  go_enter Tryz.func61, Tryz.ntmps61
  go_wp2_with (go_at_call 125; refine (CK.out _ ((Keep.refl _ _).alloc _)).mono ?_; rintro r w1 ⟨rfl, k1⟩; have b1 := k1.at (blk_new w (PaB e t f (.slice a cl.length c))) (fun e => e); clear c0 c1 c2 c3; have c0 := pa_0 b1; have c1 := pa_1 b1; have c2 := pa_2 b1; have c3 := pa_3 b1; have B1 := Lib.hid b1; have K1 := Lib.hid (((Keep.refl Non w).alloc _).trans1 k1); clear k1 b1)
  have hwe := wrap64 (n := e) (by omega)
  have hwt := wrap64 (n := t) (by omega)
  have hwf := wrap64 (n := f) (by omega)
  go_wp2_with (first
    | (go_at_call 126; refine (puts_any (.slice none 0 0) [] (some ⟨_, 0, none⟩) 4 [1, e, t, f] _ (Rd.nil _) (by simp) (by exact four_rd _ _ _ _) (by intro n hn; simp at hn; omega) (by simp)).mono ?_; rintro r w2 ⟨v2, rfl, k2, o2⟩; have k2' : Keep Non w1 w2 := ((Keep.refl Non w1).alloc _).trans1 k2; have b2 := k2'.at B1.out (fun e => e); have d3 := pa_3 b2; have K2 := Lib.hid k2'; have O2 := Lib.hid o2; clear k2 k2' o2 b2)
    | (go_at_call 127; (refine (putrun_any (.slice a cl.length c) _ (vputs [1, e, t, f]) cl _ (by have h0 := Rd.ofOwns O2.out; rw [List.nil_append] at h0; exact h0) (by simp only [List.length_cons, List.length_nil] at h0l; omega) (H.out.keepNon (K1.out.trans1 K2.out)) hl hok).mono ?_; rintro r w3 ⟨v3, rfl, k3, o3⟩; have K3 := Lib.hid k3; have O3 := Lib.hid o3; clear k3 o3))
    | (go_at_call 128; refine (fput_nil v3 (parT e t f cl) _ (Rd.ofOwns O3.out) (by omega)).mono ?_; rintro r w4 ⟨v4, rfl, k4, o4⟩; have K4 := Lib.hid k4; have O4 := Lib.hid o4; clear k4 o4))
  go_ret2
  exact ⟨_, rfl, ((K1.out.trans1 K2.out).trans1 K3.out).trans1 K4.out, ownsRow_low O4.out (by have h1 := K1.out.size; have h2 := K2.out.size; have h3 := K3.out.size; omega)⟩
theorem three_row {w : World} {t : TypeId} (o : Obj) (u v z : Value) : Rd ((w.alloc o).alloc (.cells #[u, v, z] t)) (.slice (some ⟨w.heap.size + 1, 0, none⟩) 3 3) [u, v, z] := by
  have h := row_rd (w.alloc o) t [u, v, z]
  simpa using h
theorem rput_ok (e n : Nat) (w : World) (he : e ≤ 1099511627776) (hn : n ≤ 1048576) :
    Calls Tryz.prog 68 #[.agg #[.int .i64 e, .int .i64 n]] w fun r w' => ∃ v', r = .returned (.tuple #[v', .nilIface]) ∧ Keep Non w w' ∧ w'.ownsRow w.heap.size 5 1 v' (rcpB e n).length ((rcpB e n).map bv) := by
  have hb := rcpT_len he hn
  have b0 := blk_new w (RcB e n)
  have c0 := rc_0 b0
  have c1 := rc_1 b0
  dsimp only [RcB] at c0 c1
  have hwe := wrap64 (n := e) (by omega)
  have hwn := wrap64 (n := n) (by omega)
  clear b0
  go_enter Tryz.func68, Tryz.ntmps68
  go_wp2_with (go_at_call 137; with_reducible refine (pain_yes _ _ _ (by omega) (by omega)).mono ?_; rintro r w1 ⟨rfl, rfl⟩)
  go_wp2_with (first
    | (go_at_call 126; refine (puts_any (.slice none 0 0) [] (some ⟨_, 0, none⟩) 3 [2, e, n] _ (Rd.nil _) (by simp) (by exact three_row _ _ _ _) (by intro n hn; simp at hn; omega) (by simp)).mono ?_; rintro r w2 ⟨v2, rfl, k2, o2⟩; have k2' : Keep Non w w2 := (((Keep.refl Non w).alloc _).alloc _).trans1 k2; have K2 := Lib.hid k2'; have O2 := Lib.hid o2; clear k2 k2' o2)
    | (go_at_call 128; refine (fput_nil v2 (rcpT e n) _ (by have h0 := Rd.ofOwns O2.out; rw [List.nil_append] at h0; exact h0) (by omega)).mono ?_; rintro r w4 ⟨v4, rfl, k4, o4⟩; have K4 := Lib.hid k4; have O4 := Lib.hid o4; clear k4 o4))
  go_ret2
  exact ⟨_, rfl, K2.out.trans1 K4.out, ownsRow_low O4.out (by have h2 := K2.out.size; omega)⟩
def MirTo (F : Nat → Prop) (w : World) (ab b n : Nat) (g : Nat → Cl) (w' : World) : Prop :=
  Keep (fun k => F k ∨ k = ab) w w' ∧ w'.heap[ab]? = some (ApB 7 n) ∧ ∃ F' M', Sub F' F w ∧ LgAt F' w' b 3 M' ∧ FilledM M' n g
theorem MirTo.pre {F : Nat → Prop} {w w1 w' : World} {ab b n : Nat} {g : Nat → Cl} (k : Keep Non w w1) (t : MirTo F w1 ab b n g w') : MirTo F w ab b n g w' := by
  obtain ⟨k1, a1, F', M', s, l, f⟩ := t
  have := k.size
  exact ⟨k.ofNon.trans1 k1, a1, F', M', fun x y => (s x y).imp id (fun u => by omega), l, f⟩
theorem MirTo.post {F : Nat → Prop} {w w1 w' : World} {ab b n : Nat} {g : Nat → Cl} (t : MirTo F w ab b n g w1) (k : Keep Non w1 w') : MirTo F w ab b n g w' := by
  obtain ⟨k1, a1, F', M', s, l, f⟩ := t
  exact ⟨k1.trans1 k.ofNon, nonAt k a1, F', M', s, l.keepNon k, f⟩
theorem MirTo.refl {F : Nat → Prop} {w w' : World} {ab b n : Nat} {g : Nat → Cl} {M : Lg} (hA : w.heap[ab]? = some (ApB 7 n)) (h : LgAt F w b 3 M) (hf : FilledM M n g) (k : Keep Non w w') : MirTo F w ab b n g w' :=
  ⟨k.ofNon, nonAt k hA, F, M, fun _ y => .inl y, h.keepNon k, hf⟩
theorem MirTo.next {F F' : Nat → Prop} {w w1 w2 : World} {ab b n : Nat} {g : Nat → Cl} {M' : Lg} (k1 : Keep (fun k => F k ∨ k = ab) w w1) (s : Sub F' F w) (hab : ¬ F ab) (hl : ab < w.heap.size) (a1 : w1.heap[ab]? = some (ApB 7 n)) (t : LgTo F' w1 b 3 M' w2) (hf : FilledM M' (n + 1) g) : MirTo F w ab b (n + 1) g (w2.setCell ⟨ab, 1, none⟩ (.int .i64 ((n + 1 : Nat) : Int))) := by
  obtain ⟨k2, F2, s2, l2⟩ := t
  have z1 := k1.size
  have nab : ∀ {G : Nat → Prop}, Sub G F w → ¬ G ab := fun sG y => by
    rcases sG ab y with u | u
    · exact hab u
    · omega
  have a2 := k2.at a1 (nab s)
  have s02 : Sub F2 F w := fun x y => by
    rcases s2 x y with u | u
    · exact s x u
    · exact .inr (by omega)
  have kb : Keep (One ab) w2 (w2.setCell ⟨ab, 1, none⟩ (.int .i64 ((n + 1 : Nat) : Int))) := (Keep.refl _ _).setOne _ _
  refine ⟨(k1.trans k2 (fun _ _ y => y) (fun x hx y => ?_)).trans kb (fun _ _ y => y) (fun x hx y => .inr y), ap_set1 a2 _, F2, M', s02, l2.keep kb (fun x y e => nab s02 (by have e' : x = ab := e; rw [← e']; exact y)), hf⟩
  rcases s x y with u | u
  · exact .inl u
  · omega
theorem apcells_ok {F G : Nat → Prop} {ab b i : Nat} {M : Lg} {g : Nat → Cl} (v : Value) (cl : List Cl) (w : World) (hA : w.heap[ab]? = some (ApB 7 i)) (h : LgAt F w b 3 M) (hf : FilledM M i g) (hc : CsF G w v cl) (hcl : ∀ j (hj : j < cl.length), cl[j] = g (i + j)) (hok : ∀ x ∈ cl, okCl x ∧ (x.1 = 1 ∨ x.1 = 2)) (hi : i + cl.length ≤ 200) (hlay : Lay w) (hF : ∀ k, F k → 10 ≤ k ∧ k < w.heap.size) (hFG : ∀ k, F k → ¬ G k) (hG : ∀ k, G k → k < w.heap.size) (hab : ¬ F ab ∧ ¬ G ab ∧ 10 ≤ ab) :
    Calls Tryz.prog 133 #[.pointer (some ⟨ab, 0, none⟩), .pointer (some ⟨b, 0, none⟩), v] w fun r w' => r = .returned .nilIface ∧ MirTo F w ab b (i + cl.length) g w' := by
  have MK := Lib.hid (fun W (k : Keep Non w W) => apmark_ok 0 (by omega) W (h.keepNon k) (by omega) (by omega) hf.len hf.low)
  have MR := Lib.hid (fun W (k : Keep Non w W) => MirTo.refl (g := g) hA h hf k)
  have H := Lib.hid hc
  have HL := Lib.hid hlay
  have HCL := Lib.hid hcl
  have HOK := Lib.hid hok
  have ALT := Lib.hid (lt_of_block hA)
  obtain ⟨a, c, rfl, hx⟩ := hc
  clear hx h hf hA hcl hok hlay
  go_enter Tryz.func133, Tryz.ntmps133
  go_wp2_with fail
  go_loopw [7, 16] (fun m q wr => ∃ j : Nat, j ≤ cl.length ∧ q = .int .i64 j ∧ m = .int .i64 0 ∧ Keep Non w wr) (fun _ q _ => cl.length - (intOf q).toNat)
  case atStart => exact ⟨0, by omega, rfl, rfl, Keep.refl _ _⟩
  case round =>
    obtain ⟨j, hj, rfl, rfl, hk⟩ := hrel
    have HK := Lib.hid hk
    by_cases hlt : j < cl.length
    · have hlj : (j : Int) < (cl.length : Int) := by omega
      obtain ⟨a1, c1, e1, hc1, ha1, hx⟩ := H.out.keep hk (fun _ _ e => e)
      injection e1 with e1 e3 e4
      subst e1
      subst e4
      obtain ⟨q, off, sa, sc, rfl, h1, h2, h3, h4, h5, h6⟩ := hx j hlt
      have hk3 : ¬ cl[j].1 = 3 := by have := (HOK.out cl[j] (List.getElem_mem _)).2; omega
      generalize cl[j] = y at h2 h3 hk3
      clear hx h4 h5 h6 h1 ha1 hk
      go_wp2_with fail
      exact ⟨⟨j + 1, by omega, by first | rfl | go_num, rfl, HK.out.alloc _⟩, by simp [intOf]; omega⟩
    · obtain rfl : j = cl.length := by omega
      have MKW := Lib.hid (MK.out wr hk)
      clear hk
      go_wp2_with (go_at_call 135; refine MKW.out.mono ?_; rintro r w1 ⟨rfl, k1⟩; have K1 := Lib.hid (HK.out.trans1 k1); clear k1)
      go_loopw [40] (fun q wr => ∃ j : Nat, j ≤ cl.length ∧ q = .int .i64 j ∧ MirTo F w ab b (i + j) g wr) (fun q _ => cl.length - (intOf q).toNat)
      case atStart => exact ⟨0, by omega, rfl, MR.out _ K1.out⟩
      case round =>
        obtain ⟨j, hj, rfl, tj⟩ := hrel
        have TJ := Lib.hid tj
        clear tj
        by_cases hlt : j < cl.length
        · have hlj : (j : Int) < (cl.length : Int) := by omega
          obtain ⟨kj, aj, F', M', sj, lj, fj⟩ := TJ.out
          have CJ := H.out.keep kj (fun x y e => by rcases e with e | e; exact hFG x e y; exact hab.2.1 (e ▸ y))
          obtain ⟨a1, c1, e1, hc1, ha1, hx⟩ := CJ
          injection e1 with e1 e3 e4
          subst e1
          subst e4
          obtain ⟨q, off, sa, sc, rfl, h1, h2, h3, h4, h5, h6⟩ := hx j hlt
          have ec := HCL.out j hlt
          have ho := HOK.out cl[j] (List.getElem_mem _)
          have nF' : ∀ x, G x → ¬ F' x := fun x y z => by
            rcases sj x z with u | u
            · exact hFG x u y
            · have := hG x y; omega
          have nab : ¬ F' ab := fun z => by
            rcases sj ab z with u | u
            · exact hab.1 u
            · have := ALT.out; omega
          rw [ec] at h2 h3 h4 h6 ho
          have PO : Hid (∀ W, Keep Non wr W → Calls Tryz.prog 200 #[.pointer (some ⟨ab, 0, none⟩), .pointer (some ⟨b, 0, none⟩), .agg #[.int .i64 (g (i + j)).1, .slice sa (g (i + j)).2.length sc]] W fun r w' => r = .returned .nilIface ∧ LgTo F' W b 3 (putM M' (i + j) (g (i + j))) w') := Lib.hid (fun W k =>
            apone_ok W (nonAt k aj) (lj.keepNon k) fj (by omega) (HL.out.keep (kj.trans1 k.ofNon) (fun x hx e => by
              rcases e with e | e
              · have := (hF x e).1; omega
              · have := hab.2.2; omega)) ho.1 ho.2 (Rd.keepNon h4 k) (.inr (fun x e => ⟨nF' x (h6 x e).1, k.lt (h6 x e).2⟩)))
          have NX : Hid (∀ w2, LgTo F' wr b 3 (putM M' (i + j) (g (i + j))) w2 → MirTo F w ab b (i + (j + 1)) g (w2.setCell ⟨ab, 1, none⟩ (.int .i64 ((i + j + 1 : Nat) : Int))) ∧ w2.heap[ab]? = some (ApB 7 (i + j))) := Lib.hid (fun w2 t => ⟨MirTo.next kj sj hab.1 ALT.out aj t (fj.put (by omega) ho.1 ho.2), t.1.at aj nab⟩)
          clear h4 h5 h6 hx lj fj kj sj aj nF' nab ec ho ha1 h1
          generalize g (i + j) = y at h2 h3 PO NX
          go_wp2_with (go_at_call 200; refine (PO.out _ ((Keep.refl _ _).alloc _)).mono ?_; rintro r w2 ⟨rfl, t2⟩; obtain ⟨nx, a2⟩ := NX.out _ (LgTo.pre ((Keep.refl _ _).alloc _) t2); have c1 := ap_1 a2; have f1 := ap_f a2 1; have NW := Lib.hid nx; clear nx a2 t2)
          have nw := NW.out
          rw [show ((i + j + 1 : Nat) : Int) = (i : Int) + (j : Int) + 1 by omega] at nw
          exact ⟨⟨j + 1, by omega, by first | rfl | go_num, nw⟩, by simp [intOf]; omega⟩
        · obtain rfl : j = cl.length := by omega
          go_wp2_with fail
          go_ret
          exact ⟨rfl, TJ.out⟩
theorem parB_len {e t f : Nat} {cl : List Cl} (h : ∀ x ∈ cl, okCl x) (hl : cl.length ≤ 64) (he : e ≤ 1099511627776) (ht : t ≤ 1048576) (hf : f ≤ 1048576) : (parB e t f cl).length ≤ 65536 := by
  have h1 := parT_len h hl he ht hf
  have h2 := vput_three (n := (parT e t f cl).length) (by omega)
  unfold parB
  rw [frameB_len]
  omega
theorem smess_ok {FL : Nat → Prop} {sb lb k : Nat} {L : Lg} (w : World) (hs : w.heap[sb]? = some (ShipB 7 k)) (hl : LgAt FL w lb L.shs.length L) (h1 : Log1 L) (hlow : ∀ s ∈ L.shs, s.l = 0) (hk : k ≤ L.next) :
    Calls Tryz.prog 21 #[.pointer (some ⟨sb, 0, none⟩), .pointer (some ⟨lb, 0, none⟩)] w fun e w' => ∃ v', e = .returned (.tuple #[v', .nilIface]) ∧ Keep Non w w' ∧ w'.ownsRow w.heap.size 5 1 v' (parB 7 0 k (newsL L k)).length ((parB 7 0 k (newsL L k)).map bv) := by
  have hnx := h1.next
  have hnl := news_len L k
  have NX := Lib.hid (snext_ok w hs hl h1 hlow hk)
  have PP := Lib.hid (fun W v (q : CsAt W v (newsL L k)) => pput_ok 7 0 k v (newsL L k) W q hnl.1 (fun x hx => news_ok h1 x hx) (by omega) (by omega) (by omega))
  generalize newsL L k = cl at NX PP ⊢
  clear hs hl h1 hlow hnl
  go_enter Tryz.func21, Tryz.ntmps21
  go_wp2_with (first
    | (go_at_call 60; go_loud (refine NX.out.mono ?_; rintro r w1 ⟨v1, rfl, k1, xs, o1, q1⟩; obtain ⟨a1, c1, rfl, _, _⟩ := ownsRow_form o1; have b1 := blk_new w1 (PaB 7 0 k (.slice a1 cl.length c1)); have e0 := pa_0 b1; have e1 := pa_1 b1; have e2 := pa_2 b1; have e3 := pa_3 b1; dsimp only [PaB] at e0 e1 e2 e3; have K1 := Lib.hid k1; have CS := Lib.hid ((CsAt.of o1 q1).keepNon ((Keep.refl Non w1).alloc (PaB 7 0 k (.slice a1 cl.length c1)))); clear k1 o1 q1 b1))
    | (go_at_call 61; refine (PP.out _ _ CS.out).mono ?_; rintro r w2 ⟨v2, rfl, k2, o2⟩; have K2 := Lib.hid ((K1.out.alloc _).trans1 k2); have O2 := Lib.hid o2; clear k2 o2))
  go_ret2
  exact ⟨_, rfl, K2.out, ownsRow_low O2.out (by have h1 := K1.out.size; simp; omega)⟩
structure MrSt (B : Nat) (FM FL : Nat → Prop) (w : World) (mb sb ab p : Nat) (L M : Lg) (n k : Nat) (ms : List Byt) (c : Nat → Int) : Prop where
  lg : LgAt FM w mb 3 M
  fl : FilledM M n (cellL L)
  sp : w.heap[sb]? = some (ShipB 7 k)
  ap : w.heap[ab]? = some (ApB 7 n)
  ln : Tr.Line FL w p c ms
  kn : k ≤ n
  non : allNon L n
  msg : ∀ m ∈ ms, ∃ f, f ≤ k ∧ m = parB 7 0 f (newsL L f)
  low : ∀ g, FM g → B ≤ g ∧ g < w.heap.size
  lowL : ∀ g, FL g → B ≤ g ∧ g < w.heap.size
  apart : ∀ g, FM g → ¬ FL g
  out : ¬ FM sb ∧ ¬ FM ab ∧ ¬ FL sb ∧ ¬ FL ab ∧ sb ≠ ab ∧ B ≤ sb ∧ B ≤ ab
def MrEx (B : Nat) (w : World) (mb sb ab p : Nat) (L : Lg) (i : Nat) : Prop := ∃ FM FL M n k ms c, MrSt B FM FL w mb sb ab p L M n k ms c ∧ ms.length ≤ 64 ∧ ∀ j, 0 ≤ c j ∧ c j ≤ i
section
variable {B mb sb ab p n k : Nat} {FM FL : Nat → Prop} {w w' W : World} {L M : Lg} {ms : List Byt} {c : Nat → Int}
theorem MrSt.keepNon (h : MrSt B FM FL w mb sb ab p L M n k ms c) (q : Keep Non w w') : MrSt B FM FL w' mb sb ab p L M n k ms c :=
  ⟨h.lg.keepNon q, h.fl, nonAt q h.sp, nonAt q h.ap, h.ln.keep q (fun _ _ e => e), h.kn, h.non, h.msg, fun g y => ⟨(h.low g y).1, q.lt (h.low g y).2⟩, fun g y => ⟨(h.lowL g y).1, q.lt (h.lowL g y).2⟩, h.apart, h.out⟩
theorem MrEx.keepNon {i : Nat} (h : MrEx B w mb sb ab p L i) (q : Keep Non w w') : MrEx B w' mb sb ab p L i := by
  obtain ⟨FM, FL, M, n, k, ms, c, h, h64, hc⟩ := h
  exact ⟨FM, FL, M, n, k, ms, c, h.keepNon q, h64, hc⟩
theorem MrEx.up {i j : Nat} (h : MrEx B w mb sb ab p L i) (q : i ≤ j) : MrEx B w mb sb ab p L j := by
  obtain ⟨FM, FL, M, n, k, ms, c, h, h64, hc⟩ := h
  exact ⟨FM, FL, M, n, k, ms, c, h, h64, fun x => ⟨(hc x).1, by have := (hc x).2; omega⟩⟩
theorem MrSt.line (h : MrSt B FM FL w mb sb ab p L M n k ms c) {ms' : List Byt} {c' : Nat → Int} {FL' : Nat → Prop} (q : Keep FL w w') (hl : Tr.Line FL' w' p c' ms') (hF : ∀ g, FL' g → FL g ∨ w.heap.size ≤ g) (hm : ∀ m ∈ ms', ∃ f, f ≤ k ∧ m = parB 7 0 f (newsL L f)) :
    MrSt B FM (fun g => FL' g ∧ g < w'.heap.size) w' mb sb ab p L M n k ms' c' := by
  have hB : B ≤ w.heap.size := by have := h.out.2.2.2.2.2.1; have := lt_of_block h.sp; omega
  have lo : ∀ g, FL' g → B ≤ g := fun g y => by
    rcases hF g y with u | u
    · exact (h.lowL g u).1
    · omega
  have no : ∀ g, g < w.heap.size → ¬ FL g → ¬ FL' g := fun g hg y z => by
    rcases hF g z with u | u
    · exact y u
    · omega
  exact ⟨h.lg.keep q (fun g y z => h.apart g y z), h.fl, q.at h.sp h.out.2.2.1, q.at h.ap h.out.2.2.2.1, hl.tight, h.kn, h.non, hm, fun g y => ⟨(h.low g y).1, q.lt (h.low g y).2⟩, fun g y => ⟨lo g y.1, y.2⟩,
    fun g y z => no g (h.low g y).2 (h.apart g y) z.1, ⟨h.out.1, h.out.2.1, fun z => no sb (lt_of_block h.sp) h.out.2.2.1 z.1, fun z => no ab (lt_of_block h.ap) h.out.2.2.2.1 z.1, h.out.2.2.2.2⟩⟩
theorem MrSt.mir (h : MrSt B FM FL w mb sb ab p L M n k ms c) {n' : Nat} (t : MirTo FM w ab mb n' (cellL L) w') (hn : n ≤ n') (hN : allNon L n') :
    Keep (fun g => B ≤ g) w w' ∧ ∃ FM' M', MrSt B FM' FL w' mb sb ab p L M' n' k ms c := by
  obtain ⟨q, a1, F', M', s, l, f⟩ := t
  have hB : B ≤ w.heap.size := by have := h.out.2.2.2.2.2.1; have := lt_of_block h.sp; omega
  have no : ∀ g, g < w.heap.size → ¬ FM g → ¬ F' g := fun g hg y z => by
    rcases s g z with u | u
    · exact y u
    · omega
  refine ⟨q.mono (fun g _ y => by
    rcases y with y | y
    · exact (h.low g y).1
    · rw [y]; exact h.out.2.2.2.2.2.2), fun g => F' g ∧ g < w'.heap.size, M', l.low, f, q.at h.sp (fun y => by
    rcases y with y | y
    · exact h.out.1 y
    · exact h.out.2.2.2.2.1 y), a1, h.ln.keep q (fun g y z => by
    rcases z with z | z
    · exact h.apart g z y
    · exact h.out.2.2.2.1 (z ▸ y)), by have := h.kn; omega, hN, h.msg, fun g y => ⟨?_, y.2⟩, fun g y => ⟨(h.lowL g y).1, q.lt (h.lowL g y).2⟩, fun g y z => no g (h.lowL g z).2 (fun u => h.apart g u z) y.1, ⟨fun z => no sb (lt_of_block h.sp) h.out.1 z.1, fun z => no ab (lt_of_block h.ap) h.out.2.1 z.1, h.out.2.2⟩⟩
  rcases s g y.1 with u | u
  · exact (h.low g u).1
  · omega
theorem MrSt.ship (h : MrSt B FM FL w mb sb ab p L M n k ms c) {k' : Nat} (q : Keep (One sb) w w') (b : w'.heap[sb]? = some (ShipB 7 k')) (h1 : k ≤ k') (h2 : k' ≤ n) :
    MrSt B FM FL w' mb sb ab p L M n k' ms c :=
  ⟨h.lg.keep q (fun g y z => h.out.1 (by have e : g = sb := z; rw [← e]; exact y)), h.fl, b, q.at h.ap (fun e => h.out.2.2.2.2.1 (by have e' : ab = sb := e; exact e'.symm)), h.ln.keep q (fun g y z => h.out.2.2.1 (by have e : g = sb := z; rw [← e]; exact y)), h2, h.non,
    fun m hm => by obtain ⟨f, hf, e⟩ := h.msg m hm; exact ⟨f, by omega, e⟩, fun g y => ⟨(h.low g y).1, q.lt (h.low g y).2⟩, fun g y => ⟨(h.lowL g y).1, q.lt (h.lowL g y).2⟩, h.apart, h.out⟩
end
section
variable {B mb sb ab p n k i : Nat} {FM FL : Nat → Prop} {w w' W : World} {L M : Lg} {ms : List Byt} {c : Nat → Int}
theorem mr_send (h : MrSt B FM FL w mb sb ab p L M n k ms c) (h64 : ms.length ≤ 64) (hc : ∀ j, 0 ≤ c j ∧ c j ≤ i) (hi : i ≤ 1000) (q : Keep Non w W) (hL : Log1 L) (hn : L.next ≤ 200) (v : Value) (hv : Bs W v (parB 7 0 k (newsL L k))) :
    Calls Tryz.prog 22 #[.pointer (some ⟨p, 0, none⟩), v] W fun r w' => (∃ e, r = .returned (errv e)) ∧ Keep (fun g => B ≤ g) W w' ∧ MrEx B w' mb sb ab p L (i + 1) := by
  have hW := h.keepNon q
  have hkn := h.kn
  have hnn := h.non.1
  have hlen : (parB 7 0 k (newsL L k)).length ≤ 65536 := parB_len (fun x hx => news_ok hL x hx) (news_len L k).1 (by omega) (by omega) (by omega)
  by_cases hm : ms.length < 64
  · refine (Tr.send_ok FL p c ms v _ W hW.ln hv hlen hm (hc 0).1 (by have := (hc 0).2; omega)).mono ?_
    rintro r w' ⟨rfl, k1, l1⟩
    refine ⟨⟨0, rfl⟩, k1.mono (fun g _ y => (hW.lowL g y).1), _, _, _, _, _, _, _, hW.line k1 l1 (fun g y => y) (fun m hm => ?_), by rw [List.length_append]; simp; omega, fun j => ?_⟩
    · rcases List.mem_append.1 hm with hm | hm
      · exact h.msg m hm
      · rw [List.mem_singleton.1 hm]; exact ⟨k, Nat.le_refl _, rfl⟩
    · have := hc j
      unfold Tr.bump
      split <;> omega
  · refine (Tr.send_full FL p c ms v _ W hW.ln hv hlen (by omega)).mono ?_
    rintro r w' ⟨rfl, k1⟩
    exact ⟨⟨5, rfl⟩, k1.ofNon, (MrEx.keepNon ⟨_, _, _, _, _, _, _, hW, h64, hc⟩ k1).up (by omega)⟩
theorem mr_twice (h : MrSt B FM FL w mb sb ab p L M n k ms c) (h64 : ms.length ≤ 64) (hc : ∀ j, 0 ≤ c j ∧ c j ≤ i) (hi : i ≤ 1000) (q : Keep Non w W) (x : Int) :
    Calls Tryz.prog 23 #[.pointer (some ⟨p, 0, none⟩), .int .i64 x] W fun r w' => (∃ e, r = .returned (errv e)) ∧ Keep (fun g => B ≤ g) W w' ∧ MrEx B w' mb sb ab p L (i + 1) := by
  have hW := h.keepNon q
  by_cases hx : x < 0 ∨ (0 ≤ x ∧ (ms.length : Int) ≤ x)
  · refine (Tr.twice_no FL p c ms x W hW.ln hx).mono ?_
    rintro r w' ⟨rfl, rfl⟩
    exact ⟨⟨1, rfl⟩, Keep.refl _ _, MrEx.up ⟨_, _, _, _, _, _, _, hW, h64, hc⟩ (by omega)⟩
  · obtain ⟨y, rfl⟩ : ∃ y : Nat, x = (y : Int) := ⟨x.toNat, by omega⟩
    have hy : y < ms.length := by omega
    by_cases hm : ms.length < 64
    · refine (Tr.twice_ok FL p c ms y ms[y] W hW.ln (List.getElem?_eq_getElem hy) (hc 3).1 (by have := (hc 3).2; omega) hm).mono ?_
      rintro r w' ⟨rfl, k1, l1⟩
      refine ⟨⟨0, rfl⟩, k1.mono (fun g _ y => (hW.lowL g y).1), _, _, _, _, _, _, _, hW.line k1 l1 (fun g y => y) (fun m hm => ?_), by rw [List.length_append]; simp; omega, fun j => ?_⟩
      · rcases List.mem_append.1 hm with hm | hm
        · exact h.msg m hm
        · rw [List.mem_singleton.1 hm]; exact h.msg _ (List.getElem_mem hy)
      · have := hc j
        unfold Tr.bump
        split <;> omega
    · refine (Tr.twice_full FL p c ms y W hW.ln hy (by omega)).mono ?_
      rintro r w' ⟨rfl, k1⟩
      exact ⟨⟨5, rfl⟩, k1.ofNon, (MrEx.keepNon ⟨_, _, _, _, _, _, _, hW, h64, hc⟩ k1).up (by omega)⟩
theorem mr_del_no (h : MrSt B FM FL w mb sb ab p L M n k ms c) (q : Keep Non w W) (x : Int) (hx : x < 0 ∨ (0 ≤ x ∧ (ms.length : Int) ≤ x)) :
    Calls Tryz.prog 24 #[.pointer (some ⟨p, 0, none⟩), .int .i64 x] W fun r w' => r = .returned (.tuple #[.slice none 0 0, .iface 84 (.int .i64 1)]) ∧ w' = W := by
  refine (Tr.deliver_no FL p c ms x W (h.keepNon q).ln hx).mono ?_
  rintro r w' ⟨rfl, rfl⟩
  exact ⟨rfl, rfl⟩
theorem mr_del_ok (h : MrSt B FM FL w mb sb ab p L M n k ms c) (hc : ∀ j, 0 ≤ c j ∧ c j ≤ i) (hi : i ≤ 1000) (q : Keep Non w W) (hL : Log1 L) (hn : L.next ≤ 200) (hm : ms.length ≤ 64) (x : Nat) (hx : x < ms.length) :
    Calls Tryz.prog 24 #[.pointer (some ⟨p, 0, none⟩), .int .i64 x] W fun r w' => ∃ v f, r = .returned (.tuple #[v, .nilIface]) ∧ Keep (fun g => B ≤ g) W w' ∧ f ≤ k ∧ Bs w' v (parB 7 0 f (newsL L f)) ∧ okc v ∧ (∀ g, v.ownBlock = some g → W.heap.size ≤ g ∧ g < w'.heap.size) ∧
      ∃ FL' ms' c', MrSt B FM FL' w' mb sb ab p L M n k ms' c' ∧ ms'.length ≤ 64 ∧ (∀ j, 0 ≤ c' j ∧ c' j ≤ i + 1) ∧ ∀ g, v.ownBlock = some g → ¬ FM g ∧ g ≠ ab ∧ g ≠ sb := by
  have hW := h.keepNon q
  have hkn := h.kn
  have hnn := h.non.1
  obtain ⟨f, hf, e⟩ := h.msg _ (List.getElem_mem hx)
  have hlen : (parB 7 0 f (newsL L f)).length ≤ 65536 := parB_len (fun x hx => news_ok hL x hx) (news_len L f).1 (by omega) (by omega) (by omega)
  refine (Tr.deliver_yes FL p c ms x ms[x] W hW.ln (List.getElem?_eq_getElem hx) (by rw [e]; exact hlen) (hc 1).1 (by have := (hc 1).2; omega) hm).mono ?_
  rintro r w' ⟨v, rfl, k1, l1, C, hC, o1⟩
  rw [e] at o1
  have ow : ∀ g, v.ownBlock = some g → W.heap.size ≤ g ∧ g < w'.heap.size := fun g y => by have := o1.lt g y; omega
  refine ⟨v, f, rfl, k1.mono (fun g _ y => (hW.lowL g y).1), hf, Rd.ofOwns o1, okc_own o1, ow, _, _, _, hW.line k1 l1 (fun g y => .inl y) (fun m hm => h.msg m (List.mem_of_mem_eraseIdx hm)), by rw [List.length_eraseIdx]; split <;> omega, fun j => ?_, fun g y => ?_⟩
  · have := hc j
    unfold Tr.bump
    split <;> omega
  · have h1 := ow g y
    have h2 := lt_of_block hW.ap
    have h3 := lt_of_block hW.sp
    exact ⟨fun z => by have := (hW.low g z).2; omega, by omega, by omega⟩
end
theorem MirTo.box {F : Nat → Prop} {w W w' w'' : World} {ab b n x : Nat} {g : Nat → Cl} (k : Keep Non w W) (t : MirTo F W ab b n g w') (hx : w.heap.size ≤ x) (hx2 : x < W.heap.size) (hF : ¬ F x) (hab : x ≠ ab) (q : Keep (One x) w' w'') : MirTo F w ab b n g w'' := by
  obtain ⟨k1, a1, F', M', s, l, f⟩ := t
  have nx : ¬ F' x := fun y => by
    rcases s x y with u | u
    · exact hF u
    · omega
  have z := k.size
  exact ⟨(k.ofNon.trans1 k1).trans q (fun _ _ y => y) (fun y hy e => by have e' : y = x := e; omega), q.at a1 (fun e => hab (by have e' : ab = x := e; exact e'.symm)), F', M', fun y e => (s y e).imp id (fun u => by omega), l.keep q (fun y e e2 => nx (by have e' : y = x := e2; rw [← e']; exact e)), f⟩
theorem aptake_ok {F G : Nat → Prop} {ab b n f : Nat} {M : Lg} {g : Nat → Cl} (v : Value) (cl : List Cl) (w : World) (hA : w.heap[ab]? = some (ApB 7 n)) (h : LgAt F w b 3 M) (hf : FilledM M n g) (hc : CsF G w v cl) (hcl : ∀ j (hj : j < cl.length), cl[j] = g (f + j)) (hok : ∀ x ∈ cl, okCl x ∧ (x.1 = 1 ∨ x.1 = 2)) (hl : cl.length ≤ 64) (hfn : f ≤ n) (hi : f + cl.length ≤ 200) (hn : n ≤ 200) (hlay : Lay w) (hF : ∀ k, F k → 10 ≤ k ∧ k < w.heap.size) (hFG : ∀ k, F k → ¬ G k) (hG : ∀ k, G k → k < w.heap.size) (hab : ¬ F ab ∧ ¬ G ab ∧ 10 ≤ ab) :
    Calls Tryz.prog 67 #[.pointer (some ⟨ab, 0, none⟩), .pointer (some ⟨b, 0, none⟩), .agg #[.int .i64 (7 : Nat), .int .i64 (0 : Nat), .int .i64 f, v]] w fun r w' => r = .returned (.tuple #[.agg #[.int .i64 (7 : Nat), .int .i64 (max n (f + cl.length) : Nat)], .nilIface]) ∧ MirTo F w ab b (max n (f + cl.length)) g w' := by
  have KA : Hid (∀ W, Keep Non w W → W.heap[ab]? = some (ApB 7 n)) := Lib.hid (fun W k => nonAt k hA)
  have CK := Lib.hid (fun W (k : Keep Non w W) => pacheck_ok 7 0 f v cl W (hc.at.keepNon k) hl (fun x hx => (hok x hx).1) (by omega) (by omega) (by omega))
  have NW : Hid (∀ W, Keep Non w W → Calls Tryz.prog 134 #[.agg #[.int .i64 f, v], .int .i64 n] W fun r w' => ∃ v', r = .returned v' ∧ Keep Non W w' ∧ CsF G w' v' (cl.drop (n - f))) := Lib.hid (fun W k => by
    by_cases hlt : n < f + cl.length
    · exact apnews_ok f n v cl W (hc.keep k (fun _ _ e => e)) (by omega) (fun x hx => by have := (hok x hx).2; omega) hfn hlt
    · rw [List.drop_eq_nil_of_le (by omega)]
      refine (apnews_no f n v cl W (hc.keep k (fun _ _ e => e)) (by omega) (by omega)).mono ?_
      rintro r w' ⟨rfl, k1⟩
      exact ⟨_, rfl, k1, CsF.nil _ _⟩)
  have en : n + (cl.drop (n - f)).length = max n (f + cl.length) := by rw [List.length_drop]; omega
  have CE : Hid (∀ W v', Keep Non w W → CsF G W v' (cl.drop (n - f)) → Calls Tryz.prog 133 #[.pointer (some ⟨ab, 0, none⟩), .pointer (some ⟨b, 0, none⟩), v'] W fun r w' => r = .returned .nilIface ∧ MirTo F W ab b (max n (f + cl.length)) g w') := Lib.hid (fun W v' k hv => by
    rw [← en]
    refine apcells_ok v' (cl.drop (n - f)) W (nonAt k hA) (h.keepNon k) hf hv (fun j hj => ?_) (fun x hx => hok x (List.mem_of_mem_drop hx)) (by rw [List.length_drop]; omega) (hlay.keep k (fun _ _ e => e)) (fun x y => ⟨(hF x y).1, k.lt (hF x y).2⟩) hFG (fun x y => k.lt (hG x y)) hab
    rw [List.length_drop] at hj
    rw [List.getElem_drop, hcl _ (by omega)]
    congr 1
    omega)
  have hn2 : max n (f + cl.length) ≤ 200 := by omega
  have FO : Hid ((¬ F w.heap.size ∧ w.heap.size ≠ ab) ∧ ¬ F (w.heap.size + 1) ∧ w.heap.size + 1 ≠ ab) := Lib.hid (by
    have := lt_of_block hA
    exact ⟨⟨fun y => by have := (hF _ y).2; omega, by omega⟩, fun y => by have := (hF _ y).2; omega, by omega⟩)
  have MK : Hid (∀ W0 W, MirTo F W0 ab b (max n (f + cl.length)) g W → Calls Tryz.prog 135 #[.pointer (some ⟨b, 0, none⟩), .int .i64 0] W fun r w' => r = .returned .nilIface ∧ Keep Non W w') := Lib.hid (fun W0 W t => by
    obtain ⟨k1, a1, F', M', s, l, fm⟩ := t
    exact apmark_ok 0 (by omega) W l (by omega) (by omega) fm.len fm.low)
  have hnn : n ≤ max n (f + cl.length) := by omega
  generalize max n (f + cl.length) = N at CE MK hn2 hnn ⊢
  obtain ⟨a, c, rfl, hx⟩ := hc
  clear hx hA h hf hcl hok hlay hF hFG hG hab en hi
  have K0 : Hid (Keep Non w (w.alloc (PaB 7 0 f (.slice a cl.length c)))) := Lib.hid ((Keep.refl _ _).alloc _)
  have B0 := Lib.hid (blk_new w (PaB 7 0 f (.slice a cl.length c)))
  have K1 : Hid (Keep Non w ((w.alloc (PaB 7 0 f (.slice a cl.length c))).alloc (RcB 0 0))) := Lib.hid (K0.out.alloc _)
  have B1 := Lib.hid (nonAt ((Keep.refl Non _).alloc (RcB 0 0)) B0.out)
  have R1 := Lib.hid (blk_new (w.alloc (PaB 7 0 f (.slice a cl.length c))) (RcB 0 0))
  have c0 := pa_0 B1.out
  have c1 := pa_1 B1.out
  have c2 := pa_2 B1.out
  have c3 := pa_3 B1.out
  dsimp only [PaB, RcB] at c0 c1 c2 c3
  go_enter Tryz.func67, Tryz.ntmps67
  go_wp2_with (go_at_call 125; refine (CK.out _ K1.out).mono ?_; rintro r w2 ⟨rfl, k2⟩; have K2 := Lib.hid (K1.out.trans1 k2); have B2 := Lib.hid (nonAt k2 B1.out); have R2 : Hid (w2.heap[w.heap.size + 1]? = some (RcB 0 0)) := Lib.hid (by have h := nonAt k2 R1.out; simpa using h); clear k2)
  have p0 := pa_0 B2.out
  have p1 := pa_1 B2.out
  have p2 := pa_2 B2.out
  have p3 := pa_3 B2.out
  have a0 := ap_0 (KA.out _ K2.out)
  have a1 := ap_1 (KA.out _ K2.out)
  have hfi : (f : Int) ≤ n := by omega
  clear c0 c1 c2 c3
  go_region
  go_wp2_with fail
  go_region
  go_wp2_with fail
  go_region_law (first
    | (go_simp; go_at_call 134; refine (NW.out _ (by exact K2.out.drew.drew.drew)).mono ?_; rintro r w5 ⟨v5, rfl, k5, c5⟩; have K5 := Lib.hid (K2.out.drew.drew.drew.trans1 k5); have CEW := Lib.hid (CE.out w5 v5 (K2.out.drew.drew.drew.trans1 k5) c5); have B5 := Lib.hid (nonAt k5 (by exact B2.out)); have R5 := Lib.hid (nonAt k5 (by exact R2.out)); clear k5 c5)
    | (go_simp; go_at_call 133; refine CEW.out.mono ?_; rintro r w6 ⟨rfl, t6⟩; have T6 := Lib.hid t6; have b6 := t6.1.at B5.out (by rintro (y | y); exact FO.out.1.1 y; exact FO.out.1.2 y); have R6 := Lib.hid (t6.1.at R5.out (by rintro (y | y); exact FO.out.2.1 y; exact FO.out.2.2 y)); have A6 := Lib.hid t6.2.1; have MKW := Lib.hid (MK.out _ _ (MirTo.post t6 ((Keep.refl Non w6).drew))); clear a1; have q1 := pa_1 b6; have a1 := ap_1 t6.2.1; have Z6 : Hid (w.heap.size + 1 < w5.heap.size) := Lib.hid (lt_of_block R5.out); clear t6 b6))
  all_goals
    have hmin : min (0 : Int) (N : Int) = 0 := by omega
    go_wp2_with fail
    go_region_law (go_simp; go_at_call 135; refine MKW.out.mono ?_; rintro r w7 ⟨rfl, k7⟩; have K7 := Lib.hid k7; clear k7)
  all_goals
    have k67 := ((Keep.refl Non _).drew).trans1 K7.out
    have R7 := Lib.hid (nonAt k67 R6.out)
    have A7 := Lib.hid (nonAt k67 A6.out)
    have T7 := Lib.hid (MirTo.post T6.out k67)
    clear k67
    go_wp2_with (go_at_call 136; refine (areceipt_ok ab 7 N _ A7.out).mono ?_; rintro r w8 ⟨rfl, k8⟩; have T8 := Lib.hid (MirTo.post T7.out k8); have r8 := nonAt k8 R7.out; have R8 := Lib.hid r8; have r0 := rc_0 r8; have r1 := rc_1 r8; have u0 := rc_f r8 0; have u1 := rc_f r8 1; clear k8 r8)
    have XX : Hid (((w8.setCell ⟨w.heap.size + 1, 0, none⟩ (.int .i64 7)).setCell ⟨w.heap.size + 1, 1, none⟩ (.int .i64 N)).heap[w.heap.size + 1]? = some (RcB 7 N)) := Lib.hid (rc_set1 (rc_set0 R8.out 7) N)
    have x0 := rc_0 XX.out
    have x1 := rc_1 XX.out
    refine bodyPost_ret (v := .tuple #[.agg #[.int .i64 7, .int .i64 N], .nilIface]) (by simp [results, Tryz.results67, go_sem, x0, x1]) rfl ?_
    exact ⟨rfl, MirTo.box K5.out T8.out (by omega) Z6.out FO.out.2.1 FO.out.2.2 (((Keep.refl _ _).setOne _ _).setOne _ _)⟩
theorem aphear_ok {F : Nat → Prop} {ab b n f : Nat} {M : Lg} {g : Nat → Cl} (v : Value) (cl : List Cl) (w : World) (hA : w.heap[ab]? = some (ApB 7 n)) (h : LgAt F w b 3 M) (hf : FilledM M n g) (hv : Bs w v (parB 7 0 f cl)) (hc : okc v) (ho : ∀ g, v.ownBlock = some g → g < w.heap.size) (hcl : ∀ j (hj : j < cl.length), cl[j] = g (f + j)) (hok : ∀ x ∈ cl, okCl x ∧ (x.1 = 1 ∨ x.1 = 2)) (hl : cl.length ≤ 64) (hfn : f ≤ n) (hi : f + cl.length ≤ 200) (hn : n ≤ 200) (hlay : Lay w) (hF : ∀ k, F k → 10 ≤ k ∧ k < w.heap.size) (hab : ¬ F ab ∧ 10 ≤ ab) :
    Calls Tryz.prog 25 #[.pointer (some ⟨ab, 0, none⟩), .pointer (some ⟨b, 0, none⟩), v] w fun r w' => ∃ v', r = .returned (.tuple #[v', .nilIface]) ∧ MirTo F w ab b (max n (f + cl.length)) g w' ∧ w'.ownsRow w.heap.size 5 1 v' (rcpB 7 (max n (f + cl.length))).length ((rcpB 7 (max n (f + cl.length))).map bv) := by
  have hpl := parT_len (e := 7) (t := 0) (f := f) (fun x hx => (hok x hx).1) hl (by omega) (by omega) (by omega)
  have TK := Lib.hid (ptake_ok 7 0 f v cl w hv hc ho hl (fun x hx => (hok x hx).1) (by omega) (by omega) (by omega) (by omega))
  have AT : Hid (∀ w1 v1 xs, Keep Non w w1 → w1.ownsRow w.heap.size 50 2 v1 cl.length xs → CellsOf w.heap.size Non w1 xs cl → ∀ W, Keep Non w1 W → Calls Tryz.prog 67 #[.pointer (some ⟨ab, 0, none⟩), .pointer (some ⟨b, 0, none⟩), .agg #[.int .i64 (7 : Nat), .int .i64 (0 : Nat), .int .i64 f, v1]] W fun r w' => r = .returned (.tuple #[.agg #[.int .i64 (7 : Nat), .int .i64 (max n (f + cl.length) : Nat)], .nilIface]) ∧ MirTo F w ab b (max n (f + cl.length)) g w') := Lib.hid (fun w1 v1 xs k1 o1 q1 W kW => by
    have k := k1.trans1 kW
    have cs : CsF (fun g => w.heap.size ≤ g ∧ g < w1.heap.size) W v1 cl := (CsF.of o1 q1 (fun g h1 h2 => ⟨h1, h2⟩)).keep kW (fun _ _ e => e)
    refine (aptake_ok v1 cl W (nonAt k hA) (h.keepNon k) hf cs hcl hok hl hfn hi hn (hlay.keep k (fun _ _ e => e)) (fun x y => ⟨(hF x y).1, k.lt (hF x y).2⟩) (fun x y z => by have := (hF x y).2; omega) (fun x y => kW.lt y.2) ⟨hab.1, fun z => by have := lt_of_block hA; omega, hab.2⟩).mono ?_
    rintro r w' ⟨e, t⟩
    exact ⟨e, MirTo.pre k t⟩)
  have RP := Lib.hid (fun W => rput_ok 7 (max n (f + cl.length)) W (by omega) (by omega))
  obtain ⟨a, c, rfl, _⟩ := bs_cell hv
  generalize max n (f + cl.length) = N at AT RP ⊢
  clear hA h hf hv hc ho hcl hok hlay hF hab hpl
  go_enter Tryz.func25, Tryz.ntmps25
  go_wp2_with (first
    | (go_at_call 66; refine TK.out.mono ?_; rintro r w1 ⟨v1, rfl, k1, xs, o1, q1⟩; have ATW := Lib.hid (AT.out w1 v1 xs k1 o1 q1 (w1.alloc (PaB 7 0 f v1)) ((Keep.refl _ _).alloc _)); obtain ⟨a1, c1, rfl, _, _⟩ := ownsRow_form o1; have b1 := blk_new w1 (PaB 7 0 f (.slice a1 cl.length c1)); have c0 := pa_0 b1; have c1 := pa_1 b1; have c2 := pa_2 b1; have c3 := pa_3 b1; dsimp only [PaB] at c0 c1 c2 c3 ATW; have Z1 := Lib.hid k1.size; clear k1 o1 q1 b1)
    | (go_at_call 67; refine ATW.out.mono ?_; rintro r w2 ⟨rfl, t2⟩; have T2 := Lib.hid t2; have d2 := blk_new w2 (RcB 7 N); have e0 := rc_0 d2; have e1 := rc_1 d2; dsimp only [RcB] at e0 e1; clear t2 d2)
    | (go_at_call 68; refine (RP.out _).mono ?_; rintro r w3 ⟨v3, rfl, k3, o3⟩; have T3 := Lib.hid (MirTo.post T2.out (((Keep.refl Non w2).alloc _).trans1 k3)); have O3 := Lib.hid (ownsRow_low (base := w.heap.size) o3 (by have := T2.out.1.size; simp; omega)); clear k3 o3))
  go_ret2
  exact ⟨_, rfl, T3.out, O3.out⟩
section
variable {B mb sb ab p n k : Nat} {FM FL : Nat → Prop} {w w' W : World} {L M : Lg} {ms : List Byt} {c : Nat → Int}
theorem mr_hear (h : MrSt B FM FL w mb sb ab p L M n k ms c) (q : Keep Non w W) (hL : Log1 L) (h3 : ∀ a, (cellL L a).1 ≠ 3) (hB : 10 ≤ B) (hlay : Lay W) (f : Nat) (hf : f ≤ k) (v : Value) (hv : Bs W v (parB 7 0 f (newsL L f))) (hc : okc v) (ho : ∀ g, v.ownBlock = some g → g < W.heap.size) :
    Calls Tryz.prog 25 #[.pointer (some ⟨ab, 0, none⟩), .pointer (some ⟨mb, 0, none⟩), v] W fun r w' => ∃ v', r = .returned (.tuple #[v', .nilIface]) ∧ Keep (fun g => B ≤ g) W w' ∧ Bs w' v' (rcpB 7 (hearN L n f)) ∧ okc v' ∧ (∀ g, v'.ownBlock = some g → g < w'.heap.size) ∧
      ∃ FM' M', MrSt B FM' FL w' mb sb ab p L M' (hearN L n f) k ms c := by
  have hW := h.keepNon q
  have hnx := hL.next
  have hnn := hW.non.1
  have hkn := hW.kn
  have hl := news_len L f
  have hN := hW.non.hear (f := f) (by omega)
  refine (aphear_ok (F := FM) (ab := ab) (b := mb) (n := n) (f := f) (M := M) (g := cellL L) v (newsL L f) W hW.ap hW.lg hW.fl hv hc ho (fun j hj => ?_) (fun x hx => ⟨news_ok hL x hx, ?_⟩) hl.1 (by omega) (by have := hN.1; unfold hearN at this; omega) (by omega) hlay (fun x y => ⟨by have := (hW.low x y).1; omega, (hW.low x y).2⟩) ⟨hW.out.2.1, by have := hW.out.2.2.2.2.2.2; omega⟩).mono ?_
  · have := news_get hj
    rw [List.getElem?_eq_getElem hj] at this
    injection this
  · have h0 := news_kind x hx
    obtain ⟨j, hj, e⟩ := List.mem_iff_getElem.1 hx
    have e2 := news_get hj
    rw [List.getElem?_eq_getElem hj, e] at e2
    injection e2 with e2
    have h4 := h3 (f + j)
    rw [← e2] at h4
    have := (news_ok hL x hx).1
    have := (news_ok hL x hx).2.1
    omega
  · rintro r w' ⟨v', rfl, t, o⟩
    have hNe : max n (f + (newsL L f).length) = hearN L n f := rfl
    rw [hNe] at t o
    obtain ⟨k1, FM', M', h'⟩ := hW.mir t (by unfold hearN; omega) hN
    exact ⟨v', rfl, k1, Rd.ofOwns o, okc_own o, fun g e => (o.lt g e).2, FM', M', h'⟩
theorem mr_recv (h : MrSt B FM FL w mb sb ab p L M n k ms c) (q : Keep Non w W) (hL : Log1 L) (v : Value) (hv : Bs W v (rcpB 7 n)) (hc : okc v) (ho : ∀ g, v.ownBlock = some g → g < W.heap.size) :
    Calls Tryz.prog 26 #[.pointer (some ⟨sb, 0, none⟩), v] W fun r w' => r = .returned .nilIface ∧ Keep (fun g => B ≤ g) W w' ∧ MrSt B FM FL w' mb sb ab p L M n n ms c := by
  have hW := h.keepNon q
  have hnx := hL.next
  have hnn := hW.non.1
  have hkn := hW.kn
  refine (shear_ok sb k n v W hW.sp (by omega) hv hc ho).mono ?_
  rintro r w' ⟨rfl, k1, b1⟩
  rw [show max k n = n by omega] at b1
  exact ⟨rfl, k1.mono (fun g _ y => by have e : g = sb := y; rw [e]; exact hW.out.2.2.2.2.2.1), hW.ship k1 b1 hkn (Nat.le_refl _)⟩
end
end Go.Proofs.YtdmckfkhkjkdnaaGreatDoor
