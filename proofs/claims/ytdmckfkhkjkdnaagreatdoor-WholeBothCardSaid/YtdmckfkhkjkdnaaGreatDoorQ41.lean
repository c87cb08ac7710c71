/- apply.mark of a log that has nothing trimmed: walked (turned from WLow). · apply.one; the cells of a parcel in memory; slices.IndexFunc of them, news: -/
import Derived.Test.YtdmckfkhkjkdnaaGreatDoorQ40
set_option linter.unusedVariables false
set_option maxRecDepth 100000
set_option maxHeartbeats 16000000
namespace Go.Proofs.YtdmckfkhkjkdnaaGreatDoor
open Go.RowKit Go.Maps
theorem apmark_ok {F : Nat → Prop} {b n : Nat} {L : Lg} (below : Int) (hbl : below ≤ 0) (w : World) (h : LgAt F w b n L) (h1 : 1 ≤ n) (h2 : n ≤ 3) (hl : L.shs.length = n) (h0 : ∀ s ∈ L.shs, s.l = 0) :
    Calls Tryz.prog 135 #[.pointer (some ⟨b, 0, none⟩), .int .i64 below] w fun r w' => r = .returned .nilIface ∧ Keep Non w w' := by
  have PJ := Lib.hid (lgProj_ok w h h1)
  have UN := Lib.hid (fun W e cv (k : Keep Non w W) T (hp : PrAt T W cv n) => punits_ok T e n cv W hp h1 h2)
  have UI : Hid (∀ W u, Keep Non w W → u < n → Calls Tryz.prog 123 #[.pointer (some ⟨b, 0, none⟩), .int .i64 u] W fun r w' => ∃ b' F' e D, r = .returned (.pointer (some ⟨b', 0, none⟩)) ∧ Keep Non W w' ∧ UnAt F' w' b' e 0 D) := Lib.hid (fun W u k hu => by
    have hs : L.shs[u]? = some L.shs[u] := List.getElem?_eq_getElem (by omega)
    refine (lgUnit_ok W (h.keepNon k) hs).mono ?_
    rintro r w' ⟨b', F', e1, e2, e3⟩
    rw [h0 _ (List.getElem_mem _)] at e3
    exact ⟨b', F', _, _, e1, e2, e3⟩)
  clear h h0 hl
  go_enter Tryz.func135, Tryz.ntmps135
  go_wp2_with (first
    | (go_at_call 122; refine PJ.out.mono ?_; rintro r w1 ⟨cv', rfl, k1, p1⟩; obtain ⟨g3, vs3, c3', rfl, _⟩ := id p1; have K1 := Lib.hid k1; have UNW := Lib.hid (UN.out _ L.ep _ k1 _ p1); clear k1 p1)
    | (go_at_call 45; refine UNW.out.mono ?_; rintro r w2 ⟨ug, uc, rfl, k2, hug, u2⟩; have K2 := Lib.hid (K1.out.trans1 k2); have U2 := Lib.hid u2; clear k2 u2))
  go_loopw [5, 12] (fun m i wr => ∃ j : Nat, j ≤ n ∧ i = .int .i64 j ∧ m = .int .i64 (if j = 0 then 1048576 else 0) ∧ Keep Non w2 wr) (fun _ i _ => n - (intOf i).toNat)
  case atStart => exact ⟨0, by omega, rfl, rfl, Keep.refl _ _⟩
  case round =>
    obtain ⟨j, hj, rfl, rfl, hk⟩ := hrel
    have HK := Lib.hid hk
    have u3 := U2.out.keepNon hk
    clear hk
    by_cases hlt : j < n
    · have hlj : (j : Int) < (n : Int) := by omega
      have hcell : wr.cell? ⟨ug, j, none⟩ = some (.int .i64 (j : Int)) := by
        obtain ⟨a', c', e, hx⟩ := u3
        injection e with e1 e2 e3
        obtain ⟨g', off, e4, hc⟩ := hx (by intro e; have e' := List.map_eq_nil_iff.1 e; have e2 := congrArg List.length e'; simp at e2; omega)
        rw [← e1] at e4
        injection e4 with e4
        injection e4 with e4 e5
        subst e4
        subst e5
        have := hc j (iv j) (by rw [List.getElem?_map, List.getElem?_range hlt]; rfl)
        rwa [Nat.zero_add] at this
      have UIW := Lib.hid (UI.out wr j (K2.out.trans1 HK.out) hlt)
      have hmin : ∀ x : Int, x = (if j = 0 then 1048576 else 0) → 0 ≤ x := fun x e => by split at e <;> omega
      generalize hm : (if j = 0 then (1048576 : Int) else 0) = m
      have hm0 := hmin m hm.symm
      clear u3 hmin
      go_wp2_with (first
        | (go_at_call 123; refine UIW.out.mono ?_; rintro r w3 ⟨b', F', e, D, rfl, k3, u3⟩; have K3 := Lib.hid k3; have LW := Lib.hid (unlow_ok F' b' e 0 D w3 u3); clear k3 u3)
        | (go_at_call 124; refine LW.out.mono ?_; rintro r w4 ⟨rfl, rfl⟩))
      refine ⟨⟨j + 1, by omega, by first | rfl | go_num, ?_, HK.out.trans1 K3.out⟩, by simp [intOf]; omega⟩
      rw [if_neg (by omega)]
      first
        | rfl
        | (congr 1; omega)
        | (congr 1; simp; omega)
    · obtain rfl : j = n := by omega
      have e0 : (if j = 0 then (1048576 : Int) else 0) = 0 := if_neg (by omega)
      rw [e0]
      have hge : (0 : Int) ≥ below := by omega
      have hge2 : below ≤ (0 : Int) := by omega
      clear u3
      go_wp2_with fail
      go_ret
      exact ⟨rfl, K2.out.trans1 HK.out⟩
theorem apone_ok {F : Nat → Prop} {ab b i xc : Nat} {xa : Option Addr} {M : Lg} {g : Nat → Cl} (w : World) (hA : w.heap[ab]? = some (ApB 7 i)) (h : LgAt F w b 3 M) (hf : FilledM M i g) (hi : i < 200) (hlay : Lay w) (hx : okCl (g i)) (hk : (g i).1 = 1 ∨ (g i).1 = 2)
    (hb : Bs w (.slice xa (g i).2.length xc) (g i).2) (ho : (g i).2 = [] ∨ ∀ k, (Value.slice xa (g i).2.length xc).ownBlock = some k → ¬ F k ∧ k < w.heap.size) :
    Calls Tryz.prog 200 #[.pointer (some ⟨ab, 0, none⟩), .pointer (some ⟨b, 0, none⟩), .agg #[.int .i64 (g i).1, .slice xa (g i).2.length xc]] w fun r w' => r = .returned .nilIface ∧ LgTo F w b 3 (putM M i (g i)) w' := by
  have PU : Hid (∀ W, Keep Non w W → Calls Tryz.prog 17 #[.pointer (some ⟨b, 0, none⟩), .int .i64 i, .agg #[.int .i64 (g i).1, .slice xa (g i).2.length xc]] W fun r w' => r = .returned .nilIface ∧ LgTo F w b 3 (putM M i (g i)) w') := Lib.hid (fun W k => by
    refine (mirput_ok W (h.keepNon k) hf hi (hlay.keep k (fun _ _ e => e)) hx hk (Rd.keepNon hb k) (ho.imp id (fun ho e he => ⟨(ho e he).1, k.lt (ho e he).2⟩))).mono ?_
    rintro r w' ⟨e, t⟩
    exact ⟨e, LgTo.pre k t⟩)
  clear hx hb ho hf hlay h
  generalize g i = x at PU hk ⊢
  have hk3 : ¬ x.1 = 3 := by omega
  have b0 := blk_new w (ClB x.1 (.slice xa x.2.length xc))
  have c0 := cl0 b0
  have c1 := cl1 b0
  have d1 := ap_1 (nonAt ((Keep.refl Non w).alloc (ClB x.1 (.slice xa x.2.length xc))) hA)
  dsimp only [ClB] at c0 c1 d1
  have hne := neq_nil_err 9
  clear b0 hk hA
  go_enter Tryz.func200, Tryz.ntmps200
  go_wp2_with fail
  go_region_with (
    (go_at_call 17; refine (PU.out _ (by exact ((Keep.refl Non w).alloc _).drew)).mono ?_; rintro r w5 ⟨rfl, t5⟩; have T5 := Lib.hid t5; clear t5))
  all_goals
    go_wp2_with fail
    go_ret
    exact ⟨rfl, T5.out⟩
def CsF (G : Nat → Prop) (w : World) (v : Value) (cl : List Cl) : Prop := ∃ a c, v = .slice a cl.length c ∧ cl.length ≤ c ∧ (∀ ad, a = some ad → ∃ g off, ad = ⟨g, off, none⟩) ∧ ∀ j (hj : j < cl.length), ∃ g off sa sc, a = some ⟨g, off, none⟩ ∧ G g ∧ w.cell? ⟨g, off + j * 2, none⟩ = some (.int .i64 cl[j].1) ∧ w.cell? ⟨g, off + j * 2 + 1, none⟩ = some (.slice sa cl[j].2.length sc) ∧ Bs w (.slice sa cl[j].2.length sc) cl[j].2 ∧ okc (.slice sa cl[j].2.length sc) ∧ ∀ k, (Value.slice sa cl[j].2.length sc).ownBlock = some k → G k ∧ k < w.heap.size
theorem CsF.keep {G S : Nat → Prop} {w w' : World} {v : Value} {cl : List Cl} (h : CsF G w v cl) (k : Keep S w w') (hn : ∀ g, G g → ¬ S g) : CsF G w' v cl := by
  obtain ⟨a, c, rfl, hc, ha, hx⟩ := h
  refine ⟨a, c, rfl, hc, ha, fun j hj => ?_⟩
  obtain ⟨g, off, sa, sc, rfl, h1, h2, h3, h4, h5, h6⟩ := hx j hj
  have hg : g < w.heap.size := World.block_lt_of_cell? _ _ h2
  exact ⟨g, off, sa, sc, rfl, h1, (World.cell?_of_block (k.block g hg (hn g h1))).trans h2, (World.cell?_of_block (k.block g hg (hn g h1))).trans h3, Rd.keep h4 k (fun q e => hn q (h6 q e).1), h5, fun q e => ⟨(h6 q e).1, k.lt (h6 q e).2⟩⟩
theorem CsF.at {G : Nat → Prop} {w : World} {v : Value} {cl : List Cl} (h : CsF G w v cl) : CsAt w v cl := by
  obtain ⟨a, c, rfl, hc, ha, hx⟩ := h
  refine ⟨a, c, rfl, hc, ha, fun j hj => ?_⟩
  obtain ⟨g, off, sa, sc, rfl, h1, h2, h3, h4, h5, h6⟩ := hx j hj
  exact ⟨g, off, _, rfl, h2, h3, h4, h5⟩
theorem CsF.nil (G : Nat → Prop) (w : World) : CsF G w (.slice none 0 0) [] := ⟨none, 0, rfl, Nat.le_refl _, (fun _ e => by cases e), fun j hj => absurd hj (Nat.not_lt_zero _)⟩
theorem CsF.of {B : Nat} {S G : Nat → Prop} {w : World} {v : Value} {xs : List Value} {cl : List Cl} (h : w.ownsRow B 50 2 v cl.length xs) (h2 : CellsOf B S w xs cl) (hG : ∀ g, B ≤ g → g < w.heap.size → G g) : CsF G w v cl := by
  have hlt := h.lt
  rcases h.2 with ⟨hv, hn⟩ | ⟨g, cap, cur, rfl, _, hg, hn, _, _, htake⟩
  · obtain rfl : cl = [] := List.eq_nil_of_length_eq_zero (by omega)
    rw [hv]
    exact CsF.nil G w
  · refine ⟨some ⟨g, 0, none⟩, cap, rfl, hn, fun ad e => ⟨g, 0, by injection e with e; exact e.symm⟩, fun j hj => ?_⟩
    obtain ⟨s, h3, h4, h5, h6, h7⟩ := h2.2 j cl[j] (List.getElem?_eq_getElem hj)
    have hx : ∀ i u, xs[i]? = some u → w.cell? ⟨g, 0 + i, none⟩ = some u := by
      intro i u hu
      rw [Nat.zero_add, World.cell?, hg]
      rw [← htake, List.getElem?_take] at hu
      split at hu
      · simpa using hu
      · cases hu
    obtain ⟨sa, sc, rfl, _⟩ := bs_cell h5
    exact ⟨g, 0, sa, sc, rfl, hG g (hlt g rfl).1 (hlt g rfl).2, by rw [Nat.mul_comm]; exact hx _ _ h3, by rw [Nat.mul_comm, Nat.add_assoc]; exact hx _ _ h4, h5, h6, fun k e => ⟨hG k (h7 k e).1 (h7 k e).2.1, (h7 k e).2.1⟩⟩
theorem CsF.drop {G : Nat → Prop} {w : World} {g off rc m n : Nat} {cl : List Cl} (h : CsF G w (.slice (some ⟨g, off, none⟩) m rc) cl) (hm : cl.length = m) (hn : n < m) (hrc : m ≤ rc) : CsF G w (.slice (some ⟨g, off + n * 2, none⟩) (m - n) (rc - n)) (cl.drop n) := by
  obtain ⟨a, c, e, hc, ha, hx⟩ := h
  injection e with e1 e2 e3
  subst e1
  refine ⟨_, rc - n, by rw [List.length_drop, hm], by rw [List.length_drop]; omega, fun ad e => ⟨g, _, by injection e with e; exact e.symm⟩, fun j hj => ?_⟩
  rw [List.length_drop] at hj
  obtain ⟨g', off', sa, sc, q1, h1, h2, h3, h4, h5, h6⟩ := hx (n + j) (by omega)
  injection q1 with q1
  injection q1 with q1 q2
  subst q1
  subst q2
  have e : (cl.drop n)[j]'(by rw [List.length_drop]; omega) = cl[n + j]'(by omega) := by simp
  refine ⟨g, _, sa, sc, rfl, h1, ?_, ?_, ?_, ?_, ?_⟩
  · rw [e, show off + n * 2 + j * 2 = off + (n + j) * 2 by omega]; exact h2
  · rw [e, show off + n * 2 + j * 2 = off + (n + j) * 2 by omega]; exact h3
  · rw [e]; exact h4
  · rw [e]; exact h5
  · rw [e]; exact h6
theorem anews1_enter (args : Array Value) (w : World) : (callFunc 203 args).run Tryz.prog w = .ok (.enter 203 args) w := enter_of Tryz.func203 (by kernel_rfl) rfl args w
theorem anews1_ok (k : Int) (a : Option Addr) (m c : Nat) (w : World) (hk : k ≠ 0) :
    Calls Tryz.prog 203 #[.agg #[.int .i64 k, .slice a m c]] w fun e w' => e = .returned (.bool false) ∧ Keep Non w w' := by
  go_enter Tryz.func203, Tryz.ntmps203
  go_wp2_with fail
  go_ret
  exact ⟨by first | rfl | simp [hk], (Keep.refl _ _).alloc _⟩
theorem idxcl_none {G : Nat → Prop} (v : Value) (cl : List Cl) (w : World) (h : CsF G w v cl) (hl : cl.length ≤ 1000) (hk : ∀ x ∈ cl, x.1 ≠ 0) :
    Calls Tryz.prog 202 #[v, .func (.func 203) #[] #[]] w fun e w' => e = .returned (.int .i64 (-1)) ∧ Keep Non w w' := by
  have H := Lib.hid h
  have eg := anews1_enter
  obtain ⟨a, c, rfl, hx⟩ := h
  clear hx
  go_enter Tryz.func202, Tryz.ntmps202
  go_wp2_with fail
  go_loopw [8] (fun i wr => ∃ j : Nat, j ≤ cl.length ∧ i = .int .i64 j ∧ Keep Non w wr) (fun i _ => cl.length - (intOf i).toNat)
  case atStart => exact ⟨0, by omega, rfl, Keep.refl _ _⟩
  case round =>
    obtain ⟨j, hj, rfl, hi⟩ := hrel
    have HI := Lib.hid hi
    by_cases hlt : j < cl.length
    · have hlj : (j : Int) < (cl.length : Int) := by omega
      obtain ⟨a1, c1, e1, hc1, ha1, hx⟩ := H.out.keep hi (fun _ _ e => e)
      injection e1 with e1 e3 e4
      subst e1
      subst e4
      obtain ⟨g, off, sa, sc, rfl, h1, h2, h3, h4, h5, h6⟩ := hx j hlt
      have hk0 := hk cl[j] (List.getElem_mem _)
      have ST := Lib.hid (anews1_ok cl[j].1 sa cl[j].2.length sc wr hk0)
      generalize cl[j] = y at h2 h3 ST
      clear hx h4 h5 h6 h1 hi ha1 hk0 hk
      go_wp2_with fail
      refine ST.out.mono ?_
      rintro e w1 ⟨rfl, i1⟩
      have I1 := Lib.hid i1
      clear i1 ST
      go_wp2_with fail
      exact ⟨⟨j + 1, by omega, by first | rfl | go_num, HI.out.trans1 I1.out⟩, by simp [intOf]; omega⟩
    · obtain rfl : j = cl.length := by omega
      clear hk hi
      go_wp2_with fail
      go_ret
      exact ⟨rfl, HI.out⟩
theorem apnews_ok {G : Nat → Prop} (f n : Nat) (v : Value) (cl : List Cl) (w : World) (h : CsF G w v cl) (hl : f + cl.length ≤ 1000) (hk : ∀ x ∈ cl, x.1 ≠ 0) (h0 : f ≤ n) (hn : n < f + cl.length) :
    Calls Tryz.prog 134 #[.agg #[.int .i64 f, v], .int .i64 n] w fun r w' => ∃ v', r = .returned v' ∧ Keep Non w w' ∧ CsF G w' v' (cl.drop (n - f)) := by
  obtain ⟨a, c, rfl, hc, ha, hx⟩ := id h
  obtain ⟨g, off, _, _, rfl, _⟩ := hx 0 (by omega)
  have hd := h.drop (n := n - f) rfl (by omega) hc
  have hcn : ¬ c = n - f := by omega
  have hsub : (n : Int) - f = ((n - f : Nat) : Int) := by omega
  have EN := Lib.hid (fun W => send_any f (some ⟨g, off, none⟩) cl.length c W (by omega))
  have IX := Lib.hid (fun W (k : Keep Non w W) => idxcl_none _ _ W (hd.keep k (fun _ _ e => e)) (by rw [List.length_drop]; omega) (fun x hx => hk x (List.mem_of_mem_drop hx)))
  have HD := Lib.hid hd
  have b0 := blk_new w (SgB f (.slice (some ⟨g, off, none⟩) cl.length c))
  have B0 := Lib.hid b0
  have c0 := sg_0 b0
  have c1 := sg_1 b0
  dsimp only [SgB] at c0 c1
  have K0 : Hid (Keep Non w (w.alloc (SgB f (.slice (some ⟨g, off, none⟩) cl.length c)))) := Lib.hid ((Keep.refl _ _).alloc _)
  have hge : ¬ ((n : Int) ≥ (f : Int) + cl.length) := by omega
  have hge2 : ¬ ((f : Int) + cl.length ≤ (n : Int)) := by omega
  clear hd hx ha h b0 hk
  go_enter Tryz.func134, Tryz.ntmps134
  go_wp2_with (first
    | (go_at_call 201; refine (EN.out _).mono ?_; rintro r w1 ⟨rfl, k1⟩; have K1 := Lib.hid (K0.out.trans1 k1); have b1 := nonAt k1 B0.out; clear c0 c1; have c0 := sg_0 b1; have c1 := sg_1 b1; clear k1 b1)
    | (go_at_call 202; refine (IX.out _ K1.out).mono ?_; rintro r w2 ⟨rfl, k2⟩; have K2 := Lib.hid (K1.out.trans1 k2); clear k2))
  go_ret
  exact ⟨_, rfl, K2.out, HD.out.keep K2.out (fun _ _ e => e)⟩
theorem apnews_no {G : Nat → Prop} (f n : Nat) (v : Value) (cl : List Cl) (w : World) (h : CsF G w v cl) (hl : f + cl.length ≤ 1000) (hn : f + cl.length ≤ n) :
    Calls Tryz.prog 134 #[.agg #[.int .i64 f, v], .int .i64 n] w fun r w' => r = .returned (.slice none 0 0) ∧ Keep Non w w' := by
  obtain ⟨a, c, rfl, hc, ha, hx⟩ := h
  have EN := Lib.hid (fun W => send_any f a cl.length c W (by omega))
  have b0 := blk_new w (SgB f (.slice a cl.length c))
  have c0 := sg_0 b0
  have c1 := sg_1 b0
  dsimp only [SgB] at c0 c1
  have K0 : Hid (Keep Non w (w.alloc (SgB f (.slice a cl.length c)))) := Lib.hid ((Keep.refl _ _).alloc _)
  have hge : (n : Int) ≥ (f : Int) + cl.length := by omega
  have hge2 : (f : Int) + cl.length ≤ (n : Int) := by omega
  clear hx ha b0 hc
  go_enter Tryz.func134, Tryz.ntmps134
  go_wp2_with (go_at_call 201; refine (EN.out _).mono ?_; rintro r w1 ⟨rfl, k1⟩; have K1 := Lib.hid (K0.out.trans1 k1); clear k1)
  go_ret
  exact ⟨rfl, K1.out⟩
end Go.Proofs.YtdmckfkhkjkdnaaGreatDoor
