/- slices.IndexFunc, ContainsFunc where no element is meant: walked (printed by wip/idx.py). · proj.Check of chains of one unit each: walked. · slog.New: -/
import Derived.Test.YtobjlgfjfpmceaaGreatDoorQ38
set_option linter.unusedVariables false
set_option maxRecDepth 100000
set_option maxHeartbeats 16000000
namespace Go.Proofs.YtobjlgfjfpmceaaGreatDoor
open Go.RowKit
def sl1 (x : Addr × Nat) : Value := .slice (some x.1) 1 x.2
theorem idxi_none (g : Nat) (a : Option Addr) (c : Nat) (us : List Nat) (w : World)
    (eg : ∀ args w, (callFunc g args).run Tryz.prog w = .ok (.enter g args) w)
    (hr : Rd w (.slice a us.length c) (us.map iv)) (hl : us.length ≤ 1000)
    (hs : ∀ (j : Nat) u W, us[j]? = some u → Keep Non w W → Calls Tryz.prog g #[iv u] W fun e w' => e = .returned (.bool false) ∧ Keep Non W w') :
    Calls Tryz.prog 158 #[.slice a us.length c, .func (.func g) #[] #[]] w fun e w' => e = .returned (.int .i64 (-1)) ∧ Keep Non w w' := by
  have HS := Lib.hid hs
  have HR := Lib.hid hr
  clear hs hr
  go_enter Tryz.func158, Tryz.ntmps158
  go_wp2_with fail
  go_loopw [8] (fun i wr => ∃ j : Nat, j ≤ us.length ∧ i = .int .i64 j ∧ Keep Non w wr) (fun i _ => us.length - (intOf i).toNat)
  case atStart => exact ⟨0, by omega, rfl, Keep.refl _ _⟩
  case round =>
    obtain ⟨j, hj, rfl, hi⟩ := hrel
    have HI := Lib.hid hi
    have hrd := HR.out.keepNon hi
    clear hi
    by_cases hlt : j < us.length
    · have hlj : (j : Int) < (us.length : Int) := by omega
      obtain ⟨b, off, rfl, hc⟩ : ∃ b off, a = some ⟨b, off, none⟩ ∧ ∀ (k : Nat) u, (us.map iv)[k]? = some u → wr.cell? ⟨b, off + k, none⟩ = some u := by
        obtain ⟨a', c', e, hx⟩ := hrd
        injection e with e1 e2 e3
        obtain ⟨g', off, e4, hc⟩ := hx (by intro e; have e' := List.map_eq_nil_iff.1 e; rw [e'] at hlt; exact absurd hlt (by simp))
        exact ⟨g', off, e1.trans e4, hc⟩
      obtain ⟨u, hu⟩ : ∃ u, us[j]? = some u := ⟨_, List.getElem?_eq_getElem hlt⟩
      have hcell : wr.cell? ⟨b, off + j, none⟩ = some (iv u) := hc j _ (by rw [List.getElem?_map, hu]; rfl)
      unfold iv at hcell
      have ST := Lib.hid (HS.out j u wr hu HI.out)
      unfold iv at ST
      clear hc hrd hu
      clear HR
      go_wp2_with fail
      refine ST.out.mono ?_
      rintro e w1 ⟨rfl, i1⟩
      have I1 := Lib.hid i1
      clear i1 ST HS
      go_wp2_with fail
      exact ⟨⟨j + 1, by omega, by first | rfl | go_num, HI.out.trans1 I1.out⟩, by simp [intOf]; omega⟩
    · obtain rfl : j = us.length := by omega
      clear hrd
      go_wp2_with fail
      go_ret
      exact ⟨rfl, HI.out⟩
theorem idxi_has (g : Nat) (a : Option Addr) (c : Nat) (us : List Nat) (w : World)
    (eg : ∀ args w, (callFunc g args).run Tryz.prog w = .ok (.enter g args) w)
    (hr : Rd w (.slice a us.length c) (us.map iv)) (hl : us.length ≤ 1000)
    (hs : ∀ (j : Nat) u W, us[j]? = some u → Keep Non w W → Calls Tryz.prog g #[iv u] W fun e w' => e = .returned (.bool false) ∧ Keep Non W w') :
    Calls Tryz.prog 98 #[.slice a us.length c, .func (.func g) #[] #[]] w fun e w' => e = .returned (.bool false) ∧ Keep Non w w' := by
  have IX := Lib.hid (idxi_none g a c us w eg hr hl hs)
  clear hr hs
  go_enter Tryz.func98, Tryz.ntmps98
  go_wp2_with (go_at_call 158; refine IX.out.mono ?_; rintro e w1 ⟨rfl, k1⟩; have K1 := Lib.hid k1; clear k1)
  go_ret
  exact ⟨rfl, K1.out⟩
theorem idxc_none (g : Nat) (a : Option Addr) (c : Nat) (us : List (Addr × Nat)) (w : World)
    (eg : ∀ args w, (callFunc g args).run Tryz.prog w = .ok (.enter g args) w)
    (hr : Rd w (.slice a us.length c) (us.map sl1)) (hl : us.length ≤ 1000)
    (hs : ∀ (j : Nat) u W, us[j]? = some u → Keep Non w W → Calls Tryz.prog g #[sl1 u] W fun e w' => e = .returned (.bool false) ∧ Keep Non W w') :
    Calls Tryz.prog 157 #[.slice a us.length c, .func (.func g) #[] #[]] w fun e w' => e = .returned (.int .i64 (-1)) ∧ Keep Non w w' := by
  have HS := Lib.hid hs
  have HR := Lib.hid hr
  clear hs hr
  go_enter Tryz.func157, Tryz.ntmps157
  go_wp2_with fail
  go_loopw [8] (fun i wr => ∃ j : Nat, j ≤ us.length ∧ i = .int .i64 j ∧ Keep Non w wr) (fun i _ => us.length - (intOf i).toNat)
  case atStart => exact ⟨0, by omega, rfl, Keep.refl _ _⟩
  case round =>
    obtain ⟨j, hj, rfl, hi⟩ := hrel
    have HI := Lib.hid hi
    have hrd := HR.out.keepNon hi
    clear hi
    by_cases hlt : j < us.length
    · have hlj : (j : Int) < (us.length : Int) := by omega
      obtain ⟨b, off, rfl, hc⟩ : ∃ b off, a = some ⟨b, off, none⟩ ∧ ∀ (k : Nat) u, (us.map sl1)[k]? = some u → wr.cell? ⟨b, off + k, none⟩ = some u := by
        obtain ⟨a', c', e, hx⟩ := hrd
        injection e with e1 e2 e3
        obtain ⟨g', off, e4, hc⟩ := hx (by intro e; have e' := List.map_eq_nil_iff.1 e; rw [e'] at hlt; exact absurd hlt (by simp))
        exact ⟨g', off, e1.trans e4, hc⟩
      obtain ⟨u, hu⟩ : ∃ u, us[j]? = some u := ⟨_, List.getElem?_eq_getElem hlt⟩
      have hcell : wr.cell? ⟨b, off + j, none⟩ = some (sl1 u) := hc j _ (by rw [List.getElem?_map, hu]; rfl)
      unfold sl1 at hcell
      have ST := Lib.hid (HS.out j u wr hu HI.out)
      unfold sl1 at ST
      clear hc hrd hu
      clear HR
      go_wp2_with fail
      refine ST.out.mono ?_
      rintro e w1 ⟨rfl, i1⟩
      have I1 := Lib.hid i1
      clear i1 ST HS
      go_wp2_with fail
      exact ⟨⟨j + 1, by omega, by first | rfl | go_num, HI.out.trans1 I1.out⟩, by simp [intOf]; omega⟩
    · obtain rfl : j = us.length := by omega
      clear hrd
      go_wp2_with fail
      go_ret
      exact ⟨rfl, HI.out⟩
theorem idxc_has (g : Nat) (a : Option Addr) (c : Nat) (us : List (Addr × Nat)) (w : World)
    (eg : ∀ args w, (callFunc g args).run Tryz.prog w = .ok (.enter g args) w)
    (hr : Rd w (.slice a us.length c) (us.map sl1)) (hl : us.length ≤ 1000)
    (hs : ∀ (j : Nat) u W, us[j]? = some u → Keep Non w W → Calls Tryz.prog g #[sl1 u] W fun e w' => e = .returned (.bool false) ∧ Keep Non W w') :
    Calls Tryz.prog 97 #[.slice a us.length c, .func (.func g) #[] #[]] w fun e w' => e = .returned (.bool false) ∧ Keep Non w w' := by
  have IX := Lib.hid (idxc_none g a c us w eg hr hl hs)
  clear hr hs
  go_enter Tryz.func97, Tryz.ntmps97
  go_wp2_with (go_at_call 157; refine IX.out.mono ?_; rintro e w1 ⟨rfl, k1⟩; have K1 := Lib.hid k1; clear k1)
  go_ret
  exact ⟨rfl, K1.out⟩
theorem wrong_enter (args : Array Value) (w : World) : (callFunc 95 args).run Tryz.prog w = .ok (.enter 95 args) w := enter_of Tryz.func95 (by kernel_rfl) rfl args w
theorem odd_enter (args : Array Value) (w : World) : (callFunc 99 args).run Tryz.prog w = .ok (.enter 99 args) w := enter_of Tryz.func99 (by kernel_rfl) rfl args w
theorem pwrong_ok (a : Option Addr) (c : Nat) (w : World) :
    Calls Tryz.prog 95 #[.slice a 1 c] w fun e w' => e = .returned (.bool false) ∧ w' = w := by
  go_enter Tryz.func95, Tryz.ntmps95
  go_wp2_with fail
  go_ret
  exact ⟨rfl, rfl⟩
theorem punit_ok (n : Nat) (w : World) (h : n < 8) :
    Calls Tryz.prog 159 #[.int .i64 n] w fun e w' => e = .returned (.bool true) ∧ w' = w := by
  have hn : (n : Int) < 8 := by omega
  go_enter Tryz.func159, Tryz.ntmps159
  go_wp2_with fail
  go_ret
  exact ⟨rfl, rfl⟩
theorem podd_ok (n : Nat) (w : World) (h : n < 8) :
    Calls Tryz.prog 99 #[.int .i64 n] w fun e w' => e = .returned (.bool false) ∧ w' = w := by
  have U := Lib.hid (punit_ok n w h)
  go_enter Tryz.func99, Tryz.ntmps99
  go_wp2_with (go_at_call 159; refine U.out.mono ?_; rintro e w1 ⟨rfl, rfl⟩)
  go_ret
  exact ⟨rfl, rfl⟩
theorem PrAt.parts {T : Nat → Prop} {w : World} {cv : Value} {n : Nat} (h : PrAt T w cv n) : ∃ g c, cv = .slice (some ⟨g, 0, none⟩) n c ∧ ∃ xs : List (Addr × Nat), xs.length = n ∧ Rd w cv (xs.map sl1) := by
  obtain ⟨g, vs, c, rfl, hl, hr, hi, hg, ht⟩ := h
  refine ⟨g, c, rfl, ?_⟩
  have key : ∀ (us : List Value), (∀ v ∈ us, ∃ x : Addr × Nat, v = sl1 x) → ∃ xs : List (Addr × Nat), us = xs.map sl1 := by
    intro us
    induction us with
    | nil => intro _; exact ⟨[], rfl⟩
    | cons v r ih =>
      intro h
      obtain ⟨x, rfl⟩ := h v (by simp)
      obtain ⟨xs, rfl⟩ := ih (fun v hv => h v (by simp [hv]))
      exact ⟨x :: xs, rfl⟩
  obtain ⟨xs, rfl⟩ := key vs (fun v hv => by
    obtain ⟨i, hi', rfl⟩ := List.getElem_of_mem hv
    have hx := hi.2 i _ [i] (List.getElem?_eq_getElem hi') (by rw [hl] at hi'; simp [chainsN, hi'])
    obtain ⟨xa, xc, e, hxx⟩ := hx
    obtain ⟨xg, xo, rfl, _⟩ := hxx (by simp)
    exact ⟨(⟨xg, xo, none⟩, xc), e⟩)
  exact ⟨xs, by simpa using hl, hr⟩
theorem pcheck_one (T : Nat → Prop) (e n : Nat) (cv : Value) (w : World) (h : PrAt T w cv n) (h1 : 1 ≤ n) (h2 : n ≤ 2) (he : e ≤ 1099511627776) :
    Calls Tryz.prog 52 #[.agg #[.int .i64 e, cv]] w fun r w' => r = .returned .nilIface ∧ Keep Non w w' := by
  have PU := Lib.hid (fun W (k : Keep Non w W) => punits_ok T e n cv W (h.keepNon k) h1 h2)
  have CC : Hid (∀ W, Keep Non w W → Calls Tryz.prog 96 #[cv] W (NewI W (List.range n))) := Lib.hid (by
    obtain ⟨g, vs, c, rfl, hl, hr, hi, hg, ht⟩ := h
    have CC := (fun W (k : Keep Non w W) => concati_any g vs (chainsN n) c W (by rw [hl]; exact hr.keepNon k) ⟨hi.1, fun i u l hu hl => (hi.2 i u l hu hl).keepNon k⟩ (by rw [chains_flat]; simp; omega) (by omega))
    rw [hl, chains_flat] at CC
    exact CC)
  obtain ⟨g, c, rfl, xs, hxl, hr⟩ := h.parts
  have CW : Hid (∀ W, Keep Non w W → Calls Tryz.prog 97 #[.slice (some ⟨g, 0, none⟩) n c, .func (.func 95) #[] #[]] W fun e w' => e = .returned (.bool false) ∧ Keep Non W w') := Lib.hid (fun W k => by
    have := idxc_has 95 (some ⟨g, 0, none⟩) c xs W wrong_enter (by rw [hxl]; exact hr.keepNon k) (by omega) (fun j u W' _ _ => (pwrong_ok _ _ W').mono (fun r w' ⟨a, b⟩ => ⟨a, by rw [b]; exact Keep.refl _ _⟩))
    rw [hxl] at this
    exact this)
  have CO : Hid (∀ W a c, Is W (.slice a n c) (List.range n) → Calls Tryz.prog 98 #[.slice a n c, .func (.func 99) #[] #[]] W fun e w' => e = .returned (.bool false) ∧ Keep Non W w') := Lib.hid (fun W a c hi => by
    have := idxi_has 99 a c (List.range n) W odd_enter (by rw [List.length_range]; exact hi) (by simp; omega) (fun j u W' hu _ => (podd_ok u W' (by
      rcases Nat.lt_or_ge j n with x | x
      · rw [List.getElem?_range x] at hu; injection hu with hu; omega
      · rw [List.getElem?_eq_none (by simpa using x)] at hu; cases hu)).mono (fun r w' ⟨a, b⟩ => ⟨a, by rw [b]; exact Keep.refl _ _⟩))
    rw [List.length_range] at this
    exact this)
  have hn1 : ¬ (n : Int) < 1 := by omega
  have hn2 : ¬ (4 : Int) < n := by omega
  have hn3 : ¬ (n : Int) < n := by omega
  clear h hr
  go_enter Tryz.func52, Tryz.ntmps52
  go_wp2_with (first
    | (go_at_call 96; refine (CC.out _ ((Keep.refl _ _).alloc _)).mono ?_; rintro r w1 ⟨v1, rfl, k1, o1⟩; obtain ⟨a1, c1, rfl, _, _⟩ := ownsRow_form o1; rw [List.length_range] at *; have K1 := Lib.hid (((Keep.refl Non w).alloc _).trans1 k1); have I1 := Lib.hid (Rd.ofOwns o1); have P1 := Lib.hid (k1.at (blk_new w (PrB e (.slice (some ⟨g, 0, none⟩) n c))) (fun e => e)); have q10 := pr_0 P1.out; have q11 := pr_1 P1.out; clear k1 o1)
    | (go_at_call 97; refine (CW.out _ K1.out).mono ?_; rintro r w2 ⟨rfl, k2⟩; have K2 := Lib.hid (K1.out.trans1 k2); have I2 := Lib.hid (I1.out.keepNon k2); have P2 := Lib.hid (k2.at P1.out (fun e => e)); have q20 := pr_0 P2.out; have q21 := pr_1 P2.out; clear k2)
    | (go_at_call 98; refine (CO.out _ _ _ I2.out).mono ?_; rintro r w3 ⟨rfl, k3⟩; have K3 := Lib.hid (K2.out.trans1 k3); have P3 := Lib.hid (k3.at P2.out (fun e => e)); have q30 := pr_0 P3.out; have q31 := pr_1 P3.out; clear k3)
    | (go_at_call 53; refine (PU.out _ K3.out).mono ?_; rintro r w4 ⟨g4, c4, rfl, k4, _, _⟩; have K4 := Lib.hid (K3.out.trans1 k4); clear k4))
  go_ret
  exact ⟨rfl, K4.out⟩
end Go.Proofs.YtobjlgfjfpmceaaGreatDoor
namespace Go.Proofs.YtobjlgfjfpmceaaGreatDoor
open Go.RowKit Go.Maps
theorem lg_first {w w1 w2 w3 : World} {n q b : Nat} {cv : Value} (h10 : 10 ≤ w.heap.size) (hw : w.heap.size ≤ w1.heap.size) (hn : n ≤ 2) (hp : PrAt (fun g => w.heap.size ≤ g ∧ g < w1.heap.size) w1 cv n) (hq : w1.heap.size ≤ q) (k2 : Keep Non w1 w2) (bq : w2.heap[q]? = some (SqB 0 0)) (hb : b = w2.heap.size) (hw3 : w3 = w2.alloc (LgB (.slice none 0 0) (.slice none 0 0) 1 cv q)) :
    LgAt (fun g => w.heap.size ≤ g ∧ g < w3.heap.size) w3 b n ⟨[], 1, 0, 0⟩ := by
  subst hw3
  subst hb
  have hq2 := lt_of_block bq
  have k3 : Keep Non w1 (w2.alloc (LgB (.slice none 0 0) (.slice none 0 0) 1 cv q)) := k2.trans1 ((Keep.refl _ _).alloc _)
  have sz : (w2.alloc (LgB (.slice none 0 0) (.slice none 0 0) 1 cv q)).heap.size = w2.heap.size + 1 := by simp
  have k2s := k2.size
  refine ⟨fun i g => (i = 0 ∧ g = w2.heap.size) ∨ (i = 1 ∧ g = q) ∨ (i = 4 ∧ w.heap.size ≤ g ∧ g < w1.heap.size), [], [], _, _, cv, q, ⟨blk_new _ _, blk_alloc bq _, ⟨by decide, by decide, by decide, by decide⟩, World.ownsRow_nil _ _ _ _, World.ownsRow_nil _ _ _ _, ⟨rfl, rfl⟩, ?_, fun i s p dp hi => by simp at hi, ⟨.inl ⟨rfl, rfl⟩, .inr (.inl ⟨rfl, rfl⟩), (fun g e => by cases e), (fun g e => by cases e)⟩, ?_, ?_, ⟨hn, by simp⟩⟩, ?_⟩
  · have hp3 := hp.keepNon k3
    obtain ⟨g, vs, c, e1, e2, e3, e4, e5, e6⟩ := hp3
    exact ⟨g, vs, c, e1, e2, e3, e4, .inr (.inr ⟨rfl, e5⟩), fun v hv k e => .inr (.inr ⟨rfl, e6 v hv k e⟩)⟩
  · rintro i j g (⟨h1, h2⟩ | ⟨h1, h2⟩ | ⟨h1, h2, h3⟩) (⟨h4, h5⟩ | ⟨h4, h5⟩ | ⟨h4, h5, h6⟩) <;> omega
  · rintro i g (⟨h1, h2⟩ | ⟨h1, h2⟩ | ⟨h1, h2, h3⟩) <;> constructor <;> omega
  · rintro i g (⟨h1, h2⟩ | ⟨h1, h2⟩ | ⟨h1, h2, h3⟩) <;> constructor <;> omega
theorem lgNew_ok (T : Nat → Prop) (n : Nat) (cv : Value) (w : World) (hlay : Lay w) (h : PrAt T w cv n) (h1 : 1 ≤ n) (h2 : n ≤ 2) (h10 : 10 ≤ w.heap.size) :
    Calls Tryz.prog 21 #[.int .i64 n, .int .i64 16777216, cv] w fun r w' => ∃ b, r = .returned (.tuple #[.pointer (some ⟨b, 0, none⟩), .nilIface]) ∧ Keep Non w w' ∧ LgAt (fun g => w.heap.size ≤ g ∧ g < w'.heap.size) w' b n ⟨List.replicate n (sh1 16777216), 1, 0, 1⟩ := by
  have CK := Lib.hid (fun W (k : Keep Non w W) => pcheck_one T 1 n cv W (h.keepNon k) h1 h2 (by omega))
  have UN := Lib.hid (fun W (k : Keep Non w W) => punits_ok T 1 n cv W (h.keepNon k) h1 h2)
  have CP := Lib.hid (fun W (k : Keep Non w W) => pcopy_ok T 1 n cv W (h.keepNon k) h1 h2)
  obtain ⟨g0, vs0, c0, rfl, _⟩ := id h
  have PB : Hid (∀ W, Keep Non (w.alloc (PrB 1 (.slice (some ⟨g0, 0, none⟩) n c0))) W → W.cell? ⟨w.heap.size, 0, none⟩ = some (.int .i64 (1 : Nat)) ∧ W.cell? ⟨w.heap.size, 1, none⟩ = some (.slice (some ⟨g0, 0, none⟩) n c0)) := Lib.hid (fun W kk => ⟨pr_0 (kk.at (blk_new _ _) (fun e => e)), pr_1 (kk.at (blk_new _ _) (fun e => e))⟩)
  have KA := Lib.hid ((Keep.refl Non w).alloc (PrB 1 (.slice (some ⟨g0, 0, none⟩) n c0)))
  have LY := Lib.hid hlay
  have a0 := pr_0 (blk_new w (PrB 1 (.slice (some ⟨g0, 0, none⟩) n c0)))
  have a1 := pr_1 (blk_new w (PrB 1 (.slice (some ⟨g0, 0, none⟩) n c0)))
  have CKA := Lib.hid (CK.out _ KA.out)
  dsimp only [PrB] at a0 a1 CKA
  have hn1 : ¬ (n : Int) < 1 := by omega
  have hn8 : ¬ (8 : Int) < n := by omega
  clear h hlay CK
  go_enter Tryz.func21, Tryz.ntmps21
  go_wp2_with (first
    | (go_at_call 52; refine CKA.out.mono ?_; rintro r w1 ⟨rfl, k1⟩; obtain ⟨b0, b1⟩ := PB.out _ k1; have K1 := Lib.hid k1; have UNW := Lib.hid (UN.out _ (KA.out.trans1 k1)); clear k1)
    | (go_at_call 53; refine UNW.out.mono ?_; rintro r w2 ⟨ug, uc, rfl, k2, hug, u2⟩; obtain ⟨d0, d1⟩ := PB.out _ (K1.out.trans1 k2); have K2 := Lib.hid (K1.out.trans1 k2); have U2 := Lib.hid u2; clear k2 u2))
  go_loopw [31] (fun i wr => ∃ j : Nat, j ≤ n ∧ i = .int .i64 j ∧ wr = w2) (fun i _ => n - (intOf i).toNat)
  case atStart => exact ⟨0, by omega, rfl, rfl⟩
  case round =>
    obtain ⟨j, hj, rfl, rfl⟩ := hrel
    by_cases hlt : j < n
    · have hlj : (j : Int) < (n : Int) := by omega
      have hge : ¬ (n : Int) ≤ (j : Int) := by omega
      have hcell : wr.cell? ⟨ug, j, none⟩ = some (.int .i64 (j : Int)) := by
        obtain ⟨a', c', e, hx⟩ := U2.out
        injection e with e1 e2 e3
        obtain ⟨g', off, e4, hc⟩ := hx (by intro e; have e' := List.map_eq_nil_iff.1 e; have e2 := congrArg List.length e'; simp at e2; omega)
        rw [← e1] at e4
        injection e4 with e4
        injection e4 with e4 e5
        subst e4
        subst e5
        have := hc j (iv j) (by rw [List.getElem?_map, List.getElem?_range hlt]; rfl)
        rwa [Nat.zero_add] at this
      go_wp2_with fail
      refine ⟨⟨j + 1, by omega, ?_⟩, by simp [intOf]; omega⟩
      exact ⟨rfl, trivial⟩
    · obtain rfl : j = n := by omega
      have CPW := Lib.hid (CP.out _ (KA.out.trans1 K2.out))
      go_wp2_with (first
        | (go_at_call 54; refine CPW.out.mono ?_; rintro r w3 ⟨cv', rfl, k3, p3⟩; have K3 := Lib.hid k3; have P3 := Lib.hid p3; clear k3 p3)
        | (go_at_call 55; refine (new_seq _).mono ?_; rintro r w4 ⟨q, rfl, hq, k4, b4⟩; have K4 := Lib.hid k4; have B4 := Lib.hid b4; clear k4 b4))
      have K4' := Lib.hid (KA.out.trans1 (K2.out.trans1 (K3.out.trans1 K4.out)))
      have hF0 : LgAt (fun g => w.heap.size ≤ g) (w4.alloc (LgB (.slice none 0 0) (.slice none 0 0) 1 cv' q)) w4.heap.size j ⟨[], 1, 0, 0⟩ :=
        (lg_first (w := w) (w1 := w3) (w2 := w4) h10 (by have := K3.out.size; have := K2.out.size; have := KA.out.size; simp at *; omega) h2 (by
          obtain ⟨g, vs, c, e1, e2, e3, e4, e5, e6⟩ := P3.out
          have hs : w.heap.size ≤ wr.heap.size := Nat.le_trans KA.out.size K2.out.size
          exact ⟨g, vs, c, e1, e2, e3, e4, ⟨Nat.le_trans hs e5.1, e5.2⟩, fun v hv k e => ⟨Nat.le_trans hs (e6 v hv k e).1, (e6 v hv k e).2⟩⟩) hq K4.out B4.out rfl rfl).mono (fun g x _ => x.1)
      have HF0 := Lib.hid hF0
      have ADD := Lib.hid (fun W L (hL : LgAt (fun g => w.heap.size ≤ g) W w4.heap.size j L) (hl : L.shs.length < 2) (hy : Lay W) => lgadd_ok W hL hl hy)
      generalize hwB : w4.alloc (LgB (.slice none 0 0) (.slice none 0 0) 1 cv' q) = wB at HF0 hF0
      have KB : Hid (Keep Non w wB) := Lib.hid (by rw [← hwB]; exact K4'.out.alloc _)
      dsimp only [LgB] at hwB
      rw [show ((1 : Nat) : Int) = 1 from rfl] at hwB
      rw [hwB]
      generalize w4.heap.size = b at HF0 ADD ⊢
      clear hF0 hwB
      go_loopw [46] (fun i wr => ∃ k : Nat, k ≤ j ∧ i = .int .i64 k ∧ Keep Non w wr ∧ LgAt (fun g => w.heap.size ≤ g) wr b j ⟨List.replicate k (sh1 16777216), 1, 0, 0⟩) (fun i _ => j - (intOf i).toNat)
      case atStart => exact ⟨0, by omega, rfl, KB.out, HF0.out⟩
      case round =>
        obtain ⟨k, hk, rfl, kw, hL⟩ := hrel
        have KW := Lib.hid kw
        have HL := Lib.hid hL
        clear kw hL HF0
        by_cases hlk : k < j
        · have hlk' : (k : Int) < (j : Int) := by omega
          have AD := Lib.hid (ADD.out _ _ HL.out (by simp; omega) (LY.out.keepNon KW.out))
          go_wp2_with (go_at_call 56; refine AD.out.mono ?_; rintro r w6 ⟨rfl, t⟩; have TT := Lib.hid t; clear t)
          refine ⟨⟨k + 1, by omega, by first | rfl | go_num, ?_⟩, by simp [intOf]; omega⟩
          obtain ⟨k6, F', s6, hL6⟩ := TT.out
          refine ⟨KW.out.trans k6 (fun _ _ e => e) (fun g hg e => by omega), ?_⟩
          have e1 : List.replicate k (sh1 16777216) ++ [sh1 16777216] = List.replicate (k + 1) (sh1 16777216) := by rw [List.replicate_succ']
          rw [e1] at hL6
          exact hL6.mono (fun g x _ => by rcases s6 g x with y | y; exact y; have := KW.out.size; omega)
        · obtain rfl : k = j := by omega
          obtain ⟨A, dps, sps, dv, sv, cv, q', hA, hAF⟩ := id HL.out
          have c4 := lg_4 hA.blk
          have e1 : setE 0 1 0 = 0 := by decide
          have e2 : setP 0 1 0 = 1 := by decide
          have e3 : setN 0 0 1 0 = 0 := by decide
          have SET := set_any q' 0 0 1 0 _ hA.sq hA.sqin
          rw [e1, e2, e3, errv_zero] at SET
          have SET' := Lib.hid SET
          have FIN : Hid (∀ w', Keep (One q') wr w' → w'.heap[q']? = some (SqB 1 0) → LgTo (fun g => w.heap.size ≤ g) wr b k ⟨List.replicate k (sh1 16777216), 1, 0, 1⟩ w') := Lib.hid (fun w' kk hq => hA.own (e' := 1) (nx' := 0) hAF (kk.mono (fun g _ x => .inr x)) (kk.at hA.blk (fun e => by have e' : b = q' := e; have := hA.apart 0 1 b hA.mem.1 (e' ▸ hA.mem.2.1); omega)) hq ⟨by decide, by decide, by decide, by decide⟩)
          clear SET hA
          go_wp2_with (go_at_call 57; refine SET'.out.mono ?_; rintro r w7 ⟨rfl, k7, q7⟩; have K7 := Lib.hid k7; have Q7 := Lib.hid q7; clear k7 q7)
          go_ret2
          obtain ⟨k8, F', s8, hL8⟩ := FIN.out _ K7.out Q7.out
          refine ⟨b, rfl, KW.out.trans k8 (fun _ _ e => e) (fun g hg e => by omega), hL8.mono (fun g x y => ⟨?_, y⟩)⟩
          rcases s8 g x with y | y
          · exact y
          · have := KW.out.size; omega
structure Filled (L : Lg) (i : Nat) : Prop where
  shs : L.shs = [lgS L]
  ep : L.ep = 1
  se : L.se = 1
  e : (lgS L).e = 1
  l : (lgS L).l = 0
  ok : (lgS L).ok
  nx : (lgS L).next ≤ i + 1
  next : L.next ≤ i
  map : IsMap (lgS L).D
  rest : ∀ a, i ≤ a → ucell (lgS L).D a = (0, [])
  cells : ∀ a, okCl (ucell (lgS L).D a) ∧ (ucell (lgS L).D a).1 ≠ 3
def putS (s : Sh) (i : Nat) (x : Cl) : Sh := if x.1 = 1 then s.did (actBy 2 s.e i x.2) s.e s.l (uput s.D i (1, x.2)) else s.did (actBy 3 s.e i []) s.e s.l (uput s.D i (2, []))
def putL (L : Lg) (i : Nat) (x : Cl) : Lg := if cellE x.1 x.2.length = 0 ∧ (x.1 = 1 ∨ x.1 = 2) then ⟨[putS (lgS L) i x], L.ep, max L.next (i + 1), L.se⟩ else L
theorem uat0 (D : Un) (a : Nat) : uat 0 D a = ucell D a := by unfold uat; rw [if_neg (by omega)]
theorem Filled.log {L : Lg} {i : Nat} (h : Filled L i) (hi : i ≤ 200) : Log1 L :=
  ⟨h.shs, by rw [h.e, h.ep], by rw [h.se, h.ep], h.ok.free.1, by have := h.next; omega, fun a => by rw [h.l, uat0]; exact (h.cells a).1⟩
theorem Filled.not3 {L : Lg} {i : Nat} (h : Filled L i) (a : Nat) : (cellL L a).1 ≠ 3 := by
  unfold cellL
  rw [h.l, uat0]
  exact (h.cells a).2
theorem Filled.step {L : Lg} {i : Nat} (h : Filled L i) {s2 : Sh} {y : Cl} (e : s2.e = 1) (l : s2.l = 0) (ok : s2.ok) (nx : s2.next ≤ i + 2) (hD : s2.D = uput (lgS L).D i y) (hy : okCl y) (hy3 : y.1 ≠ 3) : Filled ⟨[s2], L.ep, max L.next (i + 1), L.se⟩ (i + 1) := by
  refine ⟨rfl, h.ep, h.se, e, l, ok, nx, ?_, ?_, ?_, ?_⟩
  · show max L.next (i + 1) ≤ i + 1
    have := h.next
    omega
  · show IsMap s2.D
    rw [hD]
    exact h.map.put _ _
  · intro a ha
    show ucell s2.D a = _
    rw [hD, ucell_put_other (by omega)]
    exact h.rest a (by omega)
  · intro a
    show okCl (ucell s2.D a) ∧ (ucell s2.D a).1 ≠ 3
    rw [hD]
    by_cases ha : a = i
    · rw [ha, ucell_put_same h.map]
      exact ⟨hy, hy3⟩
    · rw [ucell_put_other ha]
      exact h.cells a
theorem Filled.stay {L : Lg} {i : Nat} (h : Filled L i) : Filled L (i + 1) :=
  ⟨h.shs, h.ep, h.se, h.e, h.l, h.ok, by have := h.nx; omega, by have := h.next; omega, h.map, fun a ha => h.rest a (by omega), h.cells⟩
theorem cellE_data {d : List UInt8} (h : cellE 1 d.length = 0) : d.length ≤ 64 := by
  unfold cellE at h
  rw [if_neg (by omega)] at h
  split at h
  · cases h
  · omega
theorem Filled.put {L : Lg} {i : Nat} (h : Filled L i) (hi : i < 200) (x : Cl) : Filled (putL L i x) (i + 1) := by
  unfold putL
  split
  · rename_i hc
    obtain ⟨h0, h1⟩ := hc
    have hn := h.nx
    unfold putS
    split
    · rename_i e1
      rw [e1] at h0
      have hd := cellE_data h0
      exact h.step h.e h.l (h.ok.did (by omega) (actBy_len 2 _ i x.2 (by omega) (by rw [h.e]; omega) (by omega) hd) (size_uput h.map _ _)) (by show (lgS L).next + 1 ≤ _; omega) rfl ⟨by show (0 : Int) ≤ 1; omega, by show (1 : Int) ≤ 3; omega, hd, fun e => absurd rfl e⟩ (by show (1 : Int) ≠ 3; omega)
    · exact h.step h.e h.l (h.ok.did (by omega) (actBy_len 3 _ i [] (by omega) (by rw [h.e]; omega) (by omega) (by simp)) (size_uput h.map _ _)) (by show (lgS L).next + 1 ≤ _; omega) rfl ⟨by decide, by decide, by simp, fun _ => rfl⟩ (by decide)
  · exact h.stay
theorem filled0 : Filled ⟨[sh1 16777216], 1, 0, 1⟩ 0 := by
  refine ⟨rfl, rfl, rfl, rfl, rfl, ?_, Nat.le_refl _, Nat.le_refl _, ⟨[], rfl⟩, fun a _ => rfl, fun a => ⟨⟨by show (0 : Int) ≤ 0; omega, by show (0 : Int) ≤ 3; omega, by show 0 ≤ 64; omega, fun _ => rfl⟩, by show (0 : Int) ≠ 3; omega⟩⟩
  exact sh0_ok.did (by decide) (actBy_len 1 1 0 [] (by omega) (by omega) (by omega) (by simp)) (Nat.le_succ _)
theorem lput_any {F : Nat → Prop} {b i xc : Nat} {x : Cl} {xa : Option Addr} {L : Lg} (w : World) (h : LgAt F w b 1 L) (hf : Filled L i) (hi : i < 200) (hlay : Lay w) (hx : Bs w (.slice xa x.2.length xc) x.2) (ho : x.2 = [] ∨ ∀ g, (Value.slice xa x.2.length xc).ownBlock = some g → ¬ F g ∧ g < w.heap.size) :
    Calls Tryz.prog 22 #[.pointer (some ⟨b, 0, none⟩), .int .i64 i, .agg #[.int .i64 x.1, .slice xa x.2.length xc]] w fun r w' => (∃ e, r = .returned (errv e)) ∧ LgTo F w b 1 (putL L i x) w' := by
  obtain ⟨k, d⟩ := x
  dsimp only at hx ho ⊢
  by_cases hc : cellE k d.length = 0 ∧ (k = 1 ∨ k = 2)
  · obtain ⟨h0, h1⟩ := hc
    have hn := hf.nx
    have hs0 : L.shs[i % 1]? = some (lgS L) := by rw [Nat.mod_one, hf.shs]; rfl
    have hee : (lgS L).e = L.ep := by rw [hf.e, hf.ep]
    have hlen : (0 : Nat) < 1 := by omega
    have he : putL L i (k, d) = ⟨[putS (lgS L) i (k, d)], L.ep, max L.next (i + 1), L.se⟩ := by unfold putL; rw [if_pos ⟨h0, h1⟩]
    have hset : ∀ s2 : Sh, L.shs.set (i % 1) s2 = [s2] := fun s2 => by rw [Nat.mod_one, hf.shs]; rfl
    rw [he]
    have hu : uat (lgS L).l (lgS L).D i = (0, []) := by rw [hf.l, uat0, hf.rest i (Nat.le_refl _)]
    refine (lgPut_ok (L2 := ⟨[putS (lgS L) i (k, d)], L.ep, L.next, L.se⟩) w h rfl (by rw [hf.se, hf.ep]) (by omega) (by omega) h0 h1 ?_).mono ?_
    · intro W F' kk hF' hW
      rcases h1 with h1 | h1
      · subst h1
        have hd := cellE_data h0
        have ac := acts_write (s := lgS L) hf.ok (by omega) i xa d xc hd (by rw [hf.e]; omega) (by omega) (by rw [hu])
        rw [hee] at ac
        have := lgput_data (c := xc) (BsOut (.slice xa d.length xc) d) W hW hs0 (hlay.keepNon kk) ac (fun w' F2 k2 hF2 => ⟨hx.keepNon (kk.trans1 k2), ho.imp id (fun ho g e => ⟨fun y => (ho g e).1 (hF' g (hF2 g y)).1, by have := (ho g e).2; have := kk.size; have := k2.size; omega⟩)⟩)
        rw [hset] at this
        have e2 : putS (lgS L) i (1, d) = (lgS L).did (actBy 2 L.ep i d) L.ep (lgS L).l (uput (lgS L).D i (1, d)) := by unfold putS; rw [if_pos rfl, hee]
        rw [e2]
        exact this
      · subst h1
        have ac := acts_fill (s := lgS L) hf.ok (by omega) i (by rw [hf.e]; omega) (by omega) (by rw [hu]; decide) (by rw [hu]; decide)
        rw [hee] at ac
        have := lgput_hole (pa := xa) (m := d.length) (c := xc) Any W hW hs0 (hlay.keepNon kk) ac (fun _ _ _ _ => trivial)
        rw [hset] at this
        have e2 : putS (lgS L) i (2, d) = (lgS L).did (actBy 3 L.ep i []) L.ep (lgS L).l (uput (lgS L).D i (2, [])) := by unfold putS; rw [if_neg (by show ¬ (2 : Int) = 1; omega), hee]
        rw [e2]
        exact this
    · rintro r w' ⟨rfl, t⟩
      exact ⟨⟨0, rfl⟩, t⟩
  · have he : putL L i (k, d) = L := by unfold putL; rw [if_neg hc]
    rw [he]
    by_cases h0 : cellE k d.length = 0
    · have hk : k = 0 ∨ k = 3 := by
        have hk12 : ¬ (k = 1 ∨ k = 2) := fun e => hc ⟨h0, e⟩
        have hk03 : ¬ (k < 0 ∨ 3 < k) := fun e => by
          unfold cellE at h0
          rw [if_pos e] at h0
          cases h0
        omega
      refine (lgPut_no w h (by omega) (.inr hk)).mono ?_
      rintro r w' ⟨e, k⟩
      exact ⟨e, LgTo.refl h k⟩
    · refine (lgPut_no w h (by omega) (.inl h0)).mono ?_
      rintro r w' ⟨e, k⟩
      exact ⟨e, LgTo.refl h k⟩
end Go.Proofs.YtobjlgfjfpmceaaGreatDoor
