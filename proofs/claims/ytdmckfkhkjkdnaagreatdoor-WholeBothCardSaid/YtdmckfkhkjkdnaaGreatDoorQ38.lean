/- slices.IndexFunc, ContainsFunc where no element is meant: walked (printed by wip/idx.py). · proj.Check of chains of one unit each: walked. -/
import Derived.Test.YtdmckfkhkjkdnaaGreatDoorQ23
set_option linter.unusedVariables false
set_option maxRecDepth 100000
set_option maxHeartbeats 16000000
namespace Go.Proofs.YtdmckfkhkjkdnaaGreatDoor
open Go.RowKit
def sl1 (x : Addr × Nat × Nat) : Value := .slice (some x.1) x.2.1 x.2.2
theorem idxi_none (g : Nat) (a : Option Addr) (c : Nat) (us : List Nat) (w : World)
    (eg : ∀ args w, (callFunc g args).run Tryz.prog w = .ok (.enter g args) w)
    (hr : Rd w (.slice a us.length c) (us.map iv)) (hl : us.length ≤ 1000)
    (hs : ∀ (j : Nat) u W, us[j]? = some u → Keep Non w W → Calls Tryz.prog g #[iv u] W fun e w' => e = .returned (.bool false) ∧ Keep Non W w') :
    Calls Tryz.prog 153 #[.slice a us.length c, .func (.func g) #[] #[]] w fun e w' => e = .returned (.int .i64 (-1)) ∧ Keep Non w w' := by
  have HS := Lib.hid hs
  have HR := Lib.hid hr
  clear hs hr
  go_enter Tryz.func153, Tryz.ntmps153
  go_wp2_with fail
  go_loopw [8] (fun i wr => ∃ j : Nat, j ≤ us.length ∧ i = .int .i64 j ∧ Keep Non w wr) (fun i _ => us.length - (intOf i).toNat)
  case atStart => exact ⟨0, by omega, rfl, Keep.refl _ _⟩
  case round =>
    obtain ⟨j, hj, rfl, hi⟩ := hrel
    have HI := Lib.hid hi
    have hrd := HR.out.keepNon hi
    clear hi
    by_cases hlt : j < us.length
    · have hlj : (j : Int) < (us.length : Int) := by omega
      obtain ⟨b, off, rfl, hc⟩ : ∃ b off, a = some ⟨b, off, none⟩ ∧ ∀ (k : Nat) u, (us.map iv)[k]? = some u → wr.cell? ⟨b, off + k, none⟩ = some u := by
        obtain ⟨a', c', e, hx⟩ := hrd
        injection e with e1 e2 e3
        obtain ⟨g', off, e4, hc⟩ := hx (by intro e; have e' := List.map_eq_nil_iff.1 e; rw [e'] at hlt; exact absurd hlt (by simp))
        exact ⟨g', off, e1.trans e4, hc⟩
      obtain ⟨u, hu⟩ : ∃ u, us[j]? = some u := ⟨_, List.getElem?_eq_getElem hlt⟩
      have hcell : wr.cell? ⟨b, off + j, none⟩ = some (iv u) := hc j _ (by rw [List.getElem?_map, hu]; rfl)
      unfold iv at hcell
      have ST := Lib.hid (HS.out j u wr hu HI.out)
      unfold iv at ST
      clear hc hrd hu
      clear HR
      go_wp2_with fail
      refine ST.out.mono ?_
      rintro e w1 ⟨rfl, i1⟩
      have I1 := Lib.hid i1
      clear i1 ST HS
      go_wp2_with fail
      exact ⟨⟨j + 1, by omega, by first | rfl | go_num, HI.out.trans1 I1.out⟩, by simp [intOf]; omega⟩
    · obtain rfl : j = us.length := by omega
      clear hrd
      go_wp2_with fail
      go_ret
      exact ⟨rfl, HI.out⟩
theorem idxi_has (g : Nat) (a : Option Addr) (c : Nat) (us : List Nat) (w : World)
    (eg : ∀ args w, (callFunc g args).run Tryz.prog w = .ok (.enter g args) w)
    (hr : Rd w (.slice a us.length c) (us.map iv)) (hl : us.length ≤ 1000)
    (hs : ∀ (j : Nat) u W, us[j]? = some u → Keep Non w W → Calls Tryz.prog g #[iv u] W fun e w' => e = .returned (.bool false) ∧ Keep Non W w') :
    Calls Tryz.prog 90 #[.slice a us.length c, .func (.func g) #[] #[]] w fun e w' => e = .returned (.bool false) ∧ Keep Non w w' := by
  have IX := Lib.hid (idxi_none g a c us w eg hr hl hs)
  clear hr hs
  go_enter Tryz.func90, Tryz.ntmps90
  go_wp2_with (go_at_call 153; refine IX.out.mono ?_; rintro e w1 ⟨rfl, k1⟩; have K1 := Lib.hid k1; clear k1)
  go_ret
  exact ⟨rfl, K1.out⟩
theorem idxc_none (g : Nat) (a : Option Addr) (c : Nat) (us : List (Addr × Nat × Nat)) (w : World)
    (eg : ∀ args w, (callFunc g args).run Tryz.prog w = .ok (.enter g args) w)
    (hr : Rd w (.slice a us.length c) (us.map sl1)) (hl : us.length ≤ 1000)
    (hs : ∀ (j : Nat) u W, us[j]? = some u → Keep Non w W → Calls Tryz.prog g #[sl1 u] W fun e w' => e = .returned (.bool false) ∧ Keep Non W w') :
    Calls Tryz.prog 152 #[.slice a us.length c, .func (.func g) #[] #[]] w fun e w' => e = .returned (.int .i64 (-1)) ∧ Keep Non w w' := by
  have HS := Lib.hid hs
  have HR := Lib.hid hr
  clear hs hr
  go_enter Tryz.func152, Tryz.ntmps152
  go_wp2_with fail
  go_loopw [8] (fun i wr => ∃ j : Nat, j ≤ us.length ∧ i = .int .i64 j ∧ Keep Non w wr) (fun i _ => us.length - (intOf i).toNat)
  case atStart => exact ⟨0, by omega, rfl, Keep.refl _ _⟩
  case round =>
    obtain ⟨j, hj, rfl, hi⟩ := hrel
    have HI := Lib.hid hi
    have hrd := HR.out.keepNon hi
    clear hi
    by_cases hlt : j < us.length
    · have hlj : (j : Int) < (us.length : Int) := by omega
      obtain ⟨b, off, rfl, hc⟩ : ∃ b off, a = some ⟨b, off, none⟩ ∧ ∀ (k : Nat) u, (us.map sl1)[k]? = some u → wr.cell? ⟨b, off + k, none⟩ = some u := by
        obtain ⟨a', c', e, hx⟩ := hrd
        injection e with e1 e2 e3
        obtain ⟨g', off, e4, hc⟩ := hx (by intro e; have e' := List.map_eq_nil_iff.1 e; rw [e'] at hlt; exact absurd hlt (by simp))
        exact ⟨g', off, e1.trans e4, hc⟩
      obtain ⟨u, hu⟩ : ∃ u, us[j]? = some u := ⟨_, List.getElem?_eq_getElem hlt⟩
      have hcell : wr.cell? ⟨b, off + j, none⟩ = some (sl1 u) := hc j _ (by rw [List.getElem?_map, hu]; rfl)
      unfold sl1 at hcell
      have ST := Lib.hid (HS.out j u wr hu HI.out)
      unfold sl1 at ST
      clear hc hrd hu
      clear HR
      go_wp2_with fail
      refine ST.out.mono ?_
      rintro e w1 ⟨rfl, i1⟩
      have I1 := Lib.hid i1
      clear i1 ST HS
      go_wp2_with fail
      exact ⟨⟨j + 1, by omega, by first | rfl | go_num, HI.out.trans1 I1.out⟩, by simp [intOf]; omega⟩
    · obtain rfl : j = us.length := by omega
      clear hrd
      go_wp2_with fail
      go_ret
      exact ⟨rfl, HI.out⟩
theorem idxc_has (g : Nat) (a : Option Addr) (c : Nat) (us : List (Addr × Nat × Nat)) (w : World)
    (eg : ∀ args w, (callFunc g args).run Tryz.prog w = .ok (.enter g args) w)
    (hr : Rd w (.slice a us.length c) (us.map sl1)) (hl : us.length ≤ 1000)
    (hs : ∀ (j : Nat) u W, us[j]? = some u → Keep Non w W → Calls Tryz.prog g #[sl1 u] W fun e w' => e = .returned (.bool false) ∧ Keep Non W w') :
    Calls Tryz.prog 89 #[.slice a us.length c, .func (.func g) #[] #[]] w fun e w' => e = .returned (.bool false) ∧ Keep Non w w' := by
  have IX := Lib.hid (idxc_none g a c us w eg hr hl hs)
  clear hr hs
  go_enter Tryz.func89, Tryz.ntmps89
  go_wp2_with (go_at_call 152; refine IX.out.mono ?_; rintro e w1 ⟨rfl, k1⟩; have K1 := Lib.hid k1; clear k1)
  go_ret
  exact ⟨rfl, K1.out⟩
theorem wrong_enter (args : Array Value) (w : World) : (callFunc 87 args).run Tryz.prog w = .ok (.enter 87 args) w := enter_of Tryz.func87 (by kernel_rfl) rfl args w
theorem odd_enter (args : Array Value) (w : World) : (callFunc 91 args).run Tryz.prog w = .ok (.enter 91 args) w := enter_of Tryz.func91 (by kernel_rfl) rfl args w
theorem pwrong_ok (a : Option Addr) (m c : Nat) (w : World) (h1 : 1 ≤ m) (h2 : m ≤ 4) :
    Calls Tryz.prog 87 #[.slice a m c] w fun e w' => e = .returned (.bool false) ∧ w' = w := by
  have e1 : ¬ (m : Int) < 1 := by omega
  have e2 : ¬ (4 : Int) < m := by omega
  go_enter Tryz.func87, Tryz.ntmps87
  go_wp2_with fail
  go_ret
  exact ⟨rfl, rfl⟩
theorem punit_ok (n : Nat) (w : World) (h : n < 8) :
    Calls Tryz.prog 154 #[.int .i64 n] w fun e w' => e = .returned (.bool true) ∧ w' = w := by
  have hn : (n : Int) < 8 := by omega
  go_enter Tryz.func154, Tryz.ntmps154
  go_wp2_with fail
  go_ret
  exact ⟨rfl, rfl⟩
theorem podd_ok (n : Nat) (w : World) (h : n < 8) :
    Calls Tryz.prog 91 #[.int .i64 n] w fun e w' => e = .returned (.bool false) ∧ w' = w := by
  have U := Lib.hid (punit_ok n w h)
  go_enter Tryz.func91, Tryz.ntmps91
  go_wp2_with (go_at_call 154; refine U.out.mono ?_; rintro e w1 ⟨rfl, rfl⟩)
  go_ret
  exact ⟨rfl, rfl⟩
theorem PrAt.parts {T : Nat → Prop} {w : World} {cv : Value} {n : Nat} (h : PrAt T w cv n) : ∃ g c, cv = .slice (some ⟨g, 0, none⟩) (chN n) c ∧ ∃ xs : List (Addr × Nat × Nat), xs.length = chN n ∧ (∀ x ∈ xs, 1 ≤ x.2.1 ∧ x.2.1 ≤ 2) ∧ Rd w cv (xs.map sl1) := by
  obtain ⟨g, vs, c, rfl, hl, hr, hi, hg, ht⟩ := h
  refine ⟨g, c, rfl, ?_⟩
  have key : ∀ (us : List Value), (∀ v ∈ us, ∃ x : Addr × Nat × Nat, v = sl1 x ∧ 1 ≤ x.2.1 ∧ x.2.1 ≤ 2) → ∃ xs : List (Addr × Nat × Nat), us = xs.map sl1 ∧ ∀ x ∈ xs, 1 ≤ x.2.1 ∧ x.2.1 ≤ 2 := by
    intro us
    induction us with
    | nil => intro _; exact ⟨[], rfl, fun x hx => by cases hx⟩
    | cons v r ih =>
      intro h
      obtain ⟨x, rfl, hx⟩ := h v (by simp)
      obtain ⟨xs, rfl, hxs⟩ := ih (fun v hv => h v (by simp [hv]))
      exact ⟨x :: xs, rfl, fun y hy => by rcases List.mem_cons.1 hy with rfl | hy; exact hx; exact hxs y hy⟩
  obtain ⟨xs, rfl, hxs⟩ := key vs (fun v hv => by
    obtain ⟨i, hi', rfl⟩ := List.getElem_of_mem hv
    have hic : i < chN n := by rw [← hl]; exact hi'
    have hx := hi.2 i _ (chnI n i) (List.getElem?_eq_getElem hi') (chI_get hic)
    have hlen := chI_len hic
    obtain ⟨xa, xc, e, hxx⟩ := hx
    obtain ⟨xg, xo, rfl, _⟩ := hxx (by intro e; rw [List.map_eq_nil_iff] at e; rw [e] at hlen; simp at hlen)
    rw [List.length_map] at e
    exact ⟨(⟨xg, xo, none⟩, (chnI n i).length, xc), e, hlen⟩)
  exact ⟨xs, by simpa using hl, hxs, hr⟩
theorem pcheck_one (T : Nat → Prop) (e n : Nat) (cv : Value) (w : World) (h : PrAt T w cv n) (h1 : 1 ≤ n) (h2 : n ≤ 3) (he : e ≤ 1099511627776) :
    Calls Tryz.prog 44 #[.agg #[.int .i64 e, cv]] w fun r w' => r = .returned .nilIface ∧ Keep Non w w' := by
  have PU := Lib.hid (fun W (k : Keep Non w W) => punits_ok T e n cv W (h.keepNon k) h1 h2)
  have CC : Hid (∀ W, Keep Non w W → Calls Tryz.prog 88 #[cv] W (NewI W (List.range n))) := Lib.hid (by
    obtain ⟨g, vs, c, rfl, hl, hr, hi, hg, ht⟩ := h
    have CC := (fun W (k : Keep Non w W) => concati_any g vs (chainsN n) c W (by rw [hl]; exact hr.keepNon k) ⟨hi.1, fun i u l hu hl => (hi.2 i u l hu hl).keepNon k⟩ (by rw [chains_flat]; simp; omega) (by have := chN_le h2; omega))
    rw [hl, chains_flat] at CC
    exact CC)
  obtain ⟨g, c, rfl, xs, hxl, hxs, hr⟩ := h.parts
  have CW : Hid (∀ W, Keep Non w W → Calls Tryz.prog 89 #[.slice (some ⟨g, 0, none⟩) (chN n) c, .func (.func 87) #[] #[]] W fun e w' => e = .returned (.bool false) ∧ Keep Non W w') := Lib.hid (fun W k => by
    have := idxc_has 87 (some ⟨g, 0, none⟩) c xs W wrong_enter (by rw [hxl]; exact hr.keepNon k) (by have := chN_le h2; omega) (fun j u W' hu _ => (pwrong_ok _ _ _ W' (hxs u (List.mem_of_getElem? hu)).1 (by have := (hxs u (List.mem_of_getElem? hu)).2; omega)).mono (fun r w' ⟨a, b⟩ => ⟨a, by rw [b]; exact Keep.refl _ _⟩))
    rw [hxl] at this
    exact this)
  have CO : Hid (∀ W a c, Is W (.slice a n c) (List.range n) → Calls Tryz.prog 90 #[.slice a n c, .func (.func 91) #[] #[]] W fun e w' => e = .returned (.bool false) ∧ Keep Non W w') := Lib.hid (fun W a c hi => by
    have := idxi_has 91 a c (List.range n) W odd_enter (by rw [List.length_range]; exact hi) (by simp; omega) (fun j u W' hu _ => (podd_ok u W' (by
      rcases Nat.lt_or_ge j n with x | x
      · rw [List.getElem?_range x] at hu; injection hu with hu; omega
      · rw [List.getElem?_eq_none (by simpa using x)] at hu; cases hu)).mono (fun r w' ⟨a, b⟩ => ⟨a, by rw [b]; exact Keep.refl _ _⟩))
    rw [List.length_range] at this
    exact this)
  have hn1 : ¬ (chN n : Int) < 1 := by have := chN_pos h1; omega
  have hn2 : ¬ (4 : Int) < (chN n : Int) := by have := chN_le h2; omega
  have hn3 : ¬ (n : Int) < n := by omega
  clear h hr
  go_enter Tryz.func44, Tryz.ntmps44
  go_wp2_with (first
    | (go_at_call 88; refine (CC.out _ ((Keep.refl _ _).alloc _)).mono ?_; rintro r w1 ⟨v1, rfl, k1, o1⟩; obtain ⟨a1, c1, rfl, _, _⟩ := ownsRow_form o1; rw [List.length_range] at *; have K1 := Lib.hid (((Keep.refl Non w).alloc _).trans1 k1); have I1 := Lib.hid (Rd.ofOwns o1); have P1 := Lib.hid (k1.at (blk_new w (PrB e (.slice (some ⟨g, 0, none⟩) (chN n) c))) (fun e => e)); have q10 := pr_0 P1.out; have q11 := pr_1 P1.out; clear k1 o1)
    | (go_at_call 89; refine (CW.out _ K1.out).mono ?_; rintro r w2 ⟨rfl, k2⟩; have K2 := Lib.hid (K1.out.trans1 k2); have I2 := Lib.hid (I1.out.keepNon k2); have P2 := Lib.hid (k2.at P1.out (fun e => e)); have q20 := pr_0 P2.out; have q21 := pr_1 P2.out; clear k2)
    | (go_at_call 90; refine (CO.out _ _ _ I2.out).mono ?_; rintro r w3 ⟨rfl, k3⟩; have K3 := Lib.hid (K2.out.trans1 k3); have P3 := Lib.hid (k3.at P2.out (fun e => e)); have q30 := pr_0 P3.out; have q31 := pr_1 P3.out; clear k3)
    | (go_at_call 45; refine (PU.out _ K3.out).mono ?_; rintro r w4 ⟨g4, c4, rfl, k4, _, _⟩; have K4 := Lib.hid (K3.out.trans1 k4); clear k4))
  go_ret
  exact ⟨rfl, K4.out⟩
end Go.Proofs.YtdmckfkhkjkdnaaGreatDoor
