/- The messages under way, one behind the other: All of a line, and what it hands to a loop's body, walked. -/
import Derived.RangeFuncNested
import Derived.RangeFuncBound
import Derived.RangeFuncCalls
import Derived.RangeFuncLeaves
import Derived.Shelf.Abstract
import Derived.Shelf.RegionOpen
import Derived.OwnWalkIn
import Derived.TacticsInMore
import Derived.LoopNIn
import Derived.LoopIn
import Derived.Test.YtggnkcpnbnpbhaaTwice
import Derived.Test.YtggnkcpnbnpbhaaRdAppend
namespace Go.Proofs.Ytggnkcpnbnpbhaa
open Go.RowKit Go.Shelf
set_option linter.unusedVariables false
attribute [local go_sem] Oper.semAt_some

/-- What a clone of a list comes to: a row in new memory that reads alike. -/
def ClonedL (w : World) (vs : List Value) (e : Ending) (w' : World) : Prop :=
  ∃ a cap, e = .returned (.slice a vs.length cap) ∧ Keep Non w w' ∧ Rd w' (.slice a vs.length cap) vs ∧ ∀ g, (Value.slice a vs.length cap).ownBlock = some g → w.heap.size ≤ g ∧ g < w'.heap.size

set_option maxHeartbeats 400000 in
theorem clonel_nil (cap : Nat) (w : World) : Calls Try.prog 31 #[.slice none 0 cap] w fun e w' => e = .returned (.slice none 0 0) ∧ w = w' := by
  have hq := fun (w : World) => Lib.run_eql_slice_nil (P := Try.prog) w 22 26 none 0 cap 0 0 Try.underlying22
  go_enter Try.func31, Try.ntmps31
  go_wp2_with fail
  go_ret
  exact ⟨rfl, rfl⟩

set_option maxHeartbeats 800000 in
theorem clonel_some (a : Addr) (cap : Nat) (vs : List Value) (w : World) (h : Rd w (.slice (some a) vs.length cap) vs) (h1 : ∀ u ∈ vs, u.oneCell' = true) (hlen : vs.length ≤ 1000000) :
    Calls Try.prog 31 #[.slice (some a) vs.length cap] w (ClonedL w vs) := by
  have hq := fun (w : World) => Lib.run_eql_slice_nil (P := Try.prog) w 22 26 (some a) vs.length cap 0 0 Try.underlying22
  obtain ⟨i0, hi, hz0, hz1, hz2⟩ := info_parts infoBs
  have HR := Lib.hid (h.keepNon ((Keep.refl Non w).alloc (.cells #[] 26)))
  have H1 := Lib.hid h1
  have hown : Hid ((w.alloc (.cells #[] 26)).ownsRow w.heap.size 26 1 (.slice (some ⟨w.heap.size, 0, none⟩) 0 0) 0 []) := World.ownsRow_made w #[] 0 (Nat.le_refl _) (by decide) rfl
  clear h h1
  go_enter Try.func31, Try.ntmps31
  go_wp2_with (at_builtin; refine wpList_append_rd rfl _ _ 22 rfl w.heap.size 26 i0 (.slice none 0 0) 24 Try.underlying22 hi hz0 hz1 hz2 rfl (.slice (some ⟨w.heap.size, 0, none⟩) 0 0) 0 [] rfl hown.out (.slice (some a) vs.length cap) rfl vs HR.out H1.out (by unfold maxLen; omega) (by omega) (by simp) ?_; intro v' w' ho hg hp; rw [Nat.zero_add, List.nil_append] at ho; obtain ⟨a', cap', rfl, _, _⟩ := ownsRow_form ho; have HO := Lib.hid ho; clear ho hp)
  go_ret
  have hk : Keep Non w w' := ((Keep.refl Non w).alloc (.cells #[] 26)).grown hg (fun k e => .inr (by injection e with e; subst e; exact Nat.le_refl _))
  exact ⟨a', cap', rfl, hk, Rd.ofOwns HO.out, fun g e => HO.out.lt g e⟩

theorem clonel_any (a : Option Addr) (cap : Nat) (vs : List Value) (w : World) (h : Rd w (.slice a vs.length cap) vs) (h1 : ∀ u ∈ vs, u.oneCell' = true) (hlen : vs.length ≤ 1000000) :
    Calls Try.prog 31 #[.slice a vs.length cap] w (ClonedL w vs) := by
  cases a with
  | none =>
    have hl : vs = [] := by
      obtain ⟨a', cap', e1, hx⟩ := h
      cases vs with
      | nil => rfl
      | cons c l =>
        obtain ⟨g, off, e, _⟩ := hx (by simp)
        injection e1 with e1
        rw [← e1] at e
        cases e
    subst hl
    refine (clonel_nil cap w).mono ?_
    rintro e w' ⟨rfl, rfl⟩
    exact ⟨none, 0, rfl, Keep.refl _ _, Rd.nil _, fun g e => by simp [Value.ownBlock] at e⟩
  | some a => exact clonel_some a cap vs w h h1 hlen

set_option maxHeartbeats 400000 in
/-- All: the line is boxed; the function value captures the box. -/
theorem all_any (v : Option Addr) (w : World) :
    Calls Try.prog 19 #[.pointer v] w fun e w' => e = .returned (.func (.func 30) #[] #[.pointer (some ⟨w.heap.size, 0, none⟩)]) ∧ w' = w.alloc (.cells #[.pointer v] 24) := by
  go_enter Try.func19, Try.ntmps19
  go_wp2
  go_ret
  exact ⟨rfl, rfl⟩

/-- A clone of bytes: a row of the call's own. -/
def ClonedO (w : World) (l : List UInt8) (e : Ending) (w' : World) : Prop :=
  ∃ a cap, e = .returned (.slice a l.length cap) ∧ Keep Non w w' ∧ w'.ownsRow w.heap.size 5 1 (.slice a l.length cap) l.length (l.map bv)

set_option maxHeartbeats 800000 in
theorem cloneo_some (a : Addr) (cap : Nat) (l : List UInt8) (w : World) (h : Bs w (.slice (some a) l.length cap) l) (hlen : l.length ≤ 1000000) :
    Calls Try.prog 21 #[.slice (some a) l.length cap] w (ClonedO w l) := by
  have hq := fun (w : World) => Lib.run_eql_slice_nil (P := Try.prog) w 26 5 (some a) l.length cap 0 0 Try.underlying26
  obtain ⟨i0, hi, hz0, hz1, hz2⟩ := info_parts infoU8
  have HR := Lib.hid (h.keepNon ((Keep.refl Non w).alloc (.cells #[] 5)))
  have hown : Hid ((w.alloc (.cells #[] 5)).ownsRow w.heap.size 5 1 (.slice (some ⟨w.heap.size, 0, none⟩) 0 0) 0 []) := World.ownsRow_made w #[] 0 (Nat.le_refl _) (by decide) rfl
  clear h
  go_enter Try.func21, Try.ntmps21
  go_wp2_with (at_builtin; refine wpList_append_rd rfl _ _ 26 rfl w.heap.size 5 i0 (.int .u8 0) 1 Try.underlying26 hi hz0 hz1 hz2 rfl (.slice (some ⟨w.heap.size, 0, none⟩) 0 0) 0 [] rfl hown.out (.slice (some a) l.length cap) rfl (l.map bv) HR.out (oneCell_bytes l) (by unfold maxLen; simp; omega) (by simp; omega) (by simp) ?_; intro v' w' ho hg hp; rw [Nat.zero_add, List.nil_append, List.length_map] at ho; obtain ⟨a', cap', rfl, _, _⟩ := ownsRow_form ho; have HO := Lib.hid ho; clear ho hp)
  go_ret
  have hk : Keep Non w w' := ((Keep.refl Non w).alloc (.cells #[] 5)).grown hg (fun k e => .inr (by injection e with e; subst e; exact Nat.le_refl _))
  exact ⟨a', cap', rfl, hk, HO.out⟩

theorem cloneo_any (a : Option Addr) (cap : Nat) (l : List UInt8) (w : World) (h : Bs w (.slice a l.length cap) l) (hlen : l.length ≤ 1000000) :
    Calls Try.prog 21 #[.slice a l.length cap] w (ClonedO w l) := by
  cases a with
  | none =>
    have hl : l = [] := by
      obtain ⟨a', cap', e1, hx⟩ := h
      cases l with
      | nil => rfl
      | cons c l =>
        obtain ⟨g, off, e, _⟩ := hx (by simp)
        injection e1 with e1
        rw [← e1] at e
        cases e
    subst hl
    refine (clone_nil cap w).mono ?_
    rintro e w' ⟨rfl, rfl⟩
    exact ⟨none, 0, rfl, Keep.refl _ _, World.ownsRow_nil _ _ _ _⟩
  | some a => exact cloneo_some a cap l w h hlen

set_option maxRecDepth 100000 in
set_option maxHeartbeats 2000000 in
/-- The iterator: for every loop body that keeps its word. -/
theorem all1_any (n l p B : Nat) (c : Nat → Int) (ms : List (List UInt8)) (F : Nat → Prop) (w0 : World) (hL : Line F w0 p c ms) (hlen : ∀ m ∈ ms, m.length ≤ 1000000) (hmn : ms.length ≤ 1000000) (J : Nat → World → Prop) (Jx : World → Prop)
    (hJk : ∀ i W W', J i W → Keep Non W W' → J i W') (hJ0 : ∀ i W, J i W → Keep Non w0 W) (hJb : ∀ i W, J i W → W.heap[B]? = some (.cells #[.pointer (some ⟨p, 0, none⟩)] 24 (0, 0)))
    (W : World) (h0 : J 0 W)
    (hY : ∀ (i : Nat) (a : Option Addr) (cap : Nat) (m : List UInt8) (base : Nat) (W1 : World), ms[i]? = some m → J i W1 → W.heap.size ≤ base → W1.ownsRow base 5 1 (.slice a m.length cap) m.length (m.map bv) →
      YieldAt Fence.wide (n - 1) Try.prog l #[.int .i64 (i : Int), .slice a m.length cap] W1 fun e W' =>
        (e = .returned (.bool true) ∧ J (i + 1) W' ∧ Keep (fun k => k < W.heap.size ∨ (Value.slice a m.length cap).ownBlock = some k) W1 W') ∨ (e = .returned (.bool false) ∧ Jx W')) :
    CallsIn Fence.wide n Try.prog 30 #[.func (.yield l) #[] #[], .pointer (some ⟨B, 0, none⟩)] W fun e W' => (∃ v, e = .returned v) ∧ (J ms.length W' ∨ Jx W') := by
  have hKW := hJ0 0 W h0
  have hB := hJb 0 W h0
  obtain ⟨v, vs, h1, h2, h3, ⟨h4, h5⟩, h6, h7⟩ := hL
  obtain ⟨la, lc, rfl, hcap, hcm⟩ := ownsRow_form h2
  have mB : W.cell? ⟨B, 0, none⟩ = some (.pointer (some ⟨p, 0, none⟩)) := by simp [World.cell?, hB]
  have m4 : W.cell? ⟨p, 4, none⟩ = some (.slice la vs.length lc) := ln_v (hKW.at h1 (fun e => e))
  have HV := Lib.hid ((Rd.ofOwns h2).keepNon hKW)
  have H5 := Lib.hid h5
  have H7 := Lib.hid h7
  have HJk := Lib.hid hJk
  have HJ0 := Lib.hid hJ0
  have HY := Lib.hid hY
  have HI := Lib.hid h0
  have HL := Lib.hid hlen
  have H4 := Lib.hid h4
  have hvl : vs.length ≤ 1000000 := by omega
  clear hKW hB hJb hJk hJ0 hY h0 h1 h2 h3 h4 h5 h6 h7 hlen
  refine callsIn_of_wp Try.func30 rfl trivial ?_ rfl
  simp only [Try.ntmps30, List.size_toArray, List.length_cons, List.length_nil, Nat.reduceAdd, Nat.reduceSub, Array.replicate_succ, Array.replicate_zero, List.push_toArray, List.append_toArray, List.nil_append, List.cons_append]
  gi_wp2_with fail
  refine ⟨trivial, fun h => (by cases h), ?_⟩
  refine (callsIn_wide.2 (clonel_any la lc vs _ (by exact HV.out) H7.out (by have := H4.out; omega))).mono ?_
  rintro e w1 ⟨ra, rc, rfl, hk, hr, ho⟩
  have KR := Lib.hid hk
  have RR := Lib.hid hr
  have OR := Lib.hid ho
  clear hk hr ho mB m4
  gi_wp2_with fail
  gi_loopw [13] (fun i wr => ∃ k : Nat, k ≤ vs.length ∧ i = .int .i64 k ∧ J k wr ∧ W.heap.size ≤ wr.heap.size ∧ (∀ g, (Value.slice ra vs.length rc).ownBlock = some g → g < wr.heap.size) ∧ Rd wr (.slice ra vs.length rc) vs) (fun i _ => vs.length - (intOf i).toNat)
  case atStart => exact ⟨0, Nat.zero_le _, rfl, HJk.out _ _ _ HI.out KR.out, KR.out.size, fun g e => (OR.out g e).2, RR.out⟩
  case round =>
    obtain ⟨k, hk, rfl, hj, hsz, hgl, hrd⟩ := hrel
    have HJ := Lib.hid hj
    have RD := Lib.hid hrd
    have GL := Lib.hid hgl
    by_cases hlt : k < vs.length
    · obtain ⟨u, hu⟩ : ∃ u, vs[k]? = some u := ⟨vs[k], by simp [hlt]⟩
      obtain ⟨m, hm⟩ : ∃ m, ms[k]? = some m := ⟨ms[k]'(by have := H4.out; omega), List.getElem?_eq_getElem _⟩
      obtain ⟨r1, r2⟩ := H5.out k u m hu hm
      obtain ⟨ua, uc, rfl, _⟩ := id r1
      rw [List.length_map] at r1 r2 hu
      obtain ⟨g, off, hra, hcell⟩ : ∃ g off, ra = some ⟨g, off, none⟩ ∧ wr.cell? ⟨g, off + k, none⟩ = some (.slice ua m.length uc) := by
        obtain ⟨a', c', e1, hx⟩ := hrd
        obtain ⟨g, off, e2, hc⟩ := hx (by intro e; rw [e] at hlt; simp at hlt)
        injection e1 with e1
        exact ⟨g, off, e1.trans e2, hc k _ hu⟩
      subst hra
      have hmem : m ∈ ms := List.mem_of_getElem? hm
      have BS := Lib.hid (r1.keepNon (HJ0.out k wr hj))
      have HM := Lib.hid hm
      clear hj hrd hgl r1 r2 hu hm
      gi_wp2_with fail
      refine ⟨trivial, fun h => (by cases h), ?_⟩
      refine (callsIn_wide.2 (cloneo_any ua uc m _ BS.out (HL.out m hmem))).mono ?_
      rintro e w2 ⟨xa, xc, rfl, hk2, ho2⟩
      have K2 := Lib.hid hk2
      have O2 := Lib.hid ho2
      obtain ⟨fn, tmps, assign, body, hy, hR⟩ := HY.out k xa xc m _ w2 HM.out (HJk.out _ _ _ HJ.out hk2) hsz ho2
      clear hk2 ho2 hcell
      have hR' := Lib.hid hR
      clear hR
      gi_wp2_with fail
      refine ⟨fun h => (by cases h), ?_⟩
      refine hR'.out.mono ?_
      rintro e W3 (⟨rfl, hJ3, hk3⟩ | ⟨rfl, hx3⟩)
      · have HJ3 := Lib.hid hJ3
        have K3 := Lib.hid hk3
        clear hJ3 hk3
        gi_wp2_with fail
        go_roundw
        case rel =>
          have e2 := K2.out.size
          have e3 := K3.out.size
          refine ⟨k + 1, by omega, by go_num, HJ3.out, by omega, fun q e => by have := GL.out q e; omega, (RD.out.keepNon K2.out).keep K3.out (fun q e h => ?_)⟩
          have h5 := GL.out q e
          rcases h with h | h
          · have := (OR.out q e).1
            omega
          · have := (O2.out.lt q h).1
            omega
        case measure => simp [intOf]; omega
      · have HX3 := Lib.hid hx3
        clear hx3
        gi_wp2_with fail
        refine bodyPost_ret (results_none rfl _ _ _) rfl ?_
        exact ⟨⟨_, rfl⟩, .inr HX3.out⟩
    · have e : k = vs.length := by omega
      subst e
      have HJ' : Hid (J ms.length wr) := by rw [← H4.out]; exact HJ
      clear hj hrd hgl
      gi_wp2_with fail
      go_end0
      exact ⟨⟨_, rfl⟩, .inl HJ'.out⟩

end Go.Proofs.Ytggnkcpnbnpbhaa
