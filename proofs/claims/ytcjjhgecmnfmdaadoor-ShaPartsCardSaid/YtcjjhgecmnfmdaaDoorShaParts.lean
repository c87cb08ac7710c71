/- ShaParts, walked: where a text is parted changes nothing. -/
import Derived.Test.YtcjjhgecmnfmdaaDoorShaAlive
import Derived.Test.YtcjjhgecmnfmdaaDoorOpen
namespace Go.Proofs.YtcjjhgecmnfmdaaDoor
open Go.RowKit
set_option linter.unusedVariables false

/-- A row of numbers that came in. -/
def IntsAt (w : World) (b off len : Nat) (L : Nat → Int) : Prop := b < w.heap.size ∧ ∀ i, i < len → w.cell? ⟨b, off + i, none⟩ = some (.int .i64 (L i))
theorem IntsAt.keep {w w' : World} {b off len : Nat} {L : Nat → Int} (h : IntsAt w b off len L) (k : Keep Non w w') : IntsAt w' b off len L :=
  ⟨k.lt h.1, fun i hi => (World.cell?_of_block (k.block b h.1 (fun e => e))).trans (h.2 i hi)⟩

/-- A part of a text: the slice. -/
def cutV (a : Option Addr) (f p cap : Nat) : Value := .slice (if cap = f then a else a.map (·.add f)) (p - f) (cap - f)
theorem elemU8 : Tryd.prog.underlying 22 = some (.slice (Tryd.prog.elem 22)) := by kernel_rfl
theorem sizeElem (w : World) : (sizeOf (Tryd.prog.elem 22)).run Tryd.prog w = .ok 1 w := by kernel_rfl
theorem cut_run (a : Option Addr) (n cap f p : Nat) (h1 : f ≤ p) (h2 : p ≤ cap) (w : World) :
    (Instr.slice 22 (.slice a n cap) (some (.int .i64 (f : Int))) (some (.int .i64 (p : Int))) none).run Tryd.prog w = .ok (cutV a f p cap) w := by
  rw [run_slice_lh w 22 a n cap elemU8 .i64 .i64 (f : Int) (p : Int) (by omega) (by omega) (by omega), sizeElem]
  simp [Result.andThen, sliced, cutV]
theorem cut_run_to (a : Option Addr) (n cap f : Nat) (h1 : f ≤ n) (w : World) :
    (Instr.slice 22 (.slice a n cap) (some (.int .i64 (f : Int))) none none).run Tryd.prog w = .ok (cutV a f n cap) w := by
  rw [run_slice_l w 22 a n cap elemU8 .i64 (f : Int) (by omega) (by omega), sizeElem]
  simp [Result.andThen, sliced, cutV]
theorem cutV_one (a : Option Addr) (f p cap : Nat) : (cutV a f p cap).oneCell' = true := rfl
theorem cut_bs {w : World} {a : Option Addr} {l : List UInt8} {cap : Nat} (h : Bs w (.slice a l.length cap) l) (f p : Nat) (h1 : f ≤ p) (h2 : p ≤ l.length) (h3 : l.length ≤ cap) : Bs w (cutV a f p cap) ((l.drop f).take (p - f)) := by
  have hlen : ((l.drop f).take (p - f)).length = p - f := by simp; omega
  obtain ⟨a', c', e1, hx⟩ := h
  injection e1 with e1 e2 e3
  subst e1
  refine ⟨_, _, by rw [List.length_map, hlen]; rfl, fun hne => ?_⟩
  have hne2 : l ≠ [] := by
    intro e
    subst e
    simp at hne
  have hfp : f < p := by
    rcases Nat.lt_or_ge f p with h | h
    · exact h
    · exfalso
      apply hne
      rw [List.map_eq_nil_iff, List.eq_nil_iff_length_eq_zero, hlen]
      omega
  obtain ⟨g, off, rfl, hc⟩ := hx (by simpa using hne2)
  have hcap : cap ≠ f := by omega
  refine ⟨g, off + f, by rw [if_neg hcap, Option.map_some, add_off], fun j u hu => ?_⟩
  rw [Nat.add_assoc]
  apply hc
  rw [List.getElem?_map] at hu ⊢
  rw [List.getElem?_take] at hu
  split at hu
  · rw [List.getElem?_drop] at hu
    exact hu
  · simp at hu

/-- The parts so far. -/
structure PartsAt (w0 w : World) (base : Nat) (l : List UInt8) (f k : Nat) (v : Value) (vs : List Value) (ls : List (List UInt8)) : Prop where
  keep : Keep Non w0 w
  own : w.ownsRow base 22 1 v vs.length vs
  len : vs.length = ls.length
  le : ls.length ≤ k
  flat : ls.flatten = l.take f
  bs : ∀ (i : Nat) (u : Value) (m : List UInt8), vs[i]? = some u → ls[i]? = some m → Bs w0 u m
theorem infoBs22 : (Tryd.prog.info? 22).map (fun i => (i.zero, i.size, i.bytes)) = some (some (.slice none 0 0), 1, 24) := by kernel_rfl

theorem PartsAt.more {w0 w w1 w2 : World} {base : Nat} {l : List UInt8} {f k p : Nat} {v v' u : Value} {vs : List Value} {ls : List (List UInt8)} (h : PartsAt w0 w base l f k v vs ls) (hb : Bs w0 u ((l.drop f).take (p - f))) (hfp : f ≤ p) (hpl : p ≤ l.length)
    (k1 : Keep Non w w1) (hg : w1.grownBy w2 v.ownBlock) (hbase : w0.heap.size ≤ base) (ho : w2.ownsRow base 22 1 v' (vs.length + 1) (vs ++ [u])) : PartsAt w0 w2 base l p (k + 1) v' (vs ++ [u]) (ls ++ [(l.drop f).take (p - f)]) := by
  have hk : Keep Non w0 w2 := (h.keep.trans1 k1).grown hg (fun q e => .inr (by have := (h.own.lt q e).1; omega))
  refine ⟨hk, by rw [List.length_append]; exact ho, by simp [h.len], by simp; exact h.le, ?_, fun i x m hx hm => ?_⟩
  · rw [List.flatten_append, h.flat]
    simp only [List.flatten_cons, List.flatten_nil, List.append_nil]
    rw [← List.take_append_drop f (l.take p), List.take_take, Nat.min_eq_left hfp, List.drop_take]
  · by_cases hi : i < vs.length
    · rw [List.getElem?_append_left hi] at hx
      rw [List.getElem?_append_left (by rw [← h.len]; exact hi)] at hm
      exact h.bs i x m hx hm
    · have e : i = vs.length := by
        have := (List.getElem?_eq_some_iff.1 hx).1
        simp at this
        omega
      subst e
      rw [List.getElem?_append_right (Nat.le_refl _)] at hx
      rw [h.len, List.getElem?_append_right (Nat.le_refl _)] at hm
      simp at hx hm
      subst hx hm
      exact hb

theorem PartsAt.step {w0 w : World} {base : Nat} {l : List UInt8} {f k : Nat} {v : Value} {vs : List Value} {ls : List (List UInt8)} (h : PartsAt w0 w base l f k v vs ls) : PartsAt w0 w base l f (k + 1) v vs ls :=
  ⟨h.keep, h.own, h.len, Nat.le_succ_of_le h.le, h.flat, h.bs⟩
theorem PartsAt.pts {w0 w : World} {base : Nat} {l : List UInt8} {f k cap : Nat} {x : Option Addr} {vs : List Value} {ls : List (List UInt8)} (h : PartsAt w0 w base l f k (.slice x vs.length cap) vs ls) : Pts w (.slice x ls.length cap) ls :=
  ⟨vs, by rw [← h.len]; exact Rd.ofOwns h.own, h.len, fun i u m hu hm => (h.bs i u m hu hm).keepNon h.keep⟩

set_option maxRecDepth 100000 in
set_option maxHeartbeats 3200000 in
theorem parts_some (a : Option Addr) (cap : Nat) (l : List UInt8) (b off len pc : Nat) (L : Nat → Int) (w : World) (hb : Bs w (.slice a l.length cap) l) (hcap : l.length ≤ cap) (hi : len = 0 ∨ IntsAt w b off len L) (ap : Option Addr) (hap : len = 0 ∨ ap = some ⟨b, off, none⟩) (hl : l.length ≤ 1000) (hn : len ≤ 20) (hk : Kon w) (hf : Frs w) :
    Calls Tryd.prog 3 #[.slice a l.length cap, .slice ap len pc] w fun e w' => e = .returned (.bool true) ∧ Keep Non w w' := by
  have HB := Lib.hid hb
  have HI := Lib.hid hi
  have HA := Lib.hid hap
  have HK := Lib.hid hk
  have HF := Lib.hid hf
  have h1000 : ¬ (1000 : Int) < (l.length : Int) := by omega
  have h20 : ¬ (20 : Int) < (len : Int) := by omega
  obtain ⟨i0, hi0, hz0, hz1, hz2⟩ := info_parts infoBs22
  clear hb hi hap hk hf
  go_enter Tryd.func3, Tryd.ntmps3
  go_wp2_with fail
  refine (alive_any _ HK.out HF.out).mono ?_
  rintro e w2 ⟨rfl, k2⟩
  have K2 := Lib.hid k2
  have B2 := Lib.hid (HB.out.keepNon k2)
  clear k2
  go_wp2_with fail
  go_loopw [5, 6, 22] (fun v f i wr => ∃ (k fn : Nat) (vs : List Value) (ls : List (List UInt8)), k ≤ len ∧ fn ≤ l.length ∧ i = .int .i64 k ∧ f = .int .i64 fn ∧ PartsAt w2 wr w2.heap.size l fn k v vs ls) (fun _ _ i _ => len - (intOf i).toNat)
  case atStart => exact ⟨0, 0, [], [], by omega, by omega, rfl, rfl, ⟨(Keep.refl _ _).alloc _, World.ownsRow_made w2 #[] 0 (Nat.le_refl _) (by decide) rfl, rfl, by simp, by simp, fun i u m hu hm => by simp at hu⟩⟩
  case round =>
    obtain ⟨k, fn, vs, ls, hk, hfn, rfl, rfl, hp⟩ := hrel
    have HP := Lib.hid hp
    have hvl : Hid (vs.length ≤ 20) := Lib.hid (by have := hp.len; have := hp.le; omega)
    by_cases hlt : k < len
    · have hlt' : (k : Int) < (len : Int) := by omega
      obtain rfl : ap = some ⟨b, off, none⟩ := by
        rcases HA.out with h | h
        · omega
        · exact h
      have hcell : wr.cell? ⟨b, off + k, none⟩ = some (.int .i64 (L k)) := by
        rcases HI.out with h | h
        · omega
        · exact ((h.keep K2.out).keep hp.keep).2 k hlt
      have hkp := Lib.hid hp.keep
      clear hp
      generalize L k = p at hcell
      by_cases hc : (fn : Int) ≤ p ∧ p ≤ (l.length : Int)
      · obtain ⟨hc1, hc2⟩ := hc
        obtain ⟨pn, rfl⟩ := Int.eq_ofNat_of_zero_le (show 0 ≤ p by omega)
        have hcr := fun W => cut_run a l.length cap fn pn (by omega) (by omega) W
        have CB := Lib.hid (cut_bs B2.out fn pn (by omega) (by omega) hcap)
        obtain ⟨ux, un, uc, hu⟩ : ∃ x n c, cutV a fn pn cap = .slice x n c := ⟨_, _, _, rfl⟩
        rw [hu] at hcr CB
        clear hu
        go_wp2_with (at_builtin; refine wpList_append_rd rfl _ _ 25 rfl w2.heap.size 22 i0 (.slice none 0 0) 24 Tryd.underlying25 hi0 hz0 hz1 hz2 rfl _ vs.length _ rfl (HP.out.own.alloc _) (.slice (some ⟨wr.heap.size, 0, none⟩) 1 1) rfl [.slice ux un uc] (rd_one _ _ _) (by intro x hx; simp at hx; subst hx; rfl) (by have := hvl.out; unfold maxLen; simp; omega) (by have := hvl.out; simp; omega) (by have := hkp.out.size; simp; omega) ?_; intro v' w' ho hg hpp; have HO2 := Lib.hid ho; have HG := Lib.hid hg; clear ho hpp hg)
        refine ⟨⟨k + 1, pn, _, _, by omega, by omega, by go_num, rfl, HP.out.more CB.out (by omega) (by omega) ((Keep.refl Non _).alloc _) HG.out (Nat.le_refl _) HO2.out⟩, by simp [intOf]; omega⟩
      · rcases (by omega : p < (fn : Int) ∨ ((fn : Int) ≤ p ∧ (l.length : Int) < p)) with h1 | ⟨h1, h2⟩
        · clear hc
          go_wp2_with fail
          exact ⟨⟨k + 1, fn, vs, ls, by omega, hfn, by go_num, rfl, HP.out.step⟩, by simp [intOf]; omega⟩
        · clear hc
          go_wp2_with fail
          exact ⟨⟨k + 1, fn, vs, ls, by omega, hfn, by go_num, rfl, HP.out.step⟩, by simp [intOf]; omega⟩
    · have e : k = len := by omega
      subst e
      have hcr := fun W => cut_run_to a l.length cap fn (by omega) W
      have CB := Lib.hid (cut_bs B2.out fn l.length (by omega) (Nat.le_refl _) hcap)
      obtain ⟨ux, un, uc, hu⟩ : ∃ x n c, cutV a fn l.length cap = .slice x n c := ⟨_, _, _, rfl⟩
      rw [hu] at hcr CB
      clear hu
      have hkp := Lib.hid hp.keep
      clear hp
      go_wp2_with (at_builtin; refine wpList_append_rd rfl _ _ 25 rfl w2.heap.size 22 i0 (.slice none 0 0) 24 Tryd.underlying25 hi0 hz0 hz1 hz2 rfl _ vs.length _ rfl (HP.out.own.alloc _) (.slice (some ⟨wr.heap.size, 0, none⟩) 1 1) rfl [.slice ux un uc] (rd_one _ _ _) (by intro x hx; simp at hx; subst hx; rfl) (by have := hvl.out; unfold maxLen; simp; omega) (by have := hvl.out; simp; omega) (by have := hkp.out.size; simp; omega) ?_; intro v' w' ho hg hpp; have HO2 := Lib.hid ho; have HG := Lib.hid hg; clear ho hpp hg)
      have P3 := HP.out.more CB.out hfn (Nat.le_refl _) ((Keep.refl Non _).alloc _) HG.out (Nat.le_refl _) HO2.out
      obtain ⟨x3, c3, rfl, _, _⟩ := ownsRow_form P3.own
      have hpts := P3.pts
      have hfl := P3.flat
      rw [List.take_length] at hfl
      have hle := P3.le
      have hln := P3.len
      have K3 := Lib.hid (K2.out.trans1 P3.keep)
      have B3 := Lib.hid (B2.out.keepNon P3.keep)
      clear P3 HO2 HG HP hkp CB hcr
      generalize ls ++ [(l.drop fn).take (l.length - fn)] = ms at hpts hfl hle hln
      generalize vs ++ [Value.slice ux un uc] = us at hpts hln
      rw [hln]
      refine (of_any ms x3 c3 w' hpts (HK.out.keep K3.out) (HF.out.keep K3.out) (by omega) (by rw [hfl]; omega)).mono ?_
      rintro e w4 ⟨rfl, k4⟩
      rw [hfl]
      have K4 := Lib.hid (K3.out.trans1 k4)
      have B4 := Lib.hid (B3.out.keepNon k4)
      clear k4 K3 B3 hpts hfl hle hln
      have hq : ∀ w : World, (Op.equalIn 10000 27 (.agg (digC (shaS l) 32)) (.agg ((digB (shaS l)).map bv).toArray)).run Tryd.prog w = .ok true w := fun w => by
        have := eq_dig (digB (shaS l)) (digB (shaS l)) (digB_len _) (digB_len _) w
        rw [beq_self_eq_true, ← digC_arr] at this
        rw [digC_arr] at this ⊢
        exact this
      go_wp2_with fail
      refine (sum_any l a cap _ B4.out (HK.out.keep K4.out) (HF.out.keep K4.out) (by omega)).mono ?_
      rintro e w5 ⟨rfl, k5⟩
      have K5 := Lib.hid (K4.out.trans1 k5)
      clear k5
      unfold arrV
      go_wp2_with fail
      go_ret
      exact ⟨rfl, K5.out⟩

set_option maxRecDepth 100000 in
set_option maxHeartbeats 1600000 in
theorem parts_long (a : Option Addr) (cap n : Nat) (ap : Option Addr) (len pc : Nat) (w : World) (hl : 1000 < n ∨ 20 < len) (hk : Kon w) (hf : Frs w) :
    Calls Tryd.prog 3 #[.slice a n cap, .slice ap len pc] w fun e w' => e = .returned (.bool true) ∧ Keep Non w w' := by
  have HK := Lib.hid hk
  have HF := Lib.hid hf
  clear hk hf
  rcases (by omega : 1000 < n ∨ (n ≤ 1000 ∧ 20 < len)) with h | ⟨h1, h2⟩
  · have h1000 : (1000 : Int) < (n : Int) := by omega
    clear hl
    go_enter Tryd.func3, Tryd.ntmps3
    go_wp2_with fail
    refine (alive_any _ HK.out HF.out).mono ?_
    rintro e w2 ⟨rfl, k2⟩
    have K2 := Lib.hid k2
    clear k2
    go_wp2_with fail
    go_ret
    exact ⟨rfl, K2.out⟩
  · have h1000 : ¬ (1000 : Int) < (n : Int) := by omega
    have h20 : (20 : Int) < (len : Int) := by omega
    clear hl
    go_enter Tryd.func3, Tryd.ntmps3
    go_wp2_with fail
    refine (alive_any _ HK.out HF.out).mono ?_
    rintro e w2 ⟨rfl, k2⟩
    have K2 := Lib.hid k2
    clear k2
    go_wp2_with fail
    go_ret
    exact ⟨rfl, K2.out⟩

end Go.Proofs.YtcjjhgecmnfmdaaDoor
