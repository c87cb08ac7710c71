/- A message is taken out of a line: 'drop', walked. -/
import Derived.Test.YtggnkcpnbnpbhaaDel
import Derived.Test.YtggnkcpnbnpbhaaSend
namespace Go.Proofs.Ytggnkcpnbnpbhaa
open Go.RowKit

theorem take_over (vs : List Value) (cur : Array Value) (i n : Nat) (hi : i < n) (hn : n ≤ cur.size) (h : cur.toList.take n = vs) :
    ((over cur i (vs.drop (i + 1))).setIfInBounds (n - 1) (.slice none 0 0)).toList.take (n - 1) = vs.eraseIdx i := by
  have hl : vs.length = n := by rw [← h]; simp; omega
  apply List.ext_getElem?
  intro k
  rw [List.getElem?_take]
  by_cases hk : k < n - 1
  · rw [if_pos hk]
    simp only [Array.getElem?_toList, Array.getElem?_setIfInBounds]
    rw [if_neg (by omega), over_get _ _ _ _ (by simp; omega)]
    rw [List.getElem?_eraseIdx]
    have hc : ∀ j, j < n → cur[j]? = vs[j]? := by
      intro j hj
      rw [← h, List.getElem?_take, if_pos hj]
      simp
    by_cases h2 : i ≤ k
    · rw [if_pos (by simp; omega), if_neg (by omega), List.getElem?_drop]
      congr 1
      omega
    · rw [if_neg (by omega), if_pos (by omega)]
      exact hc k (by omega)
  · rw [if_neg hk, List.getElem?_eq_none]
    rw [List.length_eraseIdx, if_pos (by omega)]
    omega

theorem del_own (v : Value) (vs : List Value) (i : Nat) (w : World) (h : w.ownsRow 0 26 1 v vs.length vs) (hi : i < vs.length) (h7 : ∀ u ∈ vs, u.oneCell' = true) :
    Calls Try.prog 33 #[v, .int .i64 i, .int .i64 (i + 1)] w fun e w' => ∃ v', e = .returned v' ∧ w'.ownsRow 0 26 1 v' (vs.eraseIdx i).length (vs.eraseIdx i) ∧ v'.ownBlock = v.ownBlock ∧ Keep (fun k => v.ownBlock = some k) w w' := by
  obtain ⟨hl, h2⟩ := h
  rcases h2 with ⟨rfl, h0⟩ | ⟨g, cap, cur, rfl, hb, hg, hn, hc, hcs, htake⟩
  · omega
  · have ht : cur.toList.take vs.length = vs := by simpa using htake
    have hcs' : cur.size = cap := by omega
    refine (del_walk g vs.length cap i cur w hg hcs' hi hn (by unfold maxLen at hc; omega) (by rw [ht]; exact h7)).mono ?_
    rintro e w' ⟨rfl, rfl⟩
    rw [ht]
    have hlen : (vs.eraseIdx i).length = vs.length - 1 := by rw [List.length_eraseIdx, if_pos hi]
    have hbk := blk_set (blk_over (vs.drop (i + 1)) w.drew g i cur 26 (0, 0) hg) (vs.length - 1) (.slice none 0 0)
    refine ⟨_, rfl, ⟨by omega, .inr ⟨g, cap, _, by rw [hlen], hb, hbk, by omega, hc, by simp [over_size, hcs'], ?_⟩⟩, rfl, ?_⟩
    · rw [hlen, Nat.mul_one]
      exact take_over vs cur i vs.length hi (by omega) ht
    · exact (Keep.setCells (S := fun k => (Value.slice (some ⟨g, 0, none⟩) vs.length cap).ownBlock = some k) _ _ g i (Keep.refl _ w).drew (.inl rfl)).setCell (p := ⟨g, vs.length - 1, none⟩) (.inl rfl) _

/-- What taking a message out does. -/
def Dropped (F : Nat → Prop) (w : World) (p : Nat) (c : Nat → Int) (ms : List (List UInt8)) (l : List UInt8) (e : Ending) (w' : World) : Prop :=
  ∃ u, e = .returned u ∧ Keep F w w' ∧ Line F w' p c ms ∧ Bs w' u l

set_option maxHeartbeats 800000 in
theorem drop_any (F : Nat → Prop) (p : Nat) (c : Nat → Int) (ms : List (List UInt8)) (i j : Nat) (l : List UInt8) (w : World) (h : Line F w p c ms) (hi : ms[i]? = some l) (hj : j < 4) (hc0 : 0 ≤ c j) (hc1 : c j ≤ 1000000) (hlen : ms.length ≤ 64) :
    Calls Try.prog 23 #[.pointer (some ⟨p, 0, none⟩), .int .i64 i, .pointer (some ⟨p, j, none⟩)] w (Dropped F w p (bump c j) (ms.eraseIdx i) l) := by
  have him := (List.getElem?_eq_some_iff.1 hi).1
  obtain ⟨v, vs, h1, h2, h3, ⟨h4, h5⟩, h6, h7⟩ := h
  have hiv : i < vs.length := by omega
  obtain ⟨u, hu⟩ : ∃ u, vs[i]? = some u := ⟨vs[i], by simp [hiv]⟩
  obtain ⟨r1, r2⟩ := h5 i u l hu hi
  have hdel := del_own v vs i
  obtain ⟨a, cap, rfl, hcap, hcm⟩ := ownsRow_form h2
  obtain ⟨g, rfl⟩ : ∃ g, a = some ⟨g, 0, none⟩ := by
    rcases h2.2 with ⟨e, e0⟩ | ⟨g, cap', cur, e, _⟩
    · omega
    · injection e with e
      exact ⟨g, e⟩
  have hcell : w.cell? ⟨g, i, none⟩ = some u := by
    have := h2.cells (g := g) rfl i u hu
    rw [add_off, Nat.zero_add] at this
    exact this
  have hsh : ∃ ua un uc, u = .slice ua un uc := by
    obtain ⟨ua, uc, e, _⟩ := r1
    exact ⟨ua, _, uc, e⟩
  obtain ⟨ua, un, uc, rfl⟩ := hsh
  have m4 := ln_v h1
  have H1 := Lib.hid h1
  have H2 := Lib.hid h2
  have H3 := Lib.hid h3
  have H5 := Lib.hid h5
  have H7 := Lib.hid h7
  have R1 := Lib.hid r1
  have R2 := Lib.hid r2
  have HI := Lib.hid hi
  have HV := Lib.hid hu
  have HD := Lib.hid hdel
  have hiv2 : (i : Int) < (vs.length : Int) := by omega
  have H4 := Lib.hid h4
  have hvl : vs.length ≤ 64 := by omega
  clear h1 h2 h3 h4 h5 h7 r1 r2 hi hu hdel
  go_enter Try.func23, Try.ntmps23
  go_wp2_with fail
  refine (HD.out _ H2.out hiv H7.out).mono ?_
  rintro e w1 ⟨v', rfl, ho, hp, hk⟩
  obtain ⟨a', cap', rfl, _, _⟩ := ownsRow_form ho
  have hpw := hk.at H1.out (fun e => (H3.out p e).2 rfl)
  have n4 := ln_v hpw
  have n5 := ln_f hpw 4
  have NP := Lib.hid hpw
  have HO := Lib.hid ho
  have HP := Lib.hid hp
  clear hpw ho hp hcell m4
  go_wp2_with fail
  refine (aadd_any p j (c j) _ (ln_c (ln_set NP.out _) j hj) (ln_f (ln_set NP.out _) j) hc0 hc1).mono ?_
  rintro e w5 ⟨rfl, rfl⟩
  go_wp2_with fail
  go_ret
  have hkp : Keep (fun k => k = p ∨ (Value.slice (some ⟨g, 0, none⟩) vs.length cap).ownBlock = some k) w ((w1.setCell ⟨p, 4, none⟩ (.slice a' (vs.eraseIdx i).length cap')).setCell ⟨p, j, none⟩ (.int .i64 (c j + 1))) := by
    refine Keep.setCell (p := ⟨p, j, none⟩) (Keep.setCell (p := ⟨p, 4, none⟩) ?_ (.inl (.inl rfl)) _) (.inl (.inl rfl)) _
    exact hk.mono (fun k _ e => .inr e)
  have hkf := hkp.mono (T := F) (fun k _ e => by rcases e with e | e; subst e; exact h6; exact (H3.out k e).1)
  refine ⟨_, rfl, hkf, ⟨_, vs.eraseIdx i, ln_bump (ln_set NP.out _) j hj, ?_, ?_, ⟨?_, ?_⟩, h6, ?_⟩, R1.out.keep hkp ?_⟩
  · refine ownsRow_keep HO.out (S := One p) (((Keep.refl _ _).setOne _ _).setOne _ _) (fun q e e2 => ?_)
    unfold One at e2
    subst e2
    exact (H3.out q (HP.out.symm.trans e)).2 rfl
  · intro q e
    exact H3.out q (HP.out.symm.trans e)
  · rw [List.length_eraseIdx, List.length_eraseIdx, if_pos hiv, if_pos him, H4.out]
  · intro k u m hu hm
    rw [List.getElem?_eraseIdx] at hu hm
    have key : ∃ k' : Nat, vs[k']? = some u ∧ ms[k']? = some m := by
      by_cases hki : k < i
      · rw [if_pos hki] at hu hm
        exact ⟨k, hu, hm⟩
      · rw [if_neg hki] at hu hm
        exact ⟨k + 1, hu, hm⟩
    obtain ⟨k', hu', hm'⟩ := key
    obtain ⟨t1, t2⟩ := H5.out k' u m hu' hm'
    refine ⟨t1.keep hkp (fun q e e2 => ?_), fun q e => ⟨(t2 q e).1, (t2 q e).2.1, fun e3 => (t2 q e).2.2.1 (HP.out.symm.trans e3), hkf.lt (t2 q e).2.2.2⟩⟩
    rcases e2 with e2 | e2
    · exact (t2 q e).2.1 e2
    · exact (t2 q e).2.2.1 e2
  · intro u hu
    exact H7.out u (List.mem_of_mem_eraseIdx hu)
  · intro q e e2
    rcases e2 with e2 | e2
    · exact (R2.out q e).2.1 e2
    · exact (R2.out q e).2.2.1 e2

end Go.Proofs.Ytggnkcpnbnpbhaa
