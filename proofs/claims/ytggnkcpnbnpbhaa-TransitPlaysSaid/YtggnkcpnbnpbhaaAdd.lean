/- 'add' of a line, walked. -/
import Derived.Test.YtggnkcpnbnpbhaaLine
namespace Go.Proofs.Ytggnkcpnbnpbhaa
open Go.RowKit

theorem infoBs : (Try.prog.info? 26).map (fun i => (i.zero, i.size, i.bytes)) = some (some (.slice none 0 0), 1, 24) := by kernel_rfl

theorem ownsRow_form {w : World} {base : Nat} {e : TypeId} {size : Nat} {v : Value} {n : Nat} {xs : List Value} (h : w.ownsRow base e size v n xs) : ∃ a cap, v = .slice a n cap ∧ n ≤ cap ∧ cap ≤ maxLen := by
  rcases h.2 with ⟨rfl, rfl⟩ | ⟨g, cap, cur, rfl, _, _, h1, h2, _⟩
  · exact ⟨none, 0, rfl, by omega, by simp [maxLen]⟩
  · exact ⟨_, cap, rfl, h1, h2⟩

set_option maxHeartbeats 400000 in
theorem add_full (b : Value) (p i : Nat) (c : Nat → Int) (v : Value) (vs : List Value) (w : World) (h1 : w.heap[p]? = some (LnB c v)) (h2 : w.ownsRow 0 26 1 v vs.length vs) (hl : 64 ≤ vs.length) :
    Calls Try.prog 20 #[.pointer (some ⟨p, 0, none⟩), b, .pointer (some ⟨p, i, none⟩)] w fun e w' => e = .returned (.iface 34 (.int .i64 5)) ∧ w = w' := by
  have m4 := ln_v h1
  obtain ⟨a, cap, rfl, _, _⟩ := ownsRow_form h2
  clear h1 h2
  go_enter Try.func20, Try.ntmps20
  go_wp2_with fail
  go_ret
  exact ⟨rfl, rfl⟩

set_option maxHeartbeats 800000 in
theorem add_ok (F : Nat → Prop) (b : Value) (l : List UInt8) (p i : Nat) (c : Nat → Int) (v : Value) (vs : List Value) (ms : List (List UInt8)) (w : World)
    (h1 : w.heap[p]? = some (LnB c v)) (h2 : w.ownsRow 0 26 1 v vs.length vs) (h3 : ∀ g, v.ownBlock = some g → F g ∧ g ≠ p) (h4 : Msgs F w p v vs ms) (fp : F p) (h7 : ∀ u ∈ vs, u.oneCell' = true)
    (hb : Bs w b l) (hbf : ∀ g, b.ownBlock = some g → F g ∧ g ≠ p ∧ v.ownBlock ≠ some g ∧ g < w.heap.size) (hi : i < 4) (hc0 : 0 ≤ c i) (hc1 : c i ≤ 1000000) (hl : vs.length < 64) :
    Calls Try.prog 20 #[.pointer (some ⟨p, 0, none⟩), b, .pointer (some ⟨p, i, none⟩)] w fun e w' => e = .returned .nilIface ∧ Keep F w w' ∧ Line (Fx F w) w' p (bump c i) (ms ++ [l]) := by
  have m4 := ln_v h1
  obtain ⟨i0, hi0, hz0, hz1, hz2⟩ := info_parts infoBs
  have hbs := hb
  obtain ⟨ba, bc, rfl, hbx⟩ := hb
  rw [List.length_map] at hbs hbf ⊢
  obtain ⟨a, cap, rfl, hcap, hcm⟩ := ownsRow_form h2
  have hown : Hid ((w.alloc (.cells #[.slice ba l.length bc] 26)).ownsRow 0 26 1 (.slice a vs.length cap) vs.length vs) := h2.alloc _
  have hpl := lt_of_block h1
  have H1 := Lib.hid h1
  have H3 := Lib.hid h3
  have H4 := Lib.hid h4
  have HB := Lib.hid hbs
  have HF := Lib.hid hbf
  have H7 := Lib.hid h7
  clear h1 h3 h4 hbs hbf hbx h7
  go_enter Try.func20, Try.ntmps20
  go_wp2_with (at_builtin; refine wpList_append_prov rfl _ _ 22 rfl 0 26 i0 (.slice none 0 0) 1 24 Try.underlying22 hi0 hz0 hz1 hz2 rfl (by decide) _ _ _ rfl hown.out ⟨w.heap.size, 0, none⟩ 1 1 [.slice ba l.length bc] rfl rfl ?c1 (by intro u hu; simp at hu; subst hu; rfl) (by unfold maxLen; omega) (by omega) (by omega) ?_; rotate_left; intro v' w' ho hg hp; obtain ⟨a', cap', rfl, _, _⟩ := ownsRow_form ho; have HO := Lib.hid ho; have HP := Lib.hid hp; have HG := Lib.hid hg; have hk : Keep (fun k => (Value.slice a vs.length cap).ownBlock = some k) (w.alloc (.cells #[.slice ba l.length bc] 26)) w' := (Keep.refl _ _).grown hg (fun k e => .inl e); have hpw := hk.at (blk_alloc H1.out _) (fun e => (H3.out p e).2 rfl); have n4 := ln_v hpw; have n5 := ln_f hpw 4; have NP := Lib.hid hpw; clear ho hp hg hpw)
  · refine (aadd_any p i (c i) _ ?_ ?_ hc0 hc1).mono ?_
    · exact ln_c (ln_set NP.out _) i hi
    · exact ln_f (ln_set NP.out _) i
    rintro e w5 ⟨rfl, rfl⟩
    go_wp2_with fail
    go_ret
    have hwk : Keep F w ((w'.setCell ⟨p, 4, none⟩ (.slice a' (vs.length + 1) cap')).setCell ⟨p, i, none⟩ (.int .i64 (c i + 1))) := by
      refine Keep.setCell (p := ⟨p, i, none⟩) (Keep.setCell (p := ⟨p, 4, none⟩) ?_ (.inl fp) _) (.inl fp) _
      exact ((Keep.refl F w).alloc _).trans hk (fun _ _ h => h) (fun k hk' e => (H3.out k e).1)
    have hwkp : Keep (fun k => k = p ∨ (Value.slice a vs.length cap).ownBlock = some k) w ((w'.setCell ⟨p, 4, none⟩ (.slice a' (vs.length + 1) cap')).setCell ⟨p, i, none⟩ (.int .i64 (c i + 1))) := by
      refine Keep.setCell (p := ⟨p, i, none⟩) (Keep.setCell (p := ⟨p, 4, none⟩) ?_ (.inl (.inl rfl)) _) (.inl (.inl rfl)) _
      exact ((Keep.refl (fun k => k = p ∨ (Value.slice a vs.length cap).ownBlock = some k) w).alloc _).trans hk (fun _ _ h => h) (fun k hk' e => .inr e)
    refine ⟨rfl, hwk, .slice a' (vs.length + 1) cap', vs ++ [.slice ba l.length bc], ln_bump (ln_set NP.out _) i hi, ?_, ?_, ?_, .inl fp, ?_⟩
    · have h := HO.out
      rw [show vs.length + 1 = (vs ++ [Value.slice ba l.length bc]).length by simp] at h ⊢
      refine ownsRow_keep h (S := One p) (((Keep.refl _ _).setOne _ _).setOne _ _) (fun g e e2 => ?_)
      unfold One at e2
      subst e2
      rcases HP.out with e3 | e3
      · exact (H3.out g (e3.symm.trans (by rw [List.length_append] at e; exact e))).2 rfl
      · rw [List.length_append] at e
        have := e3.symm.trans e
        simp at this
        omega
    · intro g e
      rcases HP.out with e3 | e3
      · have := H3.out g (e3.symm.trans e)
        exact ⟨.inl this.1, this.2⟩
      · have := e3.symm.trans e
        simp at this
        exact ⟨.inr (by omega), by omega⟩
    · obtain ⟨q1, q2⟩ := H4.out
      refine ⟨by simp [q1], fun j u m hu hm => ?_⟩
      by_cases hj : j < vs.length
      · rw [List.getElem?_append_left hj] at hu
        rw [List.getElem?_append_left (by omega)] at hm
        obtain ⟨r1, r2⟩ := q2 j u m hu hm
        refine ⟨r1.keep hwkp (fun g e e2 => ?_), fun g e => ?_⟩
        · rcases e2 with e2 | e2
          · exact (r2 g e).2.1 e2
          · exact (r2 g e).2.2.1 e2
        · obtain ⟨t1, t2, t3, t4⟩ := r2 g e
          refine ⟨.inl t1, t2, fun e5 => ?_, hwk.lt t4⟩
          rcases HP.out with e3 | e3
          · exact t3 (e3.symm.trans e5)
          · have := e3.symm.trans e5
            simp at this
            omega
      · rw [List.getElem?_append_right (by omega)] at hu
        rw [List.getElem?_append_right (by omega)] at hm
        have hj0 : j - vs.length = 0 := by
          cases hjj : j - vs.length with
          | zero => rfl
          | succ k => rw [hjj] at hu; simp at hu
        have hj1 : j - ms.length = 0 := by omega
        rw [hj0] at hu
        rw [hj1] at hm
        simp at hu hm
        subst hu
        subst hm
        refine ⟨HB.out.keep hwkp (fun g e e2 => ?_), fun g e => ?_⟩
        · rcases e2 with e2 | e2
          · exact (HF.out g e).2.1 e2
          · exact (HF.out g e).2.2.1 e2
        · obtain ⟨t1, t2, t3, t4⟩ := HF.out g e
          refine ⟨.inl t1, t2, fun e5 => ?_, hwk.lt t4⟩
          rcases HP.out with e3 | e3
          · exact t3 (e3.symm.trans e5)
          · have := e3.symm.trans e5
            simp at this
            omega
    · intro u hu
      rcases List.mem_append.1 hu with hu | hu
      · exact H7.out u hu
      · simp at hu
        subst hu
        rfl
  · intro j u hu
    cases j with
    | zero =>
      simp at hu
      subst hu
      exact World.cell?_alloc_new _ _ _ 0
    | succ j => simp at hu

end Go.Proofs.Ytggnkcpnbnpbhaa
