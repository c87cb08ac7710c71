/- ClockAdds, walked. -/
import Derived.Test.YthhpgckbaciidaaClkLaw
import Derived.Test.YthhpgckbaciidaaAddsPlain
import Derived.Deep.DeepCutAuto
import Derived.Deep.CutBlock
namespace Go.Proofs.Ythhpgckbaciidaa
open Go.RowKit

/-- A row of acts that came in: three numbers each. -/
structure Acts (w : World) (b off len : Nat) (K W B : Nat → Int) : Prop where
  lt : b < w.heap.size
  kind : ∀ i, i < len → w.cell? ⟨b, off + i * 3, none⟩ = some (.int .i64 (K i))
  which : ∀ i, i < len → w.cell? ⟨b, off + i * 3 + 1, none⟩ = some (.int .i64 (W i))
  much : ∀ i, i < len → w.cell? ⟨b, off + i * 3 + 2, none⟩ = some (.int .i64 (B i))

theorem Acts.keep {w w' : World} {S : Nat → Prop} {b off len : Nat} {K W B : Nat → Int} (h : Acts w b off len K W B) (k : Keep S w w') (hn : ¬ S b) : Acts w' b off len K W B := by
  have e : w'.heap[b]? = w.heap[b]? := k.block b h.lt hn
  exact ⟨k.lt h.lt, fun i hi => (World.cell?_of_block e).trans (h.kind i hi), fun i hi => (World.cell?_of_block e).trans (h.which i hi), fun i hi => (World.cell?_of_block e).trans (h.much i hi)⟩

/-- What holds at the head of each round: both clocks' blocks, what has been added so far. -/
structure AddsAt (w wr : World) (p q n k : Nat) (W B : Nat → Int) (u v : Bool) : Prop where
  keep : Keep Non w wr
  p0 : w.heap.size ≤ p
  q0 : w.heap.size ≤ q
  pq : p ≠ q
  ck : wr.heap[p]? = some (CkB (psum (addA W B) k) (psum (addC W B) k) 5 u)
  dk : wr.heap[q]? = some (CkB (psum (fun i => addA W B (n - 1 - i)) k) (psum (fun i => addC W B (n - 1 - i)) k) 5 v)
  fit : ∀ i, i < k → Fit W B i ∧ Fit W B (n - 1 - i)

set_option maxRecDepth 100000 in
set_option maxHeartbeats 1600000 in
theorem adds_some (b off len cap : Nat) (K W B : Nat → Int) (w : World) (ha : Acts w b off len K W B) (hl : len ≤ 100) :
    Calls Try.prog 3 #[.slice (some ⟨b, off, none⟩) len cap] w fun e w' => e = .returned (.bool true) ∧ Keep Non w w' := by
  have hlt := ha.lt
  go_enter Try.func3, Try.ntmps3
  go_wp2_with fail
  refine (alive_true _).mono ?_
  rintro e w1 ⟨rfl, hk1⟩
  go_wp2_with fail
  refine (new_own 5 _ (by decide) (by decide)).mono ?_
  rintro e w2 ⟨p, rfl, hp, hp', hk2, h2⟩
  have H2 := Lib.hid h2
  clear h2
  go_wp2_with fail
  refine (new_own 5 _ (by decide) (by decide)).mono ?_
  rintro e w3 ⟨q, rfl, hq, hq', hk3, h3⟩
  have H3 := Lib.hid h3
  clear h3
  go_wp2_with fail
  go_loopw [36] (fun i wr => ∃ k : Nat, k ≤ len ∧ i = .int .i64 k ∧ ∃ u v, AddsAt w wr p q len k W B u v) (fun i _ => len - (intOf i).toNat)
  case atStart =>
    have hk4 : Keep Non w w3 := (hk1.trans1 hk2).trans1 hk3
    refine ⟨0, by omega, rfl, false, false, hk4, by have := hk1.size; omega, by have := (hk1.trans1 hk2).size; omega, by omega, ?_, H3.out, fun i hi => absurd hi (by omega)⟩
    exact hk3.at H2.out (fun e => e)
  case round =>
    obtain ⟨k, hk, rfl, u, v, hs⟩ := hrel
    have hB := Lib.hid hs
    have ha2 := ha.keep hs.keep (fun e => e)
    clear hs
    by_cases hlt2 : k < len
    · have c0 := ha2.kind k hlt2
      have c1 := ha2.which k hlt2
      have c2 := ha2.much k hlt2
      have d0 := ha2.kind (len - 1 - k) (by omega)
      have d1 := ha2.which (len - 1 - k) (by omega)
      have d2 := ha2.much (len - 1 - k) (by omega)
      have hbl := ha2.lt
      have hne : ¬ b = wr.heap.size := by omega
      have hne2 : ¬ b = wr.heap.size + 1 := by omega
      clear ha ha2
      go_upto_region 12 with fail
      go_cut [8, 9] (fun s8 s9 wx => ∃ x y : Nat, y ≠ p ∧ s8 = .pointer (some ⟨x, 0, none⟩) ∧ s9 = .pointer (some ⟨y, 0, none⟩) ∧ Keep Non wr wx ∧
        wx.cell? ⟨x, 1, none⟩ = some (.int .i64 (W k)) ∧ wx.cell? ⟨x, 2, none⟩ = some (.int .i64 (B k)) ∧
        wx.cell? ⟨y, 1, none⟩ = some (.int .i64 (W (len - 1 - k))) ∧ wx.cell? ⟨y, 2, none⟩ = some (.int .i64 (B (len - 1 - k))))
      case first =>
        go_wp2_with fail
        go_region
        all_goals go_wp2_with fail
        all_goals go_meet
        all_goals exact ⟨_, _, by have := lt_of_block hB.out.ck; omega, rfl, rfl, (((Keep.refl _ _).alloc _).alloc _).drew, by go_cell, by go_cell, by go_cell, by go_cell⟩
      case rest =>
        obtain ⟨x, y, yp, rfl, rfl, hkx, x1, x2, y1, y2⟩ := hcut
        have ypE := Lib.hid yp
        clear yp
        have hB0 := hB.out
        have P1 := Lib.hid (hkx.at hB0.ck (fun e => e))
        have Q1 := Lib.hid (hkx.at hB0.dk (fun e => e))
        have hpq : Hid (p ≠ q) := hB0.pq
        have KP := hB0.keep.trans1 hkx
        have hp0 := hB0.p0
        have hq0 := hB0.q0
        clear hB0
        have yL : Keep Non w wc := KP
        rcases fit_or W B k with ⟨g1, m1⟩ | bad
        · rcases fit_or W B (len - 1 - k) with ⟨g2, m2⟩ | bad
          · have G1 := Lib.hid g1
            have G2 := Lib.hid g2
            clear g1 g2
            have hbd1 := psum_bd (addA W B) 4294967296 k (fun i hi => by have := (hB.out.fit i hi).1; have := fit_add this; omega)
            have hbd2 := psum_bd (addC W B) 4294967296 k (fun i hi => by have := (hB.out.fit i hi).1; have := fit_add this; omega)
            have hbd3 := psum_bd (fun i => addA W B (len - 1 - i)) 4294967296 k (fun i hi => by have := (hB.out.fit i hi).2; have := fit_add this; omega)
            have hbd4 := psum_bd (fun i => addC W B (len - 1 - i)) 4294967296 k (fun i hi => by have := (hB.out.fit i hi).2; have := fit_add this; omega)
            obtain ⟨e1, e2, e3⟩ := tick_adds G1.out (a := psum (addA W B) k) (c := psum (addC W B) k) (by omega) (by omega) (by omega) (by omega)
            obtain ⟨r1, r2, r3⟩ := tick_adds G2.out (a := psum (fun i => addA W B (len - 1 - i)) k) (c := psum (fun i => addC W B (len - 1 - i)) k) (by omega) (by omega) (by omega) (by omega)
            have E1 := Lib.hid e1
            have E2 := Lib.hid e2
            have E3 := Lib.hid e3
            have R1 := Lib.hid r1
            have R2 := Lib.hid r2
            have R3 := Lib.hid r3
            clear e1 e2 e3 r1 r2 r3
            have I1 : Hid (InB (psum (addA W B) k) (psum (addC W B) k)) := ⟨by omega, by omega, by omega, by omega⟩
            have I2 : Hid (InB (psum (fun i => addA W B (len - 1 - i)) k) (psum (fun i => addC W B (len - 1 - i)) k)) := ⟨by omega, by omega, by omega, by omega⟩
            clear hbd1 hbd2 hbd3 hbd4
            obtain ⟨f1, f2, t1⟩ := m1
            obtain ⟨f4, f5, t2⟩ := m2
            rcases t1 with t1 | ⟨t1, t1'⟩ <;> rcases t2 with t2 | ⟨t2, t2'⟩
            all_goals
              go_wp2_with fail
              refine (tick_fine p _ _ 5 u (W k) (B k) _ P1.out I1.out E1.out).mono ?_
              rintro e w4 ⟨rfl, hk4, h4⟩
              have H4 := Lib.hid h4
              clear h4
              have hy1 : w4.cell? ⟨y, 1, none⟩ = some (.int .i64 (W (len - 1 - k))) := by rw [World.cell?_of_block (hk4.block y (World.block_lt_of_cell? _ _ y1) (fun e => ypE.out e))]; exact y1
              have hy2 : w4.cell? ⟨y, 2, none⟩ = some (.int .i64 (B (len - 1 - k))) := by rw [World.cell?_of_block (hk4.block y (World.block_lt_of_cell? _ _ y1) (fun e => ypE.out e))]; exact y2
              clear x1 x2 y1 y2
              go_wp2_with fail
              refine (tick_fine q _ _ 5 v (W (len - 1 - k)) (B (len - 1 - k)) _ (hk4.at Q1.out (fun e => hpq.out e.symm)) I2.out R1.out).mono ?_
              rintro e w5 ⟨rfl, hk5, h5⟩
              have H5 := Lib.hid h5
              clear h5
              go_wp2_with fail
              go_roundw
              case rel =>
                refine ⟨k + 1, by omega, by go_num, tickU (psum (addA W B) k) (psum (addC W B) k) 5 u (W k) (B k), tickU (psum (fun i => addA W B (len - 1 - i)) k) (psum (fun i => addC W B (len - 1 - i)) k) 5 v (W (len - 1 - k)) (B (len - 1 - k)), (KP.trans hk4 (fun _ _ h => h) (fun i hi h => by unfold One at h; omega)).trans hk5 (fun _ _ h => h) (fun i hi h => by unfold One at h; omega), hp0, hq0, hpq.out, ?_, ?_, ?_⟩
                · rw [psum_succ, psum_succ, ← E2.out, ← E3.out]
                  exact hk5.at H4.out (fun e => hpq.out e)
                · rw [psum_succ, psum_succ, ← R2.out, ← R3.out]
                  exact H5.out
                · intro i hi
                  by_cases e : i = k
                  · subst e
                    exact ⟨G1.out, G2.out⟩
                  · exact hB.out.fit i (by omega)
              case measure => simp [intOf]; omega
          · obtain ⟨f1, f2, t1⟩ := m1
            clear g1
            rcases t1 with t1 | ⟨t1, t1'⟩ <;> rcases bad with bad | ⟨bad, bad2⟩ | ⟨bad, bad2, bad3, bad4⟩
            all_goals
              go_wp2_with fail
              go_ret
              exact ⟨rfl, KP⟩
        · rcases bad with bad | ⟨bad, bad2⟩ | ⟨bad, bad2, bad3, bad4⟩
          all_goals
            go_wp2_with fail
            go_ret
            exact ⟨rfl, KP⟩
    · have e : k = len := by omega
      subst e
      clear ha ha2 hlt2 hk
      have hB0 := hB.out
      have P1 := Lib.hid hB0.ck
      have q1 := hB0.dk
      rw [psum_rev (addA W B), psum_rev (addC W B)] at q1
      have Q1 := Lib.hid q1
      have hbd1 := psum_bd (addA W B) 4294967296 k (fun i hi => by have := (hB0.fit i hi).1; have := fit_add this; omega)
      have hbd2 := psum_bd (addC W B) 4294967296 k (fun i hi => by have := (hB0.fit i hi).1; have := fit_add this; omega)
      have KP := hB0.keep
      clear q1 hB0 hB
      generalize psum (addA W B) k = sa at *
      generalize psum (addC W B) k = sc at *
      have s0 : 0 ≤ sa := by omega
      have s1 : sa ≤ 1099511627776 := by omega
      have s2 : 0 ≤ sc := by omega
      have s3 : sc ≤ 1099511627776 := by omega
      clear hbd1 hbd2
      go_wp2_with fail
      refine wp_loop_rounds 3 ?_
      rw [rounds_succ]
      go_wp2_with fail
      refine (now_one p sa sc 5 u _ P1.out).mono ?_
      rintro e w' ⟨rfl, rfl⟩
      go_wp2_with fail
      refine (now_one q sa sc 5 v _ Q1.out).mono ?_
      rintro e w' ⟨rfl, rfl⟩
      go_wp2_with fail
      rw [rounds_succ]
      go_wp2_with fail
      refine (now_two p sa sc 5 u _ P1.out).mono ?_
      rintro e w' ⟨rfl, rfl⟩
      go_wp2_with fail
      refine (now_two q sa sc 5 v _ Q1.out).mono ?_
      rintro e w' ⟨rfl, rfl⟩
      go_wp2_with fail
      rw [rounds_succ]
      go_wp2_with fail
      refine (apart_any p sa sc 5 u _ P1.out s0 s1 s2 s3).mono ?_
      rintro e w' ⟨rfl, n, rfl⟩
      go_wp2_with fail
      refine (apart_any q sa sc 5 v _ (blk_drewN Q1.out _) s0 s1 s2 s3).mono ?_
      rintro e w' ⟨rfl, n', rfl⟩
      go_wp2_with fail
      go_ret
      exact ⟨rfl, KP.drewN _⟩

set_option maxRecDepth 100000 in
set_option maxHeartbeats 800000 in
theorem adds_long (a : Option Addr) (len cap : Nat) (w : World) (hl : 100 < len) :
    Calls Try.prog 3 #[.slice a len cap] w fun e w' => e = .returned (.bool true) ∧ Keep Non w w' := by
  go_enter Try.func3, Try.ntmps3
  go_wp2_with fail
  refine (alive_true _).mono ?_
  rintro e w1 ⟨rfl, hk1⟩
  go_wp2_with fail
  go_ret
  exact ⟨rfl, hk1⟩

set_option maxRecDepth 100000 in
set_option maxHeartbeats 800000 in
theorem adds_nil (a : Option Addr) (cap : Nat) (w : World) :
    Calls Try.prog 3 #[.slice a 0 cap] w fun e w' => e = .returned (.bool true) ∧ Keep Non w w' := by
  go_enter Try.func3, Try.ntmps3
  go_wp2_with fail
  refine (alive_true _).mono ?_
  rintro e w1 ⟨rfl, hk1⟩
  go_wp2_with fail
  refine (new_own 5 _ (by decide) (by decide)).mono ?_
  rintro e w2 ⟨p, rfl, hp, hp', hk2, h2⟩
  have H2 := Lib.hid h2
  clear h2
  go_wp2_with fail
  refine (new_own 5 _ (by decide) (by decide)).mono ?_
  rintro e w3 ⟨q, rfl, hq, hq', hk3, h3⟩
  have Q1 := Lib.hid h3
  have P1 := Lib.hid (hk3.at H2.out (fun e => e))
  clear h3
  go_wp2_with fail
  refine wp_loop_rounds 1 ?_
  rw [rounds_succ]
  go_wp2_with fail
  refine wp_loop_rounds 3 ?_
  rw [rounds_succ]
  go_wp2_with fail
  refine (now_one p 0 0 5 false _ P1.out).mono ?_
  rintro e w' ⟨rfl, rfl⟩
  go_wp2_with fail
  refine (now_one q 0 0 5 false _ Q1.out).mono ?_
  rintro e w' ⟨rfl, rfl⟩
  go_wp2_with fail
  rw [rounds_succ]
  go_wp2_with fail
  refine (now_two p 0 0 5 false _ P1.out).mono ?_
  rintro e w' ⟨rfl, rfl⟩
  go_wp2_with fail
  refine (now_two q 0 0 5 false _ Q1.out).mono ?_
  rintro e w' ⟨rfl, rfl⟩
  go_wp2_with fail
  rw [rounds_succ]
  go_wp2_with fail
  refine (apart_any p 0 0 5 false _ P1.out (by decide) (by decide) (by decide) (by decide)).mono ?_
  rintro e w' ⟨rfl, n, rfl⟩
  go_wp2_with fail
  refine (apart_any q 0 0 5 false _ (blk_drewN Q1.out _) (by decide) (by decide) (by decide) (by decide)).mono ?_
  rintro e w' ⟨rfl, n', rfl⟩
  go_wp2_with fail
  go_ret
  exact ⟨rfl, ((hk1.trans1 hk2).trans1 hk3).drewN _⟩

end Go.Proofs.Ythhpgckbaciidaa
