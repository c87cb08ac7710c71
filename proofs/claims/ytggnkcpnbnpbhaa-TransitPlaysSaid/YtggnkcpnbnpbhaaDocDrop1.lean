/- The document's line: a message taken out, counted at place 1, walked. -/
import Derived.Test.YtggnkcpnbnpbhaaDoc
namespace Go.Proofs.Ytggnkcpnbnpbhaa
open Go.RowKit
set_option linter.unusedVariables false

set_option maxRecDepth 100000 in
set_option maxHeartbeats 3200000 in
theorem rdrop1_ok (g off cap : Nat) (c : Nat → Int) (ls : List Value) (i : Nat) (s : ByteArray) (w : World) (h : Rd w (.slice (some ⟨g, off, none⟩) ls.length cap) ls) (h1 : ∀ u ∈ ls, u.oneCell' = true) (hs : ls[i]? = some (.string s)) (hcap : ls.length ≤ cap) (hcm : cap ≤ maxLen) (hn : ls.length ≤ 64) (hc0 : 0 ≤ c 1) (hc1 : c 1 ≤ 1000000) :
    Calls Try.prog 27 #[.agg #[.slice (some ⟨g, off, none⟩) ls.length cap, .int .i64 (c 0), .int .i64 (c 1), .int .i64 (c 2), .int .i64 (c 3)], .int .i64 i, .int .i64 1] w (RDrop w (.slice (some ⟨g, off, none⟩) ls.length cap) (bump c 1) (ls.eraseIdx i) s 0) := by
  unfold maxLen at hcm
  have hil := (List.getElem?_eq_some_iff.1 hs).1
  have hcell : w.cell? ⟨g, off + i, none⟩ = some (.string s) := by
    obtain ⟨a', cap', e1, hx⟩ := h
    obtain ⟨g', off', e2, hc⟩ := hx (by intro e; rw [e] at hil; simp at hil)
    injection e1 with e1
    subst e1
    injection e2 with e2
    injection e2 with e2 e3
    subst e2
    subst e3
    exact hc i _ hs
  obtain ⟨A, hA, hRb⟩ : ∃ A : Addr, (if cap = i + 1 then some (⟨g, off, none⟩ : Addr) else some ⟨g, off + (i + 1), none⟩) = some A ∧ Rd w (.slice (some A) (ls.length - (i + 1)) (cap - (i + 1))) (ls.drop (i + 1)) := by
    obtain ⟨a', cap', e1, hx⟩ := h
    obtain ⟨g', off', e2, hc⟩ := hx (by intro e; rw [e] at hil; simp at hil)
    injection e1 with e1
    subst e1
    injection e2 with e2
    injection e2 with e2 e3
    subst e2
    subst e3
    by_cases hce : cap = i + 1
    · refine ⟨⟨g, off, none⟩, by simp [hce], some ⟨g, off, none⟩, cap - (i + 1), by simp, fun hne => ?_⟩
      exfalso
      apply hne
      rw [List.drop_eq_nil_iff]
      omega
    · refine ⟨⟨g, off + (i + 1), none⟩, by simp [hce], some ⟨g, off + (i + 1), none⟩, cap - (i + 1), by simp, fun _ => ⟨g, off + (i + 1), rfl, fun j u hu => ?_⟩⟩
      rw [List.getElem?_drop] at hu
      rw [Nat.add_assoc]
      exact hc _ u hu
  have hRa : Rd w (.slice (some ⟨g, off, none⟩) i cap) (ls.take i) := by
    obtain ⟨a', cap', e1, hx⟩ := h
    refine ⟨some ⟨g, off, none⟩, cap, by simp; omega, fun hne => ?_⟩
    obtain ⟨g', off', e2, hc⟩ := hx (by intro e; rw [e] at hil; simp at hil)
    injection e1 with e1
    subst e1
    injection e2 with e2
    injection e2 with e2 e3
    subst e2
    subst e3
    refine ⟨g, off, rfl, fun j u hu => ?_⟩
    rw [List.getElem?_take] at hu
    split at hu
    · exact hc j u hu
    · cases hu
  have hln : (ls.take i).length = i := by simp; omega
  have hln2 : (ls.drop (i + 1)).length = ls.length - (i + 1) := List.length_drop
  have RA := Lib.hid hRa
  have RB := Lib.hid hRb
  have LN := Lib.hid hln
  have LN2 := Lib.hid hln2
  have HS := Lib.hid hs
  have H1 := Lib.hid h1
  have hi0 : (0 : Int) ≤ (i : Int) := by omega
  have hi1 : (i : Int) < (ls.length : Int) := by omega
  have hwr : IntKind.i64.wrap ((i : Int) + 1) = (i : Int) + 1 := by rw [IntKind.wrap_i64]; omega
  have hp0 : (0 : Int) ≤ (i : Int) + 1 := by omega
  have hp1 : (i : Int) + 1 ≤ (ls.length : Int) := by omega
  have hp2 : ((i : Int) + 1).toNat = i + 1 := by omega
  have hic : i ≤ cap := by omega
  obtain ⟨i0, hi0', hz0, hz1, hz2⟩ := info_parts infoStr
  have hlg : g < w.heap.size := World.block_lt_of_cell? _ _ hcell
  have hg1 : ¬ g = w.heap.size := by omega
  have hg2 : ¬ g = w.heap.size + 1 := by omega
  have K2 : Hid (Keep Non w ((w.alloc (DcB (.slice (some ⟨g, off, none⟩) ls.length cap) c)).alloc (DcB (.slice none 0 0) (fun _ => 0)))) := Lib.hid (((Keep.refl _ _).alloc _).alloc _)
  have B0 : Hid (((w.alloc (DcB (.slice (some ⟨g, off, none⟩) ls.length cap) c)).alloc (DcB (.slice none 0 0) (fun _ => 0))).heap[w.heap.size]? = some (DcB (.slice (some ⟨g, off, none⟩) ls.length cap) c)) := Lib.hid (blk_alloc (blk_new _ _) _)
  have B1 : Hid (((w.alloc (DcB (.slice (some ⟨g, off, none⟩) ls.length cap) c)).alloc (DcB (.slice none 0 0) (fun _ => 0))).heap[w.heap.size + 1]? = some (DcB (.slice none 0 0) (fun _ => 0))) := by
    have := blk_new (w.alloc (DcB (.slice (some ⟨g, off, none⟩) ls.length cap) c)) (DcB (.slice none 0 0) (fun _ => 0))
    rw [World.size_alloc] at this
    exact Lib.hid this
  have K2e : Hid (Keep Non w (((w.alloc (DcB (.slice (some ⟨g, off, none⟩) ls.length cap) c)).alloc (DcB (.slice none 0 0) (fun _ => 0))).alloc (.cells #[] 9))) := Lib.hid (K2.out.alloc _)
  have B0e : Hid ((((w.alloc (DcB (.slice (some ⟨g, off, none⟩) ls.length cap) c)).alloc (DcB (.slice none 0 0) (fun _ => 0))).alloc (.cells #[] 9)).heap[w.heap.size]? = some (DcB (.slice (some ⟨g, off, none⟩) ls.length cap) c)) := Lib.hid (blk_alloc B0.out _)
  have B1e : Hid ((((w.alloc (DcB (.slice (some ⟨g, off, none⟩) ls.length cap) c)).alloc (DcB (.slice none 0 0) (fun _ => 0))).alloc (.cells #[] 9)).heap[w.heap.size + 1]? = some (DcB (.slice none 0 0) (fun _ => 0))) := Lib.hid (blk_alloc B1.out _)
  have hown : Hid ((((w.alloc (DcB (.slice (some ⟨g, off, none⟩) ls.length cap) c)).alloc (DcB (.slice none 0 0) (fun _ => 0))).alloc (.cells #[] 9)).ownsRow (w.heap.size + 2) 9 1 (.slice (some ⟨w.heap.size + 2, 0, none⟩) 0 0) 0 []) := by
    have := World.ownsRow_made ((w.alloc (DcB (.slice (some ⟨g, off, none⟩) ls.length cap) c)).alloc (DcB (.slice none 0 0) (fun _ => 0))) (e := 9) (size := 1) (base := w.heap.size + 2) #[] 0 (by simp) (by decide) rfl
    rw [World.size_alloc, World.size_alloc] at this
    exact Lib.hid this
  clear hRa hRb hln hln2 hs h h1
  go_enter Try.func27, Try.ntmps27
  go_upto_region 4 with fail
  go_cut [] (fun wx => DocMid w wx c (ls.eraseIdx i))
  case first =>
    go_region_law (first
      | (refine step_append_rd (by rfl) (.tmp 25) (.tmp 29) 47 (by rfl) (w.heap.size + 2) 9 i0 (.string ⟨#[]⟩) 16 Try.underlying47 hi0' hz0 hz1 hz2 rfl (.slice (some ⟨w.heap.size + 2, 0, none⟩) 0 0) 0 [] (by rfl) (by exact hown.out) (.slice (some ⟨g, off, none⟩) i cap) (by simp [Act.eval, Act.put]) (ls.take i) (by exact RA.out.keepNon K2e.out.drew) (fun u hu => H1.out u (List.mem_of_mem_take hu)) (by have := LN.out; unfold maxLen; omega) (by have := LN.out; omega) (by simp <;> omega) ?_; intro v1 w1 ho hg hp; rw [Nat.zero_add, List.nil_append, LN.out] at ho; obtain ⟨a1, cap1, rfl, _, _⟩ := ownsRow_form ho; have HO := Lib.hid ho; have K3 : Hid (Keep Non w w1) := Lib.hid (by first | exact K2e.out.grown hg (fun k e => .inr (by injection e with e; subst e; simp <;> omega)) | exact K2e.out.drew.grown hg (fun k e => .inr (by injection e with e; subst e; simp <;> omega))); have B0' : Hid (w1.heap[w.heap.size]? = some (DcB (.slice (some ⟨g, off, none⟩) ls.length cap) c)) := Lib.hid ((World.grownBy.block hg w.heap.size (lt_of_block B0e.out) (by simp [Value.ownBlock] <;> omega)).trans B0e.out); have B1' : Hid (w1.heap[w.heap.size + 1]? = some (DcB (.slice none 0 0) (fun _ => 0))) := Lib.hid ((World.grownBy.block hg (w.heap.size + 1) (lt_of_block B1e.out) (by simp [Value.ownBlock] <;> omega)).trans B1e.out); have OW : Hid (∀ g, (Value.slice a1 i cap1).ownBlock = some g → w.heap.size + 2 ≤ g) := Lib.hid (fun g e => by rcases hp with hp | hp <;> rw [hp] at e <;> simp [Value.ownBlock] at e <;> omega); have y0 := dc_0 B0'.out; clear ho hg hp)
      | (refine step_append_rd (by rfl) (.tmp 30) (.tmp 35) 47 (by rfl) (w.heap.size + 2) 9 i0 (.string ⟨#[]⟩) 16 Try.underlying47 hi0' hz0 hz1 hz2 rfl (.slice a1 i cap1) i (ls.take i) (by rfl) (by exact HO.out) (.slice (some A) (ls.length - (i + 1)) (cap - (i + 1))) (by simp [Act.eval, Act.put]) (ls.drop (i + 1)) (by exact RB.out.keepNon K3.out) (fun u hu => H1.out u (List.mem_of_mem_drop hu)) (by have := LN.out; have := LN2.out; unfold maxLen; omega) (by have := LN.out; have := LN2.out; omega) (by have := lt_of_block B1'.out; omega) ?_; have OW0 : Hid (w.heap.size + 2 ≤ w1.heap.size) := Lib.hid (by have := lt_of_block B1'.out; omega); intro v2 w2 ho hg hp; rw [LN2.out] at ho; obtain ⟨a2, cap2, rfl, hf1, hf2⟩ := ownsRow_form ho; have FT : Hid (Fits (.slice a2 (i + (ls.length - (i + 1))) cap2)) := Lib.hid ⟨_, _, _, rfl, hf1, hf2⟩; have K4 : Hid (Keep Non w w2) := Lib.hid ((K3.out).grown hg (fun k e => .inr (by have := OW.out k e; omega))); have B0s := (World.grownBy.block hg w.heap.size (lt_of_block (B0'.out)) (fun e => by have := OW.out _ e.symm; omega)).trans (B0'.out); have B1s := (World.grownBy.block hg (w.heap.size + 1) (lt_of_block (B1'.out)) (fun e => by have := OW.out _ e.symm; omega)).trans (B1'.out); have d0 := dc_0 B0s; have d1 := dc_1 B0s; have d2 := dc_2 B0s; have d3 := dc_3 B0s; have d4 := dc_4 B0s; have df := dc_f B0s; have SB0 := Lib.hid B0s; have SB1 := Lib.hid B1s; have HO2 := Lib.hid ho; have lw := lt_of_block B1s; have OW2 : Hid (∀ g, (Value.slice a2 (i + (ls.length - (i + 1))) cap2).ownBlock = some g → w.heap.size + 2 ≤ g) := Lib.hid (fun g e => by rcases hp with hp | hp; exact OW.out g (hp.symm.trans e); (rw [hp] at e; have := OW0.out; simp at e; omega)); clear ho hg hp B0s B1s hf1 hf2))
    all_goals (go_wp2_with fail; refine Met.intro ?_; go_step; (repeat apply Exists.intro); refine ⟨?_, rfl⟩)
    all_goals
      refine ⟨a2, _, cap2, dc_set SB0.out _, blk_skip SB1.out (by omega) 0 _, K4.out.setNew (Nat.le_refl _) 0 _, ?_, FT.out, fun g e => ⟨OW2.out g e, by have := (HO2.out.lt g e).2; simp [World.setCell]; omega⟩⟩
      have hr := Rd.ofOwns HO2.out
      rw [← List.eraseIdx_eq_take_drop_succ] at hr
      exact hr.keep (S := One w.heap.size) ((Keep.refl _ _).setOne 0 _) (fun g e h => by have := OW2.out g e; unfold One at h; omega)
  case rest =>
    obtain ⟨a2, n2, cap2, mb0, mb1, mk, mr, mf, mo⟩ := hcut
    have d0 := dc_0 mb0
    have d1 := dc_1 mb0
    have d2 := dc_2 mb0
    have d3 := dc_3 mb0
    have d4 := dc_4 mb0
    have df := dc_f mb0
    have lw := lt_of_block mb1
    have SB0 := Lib.hid mb0
    have SB1 := Lib.hid mb1
    have K4 := Lib.hid mk
    have FT := Lib.hid mf
    have MR := Lib.hid mr
    have OW2 := Lib.hid mo
    clear mb0 mb1 mk mr mf mo
    go_upto_region 6 with fail
    refine abs_world (fun W => W.heap[w.heap.size]? = some (DcB (.slice a2 n2 cap2) (bump c 1)) ∧ W.heap[w.heap.size + 1]? = some (DcB (.slice none 0 0) (fun _ => 0)) ∧ Keep Non w W ∧ Rd W (.slice a2 n2 cap2) (ls.eraseIdx i) ∧ (∀ g, (.slice a2 n2 cap2 : Value).ownBlock = some g → w.heap.size + 2 ≤ g ∧ g < W.heap.size)) ?_ ?_
    · refine ⟨dc_bump (i := 1) SB0.out (by omega), blk_skip SB1.out (by omega) _ _, ?_, ?_, fun g e => ⟨(OW2.out g e).1, by have := (OW2.out g e).2; simp [World.setCell]; omega⟩⟩
      · exact K4.out.setNew (Nat.le_refl _) _ _
      · exact (MR.out.keep (S := One w.heap.size) ((Keep.refl _ _).setOne _ _) (fun g e h => by have := (OW2.out g e).1; unfold One at h; omega))
    rintro W ⟨hb0, hb1, hk, hr, ho⟩
    have d0 := dc_0 hb0
    have d1 := dc_1 hb0
    have d2 := dc_2 hb0
    have d3 := dc_3 hb0
    have d4 := dc_4 hb0
    have e0 := dc_0 hb1
    have e1 := dc_1 hb1
    have e2 := dc_2 hb1
    have e3 := dc_3 hb1
    have e4 := dc_4 hb1
    have ef := dc_f hb1
    have F0 := Lib.hid (Five.of hb1)
    have k0 : (W.setCell ⟨w.heap.size + 1, 0, none⟩ (.slice a2 n2 cap2)).cell? ⟨w.heap.size + 1, 0, none⟩ = some (.slice a2 n2 cap2) := F0.out.get (by omega) _
    have k1 : ((W.setCell ⟨w.heap.size + 1, 0, none⟩ (.slice a2 n2 cap2)).setCell ⟨w.heap.size + 1, 1, none⟩ (.int .i64 (bump c 1 0))).cell? ⟨w.heap.size + 1, 1, none⟩ = some (.int .i64 (bump c 1 0)) := (F0.out.set 0 (.slice a2 n2 cap2)).get (by omega) _
    have k2 : (((W.setCell ⟨w.heap.size + 1, 0, none⟩ (.slice a2 n2 cap2)).setCell ⟨w.heap.size + 1, 1, none⟩ (.int .i64 (bump c 1 0))).setCell ⟨w.heap.size + 1, 2, none⟩ (.int .i64 (bump c 1 1))).cell? ⟨w.heap.size + 1, 2, none⟩ = some (.int .i64 (bump c 1 1)) := ((F0.out.set 0 (.slice a2 n2 cap2)).set 1 (.int .i64 (bump c 1 0))).get (by omega) _
    have k3 : ((((W.setCell ⟨w.heap.size + 1, 0, none⟩ (.slice a2 n2 cap2)).setCell ⟨w.heap.size + 1, 1, none⟩ (.int .i64 (bump c 1 0))).setCell ⟨w.heap.size + 1, 2, none⟩ (.int .i64 (bump c 1 1))).setCell ⟨w.heap.size + 1, 3, none⟩ (.int .i64 (bump c 1 2))).cell? ⟨w.heap.size + 1, 3, none⟩ = some (.int .i64 (bump c 1 2)) := (((F0.out.set 0 (.slice a2 n2 cap2)).set 1 (.int .i64 (bump c 1 0))).set 2 (.int .i64 (bump c 1 1))).get (by omega) _
    have k4 : (((((W.setCell ⟨w.heap.size + 1, 0, none⟩ (.slice a2 n2 cap2)).setCell ⟨w.heap.size + 1, 1, none⟩ (.int .i64 (bump c 1 0))).setCell ⟨w.heap.size + 1, 2, none⟩ (.int .i64 (bump c 1 1))).setCell ⟨w.heap.size + 1, 3, none⟩ (.int .i64 (bump c 1 2))).setCell ⟨w.heap.size + 1, 4, none⟩ (.int .i64 (bump c 1 3))).cell? ⟨w.heap.size + 1, 4, none⟩ = some (.int .i64 (bump c 1 3)) := ((((F0.out.set 0 (.slice a2 n2 cap2)).set 1 (.int .i64 (bump c 1 0))).set 2 (.int .i64 (bump c 1 1))).set 3 (.int .i64 (bump c 1 2))).get (by omega) _
    have HK := Lib.hid hk
    have HRD := Lib.hid hr
    have HOB := Lib.hid ho
    clear hb0 hb1 hk hr ho
    go_wp2_with fail
    go_region
    all_goals go_wp2_with fail
    all_goals
      refine bodyPost_ret (v := .tuple #[.string s, .agg #[.slice a2 n2 cap2, .int .i64 ((bump c 1) 0), .int .i64 ((bump c 1) 1), .int .i64 ((bump c 1) 2), .int .i64 ((bump c 1) 3)], .int .i64 0]) (by simp [results, Try.results27, go_sem, k0, k1, k2, k3, k4]) rfl ?_
      have KS : Keep (One (w.heap.size + 1)) W (((((W.setCell ⟨w.heap.size + 1, 0, none⟩ (.slice a2 n2 cap2)).setCell ⟨w.heap.size + 1, 1, none⟩ (.int .i64 (bump c 1 0))).setCell ⟨w.heap.size + 1, 2, none⟩ (.int .i64 (bump c 1 1))).setCell ⟨w.heap.size + 1, 3, none⟩ (.int .i64 (bump c 1 2))).setCell ⟨w.heap.size + 1, 4, none⟩ (.int .i64 (bump c 1 3))).drew := ((((((Keep.refl _ _).setOne _ _).setOne _ _).setOne _ _).setOne _ _).setOne _ _).drew
      have KN : Keep Non w (((((W.setCell ⟨w.heap.size + 1, 0, none⟩ (.slice a2 n2 cap2)).setCell ⟨w.heap.size + 1, 1, none⟩ (.int .i64 (bump c 1 0))).setCell ⟨w.heap.size + 1, 2, none⟩ (.int .i64 (bump c 1 1))).setCell ⟨w.heap.size + 1, 3, none⟩ (.int .i64 (bump c 1 2))).setCell ⟨w.heap.size + 1, 4, none⟩ (.int .i64 (bump c 1 3))).drew := HK.out.trans KS (fun _ _ h => h) (fun i hi h => by unfold One at h; show False; omega)
      exact ⟨_, rfl, KN, HRD.out.keep KS (fun g e h => by have := (HOB.out g e).1; unfold One at h; omega), FT.out, fun g e => .inr ⟨by have := (HOB.out g e).1; omega, KS.lt (HOB.out g e).2⟩⟩

end Go.Proofs.Ytggnkcpnbnpbhaa
