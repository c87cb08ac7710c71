/- The document's line: a message doubled, walked. -/
import Derived.Test.YtggnkcpnbnpbhaaDoc
namespace Go.Proofs.Ytggnkcpnbnpbhaa
open Go.RowKit
set_option linter.unusedVariables false

set_option maxRecDepth 100000 in
set_option maxHeartbeats 3200000 in
theorem rtwice_ok (g off cap : Nat) (c : Nat → Int) (ls : List Value) (i : Nat) (s : ByteArray) (w : World) (h : Rd w (.slice (some ⟨g, off, none⟩) ls.length cap) ls) (h1 : ∀ u ∈ ls, u.oneCell' = true) (hs : ls[i]? = some (.string s)) (hcap : ls.length ≤ cap) (hcm : cap ≤ maxLen) (hn : ls.length < 64) (hc0 : 0 ≤ c 3) (hc1 : c 3 ≤ 1000000) :
    Calls Try.prog 28 #[.agg #[.slice (some ⟨g, off, none⟩) ls.length cap, .int .i64 (c 0), .int .i64 (c 1), .int .i64 (c 2), .int .i64 (c 3)], .int .i64 i] w (RDone w (.slice (some ⟨g, off, none⟩) ls.length cap) (bump c 3) (ls ++ [.string s]) 0) := by
  unfold maxLen at hcm
  have hil := (List.getElem?_eq_some_iff.1 hs).1
  have hcell : w.cell? ⟨g, off + i, none⟩ = some (.string s) := by
    obtain ⟨a', cap', e1, hx⟩ := h
    obtain ⟨g', off', e2, hc⟩ := hx (by intro e; rw [e] at hil; simp at hil)
    injection e1 with e1
    subst e1
    injection e2 with e2
    injection e2 with e2 e3
    subst e2
    subst e3
    exact hc i _ hs
  have H1 := Lib.hid h1
  have HR := Lib.hid h
  have hi0 : (0 : Int) ≤ (i : Int) := by omega
  have hi1 : (i : Int) < (ls.length : Int) := by omega
  have hlg : g < w.heap.size := World.block_lt_of_cell? _ _ hcell
  have hg1 : ¬ g = w.heap.size := by omega
  have hg2 : ¬ g = w.heap.size + 1 := by omega
  have hg3 : ¬ g = w.heap.size + 1 + 1 := by omega
  have hg4 : ¬ g = w.heap.size + 2 := by omega
  have hg5 : ¬ g = w.heap.size + 3 := by omega
  have K2 : Hid (Keep Non w ((w.alloc (DcB (.slice (some ⟨g, off, none⟩) ls.length cap) c)).alloc (DcB (.slice none 0 0) (fun _ => 0)))) := Lib.hid (((Keep.refl _ _).alloc _).alloc _)
  have B0 : Hid (((w.alloc (DcB (.slice (some ⟨g, off, none⟩) ls.length cap) c)).alloc (DcB (.slice none 0 0) (fun _ => 0))).heap[w.heap.size]? = some (DcB (.slice (some ⟨g, off, none⟩) ls.length cap) c)) := Lib.hid (blk_alloc (blk_new _ _) _)
  have B1 : Hid (((w.alloc (DcB (.slice (some ⟨g, off, none⟩) ls.length cap) c)).alloc (DcB (.slice none 0 0) (fun _ => 0))).heap[w.heap.size + 1]? = some (DcB (.slice none 0 0) (fun _ => 0))) := by
    have := blk_new (w.alloc (DcB (.slice (some ⟨g, off, none⟩) ls.length cap) c)) (DcB (.slice none 0 0) (fun _ => 0))
    rw [World.size_alloc] at this
    exact Lib.hid this
  obtain ⟨i0, hi0', hz0, hz1, hz2⟩ := info_parts infoStr
  have KX1 : Hid (Keep Non w (((w.alloc (DcB (.slice (some ⟨g, off, none⟩) ls.length cap) c)).alloc (DcB (.slice none 0 0) (fun _ => 0))).alloc (.cells #[] 9))) := Lib.hid (K2.out.alloc _)
  have BX1 : Hid ((((w.alloc (DcB (.slice (some ⟨g, off, none⟩) ls.length cap) c)).alloc (DcB (.slice none 0 0) (fun _ => 0))).alloc (.cells #[] 9)).heap[w.heap.size]? = some (DcB (.slice (some ⟨g, off, none⟩) ls.length cap) c)) := Lib.hid (blk_alloc B0.out _)
  have BY1 : Hid ((((w.alloc (DcB (.slice (some ⟨g, off, none⟩) ls.length cap) c)).alloc (DcB (.slice none 0 0) (fun _ => 0))).alloc (.cells #[] 9)).heap[w.heap.size + 1]? = some (DcB (.slice none 0 0) (fun _ => 0))) := Lib.hid (blk_alloc B1.out _)
  have hown1 : Hid ((((w.alloc (DcB (.slice (some ⟨g, off, none⟩) ls.length cap) c)).alloc (DcB (.slice none 0 0) (fun _ => 0))).alloc (.cells #[] 9)).ownsRow (w.heap.size + 2) 9 1 (.slice (some ⟨w.heap.size + 2, 0, none⟩) 0 0) 0 []) := by
    have := World.ownsRow_made ((w.alloc (DcB (.slice (some ⟨g, off, none⟩) ls.length cap) c)).alloc (DcB (.slice none 0 0) (fun _ => 0))) (e := 9) (size := 1) (base := w.heap.size + 2) #[] 0 (by simp <;> omega) (by decide) rfl
    rw [World.size_alloc, World.size_alloc] at this
    exact Lib.hid this
  have KX2 : Hid (Keep Non w ((((w.alloc (DcB (.slice (some ⟨g, off, none⟩) ls.length cap) c)).alloc (DcB (.slice none 0 0) (fun _ => 0))).alloc (.cells #[] 9)).alloc (.cells #[.string s] 9))) := Lib.hid ((K2.out.alloc _).alloc _)
  have BX2 : Hid (((((w.alloc (DcB (.slice (some ⟨g, off, none⟩) ls.length cap) c)).alloc (DcB (.slice none 0 0) (fun _ => 0))).alloc (.cells #[] 9)).alloc (.cells #[.string s] 9)).heap[w.heap.size]? = some (DcB (.slice (some ⟨g, off, none⟩) ls.length cap) c)) := Lib.hid (blk_alloc (blk_alloc B0.out _) _)
  have BY2 : Hid (((((w.alloc (DcB (.slice (some ⟨g, off, none⟩) ls.length cap) c)).alloc (DcB (.slice none 0 0) (fun _ => 0))).alloc (.cells #[] 9)).alloc (.cells #[.string s] 9)).heap[w.heap.size + 1]? = some (DcB (.slice none 0 0) (fun _ => 0))) := Lib.hid (blk_alloc (blk_alloc B1.out _) _)
  have hown2 : Hid (((((w.alloc (DcB (.slice (some ⟨g, off, none⟩) ls.length cap) c)).alloc (DcB (.slice none 0 0) (fun _ => 0))).alloc (.cells #[] 9)).alloc (.cells #[.string s] 9)).ownsRow (w.heap.size + 2) 9 1 (.slice (some ⟨w.heap.size + 2, 0, none⟩) 0 0) 0 []) := by
    have := World.ownsRow_made ((w.alloc (DcB (.slice (some ⟨g, off, none⟩) ls.length cap) c)).alloc (DcB (.slice none 0 0) (fun _ => 0))) (e := 9) (size := 1) (base := w.heap.size + 2) #[] 0 (by simp <;> omega) (by decide) rfl
    rw [World.size_alloc, World.size_alloc] at this
    exact Lib.hid (this.alloc _)
  have OX2 : Hid (Rd ((((w.alloc (DcB (.slice (some ⟨g, off, none⟩) ls.length cap) c)).alloc (DcB (.slice none 0 0) (fun _ => 0))).alloc (.cells #[] 9)).alloc (.cells #[.string s] 9)) (.slice (some ⟨w.heap.size + 3, 0, none⟩) 1 1) [.string s]) := by
    have := rd_one (((w.alloc (DcB (.slice (some ⟨g, off, none⟩) ls.length cap) c)).alloc (DcB (.slice none 0 0) (fun _ => 0))).alloc (.cells #[] 9)) (.string s) 9
    rw [World.size_alloc, World.size_alloc, World.size_alloc] at this
    exact Lib.hid this
  have KX3 : Hid (Keep Non w ((((w.alloc (DcB (.slice (some ⟨g, off, none⟩) ls.length cap) c)).alloc (DcB (.slice none 0 0) (fun _ => 0))).alloc (.cells #[.string s] 9)).alloc (.cells #[] 9))) := Lib.hid ((K2.out.alloc _).alloc _)
  have BX3 : Hid (((((w.alloc (DcB (.slice (some ⟨g, off, none⟩) ls.length cap) c)).alloc (DcB (.slice none 0 0) (fun _ => 0))).alloc (.cells #[.string s] 9)).alloc (.cells #[] 9)).heap[w.heap.size]? = some (DcB (.slice (some ⟨g, off, none⟩) ls.length cap) c)) := Lib.hid (blk_alloc (blk_alloc B0.out _) _)
  have BY3 : Hid (((((w.alloc (DcB (.slice (some ⟨g, off, none⟩) ls.length cap) c)).alloc (DcB (.slice none 0 0) (fun _ => 0))).alloc (.cells #[.string s] 9)).alloc (.cells #[] 9)).heap[w.heap.size + 1]? = some (DcB (.slice none 0 0) (fun _ => 0))) := Lib.hid (blk_alloc (blk_alloc B1.out _) _)
  have hown3 : Hid (((((w.alloc (DcB (.slice (some ⟨g, off, none⟩) ls.length cap) c)).alloc (DcB (.slice none 0 0) (fun _ => 0))).alloc (.cells #[.string s] 9)).alloc (.cells #[] 9)).ownsRow (w.heap.size + 2) 9 1 (.slice (some ⟨w.heap.size + 3, 0, none⟩) 0 0) 0 []) := by
    have := World.ownsRow_made (((w.alloc (DcB (.slice (some ⟨g, off, none⟩) ls.length cap) c)).alloc (DcB (.slice none 0 0) (fun _ => 0))).alloc (.cells #[.string s] 9)) (e := 9) (size := 1) (base := w.heap.size + 2) #[] 0 (by simp <;> omega) (by decide) rfl
    rw [World.size_alloc, World.size_alloc, World.size_alloc] at this
    exact Lib.hid this
  have OX3 : Hid (Rd ((((w.alloc (DcB (.slice (some ⟨g, off, none⟩) ls.length cap) c)).alloc (DcB (.slice none 0 0) (fun _ => 0))).alloc (.cells #[.string s] 9)).alloc (.cells #[] 9)) (.slice (some ⟨w.heap.size + 2, 0, none⟩) 1 1) [.string s]) := by
    have := rd_one ((w.alloc (DcB (.slice (some ⟨g, off, none⟩) ls.length cap) c)).alloc (DcB (.slice none 0 0) (fun _ => 0))) (.string s) 9
    rw [World.size_alloc, World.size_alloc] at this
    exact Lib.hid (this.keepNon ((Keep.refl _ _).alloc _))
  have yl : (((w.alloc (.cells #[.slice (some ⟨g, off, none⟩) ls.length cap, .int .i64 (c 0), .int .i64 (c 1), .int .i64 (c 2), .int .i64 (c 3)] 50)).alloc (.cells #[.slice none 0 0, .int .i64 0, .int .i64 0, .int .i64 0, .int .i64 0] 50)).alloc (.cells #[] 9)).cell? ⟨g, off + i, none⟩ = some (.string s) := (World.cell?_of_block (KX1.out.block g hlg (fun e => e))).trans hcell
  clear hs h h1
  go_enter Try.func28, Try.ntmps28
  go_upto_region 5 with fail
  go_cut [] (fun wx => DocMid w wx c (ls ++ [.string s]))
  case first =>
    go_region_law (first
    | (refine step_append_rd (by rfl) (.tmp 21) (.tmp 23) 47 (by rfl) (w.heap.size + 2) 9 i0 (.string ⟨#[]⟩) 16 Try.underlying47 hi0' hz0 hz1 hz2 rfl (.slice (some ⟨w.heap.size + 2, 0, none⟩) 0 0) 0 [] (by rfl) (by exact hown1.out.drew) (.slice (some ⟨g, off, none⟩) ls.length cap) (by first | (simp [Act.eval]; done) | simp [Act.eval, Act.put]) ls (by exact HR.out.keepNon KX1.out.drew) H1.out (by unfold maxLen; omega) (by omega) (by simp <;> omega) ?_; intro v1 w1 ho hg hp; rw [Nat.zero_add, List.nil_append] at ho; obtain ⟨a1, cap1, rfl, _, _⟩ := ownsRow_form ho; have HO := Lib.hid ho; have K3 : Hid (Keep Non w w1) := Lib.hid (KX1.out.drew.grown hg (fun k e => .inr (by injection e with e; subst e; simp <;> omega))); have B0' : Hid (w1.heap[w.heap.size]? = some (DcB (.slice (some ⟨g, off, none⟩) ls.length cap) c)) := Lib.hid ((World.grownBy.block hg w.heap.size (lt_of_block BX1.out) (by simp [Value.ownBlock] <;> omega)).trans BX1.out); have B1' : Hid (w1.heap[w.heap.size + 1]? = some (DcB (.slice none 0 0) (fun _ => 0))) := Lib.hid ((World.grownBy.block hg (w.heap.size + 1) (lt_of_block BY1.out) (by simp [Value.ownBlock] <;> omega)).trans BY1.out); have OW : Hid (∀ g, (Value.slice a1 ls.length cap1).ownBlock = some g → w.heap.size + 2 ≤ g) := Lib.hid (fun g e => by rcases hp with hp | hp <;> rw [hp] at e <;> simp [Value.ownBlock] at e <;> omega); have y0 := dc_0 B0'.out; have y1 : w1.cell? ⟨g, off + i, none⟩ = some (.string s) := (World.cell?_of_block (K3.out.block g hlg (fun e => e))).trans hcell; clear ho hg hp)
    | (refine step_append_rd (by rfl) (.tmp 21) (.tmp 23) 47 (by rfl) (w.heap.size + 2) 9 i0 (.string ⟨#[]⟩) 16 Try.underlying47 hi0' hz0 hz1 hz2 rfl (.slice (some ⟨w.heap.size + 2, 0, none⟩) 0 0) 0 [] (by rfl) (by exact hown2.out.drew) (.slice (some ⟨g, off, none⟩) ls.length cap) (by first | (simp [Act.eval]; done) | simp [Act.eval, Act.put]) ls (by exact HR.out.keepNon KX2.out.drew) H1.out (by unfold maxLen; omega) (by omega) (by simp <;> omega) ?_; intro v1 w1 ho hg hp; rw [Nat.zero_add, List.nil_append] at ho; obtain ⟨a1, cap1, rfl, _, _⟩ := ownsRow_form ho; have HO := Lib.hid ho; have K3 : Hid (Keep Non w w1) := Lib.hid (KX2.out.drew.grown hg (fun k e => .inr (by injection e with e; subst e; simp <;> omega))); have B0' : Hid (w1.heap[w.heap.size]? = some (DcB (.slice (some ⟨g, off, none⟩) ls.length cap) c)) := Lib.hid ((World.grownBy.block hg w.heap.size (lt_of_block BX2.out) (by simp [Value.ownBlock] <;> omega)).trans BX2.out); have B1' : Hid (w1.heap[w.heap.size + 1]? = some (DcB (.slice none 0 0) (fun _ => 0))) := Lib.hid ((World.grownBy.block hg (w.heap.size + 1) (lt_of_block BY2.out) (by simp [Value.ownBlock] <;> omega)).trans BY2.out); have OW : Hid (∀ g, (Value.slice a1 ls.length cap1).ownBlock = some g → w.heap.size + 2 ≤ g) := Lib.hid (fun g e => by rcases hp with hp | hp <;> rw [hp] at e <;> simp [Value.ownBlock] at e <;> omega); have OB : Hid (Rd w1 (.slice (some ⟨w.heap.size + 3, 0, none⟩) 1 1) [.string s]) := Lib.hid (Rd.keep (S := One (w.heap.size + 2)) (w := (Go.World.drew ((((w.alloc (DcB (.slice (some ⟨g, off, none⟩) ls.length cap) c)).alloc (DcB (.slice none 0 0) (fun _ => 0))).alloc (.cells #[] 9)).alloc (.cells #[.string s] 9)))) OX2.out ((Keep.refl _ _).grown hg (fun k e => .inl (by injection e with e; exact e.symm))) (fun g e h => by unfold One at h; simp [Value.ownBlock] at e; omega)); have y0 := dc_0 B0'.out; have y1 : w1.cell? ⟨g, off + i, none⟩ = some (.string s) := (World.cell?_of_block (K3.out.block g hlg (fun e => e))).trans hcell; clear ho hg hp)
    | (refine step_append_rd (by rfl) (.tmp 21) (.tmp 23) 47 (by rfl) (w.heap.size + 2) 9 i0 (.string ⟨#[]⟩) 16 Try.underlying47 hi0' hz0 hz1 hz2 rfl (.slice (some ⟨w.heap.size + 3, 0, none⟩) 0 0) 0 [] (by rfl) (by exact hown3.out.drew) (.slice (some ⟨g, off, none⟩) ls.length cap) (by first | (simp [Act.eval]; done) | simp [Act.eval, Act.put]) ls (by exact HR.out.keepNon KX3.out.drew) H1.out (by unfold maxLen; omega) (by omega) (by simp <;> omega) ?_; intro v1 w1 ho hg hp; rw [Nat.zero_add, List.nil_append] at ho; obtain ⟨a1, cap1, rfl, _, _⟩ := ownsRow_form ho; have HO := Lib.hid ho; have K3 : Hid (Keep Non w w1) := Lib.hid (KX3.out.drew.grown hg (fun k e => .inr (by injection e with e; subst e; simp <;> omega))); have B0' : Hid (w1.heap[w.heap.size]? = some (DcB (.slice (some ⟨g, off, none⟩) ls.length cap) c)) := Lib.hid ((World.grownBy.block hg w.heap.size (lt_of_block BX3.out) (by simp [Value.ownBlock] <;> omega)).trans BX3.out); have B1' : Hid (w1.heap[w.heap.size + 1]? = some (DcB (.slice none 0 0) (fun _ => 0))) := Lib.hid ((World.grownBy.block hg (w.heap.size + 1) (lt_of_block BY3.out) (by simp [Value.ownBlock] <;> omega)).trans BY3.out); have OW : Hid (∀ g, (Value.slice a1 ls.length cap1).ownBlock = some g → w.heap.size + 2 ≤ g) := Lib.hid (fun g e => by rcases hp with hp | hp <;> rw [hp] at e <;> simp [Value.ownBlock] at e <;> omega); have OB : Hid (Rd w1 (.slice (some ⟨w.heap.size + 2, 0, none⟩) 1 1) [.string s]) := Lib.hid (Rd.keep (S := One (w.heap.size + 3)) (w := (Go.World.drew ((((w.alloc (DcB (.slice (some ⟨g, off, none⟩) ls.length cap) c)).alloc (DcB (.slice none 0 0) (fun _ => 0))).alloc (.cells #[.string s] 9)).alloc (.cells #[] 9)))) OX3.out ((Keep.refl _ _).grown hg (fun k e => .inl (by injection e with e; exact e.symm))) (fun g e h => by unfold One at h; simp [Value.ownBlock] at e; omega)); have y0 := dc_0 B0'.out; have y1 : w1.cell? ⟨g, off + i, none⟩ = some (.string s) := (World.cell?_of_block (K3.out.block g hlg (fun e => e))).trans hcell; clear ho hg hp)
    | (refine step_append_rd (by rfl) (.tmp 24) (.tmp 30) 47 (by rfl) (w.heap.size + 2) 9 i0 (.string ⟨#[]⟩) 16 Try.underlying47 hi0' hz0 hz1 hz2 rfl (.slice a1 ls.length cap1) ls.length ls (by rfl) (by exact HO.out.alloc _) (.slice (some ⟨w1.heap.size, 0, none⟩) 1 1) (by rfl) [.string s] (by exact rd_one _ _ _) (by intro u hu; simp at hu; subst hu; rfl) (by unfold maxLen; simp; omega) (by simp; omega) (by have := lt_of_block B1'.out; simp; omega) ?_; have OW0 : Hid (w.heap.size + 2 ≤ w1.heap.size) := Lib.hid (by have := lt_of_block B1'.out; omega); intro v2 w2 ho hg hp; simp only [List.length_singleton] at ho; obtain ⟨a2, cap2, rfl, hf1, hf2⟩ := ownsRow_form ho; have FT : Hid (Fits (.slice a2 (ls.length + 1) cap2)) := Lib.hid ⟨_, _, _, rfl, hf1, hf2⟩; have K4 : Hid (Keep Non w w2) := Lib.hid ((K3.out.alloc _).grown hg (fun k e => .inr (by have := OW.out k e; omega))); have B0s := (World.grownBy.block hg w.heap.size (lt_of_block (blk_alloc B0'.out _)) (fun e => by have := OW.out _ e.symm; omega)).trans (blk_alloc B0'.out _); have B1s := (World.grownBy.block hg (w.heap.size + 1) (lt_of_block (blk_alloc B1'.out _)) (fun e => by have := OW.out _ e.symm; omega)).trans (blk_alloc B1'.out _); have d0 := dc_0 B0s; have d1 := dc_1 B0s; have d2 := dc_2 B0s; have d3 := dc_3 B0s; have d4 := dc_4 B0s; have df := dc_f B0s; have SB0 := Lib.hid B0s; have SB1 := Lib.hid B1s; have HO2 := Lib.hid ho; have lw := lt_of_block B1s; have OW2 : Hid (∀ g, (Value.slice a2 (ls.length + 1) cap2).ownBlock = some g → w.heap.size + 2 ≤ g) := Lib.hid (fun g e => by rcases hp with hp | hp; exact OW.out g (hp.symm.trans e); (rw [hp] at e; have := OW0.out; simp at e; omega)); clear ho hg hp B0s B1s hf1 hf2)
    | (refine step_append_rd (by rfl) (.tmp 24) (.tmp 30) 47 (by rfl) (w.heap.size + 2) 9 i0 (.string ⟨#[]⟩) 16 Try.underlying47 hi0' hz0 hz1 hz2 rfl (.slice a1 ls.length cap1) ls.length ls (by rfl) (by exact HO.out) (.slice (some ⟨w.heap.size + 2, 0, none⟩) 1 1) (by rfl) [.string s] (by exact OB.out) (by intro u hu; simp at hu; subst hu; rfl) (by unfold maxLen; simp; omega) (by simp; omega) (by have := lt_of_block B1'.out; simp; omega) ?_; have OW0 : Hid (w.heap.size + 2 ≤ w1.heap.size) := Lib.hid (by have := lt_of_block B1'.out; omega); intro v2 w2 ho hg hp; simp only [List.length_singleton] at ho; obtain ⟨a2, cap2, rfl, hf1, hf2⟩ := ownsRow_form ho; have FT : Hid (Fits (.slice a2 (ls.length + 1) cap2)) := Lib.hid ⟨_, _, _, rfl, hf1, hf2⟩; have K4 : Hid (Keep Non w w2) := Lib.hid ((K3.out).grown hg (fun k e => .inr (by have := OW.out k e; omega))); have B0s := (World.grownBy.block hg w.heap.size (lt_of_block (B0'.out)) (fun e => by have := OW.out _ e.symm; omega)).trans (B0'.out); have B1s := (World.grownBy.block hg (w.heap.size + 1) (lt_of_block (B1'.out)) (fun e => by have := OW.out _ e.symm; omega)).trans (B1'.out); have d0 := dc_0 B0s; have d1 := dc_1 B0s; have d2 := dc_2 B0s; have d3 := dc_3 B0s; have d4 := dc_4 B0s; have df := dc_f B0s; have SB0 := Lib.hid B0s; have SB1 := Lib.hid B1s; have HO2 := Lib.hid ho; have lw := lt_of_block B1s; have OW2 : Hid (∀ g, (Value.slice a2 (ls.length + 1) cap2).ownBlock = some g → w.heap.size + 2 ≤ g) := Lib.hid (fun g e => by rcases hp with hp | hp; exact OW.out g (hp.symm.trans e); (rw [hp] at e; have := OW0.out; simp at e; omega)); clear ho hg hp B0s B1s hf1 hf2)
    | (refine step_append_rd (by rfl) (.tmp 24) (.tmp 30) 47 (by rfl) (w.heap.size + 2) 9 i0 (.string ⟨#[]⟩) 16 Try.underlying47 hi0' hz0 hz1 hz2 rfl (.slice a1 ls.length cap1) ls.length ls (by rfl) (by exact HO.out) (.slice (some ⟨w.heap.size + 3, 0, none⟩) 1 1) (by rfl) [.string s] (by exact OB.out) (by intro u hu; simp at hu; subst hu; rfl) (by unfold maxLen; simp; omega) (by simp; omega) (by have := lt_of_block B1'.out; simp; omega) ?_; have OW0 : Hid (w.heap.size + 2 ≤ w1.heap.size) := Lib.hid (by have := lt_of_block B1'.out; omega); intro v2 w2 ho hg hp; simp only [List.length_singleton] at ho; obtain ⟨a2, cap2, rfl, hf1, hf2⟩ := ownsRow_form ho; have FT : Hid (Fits (.slice a2 (ls.length + 1) cap2)) := Lib.hid ⟨_, _, _, rfl, hf1, hf2⟩; have K4 : Hid (Keep Non w w2) := Lib.hid ((K3.out).grown hg (fun k e => .inr (by have := OW.out k e; omega))); have B0s := (World.grownBy.block hg w.heap.size (lt_of_block (B0'.out)) (fun e => by have := OW.out _ e.symm; omega)).trans (B0'.out); have B1s := (World.grownBy.block hg (w.heap.size + 1) (lt_of_block (B1'.out)) (fun e => by have := OW.out _ e.symm; omega)).trans (B1'.out); have d0 := dc_0 B0s; have d1 := dc_1 B0s; have d2 := dc_2 B0s; have d3 := dc_3 B0s; have d4 := dc_4 B0s; have df := dc_f B0s; have SB0 := Lib.hid B0s; have SB1 := Lib.hid B1s; have HO2 := Lib.hid ho; have lw := lt_of_block B1s; have OW2 : Hid (∀ g, (Value.slice a2 (ls.length + 1) cap2).ownBlock = some g → w.heap.size + 2 ≤ g) := Lib.hid (fun g e => by rcases hp with hp | hp; exact OW.out g (hp.symm.trans e); (rw [hp] at e; have := OW0.out; simp at e; omega)); clear ho hg hp B0s B1s hf1 hf2))
    all_goals (go_wp2_with fail; refine Met.intro ?_; go_step; (repeat apply Exists.intro); refine ⟨?_, rfl⟩)
    all_goals
      refine ⟨a2, _, cap2, dc_set SB0.out _, blk_skip SB1.out (by omega) 0 _, K4.out.setNew (Nat.le_refl _) 0 _, ?_, FT.out, fun g e => ⟨OW2.out g e, by have := (HO2.out.lt g e).2; simp [World.setCell]; omega⟩⟩
      exact (Rd.ofOwns HO2.out).keep (S := One w.heap.size) ((Keep.refl _ _).setOne 0 _) (fun g e h => by have := OW2.out g e; unfold One at h; omega)
  case rest =>
    obtain ⟨a2, n2, cap2, mb0, mb1, mk, mr, mf, mo⟩ := hcut
    have d0 := dc_0 mb0
    have d1 := dc_1 mb0
    have d2 := dc_2 mb0
    have d3 := dc_3 mb0
    have d4 := dc_4 mb0
    have df := dc_f mb0
    have lw := lt_of_block mb1
    have SB0 := Lib.hid mb0
    have SB1 := Lib.hid mb1
    have K4 := Lib.hid mk
    have FT := Lib.hid mf
    have MR := Lib.hid mr
    have OW2 := Lib.hid mo
    clear mb0 mb1 mk mr mf mo
    go_upto_region 7 with fail
    refine abs_world (fun W => W.heap[w.heap.size]? = some (DcB (.slice a2 n2 cap2) (bump c 3)) ∧ W.heap[w.heap.size + 1]? = some (DcB (.slice none 0 0) (fun _ => 0)) ∧ Keep Non w W ∧ Rd W (.slice a2 n2 cap2) (ls ++ [.string s]) ∧ (∀ g, (.slice a2 n2 cap2 : Value).ownBlock = some g → w.heap.size + 2 ≤ g ∧ g < W.heap.size)) ?_ ?_
    · refine ⟨dc_bump (i := 3) SB0.out (by omega), blk_skip SB1.out (by omega) _ _, ?_, ?_, fun g e => ⟨(OW2.out g e).1, by have := (OW2.out g e).2; simp [World.setCell]; omega⟩⟩
      · exact K4.out.setNew (Nat.le_refl _) _ _
      · exact (MR.out.keep (S := One w.heap.size) ((Keep.refl _ _).setOne _ _) (fun g e h => by have := (OW2.out g e).1; unfold One at h; omega))
    rintro W ⟨hb0, hb1, hk, hr, ho⟩
    have d0 := dc_0 hb0
    have d1 := dc_1 hb0
    have d2 := dc_2 hb0
    have d3 := dc_3 hb0
    have d4 := dc_4 hb0
    have e0 := dc_0 hb1
    have e1 := dc_1 hb1
    have e2 := dc_2 hb1
    have e3 := dc_3 hb1
    have e4 := dc_4 hb1
    have ef := dc_f hb1
    have F0 := Lib.hid (Five.of hb1)
    have k0 : (W.setCell ⟨w.heap.size + 1, 0, none⟩ (.slice a2 n2 cap2)).cell? ⟨w.heap.size + 1, 0, none⟩ = some (.slice a2 n2 cap2) := F0.out.get (by omega) _
    have k1 : ((W.setCell ⟨w.heap.size + 1, 0, none⟩ (.slice a2 n2 cap2)).setCell ⟨w.heap.size + 1, 1, none⟩ (.int .i64 (bump c 3 0))).cell? ⟨w.heap.size + 1, 1, none⟩ = some (.int .i64 (bump c 3 0)) := (F0.out.set 0 (.slice a2 n2 cap2)).get (by omega) _
    have k2 : (((W.setCell ⟨w.heap.size + 1, 0, none⟩ (.slice a2 n2 cap2)).setCell ⟨w.heap.size + 1, 1, none⟩ (.int .i64 (bump c 3 0))).setCell ⟨w.heap.size + 1, 2, none⟩ (.int .i64 (bump c 3 1))).cell? ⟨w.heap.size + 1, 2, none⟩ = some (.int .i64 (bump c 3 1)) := ((F0.out.set 0 (.slice a2 n2 cap2)).set 1 (.int .i64 (bump c 3 0))).get (by omega) _
    have k3 : ((((W.setCell ⟨w.heap.size + 1, 0, none⟩ (.slice a2 n2 cap2)).setCell ⟨w.heap.size + 1, 1, none⟩ (.int .i64 (bump c 3 0))).setCell ⟨w.heap.size + 1, 2, none⟩ (.int .i64 (bump c 3 1))).setCell ⟨w.heap.size + 1, 3, none⟩ (.int .i64 (bump c 3 2))).cell? ⟨w.heap.size + 1, 3, none⟩ = some (.int .i64 (bump c 3 2)) := (((F0.out.set 0 (.slice a2 n2 cap2)).set 1 (.int .i64 (bump c 3 0))).set 2 (.int .i64 (bump c 3 1))).get (by omega) _
    have k4 : (((((W.setCell ⟨w.heap.size + 1, 0, none⟩ (.slice a2 n2 cap2)).setCell ⟨w.heap.size + 1, 1, none⟩ (.int .i64 (bump c 3 0))).setCell ⟨w.heap.size + 1, 2, none⟩ (.int .i64 (bump c 3 1))).setCell ⟨w.heap.size + 1, 3, none⟩ (.int .i64 (bump c 3 2))).setCell ⟨w.heap.size + 1, 4, none⟩ (.int .i64 (bump c 3 3))).cell? ⟨w.heap.size + 1, 4, none⟩ = some (.int .i64 (bump c 3 3)) := ((((F0.out.set 0 (.slice a2 n2 cap2)).set 1 (.int .i64 (bump c 3 0))).set 2 (.int .i64 (bump c 3 1))).set 3 (.int .i64 (bump c 3 2))).get (by omega) _
    have HK := Lib.hid hk
    have HRD := Lib.hid hr
    have HOB := Lib.hid ho
    clear hb0 hb1 hk hr ho
    go_wp2_with fail
    refine bodyPost_ret (v := .tuple #[.agg #[.slice a2 n2 cap2, .int .i64 ((bump c 3) 0), .int .i64 ((bump c 3) 1), .int .i64 ((bump c 3) 2), .int .i64 ((bump c 3) 3)], .int .i64 0]) (by simp [results, Try.results28, go_sem, k0, k1, k2, k3, k4]) rfl ?_
    have KS : Keep (One (w.heap.size + 1)) W (((((W.setCell ⟨w.heap.size + 1, 0, none⟩ (.slice a2 n2 cap2)).setCell ⟨w.heap.size + 1, 1, none⟩ (.int .i64 (bump c 3 0))).setCell ⟨w.heap.size + 1, 2, none⟩ (.int .i64 (bump c 3 1))).setCell ⟨w.heap.size + 1, 3, none⟩ (.int .i64 (bump c 3 2))).setCell ⟨w.heap.size + 1, 4, none⟩ (.int .i64 (bump c 3 3))) := ((((((Keep.refl _ _).setOne _ _).setOne _ _).setOne _ _).setOne _ _).setOne _ _)
    have KN : Keep Non w (((((W.setCell ⟨w.heap.size + 1, 0, none⟩ (.slice a2 n2 cap2)).setCell ⟨w.heap.size + 1, 1, none⟩ (.int .i64 (bump c 3 0))).setCell ⟨w.heap.size + 1, 2, none⟩ (.int .i64 (bump c 3 1))).setCell ⟨w.heap.size + 1, 3, none⟩ (.int .i64 (bump c 3 2))).setCell ⟨w.heap.size + 1, 4, none⟩ (.int .i64 (bump c 3 3))) := HK.out.trans KS (fun _ _ h => h) (fun i hi h => by unfold One at h; show False; omega)
    exact ⟨_, rfl, KN, HRD.out.keep KS (fun g e h => by have := (HOB.out g e).1; unfold One at h; omega), FT.out, fun g e => .inr ⟨by have := (HOB.out g e).1; omega, KS.lt (HOB.out g e).2⟩⟩

end Go.Proofs.Ytggnkcpnbnpbhaa
