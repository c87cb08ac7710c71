/- The document's line (the reference), walked: it answers the same plain lists. -/
import Derived.Test.YtggnkcpnbnpbhaaRdAppend
import Derived.Test.YtggnkcpnbnpbhaaAdd
import Derived.Deep.RegionHeld3
import Derived.Deep.Cut
import Derived.Deep.AppendLies
import Derived.Deep.DeepCutAuto
namespace Go.Proofs.Ytggnkcpnbnpbhaa
open Go.RowKit
set_option linter.unusedVariables false

/-- The document's line in memory. -/
def DcB (v : Value) (c : Nat → Int) : Obj := .cells #[v, .int .i64 (c 0), .int .i64 (c 1), .int .i64 (c 2), .int .i64 (c 3)] 50 (0, 0)
section
variable {w : World} {b : Nat} {v : Value} {c : Nat → Int}
theorem dc_0 (h : w.heap[b]? = some (DcB v c)) : w.cell? ⟨b, 0, none⟩ = some v := by simp [World.cell?, h, DcB]
theorem dc_1 (h : w.heap[b]? = some (DcB v c)) : w.cell? ⟨b, 1, none⟩ = some (.int .i64 (c 0)) := by simp [World.cell?, h, DcB]
theorem dc_2 (h : w.heap[b]? = some (DcB v c)) : w.cell? ⟨b, 2, none⟩ = some (.int .i64 (c 1)) := by simp [World.cell?, h, DcB]
theorem dc_3 (h : w.heap[b]? = some (DcB v c)) : w.cell? ⟨b, 3, none⟩ = some (.int .i64 (c 2)) := by simp [World.cell?, h, DcB]
theorem dc_4 (h : w.heap[b]? = some (DcB v c)) : w.cell? ⟨b, 4, none⟩ = some (.int .i64 (c 3)) := by simp [World.cell?, h, DcB]
theorem dc_f (h : w.heap[b]? = some (DcB v c)) (i : Nat) : w.frozen? ⟨b, i, none⟩ = false := by simp [World.frozen?, h, DcB]
theorem dc_set (h : w.heap[b]? = some (DcB v c)) (u : Value) : (w.setCell ⟨b, 0, none⟩ u).heap[b]? = some (DcB u c) := blk_set h 0 u
theorem dc_bump (h : w.heap[b]? = some (DcB v c)) (i : Nat) (hi : i < 4) : (w.setCell ⟨b, i + 1, none⟩ (.int .i64 (c i + 1))).heap[b]? = some (DcB v (bump c i)) := by
  match i, hi with
  | 0, _ => exact blk_set h 1 _
  | 1, _ => exact blk_set h 2 _
  | 2, _ => exact blk_set h 3 _
  | 3, _ => exact blk_set h 4 _
end

theorem infoStr : (Try.prog.info? 9).map (fun i => (i.zero, i.size, i.bytes)) = some (some (.string ⟨#[]⟩), 1, 16) := by kernel_rfl

/-- A slice's length is within its capacity. -/
def Fits (v : Value) : Prop := ∃ a n cap, v = .slice a n cap ∧ n ≤ cap ∧ cap ≤ maxLen

/-- A block of five cells. -/
def Five (w : World) (b : Nat) : Prop := ∃ cs : Array Value, cs.size = 5 ∧ w.heap[b]? = some (.cells cs 50 (0, 0))
theorem Five.of {w : World} {b : Nat} {v : Value} {c : Nat → Int} (h : w.heap[b]? = some (DcB v c)) : Five w b := ⟨_, rfl, h⟩
theorem Five.set {w : World} {b : Nat} (h : Five w b) (i : Nat) (u : Value) : Five (w.setCell ⟨b, i, none⟩ u) b := by
  obtain ⟨cs, h1, h2⟩ := h
  exact ⟨cs.setIfInBounds i u, by simpa using h1, blk_set h2 i u⟩
theorem Five.get {w : World} {b : Nat} (h : Five w b) {i : Nat} (hi : i < 5) (u : Value) : (w.setCell ⟨b, i, none⟩ u).cell? ⟨b, i, none⟩ = some u := by
  obtain ⟨cs, h1, h2⟩ := h
  have h3 := blk_set h2 i u
  simp [World.cell?, h3, h1, hi]

theorem rd_one (w : World) (u : Value) (t : TypeId) : Rd (w.alloc (.cells #[u] t)) (.slice (some ⟨w.heap.size, 0, none⟩) 1 1) [u] := by
  refine ⟨_, 1, rfl, fun _ => ⟨w.heap.size, 0, rfl, fun j x hx => ?_⟩⟩
  cases j with
  | zero =>
    simp at hx
    subst hx
    exact World.cell?_alloc_new _ _ _ 0
  | succ j => simp at hx

/-- What the document's answers come to: a list, the counts, an error's number. -/
def RDone (w : World) (lv : Value) (c : Nat → Int) (ls : List Value) (E : Int) (e : Ending) (w' : World) : Prop :=
  ∃ v, e = .returned (.tuple #[.agg #[v, .int .i64 (c 0), .int .i64 (c 1), .int .i64 (c 2), .int .i64 (c 3)], .int .i64 E]) ∧ Keep Non w w' ∧ Rd w' v ls ∧ Fits v ∧ ∀ g, v.ownBlock = some g → lv.ownBlock = some g ∨ (w.heap.size ≤ g ∧ g < w'.heap.size)

/-- The document's line between two statements: the block that it lies in, and the result's. -/
def DocMid (w wx : World) (c : Nat → Int) (ls : List Value) : Prop :=
  ∃ a2 n2 cap2, wx.heap[w.heap.size]? = some (DcB (.slice a2 n2 cap2) c) ∧ wx.heap[w.heap.size + 1]? = some (DcB (.slice none 0 0) (fun _ => 0)) ∧ Keep Non w wx ∧ Rd wx (.slice a2 n2 cap2) ls ∧ Fits (.slice a2 n2 cap2) ∧ ∀ g, (Value.slice a2 n2 cap2).ownBlock = some g → w.heap.size + 2 ≤ g ∧ g < wx.heap.size

/-- .. and a text. -/
def RDrop (w : World) (lv : Value) (c : Nat → Int) (ls : List Value) (s : ByteArray) (E : Int) (e : Ending) (w' : World) : Prop :=
  ∃ v, e = .returned (.tuple #[.string s, .agg #[v, .int .i64 (c 0), .int .i64 (c 1), .int .i64 (c 2), .int .i64 (c 3)], .int .i64 E]) ∧ Keep Non w w' ∧ Rd w' v ls ∧ Fits v ∧ ∀ g, v.ownBlock = some g → lv.ownBlock = some g ∨ (w.heap.size ≤ g ∧ g < w'.heap.size)

set_option maxHeartbeats 400000 in
theorem rsend_long (a : Option Addr) (n cap : Nat) (c : Nat → Int) (s : ByteArray) (w : World) (hs : 65536 < s.size) :
    Calls Try.prog 26 #[.agg #[.slice a n cap, .int .i64 (c 0), .int .i64 (c 1), .int .i64 (c 2), .int .i64 (c 3)], .string s] w fun e w' => e = .returned (.tuple #[.agg #[.slice a n cap, .int .i64 (c 0), .int .i64 (c 1), .int .i64 (c 2), .int .i64 (c 3)], .int .i64 3]) ∧ Keep Non w w' := by
  go_enter Try.func26, Try.ntmps26
  go_wp2_with fail
  go_returns
  exact ⟨rfl, ((Keep.refl _ _).alloc _).alloc _⟩

set_option maxHeartbeats 400000 in
theorem rsend_full (a : Option Addr) (n cap : Nat) (c : Nat → Int) (s : ByteArray) (w : World) (hs : s.size ≤ 65536) (hn : 64 ≤ n) :
    Calls Try.prog 26 #[.agg #[.slice a n cap, .int .i64 (c 0), .int .i64 (c 1), .int .i64 (c 2), .int .i64 (c 3)], .string s] w fun e w' => e = .returned (.tuple #[.agg #[.slice a n cap, .int .i64 (c 0), .int .i64 (c 1), .int .i64 (c 2), .int .i64 (c 3)], .int .i64 5]) ∧ Keep Non w w' := by
  go_enter Try.func26, Try.ntmps26
  go_wp2_with fail
  go_returns
  exact ⟨rfl, ((Keep.refl _ _).alloc _).alloc _⟩


set_option maxHeartbeats 1600000 in
theorem rsend_ok (a : Option Addr) (cap : Nat) (c : Nat → Int) (ls : List Value) (s : ByteArray) (w : World) (h : Rd w (.slice a ls.length cap) ls) (h1 : ∀ u ∈ ls, u.oneCell' = true) (hs : s.size ≤ 65536) (hn : ls.length < 64) (hc0 : 0 ≤ c 0) (hc1 : c 0 ≤ 1000000) :
    Calls Try.prog 26 #[.agg #[.slice a ls.length cap, .int .i64 (c 0), .int .i64 (c 1), .int .i64 (c 2), .int .i64 (c 3)], .string s] w (RDone w (.slice a ls.length cap) (bump c 0) (ls ++ [.string s]) 0) := by
  obtain ⟨i0, hi0, hz0, hz1, hz2⟩ := info_parts infoStr
  have k2 : Keep Non w (((w.alloc (DcB (.slice a ls.length cap) c)).alloc (DcB (.slice none 0 0) (fun _ => 0))).alloc (.cells #[] 9)) := (((Keep.refl _ _).alloc _).alloc _).alloc _
  have HR := Lib.hid (h.keepNon k2)
  have K2 := Lib.hid k2
  have H1 := Lib.hid h1
  have hown : Hid ((((w.alloc (DcB (.slice a ls.length cap) c)).alloc (DcB (.slice none 0 0) (fun _ => 0))).alloc (.cells #[] 9)).ownsRow (w.heap.size + 2) 9 1 (.slice (some ⟨w.heap.size + 2, 0, none⟩) 0 0) 0 []) := by
    have := World.ownsRow_made ((w.alloc (DcB (.slice a ls.length cap) c)).alloc (DcB (.slice none 0 0) (fun _ => 0))) (e := 9) (size := 1) (base := w.heap.size + 2) #[] 0 (by simp) (by decide) rfl
    rw [World.size_alloc, World.size_alloc] at this
    exact Lib.hid this
  have B0 : Hid ((((w.alloc (DcB (.slice a ls.length cap) c)).alloc (DcB (.slice none 0 0) (fun _ => 0))).alloc (.cells #[] 9)).heap[w.heap.size]? = some (DcB (.slice a ls.length cap) c)) := Lib.hid (blk_alloc (blk_alloc (blk_new _ _) _) _)
  have B1 : Hid ((((w.alloc (DcB (.slice a ls.length cap) c)).alloc (DcB (.slice none 0 0) (fun _ => 0))).alloc (.cells #[] 9)).heap[w.heap.size + 1]? = some (DcB (.slice none 0 0) (fun _ => 0))) := by
    have := blk_alloc (blk_new (w.alloc (DcB (.slice a ls.length cap) c)) (DcB (.slice none 0 0) (fun _ => 0))) (.cells #[] 9)
    rw [World.size_alloc] at this
    exact Lib.hid this
  clear h h1 k2
  go_enter Try.func26, Try.ntmps26
  go_upto_region 7 with (first
    | (at_builtin; refine wpList_append_rd rfl (.tmp 15) (.tmp 17) 47 rfl (w.heap.size + 2) 9 i0 (.string ⟨#[]⟩) 16 Try.underlying47 hi0 hz0 hz1 hz2 rfl (.slice (some ⟨w.heap.size + 2, 0, none⟩) 0 0) 0 [] rfl hown.out (.slice a ls.length cap) rfl ls HR.out H1.out (by unfold maxLen; omega) (by omega) (by simp <;> omega) ?_; intro v1 w1 ho hg hp; rw [Nat.zero_add, List.nil_append] at ho; obtain ⟨a1, cap1, rfl, _, _⟩ := ownsRow_form ho; have HO := Lib.hid ho; have K3 : Hid (Keep Non w w1) := Lib.hid (K2.out.grown hg (fun k e => .inr (by injection e with e; subst e; simp <;> omega))); have B0' := Lib.hid ((World.grownBy.block hg w.heap.size (lt_of_block B0.out) (by simp [Value.ownBlock] <;> omega)).trans B0.out); have B1' := Lib.hid ((World.grownBy.block hg (w.heap.size + 1) (lt_of_block B1.out) (by simp [Value.ownBlock] <;> omega)).trans B1.out); have OW : Hid (∀ g, (Value.slice a1 ls.length cap1).ownBlock = some g → w.heap.size + 2 ≤ g) := Lib.hid (fun g e => by rcases hp with hp | hp <;> rw [hp] at e <;> simp [Value.ownBlock] at e <;> omega); clear ho hg hp)
    | (at_builtin; refine wpList_append_rd rfl (.tmp 18) (.tmp 20) 47 rfl (w.heap.size + 2) 9 i0 (.string ⟨#[]⟩) 16 Try.underlying47 hi0 hz0 hz1 hz2 rfl (.slice a1 ls.length cap1) ls.length ls rfl (HO.out.alloc _) (.slice (some ⟨w1.heap.size, 0, none⟩) 1 1) rfl [.string s] (rd_one _ _ _) (by intro u hu; simp at hu; subst hu; rfl) (by unfold maxLen; simp; omega) (by simp; omega) (by have := K3.out.size; have := lt_of_block B1'.out; simp; omega) ?_; have OW0 : Hid (w.heap.size + 2 ≤ w1.heap.size) := Lib.hid (by have := lt_of_block B1'.out; omega); intro v2 w2 ho hg hp; simp only [List.length_singleton] at ho; obtain ⟨a2, cap2, rfl, hf1, hf2⟩ := ownsRow_form ho; have FT : Hid (Fits (.slice a2 (ls.length + 1) cap2)) := Lib.hid ⟨_, _, _, rfl, hf1, hf2⟩; have K4 : Hid (Keep Non w w2) := Lib.hid ((K3.out.alloc _).grown hg (fun k e => .inr (by have := OW.out k e; omega))); have B0s := (World.grownBy.block hg w.heap.size (lt_of_block (blk_alloc B0'.out _)) (fun e => by have := OW.out _ e.symm; omega)).trans (blk_alloc B0'.out _); have B1s := (World.grownBy.block hg (w.heap.size + 1) (lt_of_block (blk_alloc B1'.out _)) (fun e => by have := OW.out _ e.symm; omega)).trans (blk_alloc B1'.out _); have d0 := dc_0 B0s; have d1 := dc_1 B0s; have d2 := dc_2 B0s; have d3 := dc_3 B0s; have d4 := dc_4 B0s; have df := dc_f B0s; have SB0 := Lib.hid B0s; have SB1 := Lib.hid B1s; have HO2 := Lib.hid ho; have lw := lt_of_block B1s; have OW2 : Hid (∀ g, (Value.slice a2 (ls.length + 1) cap2).ownBlock = some g → w.heap.size + 2 ≤ g) := Lib.hid (fun g e => by rcases hp with hp | hp; exact OW.out g (hp.symm.trans e); (rw [hp] at e; have := OW0.out; simp at e; omega)); clear ho hg hp B0s B1s hf1 hf2))
  refine abs_world (fun W => W.heap[w.heap.size]? = some (DcB (.slice a2 (ls.length + 1) cap2) (bump c 0)) ∧ W.heap[w.heap.size + 1]? = some (DcB (.slice none 0 0) (fun _ => 0)) ∧ Keep Non w W ∧ Rd W (.slice a2 (ls.length + 1) cap2) (ls ++ [.string s]) ∧ (∀ g, (.slice a2 (ls.length + 1) cap2 : Value).ownBlock = some g → w.heap.size + 2 ≤ g ∧ g < W.heap.size)) ?_ ?_
  · refine ⟨dc_bump (i := 0) (dc_set SB0.out _) (by omega), blk_skip (blk_skip SB1.out (by omega) 0 _) (by omega) 1 _, ?_, ?_, fun g e => ⟨OW2.out g e, by have := (HO2.out.lt g e).2; simp [World.setCell]; omega⟩⟩
    · exact (K4.out.setNew (Nat.le_refl _) 0 _).setNew (Nat.le_refl _) 1 _
    · exact ((Rd.ofOwns HO2.out).keep (S := One w.heap.size) (((Keep.refl _ _).setOne 0 _).setOne 1 _) (fun g e h => by have := OW2.out g e; unfold One at h; omega))
  rintro W ⟨hb0, hb1, hk, hr, ho⟩
  have d0 := dc_0 hb0
  have d1 := dc_1 hb0
  have d2 := dc_2 hb0
  have d3 := dc_3 hb0
  have d4 := dc_4 hb0
  have e0 := dc_0 hb1
  have e1 := dc_1 hb1
  have e2 := dc_2 hb1
  have e3 := dc_3 hb1
  have e4 := dc_4 hb1
  have ef := dc_f hb1
  have F0 := Lib.hid (Five.of hb1)
  have k0 : (W.setCell ⟨w.heap.size + 1, 0, none⟩ (.slice a2 (ls.length + 1) cap2)).cell? ⟨w.heap.size + 1, 0, none⟩ = some (.slice a2 (ls.length + 1) cap2) := F0.out.get (by omega) _
  have k1 : ((W.setCell ⟨w.heap.size + 1, 0, none⟩ (.slice a2 (ls.length + 1) cap2)).setCell ⟨w.heap.size + 1, 1, none⟩ (.int .i64 (bump c 0 0))).cell? ⟨w.heap.size + 1, 1, none⟩ = some (.int .i64 (bump c 0 0)) := (F0.out.set 0 (.slice a2 (ls.length + 1) cap2)).get (by omega) _
  have k2 : (((W.setCell ⟨w.heap.size + 1, 0, none⟩ (.slice a2 (ls.length + 1) cap2)).setCell ⟨w.heap.size + 1, 1, none⟩ (.int .i64 (bump c 0 0))).setCell ⟨w.heap.size + 1, 2, none⟩ (.int .i64 (bump c 0 1))).cell? ⟨w.heap.size + 1, 2, none⟩ = some (.int .i64 (bump c 0 1)) := ((F0.out.set 0 (.slice a2 (ls.length + 1) cap2)).set 1 (.int .i64 (bump c 0 0))).get (by omega) _
  have k3 : ((((W.setCell ⟨w.heap.size + 1, 0, none⟩ (.slice a2 (ls.length + 1) cap2)).setCell ⟨w.heap.size + 1, 1, none⟩ (.int .i64 (bump c 0 0))).setCell ⟨w.heap.size + 1, 2, none⟩ (.int .i64 (bump c 0 1))).setCell ⟨w.heap.size + 1, 3, none⟩ (.int .i64 (bump c 0 2))).cell? ⟨w.heap.size + 1, 3, none⟩ = some (.int .i64 (bump c 0 2)) := (((F0.out.set 0 (.slice a2 (ls.length + 1) cap2)).set 1 (.int .i64 (bump c 0 0))).set 2 (.int .i64 (bump c 0 1))).get (by omega) _
  have k4 : (((((W.setCell ⟨w.heap.size + 1, 0, none⟩ (.slice a2 (ls.length + 1) cap2)).setCell ⟨w.heap.size + 1, 1, none⟩ (.int .i64 (bump c 0 0))).setCell ⟨w.heap.size + 1, 2, none⟩ (.int .i64 (bump c 0 1))).setCell ⟨w.heap.size + 1, 3, none⟩ (.int .i64 (bump c 0 2))).setCell ⟨w.heap.size + 1, 4, none⟩ (.int .i64 (bump c 0 3))).cell? ⟨w.heap.size + 1, 4, none⟩ = some (.int .i64 (bump c 0 3)) := ((((F0.out.set 0 (.slice a2 (ls.length + 1) cap2)).set 1 (.int .i64 (bump c 0 0))).set 2 (.int .i64 (bump c 0 1))).set 3 (.int .i64 (bump c 0 2))).get (by omega) _
  have HK := Lib.hid hk
  have HRD := Lib.hid hr
  have HOB := Lib.hid ho
  clear hb0 hb1 hk hr ho
  go_wp2_with fail
  refine bodyPost_ret (v := .tuple #[.agg #[.slice a2 (ls.length + 1) cap2, .int .i64 ((bump c 0) 0), .int .i64 ((bump c 0) 1), .int .i64 ((bump c 0) 2), .int .i64 ((bump c 0) 3)], .int .i64 0]) (by simp [results, Try.results26, go_sem, k0, k1, k2, k3, k4]) rfl ?_
  have KS : Keep (One (w.heap.size + 1)) W (((((W.setCell ⟨w.heap.size + 1, 0, none⟩ (.slice a2 (ls.length + 1) cap2)).setCell ⟨w.heap.size + 1, 1, none⟩ (.int .i64 (bump c 0 0))).setCell ⟨w.heap.size + 1, 2, none⟩ (.int .i64 (bump c 0 1))).setCell ⟨w.heap.size + 1, 3, none⟩ (.int .i64 (bump c 0 2))).setCell ⟨w.heap.size + 1, 4, none⟩ (.int .i64 (bump c 0 3))) := ((((((Keep.refl _ _).setOne _ _).setOne _ _).setOne _ _).setOne _ _).setOne _ _)
  have KN : Keep Non w (((((W.setCell ⟨w.heap.size + 1, 0, none⟩ (.slice a2 (ls.length + 1) cap2)).setCell ⟨w.heap.size + 1, 1, none⟩ (.int .i64 (bump c 0 0))).setCell ⟨w.heap.size + 1, 2, none⟩ (.int .i64 (bump c 0 1))).setCell ⟨w.heap.size + 1, 3, none⟩ (.int .i64 (bump c 0 2))).setCell ⟨w.heap.size + 1, 4, none⟩ (.int .i64 (bump c 0 3))) := HK.out.trans KS (fun _ _ h => h) (fun i hi h => by unfold One at h; show False; omega)
  exact ⟨_, rfl, KN, HRD.out.keep KS (fun g e h => by have := (HOB.out g e).1; unfold One at h; omega), FT.out, fun g e => .inr ⟨by have := (HOB.out g e).1; omega, KS.lt (HOB.out g e).2⟩⟩
end Go.Proofs.Ytggnkcpnbnpbhaa
