/- holdfasttop.backs: walked. · WholeFull: the whole walk. · What the row's condition gives ('laid'): the table of powers of ten, the rounds' constants,  -/
import Derived.Test.YtobjlgfjfpmceaaGreatDoorRows
import Derived.LaidMore
import Derived.Lib.LaidTab
import Derived.Lay
import Derived.Stop.Joined
import Derived.Deep.SlicePairs
import Derived.Test.YtobjlgfjfpmceaaGreatDoorQ43
import Derived.Test.YtobjlgfjfpmceaaGreatDoorQ44
set_option linter.unusedVariables false
set_option maxRecDepth 100000
set_option maxHeartbeats 16000000
namespace Go.Proofs.YtobjlgfjfpmceaaGreatDoor
open Go.RowKit Go.Maps
def oH : Obj := .cells #[.int .i64 2, .slice none 0 0] 55 (0, 0)
theorem cellsH (w : World) : CellsIn (w.alloc oH) (.slice (some ⟨w.heap.size, 0, none⟩) 1 1) clH := by
  refine ⟨some ⟨w.heap.size, 0, none⟩, 1, rfl, fun j hj => ?_⟩
  have h0 : j = 0 := by have : j < 1 := hj; omega
  subst h0
  refine ⟨w.heap.size, 0, none, 0, rfl, lt_of_block (blk_new w oH), cl0 (k := 2) (blk_new w oH), cl1 (k := 2) (blk_new w oH), ?_, .inr (fun k e => by cases e)⟩
  exact Rd.ofOwns (World.ownsRow_nil (w.alloc oH) 0 5 1)
theorem cutH_ok : (cutS 2 1 (trimS 0 sHo)).ok := (sealS_ok trH_ok (by decide) (by omega)).did (by decide) (actBy_len 5 2 1 [] (by omega) (by omega) (by omega) (by simp)) (by decide)
theorem tbacks_ok (w : World) (hlay : Lay w) (h10 : 10 ≤ w.heap.size) :
    Calls Tryz.prog 4 #[] w fun e w' => e = .returned (.bool true) ∧ Keep Non w w' := by
  have kA : Keep Non w (w.alloc oH) := (Keep.refl _ _).alloc _
  have BG := Lib.hid (tbegin_low (.slice (some ⟨w.heap.size, 0, none⟩) 1 1) clH (w.alloc oH) (cellsH w) (by decide) (hlay.keepNon kA) (Nat.le_trans h10 kA.size))
  have RD := Lib.hid (fun F b (W : World) (h : LgAt F W b 2 lD) => by
    have := lgRead_ok (a := 0) (s := cutS 2 1 (trimS 0 sHo)) W h (by omega) rfl rfl cutH_ok.free.1 (by omega) (by rw [lD_at]; decide)
    rw [lD_at] at this
    exact this)
  have KA := Lib.hid kA
  have H10 := Lib.hid h10
  clear kA hlay h10
  unfold oH at BG
  go_enter Tryz.func4, Tryz.ntmps4
  go_wp2_with (first
    | (go_at_call 6; refine BG.out.mono ?_; rintro e w1 ⟨lb, b, p, q, F, FL, rfl, k1, v1, lo1⟩; have K1 := Lib.hid (KA.out.trans1 k1); have V1 := Lib.hid v1; have LO := Lib.hid (fun g y => Nat.le_trans KA.out.size (lo1 g y)); clear k1 v1 lo1)
    | (go_at_call 18; refine (texported_ok w1 V1.out).mono ?_; rintro e w2 ⟨rfl, k2, F2, T, v3, m, X, rv⟩; have K2 := Lib.hid (K1.out.trans k2 (fun _ _ e => e) (fun g hg y => by have := LO.out g y; omega)); have RV := Lib.hid rv; clear k2 rv)
    | (go_at_call 19; refine (trestored_ok w2 RV.out (Nat.le_trans H10.out K2.out.size)).mono ?_; rintro e w3 ⟨lb3, FL3, rfl, k3, l3⟩; have K3 := Lib.hid (K2.out.trans1 k3); have L3 := Lib.hid l3; clear k3 l3)
    | (go_at_call 20; refine (RD.out _ _ w3 L3.out).mono ?_; rintro e w4 ⟨v4, rfl, k4, o4⟩; obtain ⟨a4, c4, rfl, _, _⟩ := ownsRow_form o4; have K4 := Lib.hid (K3.out.trans1 k4); clear k4 o4))
  go_ret
  exact ⟨rfl, K4.out.alloc _⟩
theorem whole_full (v : Value) (cl : List Cl) (room n : Int) (w : World) (hc : CellsIn w v cl) (hm : cl.length ≤ 9223372036854775807) (hlay : Lay w) (h10 : 10 ≤ w.heap.size) :
    Calls Tryz.prog 3 #[v, .int .i64 room, .int .i64 n] w fun e w' => e = .returned (.bool true) ∧ Keep Non w w' :=
  full_any tbacks_ok v cl room n w hc hm hlay h10
end Go.Proofs.YtobjlgfjfpmceaaGreatDoor
namespace Go.Proofs.YtobjlgfjfpmceaaGreatDoor
open Go.ChangeShapes Go.WideShapes Go.ChangeAt Go.RowKit Go.Deep
theorem own : ownKnob Tryz.prog.godebug = none := by kernel_rfl
theorem laidOut : laidOutB Tryz.prog = true := by kernel_rfl
abbrev laid9 : List (String × DataW Unit) := [("math/bits.deBruijn32tab", Rows.laid_math_bits_deBruijn32tab), ("math/bits.deBruijn64tab", Rows.laid_math_bits_deBruijn64tab), ("internal/strconv.uint64pow10", Rows.laid_internal_strconv_uint64pow10), ("unicode/utf8.acceptRanges", Rows.laid_unicode_utf8_acceptRanges), ("strconv.ErrRange", Rows.laid_strconv_ErrRange), ("strconv.ErrSyntax", Rows.laid_strconv_ErrSyntax), ("holdfast/sha.constants", Rows.laid_holdfast_sha_constants), ("holdfast/sha.firsts", Rows.laid_holdfast_sha_firsts), ("unicode/utf8.first", Rows.laid_unicode_utf8_first)]
theorem laidMet_tail {P : Program} {x : String × DataW Unit} {l : List (String × DataW Unit)} {w : World} (h : laidMet P (x :: l) w) : laidMet P l w := by
  obtain ⟨ps, ⟨g, t, cs, fuel, p, q, _, _, _, _, hq, rfl⟩, hn, hc⟩ := h
  exact ⟨q, hq, (List.nodup_append.1 hn).2.1, fun b off hm => hc b off (List.mem_append_right _ hm)⟩
theorem blk_of_var {P : Program} {w : World} {n : String} {g : Nat} {cs : Array Value} (hg : P.globalNamed n = some g) (h : w.var? P n = some cs) : ∃ (tt : TypeId) (fr : Nat × Nat), w.heap[g]? = some (.cells cs tt fr) := by
  simp only [World.var?, hg, Option.bind_some] at h
  split at h
  · next cs' tt fr e =>
    obtain rfl := Option.some.inj h
    exact ⟨tt, fr, e⟩
  · cases h
def fList : List Int := [0x6a09e667, 0xbb67ae85, 0x3c6ef372, 0xa54ff53a, 0x510e527f, 0x9b05688c, 0x1f83d9ab, 0x5be0cd19]
theorem cData : (Rows.laid_holdfast_sha_constants : DataW Unit) = Lib.tabData .u32 kList := by kernel_rfl
theorem fData : (Rows.laid_holdfast_sha_firsts : DataW Unit) = Lib.tabData .u32 fList := by kernel_rfl
theorem pData : (Rows.laid_internal_strconv_uint64pow10 : DataW Unit) = Lib.tabData .u64 Lib.pow10Tab := by kernel_rfl
theorem gCons : Tryz.prog.globalNamed "holdfast/sha.constants" = some 5 := by kernel_rfl
theorem gFirs : Tryz.prog.globalNamed "holdfast/sha.firsts" = some 2 := by kernel_rfl
theorem gLast : Tryz.prog.globalNamed "math/bits.deBruijn64tab" = some 9 := by kernel_rfl
theorem tCons : (Tryz.prog.globals[5]?).map (·.type) = some 433 := by kernel_rfl
theorem tFirs : (Tryz.prog.globals[2]?).map (·.type) = some 407 := by kernel_rfl
theorem tPow : (Tryz.prog.globals[1]?).map (·.type) = some 404 := by kernel_rfl
theorem of_laid {W : World} (h : laidMetH Tryz.prog laid9 W) : Lay W ∧ 10 ≤ W.heap.size := by
  rw [MakeChecks.laidMetH_plain _ _ _ (by kernel_rfl)] at h
  have h0 : laidMet Tryz.prog laid9 W := h
  have h1 : laidMet Tryz.prog [("math/bits.deBruijn64tab", Rows.laid_math_bits_deBruijn64tab), ("internal/strconv.uint64pow10", Rows.laid_internal_strconv_uint64pow10), ("unicode/utf8.acceptRanges", Rows.laid_unicode_utf8_acceptRanges), ("strconv.ErrRange", Rows.laid_strconv_ErrRange), ("strconv.ErrSyntax", Rows.laid_strconv_ErrSyntax), ("holdfast/sha.constants", Rows.laid_holdfast_sha_constants), ("holdfast/sha.firsts", Rows.laid_holdfast_sha_firsts), ("unicode/utf8.first", Rows.laid_unicode_utf8_first)] W := laidMet_tail h0
  have h2 : laidMet Tryz.prog [("internal/strconv.uint64pow10", Rows.laid_internal_strconv_uint64pow10), ("unicode/utf8.acceptRanges", Rows.laid_unicode_utf8_acceptRanges), ("strconv.ErrRange", Rows.laid_strconv_ErrRange), ("strconv.ErrSyntax", Rows.laid_strconv_ErrSyntax), ("holdfast/sha.constants", Rows.laid_holdfast_sha_constants), ("holdfast/sha.firsts", Rows.laid_holdfast_sha_firsts), ("unicode/utf8.first", Rows.laid_unicode_utf8_first)] W := laidMet_tail h1
  have h3 : laidMet Tryz.prog [("unicode/utf8.acceptRanges", Rows.laid_unicode_utf8_acceptRanges), ("strconv.ErrRange", Rows.laid_strconv_ErrRange), ("strconv.ErrSyntax", Rows.laid_strconv_ErrSyntax), ("holdfast/sha.constants", Rows.laid_holdfast_sha_constants), ("holdfast/sha.firsts", Rows.laid_holdfast_sha_firsts), ("unicode/utf8.first", Rows.laid_unicode_utf8_first)] W := laidMet_tail h2
  have h4 : laidMet Tryz.prog [("strconv.ErrRange", Rows.laid_strconv_ErrRange), ("strconv.ErrSyntax", Rows.laid_strconv_ErrSyntax), ("holdfast/sha.constants", Rows.laid_holdfast_sha_constants), ("holdfast/sha.firsts", Rows.laid_holdfast_sha_firsts), ("unicode/utf8.first", Rows.laid_unicode_utf8_first)] W := laidMet_tail h3
  have h5 : laidMet Tryz.prog [("strconv.ErrSyntax", Rows.laid_strconv_ErrSyntax), ("holdfast/sha.constants", Rows.laid_holdfast_sha_constants), ("holdfast/sha.firsts", Rows.laid_holdfast_sha_firsts), ("unicode/utf8.first", Rows.laid_unicode_utf8_first)] W := laidMet_tail h4
  have h6 : laidMet Tryz.prog [("holdfast/sha.constants", Rows.laid_holdfast_sha_constants), ("holdfast/sha.firsts", Rows.laid_holdfast_sha_firsts), ("unicode/utf8.first", Rows.laid_unicode_utf8_first)] W := laidMet_tail h5
  have h7 : laidMet Tryz.prog [("holdfast/sha.firsts", Rows.laid_holdfast_sha_firsts), ("unicode/utf8.first", Rows.laid_unicode_utf8_first)] W := laidMet_tail h6
  obtain ⟨p9, ⟨g9, t9, cs9, f9, _, _, hg9, _, hv9, _, _, _⟩, _⟩ := h1
  obtain rfl := Option.some.inj (gLast.symm.trans hg9)
  obtain ⟨tt9, fr9, hb9⟩ := blk_of_var gLast hv9
  have h10 : 10 ≤ W.heap.size := by
    have := lt_of_block hb9
    omega
  have hp : Pow W := by
    rw [pData] at h2
    exact Lib.tabIs_of_head pow_at tPow Tryz.underlying404 Tryz.underlying141 (by kernel_rfl) (by kernel_rfl) h2
  have c1 : Lib.TabIs Tryz.prog W "holdfast/sha.constants" .u32 kList := by
    rw [cData] at h6
    exact Lib.tabIs_of_head gCons tCons Tryz.underlying433 Tryz.underlying300 (by kernel_rfl) (by kernel_rfl) h6
  have c2 : Lib.TabIs Tryz.prog W "holdfast/sha.firsts" .u32 fList := by
    rw [fData] at h7
    exact Lib.tabIs_of_head gFirs tFirs Tryz.underlying407 Tryz.underlying300 (by kernel_rfl) (by kernel_rfl) h7
  obtain ⟨tf, ff, hf⟩ := blk_of_var gFirs c2
  obtain ⟨tc, fc, hc⟩ := blk_of_var gCons c1
  refine ⟨⟨⟨_, ?_, ⟨tc, fc, hc⟩, ?_, fun i hi => ?_⟩, ⟨tf, ff, hf⟩, hp⟩, h10⟩
  · rfl
  · have := lt_of_block hc
    omega
  · have hl : kList.length = 64 := rfl
    simp [kI, show i < kList.length by omega]
end Go.Proofs.YtobjlgfjfpmceaaGreatDoor
namespace Go.Proofs.YtobjlgfjfpmceaaGreatDoor
open Go.ChangeShapes Go.WideShapes Go.Deep Go.RowKit
section
variable {H : Type} {enc : TypeId × Value → H} {w : World} {base : Nat} {spare : Nat → Bool} {held : Bool}
theorem cellStruct : ∃ f0 f1 : Field, Tryz.prog.underlying 55 = some (.struct #[f0, f1]) ∧ f0.offset = 0 ∧ f1.offset = 1 ∧ f0.type = 3 ∧ f1.type = 53 := ⟨_, _, Tryz.underlying55, rfl, rfl, rfl, rfl⟩
theorem open_cells {fuel : Nat} {v : Value} {x : DataW H × List MemPlace} (h : DataW.trod enc Tryz.prog w base spare held fuel 22 [v] = some x) : ∃ cl, CellsIn w v cl ∧ cl.length ≤ maxLen := by
  obtain ⟨f0, f1, he, o0, o1, t0, t1⟩ := cellStruct
  rcases open_slice_pairs Tryz.underlying22 he (by kernel_rfl) o0 o1 (by rw [t0]; kernel_rfl) (by rw [t1]; kernel_rfl) h with ⟨h0, _⟩ | ⟨a, len, cap, m, n, V0, V1, D0, D1, P0, P1, hcs, hb, hl, hm, hmm, hx, hi⟩
  · simp at h0
    subst h0
    exact ⟨[], ⟨none, 0, rfl, fun j hj => by simp at hj⟩, by simp⟩
  · simp at hcs
    subst hcs
    have hml : len ≤ m := by rw [hmm]; split <;> omega
    have each : ∀ j, j < len → ∃ c : Cl, ∃ sa sc, V0 j = .int .i64 c.1 ∧ V1 j = .slice sa c.2.length sc ∧ Bs w (.slice sa c.2.length sc) c.2 := fun j hj => by
      obtain ⟨h1, h2, h3, h4⟩ := hi j (by omega)
      rw [t0] at h3
      rw [t1] at h4
      obtain ⟨a1, l, c1, e1, b1, _⟩ := open_bytes Tryz.underlying53 Tryz.underlying5 (by kernel_rfl) h4
      obtain ⟨k, e0, _, _⟩ := DataW.trod_int Tryz.underlying3 h3
      simp at e0
      rw [e1] at b1
      exact ⟨(k, l), a1, c1, e0, e1, b1⟩
    by_cases hz : len = 0
    · subst hz
      exact ⟨[], ⟨some a, cap, rfl, fun j hj => by simp at hj⟩, by simp⟩
    obtain ⟨b, off, spot⟩ := a
    have hc0 := (hi 0 (by omega)).1
    have hspot : spot = none := by
      have := World.cell?_spot hc0
      simpa [Addr.add] using this
    subst hspot
    have hbl : b < w.heap.size := by
      have := World.block_lt_of_cell? _ _ hc0
      simpa [Addr.add] using this
    obtain ⟨f, hf⟩ : ∃ f : ∀ j, j < len → Cl, ∀ j hj, ∃ sa sc, V0 j = .int .i64 (f j hj).1 ∧ V1 j = .slice sa (f j hj).2.length sc ∧ Bs w (.slice sa (f j hj).2.length sc) (f j hj).2 := ⟨fun j hj => Classical.choose (each j hj), fun j hj => Classical.choose_spec (each j hj)⟩
    have hlen : (List.ofFn (fun j : Fin len => f j.1 j.2)).length = len := List.length_ofFn
    refine ⟨List.ofFn (fun j : Fin len => f j.1 j.2), ⟨some ⟨b, off, none⟩, cap, by rw [hlen], fun j hj => ?_⟩, by rw [hlen]; omega⟩
    have hj' : j < len := by rw [hlen] at hj; exact hj
    obtain ⟨sa, sc, e0, e1, b1⟩ := hf j hj'
    obtain ⟨h1, h2, _, _⟩ := hi j (by omega)
    rw [List.getElem_ofFn]
    refine ⟨b, off, sa, sc, rfl, hbl, by rw [add_off] at h1; rw [← e0]; exact h1, by rw [add_off] at h2; rw [← e1, Nat.add_assoc]; exact h2, b1, ?_⟩
    by_cases hne : (f j hj').2 = []
    · exact .inl hne
    · refine .inr fun k e => ?_
      obtain ⟨a2, c2, e2, hx2⟩ := b1
      obtain ⟨g, off2, rfl, hc2⟩ := hx2 (by simpa using hne)
      injection e2 with e2 _ _
      subst e2
      have hk : g = k := by simpa [Value.ownBlock] using e
      subst hk
      cases hd : (f j hj').2 with
      | nil => exact absurd hd hne
      | cons u r =>
        have h1 := hc2 0 (bv u) (by simp [hd])
        have := World.block_lt_of_cell? _ _ h1
        simpa [Addr.add] using this
end
end Go.Proofs.YtobjlgfjfpmceaaGreatDoor
