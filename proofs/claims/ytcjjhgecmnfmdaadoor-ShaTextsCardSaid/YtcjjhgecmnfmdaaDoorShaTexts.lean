/- ShaTexts, walked: any digest's text, and which texts are digests. -/
import Derived.Test.YtcjjhgecmnfmdaaDoorShaNum
import Derived.Test.YtcjjhgecmnfmdaaDoorShaHexLaw
import Derived.Test.YtcjjhgecmnfmdaaDoorShaRHex
import Derived.Test.YtcjjhgecmnfmdaaDoorShaRParse
import Derived.Test.YtcjjhgecmnfmdaaDoorShaAlive
namespace Go.Proofs.YtcjjhgecmnfmdaaDoor
open Go.RowKit Go.Shelf
set_option linter.unusedVariables false

theorem errnil (t : TypeId) : errv 0 = .nilIface := rfl
theorem prE_ok {l : List UInt8} (h : okL l = true) : prE l = 0 := by unfold prE; rw [if_pos h]
theorem prE_bad {l : List UInt8} (h : ¬ okL l = true) : prE l = 2 := by unfold prE; rw [if_neg h]
theorem eq_ref (D E : List UInt8) (hD : D.length = 32) (hE : E.length = 32) (w : World) : (Op.equalIn 10000 34 (arrV D) (arrV E)).run Tryd.prog w = .ok (D == E) w :=
  eq_arr 34 5 Tryd.underlying34 Tryd.underlying5 sizeU8 D E hD hE w

section
attribute [local simp high] hA27 hS27 hA34 hS34 hA26 hS26
set_option maxRecDepth 100000 in
set_option maxHeartbeats 3200000 in
theorem texts_any (D s : List UInt8) (hD : D.length = 32) (w : World) (hk : Kon w) (hf : Frs w) :
    Calls Tryd.prog 6 #[arrV D, .string ⟨s.toArray⟩] w fun e w' => e = .returned (.bool true) ∧ Keep Non w w' := by
  have HK := Lib.hid hk
  have HF := Lib.hid hf
  have HD := Lib.hid hD
  have hsz : (⟨s.toArray⟩ : ByteArray).size = s.length := by show s.toArray.size = _; simp
  clear hk hf hD
  unfold arrV
  go_enter Tryd.func6, Tryd.ntmps6
  go_wp2_with fail
  have k1 : Keep Non w (w.alloc (.cells (D.map bv).toArray 26)) := (Keep.refl _ _).alloc _
  have b1 := blk_new w (.cells (D.map bv).toArray 26)
  refine (alive_any _ (HK.out.keep k1) (HF.out.keep k1)).mono ?_
  rintro e w2 ⟨rfl, k2⟩
  have K2 := Lib.hid (k1.trans1 k2)
  have B2 := Lib.hid (k2.at b1 (fun e => e))
  clear k1 k2 b1
  by_cases hlen : s.length ≤ 200
  · have hlen' : ¬ (200 : Int) < (s.length : Int) := by omega
    go_wp2_with fail
    have hl := row_load (P := Tryd.prog) w2 w.heap.size 26 _ (0, 0) 32 B2.out (arr_size HD.out)
    simp only [oA26, oS26, Result.andThen, ↓reduceIte, hl]
    rw [Oper.upon_value]
    clear hl
    go_wp2_with fail
    refine (hex_any D HD.out _).mono ?_
    rintro e w3 ⟨rfl, k3⟩
    have K3 := Lib.hid (K2.out.trans1 k3)
    have B3 := Lib.hid (k3.at B2.out (fun e => e))
    clear k3 K2 B2
    go_wp2_with fail
    refine (parse_any (hexL D) (by rw [hexL_len, HD.out]; decide) _).mono ?_
    rintro e w4 ⟨rfl, k4⟩
    rw [prD_hex HD.out, prE_ok (ok_hex HD.out), errv_zero]
    unfold arrV
    have K4 := Lib.hid (K3.out.trans1 k4)
    have B4 := Lib.hid (k4.at B3.out (fun e => e))
    clear k4 K3 B3
    go_wp2_with fail

    have hz1 := blk_new w4 (.cells #[.int .u8 0, .int .u8 0, .int .u8 0, .int .u8 0, .int .u8 0, .int .u8 0, .int .u8 0, .int .u8 0, .int .u8 0, .int .u8 0, .int .u8 0, .int .u8 0, .int .u8 0, .int .u8 0, .int .u8 0, .int .u8 0, .int .u8 0, .int .u8 0, .int .u8 0, .int .u8 0, .int .u8 0, .int .u8 0, .int .u8 0, .int .u8 0, .int .u8 0, .int .u8 0, .int .u8 0, .int .u8 0, .int .u8 0, .int .u8 0, .int .u8 0, .int .u8 0] 27)
    have hst1 := row_store (P := Tryd.prog) (w4.alloc (.cells #[.int .u8 0, .int .u8 0, .int .u8 0, .int .u8 0, .int .u8 0, .int .u8 0, .int .u8 0, .int .u8 0, .int .u8 0, .int .u8 0, .int .u8 0, .int .u8 0, .int .u8 0, .int .u8 0, .int .u8 0, .int .u8 0, .int .u8 0, .int .u8 0, .int .u8 0, .int .u8 0, .int .u8 0, .int .u8 0, .int .u8 0, .int .u8 0, .int .u8 0, .int .u8 0, .int .u8 0, .int .u8 0, .int .u8 0, .int .u8 0, .int .u8 0, .int .u8 0] 27)) w4.heap.size 27 #[.int .u8 0, .int .u8 0, .int .u8 0, .int .u8 0, .int .u8 0, .int .u8 0, .int .u8 0, .int .u8 0, .int .u8 0, .int .u8 0, .int .u8 0, .int .u8 0, .int .u8 0, .int .u8 0, .int .u8 0, .int .u8 0, .int .u8 0, .int .u8 0, .int .u8 0, .int .u8 0, .int .u8 0, .int .u8 0, .int .u8 0, .int .u8 0, .int .u8 0, .int .u8 0, .int .u8 0, .int .u8 0, .int .u8 0, .int .u8 0, .int .u8 0, .int .u8 0] (D.map bv).toArray hz1 (by rw [arr_size HD.out]; rfl) (by rw [arr_size HD.out]; rfl) (arr_one _)
    simp only [oS27, Result.andThen, ↓reduceIte, hst1, HD.out]
    rw [Oper.upon_skip]
    have kk1 : Keep Non w4 ((w4.alloc (.cells #[.int .u8 0, .int .u8 0, .int .u8 0, .int .u8 0, .int .u8 0, .int .u8 0, .int .u8 0, .int .u8 0, .int .u8 0, .int .u8 0, .int .u8 0, .int .u8 0, .int .u8 0, .int .u8 0, .int .u8 0, .int .u8 0, .int .u8 0, .int .u8 0, .int .u8 0, .int .u8 0, .int .u8 0, .int .u8 0, .int .u8 0, .int .u8 0, .int .u8 0, .int .u8 0, .int .u8 0, .int .u8 0, .int .u8 0, .int .u8 0, .int .u8 0, .int .u8 0] 27)).setRow w4.heap.size (D.map bv).toArray) := ((Keep.refl _ _).alloc _).setRow (.inr (Nat.le_refl _)) _
    have bb1 := setRow_heap (w4.alloc (.cells #[.int .u8 0, .int .u8 0, .int .u8 0, .int .u8 0, .int .u8 0, .int .u8 0, .int .u8 0, .int .u8 0, .int .u8 0, .int .u8 0, .int .u8 0, .int .u8 0, .int .u8 0, .int .u8 0, .int .u8 0, .int .u8 0, .int .u8 0, .int .u8 0, .int .u8 0, .int .u8 0, .int .u8 0, .int .u8 0, .int .u8 0, .int .u8 0, .int .u8 0, .int .u8 0, .int .u8 0, .int .u8 0, .int .u8 0, .int .u8 0, .int .u8 0, .int .u8 0] 27)) w4.heap.size _ (D.map bv).toArray _ _ hz1
    have KK1 := Lib.hid kk1
    have BB1 := Lib.hid bb1
    have SS1 : Hid (w4.heap.size < ((w4.alloc (.cells #[.int .u8 0, .int .u8 0, .int .u8 0, .int .u8 0, .int .u8 0, .int .u8 0, .int .u8 0, .int .u8 0, .int .u8 0, .int .u8 0, .int .u8 0, .int .u8 0, .int .u8 0, .int .u8 0, .int .u8 0, .int .u8 0, .int .u8 0, .int .u8 0, .int .u8 0, .int .u8 0, .int .u8 0, .int .u8 0, .int .u8 0, .int .u8 0, .int .u8 0, .int .u8 0, .int .u8 0, .int .u8 0, .int .u8 0, .int .u8 0, .int .u8 0, .int .u8 0] 27)).setRow w4.heap.size (D.map bv).toArray).heap.size) := Lib.hid (by rw [setRow_size, World.size_alloc]; omega)
    clear hz1 hst1 kk1 bb1
    generalize (w4.alloc (.cells #[.int .u8 0, .int .u8 0, .int .u8 0, .int .u8 0, .int .u8 0, .int .u8 0, .int .u8 0, .int .u8 0, .int .u8 0, .int .u8 0, .int .u8 0, .int .u8 0, .int .u8 0, .int .u8 0, .int .u8 0, .int .u8 0, .int .u8 0, .int .u8 0, .int .u8 0, .int .u8 0, .int .u8 0, .int .u8 0, .int .u8 0, .int .u8 0, .int .u8 0, .int .u8 0, .int .u8 0, .int .u8 0, .int .u8 0, .int .u8 0, .int .u8 0, .int .u8 0] 27)).setRow w4.heap.size (D.map bv).toArray = w5 at KK1 BB1 SS1 ⊢
    have K5 := Lib.hid (K4.out.trans1 KK1.out)
    have B5 := Lib.hid (KK1.out.at B4.out (fun e => e))
    clear KK1 K4 B4
    go_wp2_with fail
    refine (parse_any s (by omega) _).mono ?_
    rintro e w6 ⟨rfl, k6⟩
    have K6 := Lib.hid (K5.out.trans1 k6)
    have B6 := Lib.hid (k6.at B5.out (fun e => e))
    have C6 := Lib.hid (k6.at BB1.out (fun e => e))
    have S6 : Hid (w4.heap.size < w6.heap.size) := Lib.hid (Nat.lt_of_lt_of_le SS1.out k6.size)
    have PL := Lib.hid (prD_len s)
    clear k6 K5 B5 BB1 SS1
    unfold arrV
    go_wp2_with fail

    have hz2 := blk_new w6 (.cells #[.int .u8 0, .int .u8 0, .int .u8 0, .int .u8 0, .int .u8 0, .int .u8 0, .int .u8 0, .int .u8 0, .int .u8 0, .int .u8 0, .int .u8 0, .int .u8 0, .int .u8 0, .int .u8 0, .int .u8 0, .int .u8 0, .int .u8 0, .int .u8 0, .int .u8 0, .int .u8 0, .int .u8 0, .int .u8 0, .int .u8 0, .int .u8 0, .int .u8 0, .int .u8 0, .int .u8 0, .int .u8 0, .int .u8 0, .int .u8 0, .int .u8 0, .int .u8 0] 27)
    have hst2 := row_store (P := Tryd.prog) (w6.alloc (.cells #[.int .u8 0, .int .u8 0, .int .u8 0, .int .u8 0, .int .u8 0, .int .u8 0, .int .u8 0, .int .u8 0, .int .u8 0, .int .u8 0, .int .u8 0, .int .u8 0, .int .u8 0, .int .u8 0, .int .u8 0, .int .u8 0, .int .u8 0, .int .u8 0, .int .u8 0, .int .u8 0, .int .u8 0, .int .u8 0, .int .u8 0, .int .u8 0, .int .u8 0, .int .u8 0, .int .u8 0, .int .u8 0, .int .u8 0, .int .u8 0, .int .u8 0, .int .u8 0] 27)) w6.heap.size 27 #[.int .u8 0, .int .u8 0, .int .u8 0, .int .u8 0, .int .u8 0, .int .u8 0, .int .u8 0, .int .u8 0, .int .u8 0, .int .u8 0, .int .u8 0, .int .u8 0, .int .u8 0, .int .u8 0, .int .u8 0, .int .u8 0, .int .u8 0, .int .u8 0, .int .u8 0, .int .u8 0, .int .u8 0, .int .u8 0, .int .u8 0, .int .u8 0, .int .u8 0, .int .u8 0, .int .u8 0, .int .u8 0, .int .u8 0, .int .u8 0, .int .u8 0, .int .u8 0] ((prD s).map bv).toArray hz2 (by rw [arr_size PL.out]; rfl) (by rw [arr_size PL.out]; rfl) (arr_one _)
    simp only [oS27, Result.andThen, ↓reduceIte, hst2, PL.out]
    rw [Oper.upon_skip]
    have kk2 : Keep Non w6 ((w6.alloc (.cells #[.int .u8 0, .int .u8 0, .int .u8 0, .int .u8 0, .int .u8 0, .int .u8 0, .int .u8 0, .int .u8 0, .int .u8 0, .int .u8 0, .int .u8 0, .int .u8 0, .int .u8 0, .int .u8 0, .int .u8 0, .int .u8 0, .int .u8 0, .int .u8 0, .int .u8 0, .int .u8 0, .int .u8 0, .int .u8 0, .int .u8 0, .int .u8 0, .int .u8 0, .int .u8 0, .int .u8 0, .int .u8 0, .int .u8 0, .int .u8 0, .int .u8 0, .int .u8 0] 27)).setRow w6.heap.size ((prD s).map bv).toArray) := ((Keep.refl _ _).alloc _).setRow (.inr (Nat.le_refl _)) _
    have bb2 := setRow_heap (w6.alloc (.cells #[.int .u8 0, .int .u8 0, .int .u8 0, .int .u8 0, .int .u8 0, .int .u8 0, .int .u8 0, .int .u8 0, .int .u8 0, .int .u8 0, .int .u8 0, .int .u8 0, .int .u8 0, .int .u8 0, .int .u8 0, .int .u8 0, .int .u8 0, .int .u8 0, .int .u8 0, .int .u8 0, .int .u8 0, .int .u8 0, .int .u8 0, .int .u8 0, .int .u8 0, .int .u8 0, .int .u8 0, .int .u8 0, .int .u8 0, .int .u8 0, .int .u8 0, .int .u8 0] 27)) w6.heap.size _ ((prD s).map bv).toArray _ _ hz2
    have KK2 := Lib.hid kk2
    have BB2 := Lib.hid bb2
    have SS2 : Hid (w6.heap.size < ((w6.alloc (.cells #[.int .u8 0, .int .u8 0, .int .u8 0, .int .u8 0, .int .u8 0, .int .u8 0, .int .u8 0, .int .u8 0, .int .u8 0, .int .u8 0, .int .u8 0, .int .u8 0, .int .u8 0, .int .u8 0, .int .u8 0, .int .u8 0, .int .u8 0, .int .u8 0, .int .u8 0, .int .u8 0, .int .u8 0, .int .u8 0, .int .u8 0, .int .u8 0, .int .u8 0, .int .u8 0, .int .u8 0, .int .u8 0, .int .u8 0, .int .u8 0, .int .u8 0, .int .u8 0] 27)).setRow w6.heap.size ((prD s).map bv).toArray).heap.size) := Lib.hid (by rw [setRow_size, World.size_alloc]; omega)
    clear hz2 hst2 kk2 bb2
    generalize (w6.alloc (.cells #[.int .u8 0, .int .u8 0, .int .u8 0, .int .u8 0, .int .u8 0, .int .u8 0, .int .u8 0, .int .u8 0, .int .u8 0, .int .u8 0, .int .u8 0, .int .u8 0, .int .u8 0, .int .u8 0, .int .u8 0, .int .u8 0, .int .u8 0, .int .u8 0, .int .u8 0, .int .u8 0, .int .u8 0, .int .u8 0, .int .u8 0, .int .u8 0, .int .u8 0, .int .u8 0, .int .u8 0, .int .u8 0, .int .u8 0, .int .u8 0, .int .u8 0, .int .u8 0] 27)).setRow w6.heap.size ((prD s).map bv).toArray = w7 at KK2 BB2 SS2 ⊢
    have K7 := Lib.hid (K6.out.trans1 KK2.out)
    have B7 := Lib.hid (KK2.out.at B6.out (fun e => e))
    have C7 := Lib.hid (KK2.out.at C6.out (fun e => e))
    have S7 : Hid (w4.heap.size < w7.heap.size) := Lib.hid (Nat.lt_of_lt_of_le S6.out KK2.out.size)
    clear KK2 K6 B6 C6 S6
    go_wp2_with fail
    refine (rparse_any s (by omega) _).mono ?_
    rintro e w8 ⟨rfl, k8⟩
    have K8 := Lib.hid (K7.out.trans1 k8)
    have B8 := Lib.hid (k8.at B7.out (fun e => e))
    have C8 := Lib.hid (k8.at C7.out (fun e => e))
    have D8 := Lib.hid (k8.at BB2.out (fun e => e))
    clear k8 K7 B7 C7 BB2 SS2 S7
    unfold arrV
    go_wp2_with fail

    have hz3 := blk_new w8 (.cells #[.int .u8 0, .int .u8 0, .int .u8 0, .int .u8 0, .int .u8 0, .int .u8 0, .int .u8 0, .int .u8 0, .int .u8 0, .int .u8 0, .int .u8 0, .int .u8 0, .int .u8 0, .int .u8 0, .int .u8 0, .int .u8 0, .int .u8 0, .int .u8 0, .int .u8 0, .int .u8 0, .int .u8 0, .int .u8 0, .int .u8 0, .int .u8 0, .int .u8 0, .int .u8 0, .int .u8 0, .int .u8 0, .int .u8 0, .int .u8 0, .int .u8 0, .int .u8 0] 34)
    have hst3 := row_store (P := Tryd.prog) (w8.alloc (.cells #[.int .u8 0, .int .u8 0, .int .u8 0, .int .u8 0, .int .u8 0, .int .u8 0, .int .u8 0, .int .u8 0, .int .u8 0, .int .u8 0, .int .u8 0, .int .u8 0, .int .u8 0, .int .u8 0, .int .u8 0, .int .u8 0, .int .u8 0, .int .u8 0, .int .u8 0, .int .u8 0, .int .u8 0, .int .u8 0, .int .u8 0, .int .u8 0, .int .u8 0, .int .u8 0, .int .u8 0, .int .u8 0, .int .u8 0, .int .u8 0, .int .u8 0, .int .u8 0] 34)) w8.heap.size 34 #[.int .u8 0, .int .u8 0, .int .u8 0, .int .u8 0, .int .u8 0, .int .u8 0, .int .u8 0, .int .u8 0, .int .u8 0, .int .u8 0, .int .u8 0, .int .u8 0, .int .u8 0, .int .u8 0, .int .u8 0, .int .u8 0, .int .u8 0, .int .u8 0, .int .u8 0, .int .u8 0, .int .u8 0, .int .u8 0, .int .u8 0, .int .u8 0, .int .u8 0, .int .u8 0, .int .u8 0, .int .u8 0, .int .u8 0, .int .u8 0, .int .u8 0, .int .u8 0] ((prD s).map bv).toArray hz3 (by rw [arr_size PL.out]; rfl) (by rw [arr_size PL.out]; rfl) (arr_one _)
    simp only [oS34, Result.andThen, ↓reduceIte, hst3, PL.out]
    rw [Oper.upon_skip]
    have kk3 : Keep Non w8 ((w8.alloc (.cells #[.int .u8 0, .int .u8 0, .int .u8 0, .int .u8 0, .int .u8 0, .int .u8 0, .int .u8 0, .int .u8 0, .int .u8 0, .int .u8 0, .int .u8 0, .int .u8 0, .int .u8 0, .int .u8 0, .int .u8 0, .int .u8 0, .int .u8 0, .int .u8 0, .int .u8 0, .int .u8 0, .int .u8 0, .int .u8 0, .int .u8 0, .int .u8 0, .int .u8 0, .int .u8 0, .int .u8 0, .int .u8 0, .int .u8 0, .int .u8 0, .int .u8 0, .int .u8 0] 34)).setRow w8.heap.size ((prD s).map bv).toArray) := ((Keep.refl _ _).alloc _).setRow (.inr (Nat.le_refl _)) _
    have bb3 := setRow_heap (w8.alloc (.cells #[.int .u8 0, .int .u8 0, .int .u8 0, .int .u8 0, .int .u8 0, .int .u8 0, .int .u8 0, .int .u8 0, .int .u8 0, .int .u8 0, .int .u8 0, .int .u8 0, .int .u8 0, .int .u8 0, .int .u8 0, .int .u8 0, .int .u8 0, .int .u8 0, .int .u8 0, .int .u8 0, .int .u8 0, .int .u8 0, .int .u8 0, .int .u8 0, .int .u8 0, .int .u8 0, .int .u8 0, .int .u8 0, .int .u8 0, .int .u8 0, .int .u8 0, .int .u8 0] 34)) w8.heap.size _ ((prD s).map bv).toArray _ _ hz3
    have KK3 := Lib.hid kk3
    have BB3 := Lib.hid bb3
    have SS3 : Hid (w8.heap.size < ((w8.alloc (.cells #[.int .u8 0, .int .u8 0, .int .u8 0, .int .u8 0, .int .u8 0, .int .u8 0, .int .u8 0, .int .u8 0, .int .u8 0, .int .u8 0, .int .u8 0, .int .u8 0, .int .u8 0, .int .u8 0, .int .u8 0, .int .u8 0, .int .u8 0, .int .u8 0, .int .u8 0, .int .u8 0, .int .u8 0, .int .u8 0, .int .u8 0, .int .u8 0, .int .u8 0, .int .u8 0, .int .u8 0, .int .u8 0, .int .u8 0, .int .u8 0, .int .u8 0, .int .u8 0] 34)).setRow w8.heap.size ((prD s).map bv).toArray).heap.size) := Lib.hid (by rw [setRow_size, World.size_alloc]; omega)
    clear hz3 hst3 kk3 bb3
    generalize (w8.alloc (.cells #[.int .u8 0, .int .u8 0, .int .u8 0, .int .u8 0, .int .u8 0, .int .u8 0, .int .u8 0, .int .u8 0, .int .u8 0, .int .u8 0, .int .u8 0, .int .u8 0, .int .u8 0, .int .u8 0, .int .u8 0, .int .u8 0, .int .u8 0, .int .u8 0, .int .u8 0, .int .u8 0, .int .u8 0, .int .u8 0, .int .u8 0, .int .u8 0, .int .u8 0, .int .u8 0, .int .u8 0, .int .u8 0, .int .u8 0, .int .u8 0, .int .u8 0, .int .u8 0] 34)).setRow w8.heap.size ((prD s).map bv).toArray = w9 at KK3 BB3 SS3 ⊢
    have K9 := Lib.hid (K8.out.trans1 KK3.out)
    have B9 := Lib.hid (KK3.out.at B8.out (fun e => e))
    have C9 := Lib.hid (KK3.out.at C8.out (fun e => e))
    have D9 := Lib.hid (KK3.out.at D8.out (fun e => e))
    clear KK3 K8 B8 C8 D8
    go_wp2_with fail
    refine (rhex_any D HD.out _ _ _ (bs_arr B9.out HD.out)).mono ?_
    rintro e u0 ⟨rfl, k10⟩
    have K10 := Lib.hid (K9.out.trans1 k10)
    have B10 := Lib.hid (k10.at B9.out (fun e => e))
    have C10 := Lib.hid (k10.at C9.out (fun e => e))
    have D10 := Lib.hid (k10.at D9.out (fun e => e))
    have E10 := Lib.hid (k10.at BB3.out (fun e => e))
    clear k10 K9 B9 C9 D9 BB3 SS3
    have hq1 : ∀ w : World, (Op.equalIn 10000 27 (.agg (D.map bv).toArray) (.agg (D.map bv).toArray)).run Tryd.prog w = .ok true w := fun w => by
      have := eq_dig D D HD.out HD.out w
      rw [beq_self_eq_true] at this
      exact this
    have hq2 : ∀ w : World, (Op.equalIn 10000 34 (.agg ((prD s).map bv).toArray) (.agg ((prD s).map bv).toArray)).run Tryd.prog w = .ok true w := fun w => by
      have := eq_ref (prD s) (prD s) PL.out PL.out w
      rw [beq_self_eq_true] at this
      exact this
    by_cases hok : okL s = true
    · rw [prE_ok hok, errv_zero]
      have HX := Lib.hid (hex_prD hok)
      clear hok
      go_wp2_with fail
      have hl := row_load (P := Tryd.prog) u0 w4.heap.size 27 _ (0, 0) 32 C10.out (arr_size HD.out)
      simp only [oA27, oS27, Result.andThen, ↓reduceIte, hl]
      rw [Oper.upon_value]
      clear hl
      go_wp2_with fail
      have hl := row_load (P := Tryd.prog) u0 w.heap.size 26 _ (0, 0) 32 B10.out (arr_size HD.out)
      simp only [oA26, oS26, Result.andThen, ↓reduceIte, hl]
      rw [Oper.upon_value]
      clear hl
      go_wp2_with fail
      have hl := row_load (P := Tryd.prog) u0 w6.heap.size 27 _ (0, 0) 32 D10.out (arr_size PL.out)
      simp only [oA27, oS27, Result.andThen, ↓reduceIte, hl]
      rw [Oper.upon_value]
      clear hl
      go_wp2_with fail
      have hl := row_load (P := Tryd.prog) u0 w8.heap.size 34 _ (0, 0) 32 E10.out (arr_size PL.out)
      simp only [oA34, oS34, Result.andThen, ↓reduceIte, hl]
      rw [Oper.upon_value]
      clear hl
      go_wp2_with fail
      refine (num_none _).mono ?_
      rintro e w' ⟨rfl, rfl⟩
      go_wp2_with fail
      have hl := row_load (P := Tryd.prog) u0 w6.heap.size 27 _ (0, 0) 32 D10.out (arr_size PL.out)
      simp only [oA27, oS27, Result.andThen, ↓reduceIte, hl]
      rw [Oper.upon_value]
      clear hl
      go_wp2_with fail
      refine (hex_any (prD s) PL.out _).mono ?_
      rintro e w11 ⟨rfl, k11⟩
      rw [HX.out]
      have K11 := Lib.hid (K10.out.trans1 k11)
      clear k11
      go_wp2_with fail
      go_ret
      exact ⟨rfl, K11.out⟩
    · rw [prE_bad hok, errv_of (n := 2) (by decide)]
      clear hok
      go_wp2_with fail
      have hl := row_load (P := Tryd.prog) u0 w4.heap.size 27 _ (0, 0) 32 C10.out (arr_size HD.out)
      simp only [oA27, oS27, Result.andThen, ↓reduceIte, hl]
      rw [Oper.upon_value]
      clear hl
      go_wp2_with fail
      have hl := row_load (P := Tryd.prog) u0 w.heap.size 26 _ (0, 0) 32 B10.out (arr_size HD.out)
      simp only [oA26, oS26, Result.andThen, ↓reduceIte, hl]
      rw [Oper.upon_value]
      clear hl
      go_wp2_with fail
      have hl := row_load (P := Tryd.prog) u0 w6.heap.size 27 _ (0, 0) 32 D10.out (arr_size PL.out)
      simp only [oA27, oS27, Result.andThen, ↓reduceIte, hl]
      rw [Oper.upon_value]
      clear hl
      go_wp2_with fail
      have hl := row_load (P := Tryd.prog) u0 w8.heap.size 34 _ (0, 0) 32 E10.out (arr_size PL.out)
      simp only [oA34, oS34, Result.andThen, ↓reduceIte, hl]
      rw [Oper.upon_value]
      clear hl
      go_wp2_with fail
      refine (num_some 2 (by decide) _).mono ?_
      rintro e w' ⟨rfl, rfl⟩
      go_wp2_with fail
      go_ret
      exact ⟨rfl, K10.out⟩
  · have hlen' : (200 : Int) < (s.length : Int) := by omega
    go_wp2_with fail
    go_ret
    exact ⟨rfl, K2.out⟩
end

end Go.Proofs.YtcjjhgecmnfmdaaDoor
