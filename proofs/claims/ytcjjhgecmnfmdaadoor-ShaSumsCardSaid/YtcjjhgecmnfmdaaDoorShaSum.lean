/- Sum, Link, Zero: digests of a text, of a text behind a digest; the digest of noughts alone: walked. -/
import Derived.Test.YtcjjhgecmnfmdaaDoorShaOf
import Derived.Stop.BytesEq
namespace Go.Proofs.YtcjjhgecmnfmdaaDoor
open Go.RowKit Go.Shelf
set_option linter.unusedVariables false

/-- A digest's bytes. -/
def digB (s : W8) : List UInt8 := (List.range 32).map fun j => UInt8.ofNat (s.byte j).toNat
/-- Bytes as an array's value. -/
def arrV (D : List UInt8) : Value := .agg (D.map bv).toArray
theorem digB_len (s : W8) : (digB s).length = 32 := by simp [digB]
theorem digC_arr (s : W8) : Value.agg (digC s 32) = arrV (digB s) := by
  unfold arrV digC digB
  rw [List.map_map]
  congr 2
  apply List.map_congr_left
  intro j hj
  rw [if_pos (List.mem_range.1 hj)]
  unfold bv
  have : 0 ≤ s.byte j ∧ s.byte j < 256 := by unfold W8.byte; omega
  simp only [Function.comp, UInt8.toNat_ofNat']
  congr 1
  omega
theorem arr_size {D : List UInt8} (h : D.length = 32) : ((D.map bv).toArray).size = 32 := by simp [h]
theorem arr_one (D : List UInt8) : ((D.map bv).toArray).all (·.oneCell') = true := by
  rw [Array.all_eq_true]
  intro i hi
  simp [bv]
  rfl
theorem eq_arr (t e : TypeId) (ht : Tryd.prog.underlying t = some (.array 32 e)) (he : Tryd.prog.underlying e = some (.int .u8)) (hsz : ∀ w, (sizeOf e).run Tryd.prog w = .ok 1 w) (D E : List UInt8) (hD : D.length = 32) (hE : E.length = 32) (w : World) :
    (Op.equalIn 10000 t (arrV D) (arrV E)).run Tryd.prog w = .ok (D == E) w :=
  run_equalIn_bytes w 9998 t e 32 ht he hsz D E hD hE
theorem sizeU8 (w : World) : (sizeOf 5).run Tryd.prog w = .ok 1 w := by kernel_rfl
theorem eq_dig (D E : List UInt8) (hD : D.length = 32) (hE : E.length = 32) (w : World) : (Op.equalIn 10000 27 (arrV D) (arrV E)).run Tryd.prog w = .ok (D == E) w :=
  eq_arr 27 5 Tryd.underlying27 Tryd.underlying5 sizeU8 D E hD hE w

/-- Noughts alone? -/
def isZ (D : List UInt8) : Bool := D == List.replicate 32 0

/-- A new row of parts. -/
theorem pts_of {w : World} {g : Nat} {t : TypeId} {fr : Nat × Nat} {vs : List Value} {ls : List (List UInt8)} (h : w.heap[g]? = some (.cells vs.toArray t fr)) (hl : vs.length = ls.length) (hb : ∀ (i : Nat) (u : Value) (l : List UInt8), vs[i]? = some u → ls[i]? = some l → Bs w u l) (cap : Nat) : Pts w (.slice (some ⟨g, 0, none⟩) ls.length cap) ls := by
  refine ⟨vs, ⟨_, cap, by rw [hl], fun _ => ⟨g, 0, rfl, fun j u hu => ?_⟩⟩, hl, hb⟩
  rw [Nat.zero_add, cell_of_row _ _ j _ _ _ h]
  simpa using hu
/-- An array's bytes, sliced. -/
theorem bs_arr {w : World} {g : Nat} {t : TypeId} {fr : Nat × Nat} {D : List UInt8} (h : w.heap[g]? = some (.cells (D.map bv).toArray t fr)) (hD : D.length = 32) : Bs w (.slice (some ⟨g, 0, none⟩) 32 32) D := by
  refine ⟨_, 32, by rw [List.length_map, hD], fun _ => ⟨g, 0, rfl, fun j u hu => ?_⟩⟩
  rw [Nat.zero_add, cell_of_row _ _ j _ _ _ h]
  simpa using hu

section
attribute [local simp high] hA56 hS56 hA27 hS27
set_option maxRecDepth 100000 in
set_option maxHeartbeats 1600000 in
theorem sum_any (l : List UInt8) (a : Option Addr) (cap : Nat) (w : World) (hb : Bs w (.slice a l.length cap) l) (hk : Kon w) (hf : Frs w) (ht : l.length ≤ 2000) :
    Calls Tryd.prog 9 #[.slice a l.length cap] w fun e w' => e = .returned (arrV (digB (shaS l))) ∧ Keep Non w w' := by
  have HB := Lib.hid hb
  have HK := Lib.hid hk
  have HF := Lib.hid hf
  clear hb hk hf
  go_enter Tryd.func9, Tryd.ntmps9
  go_wp2_with fail
  have k1 : Keep Non w ((w.alloc (.cells #[.int .u8 0, .int .u8 0, .int .u8 0, .int .u8 0, .int .u8 0, .int .u8 0, .int .u8 0, .int .u8 0, .int .u8 0, .int .u8 0, .int .u8 0, .int .u8 0, .int .u8 0, .int .u8 0, .int .u8 0, .int .u8 0, .int .u8 0, .int .u8 0, .int .u8 0, .int .u8 0, .int .u8 0, .int .u8 0, .int .u8 0, .int .u8 0, .int .u8 0, .int .u8 0, .int .u8 0, .int .u8 0, .int .u8 0, .int .u8 0, .int .u8 0, .int .u8 0] 27)).alloc (.cells #[.slice a l.length cap] 22)) := ((Keep.refl _ _).alloc _).alloc _
  have hp : Pts ((w.alloc (.cells #[.int .u8 0, .int .u8 0, .int .u8 0, .int .u8 0, .int .u8 0, .int .u8 0, .int .u8 0, .int .u8 0, .int .u8 0, .int .u8 0, .int .u8 0, .int .u8 0, .int .u8 0, .int .u8 0, .int .u8 0, .int .u8 0, .int .u8 0, .int .u8 0, .int .u8 0, .int .u8 0, .int .u8 0, .int .u8 0, .int .u8 0, .int .u8 0, .int .u8 0, .int .u8 0, .int .u8 0, .int .u8 0, .int .u8 0, .int .u8 0, .int .u8 0, .int .u8 0] 27)).alloc (.cells #[.slice a l.length cap] 22)) (.slice (some ⟨w.heap.size + 1, 0, none⟩) [l].length 1) [l] := by
    refine ⟨[.slice a l.length cap], ⟨_, 1, rfl, fun _ => ⟨w.heap.size + 1, 0, rfl, fun j u hu => ?_⟩⟩, rfl, fun i u m hu hm => ?_⟩
    · cases j with
      | zero =>
        simp at hu
        subst hu
        have := World.cell?_alloc_new (w.alloc (.cells #[.int .u8 0, .int .u8 0, .int .u8 0, .int .u8 0, .int .u8 0, .int .u8 0, .int .u8 0, .int .u8 0, .int .u8 0, .int .u8 0, .int .u8 0, .int .u8 0, .int .u8 0, .int .u8 0, .int .u8 0, .int .u8 0, .int .u8 0, .int .u8 0, .int .u8 0, .int .u8 0, .int .u8 0, .int .u8 0, .int .u8 0, .int .u8 0, .int .u8 0, .int .u8 0, .int .u8 0, .int .u8 0, .int .u8 0, .int .u8 0, .int .u8 0, .int .u8 0] 27)) #[.slice a l.length cap] 22 0
        rw [World.size_alloc] at this
        exact this
      | succ j => simp at hu
    · cases i with
      | zero =>
        simp at hu hm
        subst hu hm
        exact HB.out.keepNon k1
      | succ i => simp at hu
  have r1 : ((w.alloc (.cells #[.int .u8 0, .int .u8 0, .int .u8 0, .int .u8 0, .int .u8 0, .int .u8 0, .int .u8 0, .int .u8 0, .int .u8 0, .int .u8 0, .int .u8 0, .int .u8 0, .int .u8 0, .int .u8 0, .int .u8 0, .int .u8 0, .int .u8 0, .int .u8 0, .int .u8 0, .int .u8 0, .int .u8 0, .int .u8 0, .int .u8 0, .int .u8 0, .int .u8 0, .int .u8 0, .int .u8 0, .int .u8 0, .int .u8 0, .int .u8 0, .int .u8 0, .int .u8 0] 27)).alloc (.cells #[.slice a l.length cap] 22)).heap[w.heap.size]? = some (.cells #[.int .u8 0, .int .u8 0, .int .u8 0, .int .u8 0, .int .u8 0, .int .u8 0, .int .u8 0, .int .u8 0, .int .u8 0, .int .u8 0, .int .u8 0, .int .u8 0, .int .u8 0, .int .u8 0, .int .u8 0, .int .u8 0, .int .u8 0, .int .u8 0, .int .u8 0, .int .u8 0, .int .u8 0, .int .u8 0, .int .u8 0, .int .u8 0, .int .u8 0, .int .u8 0, .int .u8 0, .int .u8 0, .int .u8 0, .int .u8 0, .int .u8 0, .int .u8 0] 27 (0, 0)) := blk_alloc (blk_new _ _) _
  refine (of_any [l] _ 1 _ hp (HK.out.keep k1) (HF.out.keep k1) (by simp) (by simpa using ht)).mono ?_
  rintro e w2 ⟨rfl, kp⟩
  have r2 := kp.at r1 (fun e => e)
  have K2 := Lib.hid (k1.trans1 kp)
  rw [show [l].flatten = l by simp]
  have HS := Lib.hid (digC_arr (shaS l))
  clear hp k1 r1 kp
  go_wp2_with fail
  have hst := row_store (P := Tryd.prog) w2 w.heap.size 27 _ (digC (shaS l) 32) r2 (by rw [digC_size]; rfl) (by rw [digC_size]; rfl) (digC_one _ _)
  simp only [oS27, Result.andThen, ↓reduceIte, hst, digC_size]
  rw [Oper.upon_skip]
  clear hst
  go_wp2_with fail
  refine bodyPost_ret (v := .agg (digC (shaS l) 32)) (results_cell_row (P := Tryd.prog) Tryd.results9 _ _ w.heap.size 27 (digC (shaS l) 32) (0, 0) _ rfl (setRow_heap _ _ _ _ _ _ r2) Tryd.underlying27 rfl (by rw [digC_size]; rfl)) rfl ?_
  exact ⟨by rw [HS.out], K2.out.setRow (.inr (Nat.le_refl _)) _⟩

set_option maxRecDepth 100000 in
set_option maxHeartbeats 1600000 in
theorem link_any (D l : List UInt8) (hD : D.length = 32) (a : Option Addr) (cap : Nat) (w : World) (hb : Bs w (.slice a l.length cap) l) (hk : Kon w) (hf : Frs w) (ht : l.length ≤ 1900) :
    Calls Tryd.prog 13 #[arrV D, .slice a l.length cap] w fun e w' => e = .returned (arrV (digB (shaS (D ++ l)))) ∧ Keep Non w w' := by
  have HB := Lib.hid hb
  have HK := Lib.hid hk
  have HF := Lib.hid hf
  have HD := Lib.hid hD
  clear hb hk hf hD
  unfold arrV
  go_enter Tryd.func13, Tryd.ntmps13
  go_wp2_with fail
  have k1 : Keep Non w (((w.alloc (.cells (D.map bv).toArray 27)).alloc (.cells #[.int .u8 0, .int .u8 0, .int .u8 0, .int .u8 0, .int .u8 0, .int .u8 0, .int .u8 0, .int .u8 0, .int .u8 0, .int .u8 0, .int .u8 0, .int .u8 0, .int .u8 0, .int .u8 0, .int .u8 0, .int .u8 0, .int .u8 0, .int .u8 0, .int .u8 0, .int .u8 0, .int .u8 0, .int .u8 0, .int .u8 0, .int .u8 0, .int .u8 0, .int .u8 0, .int .u8 0, .int .u8 0, .int .u8 0, .int .u8 0, .int .u8 0, .int .u8 0] 27)).alloc (.cells #[.slice (some ⟨w.heap.size, 0, none⟩) 32 32, .slice a l.length cap] 22)) := (((Keep.refl _ _).alloc _).alloc _).alloc _
  have b1 : (((w.alloc (.cells (D.map bv).toArray 27)).alloc (.cells #[.int .u8 0, .int .u8 0, .int .u8 0, .int .u8 0, .int .u8 0, .int .u8 0, .int .u8 0, .int .u8 0, .int .u8 0, .int .u8 0, .int .u8 0, .int .u8 0, .int .u8 0, .int .u8 0, .int .u8 0, .int .u8 0, .int .u8 0, .int .u8 0, .int .u8 0, .int .u8 0, .int .u8 0, .int .u8 0, .int .u8 0, .int .u8 0, .int .u8 0, .int .u8 0, .int .u8 0, .int .u8 0, .int .u8 0, .int .u8 0, .int .u8 0, .int .u8 0] 27)).alloc (.cells #[.slice (some ⟨w.heap.size, 0, none⟩) 32 32, .slice a l.length cap] 22)).heap[w.heap.size]? = some (.cells (D.map bv).toArray 27 (0, 0)) := blk_alloc (blk_alloc (blk_new _ _) _) _
  have r1 : (((w.alloc (.cells (D.map bv).toArray 27)).alloc (.cells #[.int .u8 0, .int .u8 0, .int .u8 0, .int .u8 0, .int .u8 0, .int .u8 0, .int .u8 0, .int .u8 0, .int .u8 0, .int .u8 0, .int .u8 0, .int .u8 0, .int .u8 0, .int .u8 0, .int .u8 0, .int .u8 0, .int .u8 0, .int .u8 0, .int .u8 0, .int .u8 0, .int .u8 0, .int .u8 0, .int .u8 0, .int .u8 0, .int .u8 0, .int .u8 0, .int .u8 0, .int .u8 0, .int .u8 0, .int .u8 0, .int .u8 0, .int .u8 0] 27)).alloc (.cells #[.slice (some ⟨w.heap.size, 0, none⟩) 32 32, .slice a l.length cap] 22)).heap[w.heap.size + 1]? = some (.cells #[.int .u8 0, .int .u8 0, .int .u8 0, .int .u8 0, .int .u8 0, .int .u8 0, .int .u8 0, .int .u8 0, .int .u8 0, .int .u8 0, .int .u8 0, .int .u8 0, .int .u8 0, .int .u8 0, .int .u8 0, .int .u8 0, .int .u8 0, .int .u8 0, .int .u8 0, .int .u8 0, .int .u8 0, .int .u8 0, .int .u8 0, .int .u8 0, .int .u8 0, .int .u8 0, .int .u8 0, .int .u8 0, .int .u8 0, .int .u8 0, .int .u8 0, .int .u8 0] 27 (0, 0)) := by
    have := blk_new (w.alloc (.cells (D.map bv).toArray 27)) (.cells #[.int .u8 0, .int .u8 0, .int .u8 0, .int .u8 0, .int .u8 0, .int .u8 0, .int .u8 0, .int .u8 0, .int .u8 0, .int .u8 0, .int .u8 0, .int .u8 0, .int .u8 0, .int .u8 0, .int .u8 0, .int .u8 0, .int .u8 0, .int .u8 0, .int .u8 0, .int .u8 0, .int .u8 0, .int .u8 0, .int .u8 0, .int .u8 0, .int .u8 0, .int .u8 0, .int .u8 0, .int .u8 0, .int .u8 0, .int .u8 0, .int .u8 0, .int .u8 0] 27)
    rw [World.size_alloc] at this
    exact blk_alloc this _
  have p1 : (((w.alloc (.cells (D.map bv).toArray 27)).alloc (.cells #[.int .u8 0, .int .u8 0, .int .u8 0, .int .u8 0, .int .u8 0, .int .u8 0, .int .u8 0, .int .u8 0, .int .u8 0, .int .u8 0, .int .u8 0, .int .u8 0, .int .u8 0, .int .u8 0, .int .u8 0, .int .u8 0, .int .u8 0, .int .u8 0, .int .u8 0, .int .u8 0, .int .u8 0, .int .u8 0, .int .u8 0, .int .u8 0, .int .u8 0, .int .u8 0, .int .u8 0, .int .u8 0, .int .u8 0, .int .u8 0, .int .u8 0, .int .u8 0] 27)).alloc (.cells #[.slice (some ⟨w.heap.size, 0, none⟩) 32 32, .slice a l.length cap] 22)).heap[w.heap.size + 1 + 1]? = some (.cells [.slice (some ⟨w.heap.size, 0, none⟩) 32 32, .slice a l.length cap].toArray 22 (0, 0)) := by
    have := blk_new ((w.alloc (.cells (D.map bv).toArray 27)).alloc (.cells #[.int .u8 0, .int .u8 0, .int .u8 0, .int .u8 0, .int .u8 0, .int .u8 0, .int .u8 0, .int .u8 0, .int .u8 0, .int .u8 0, .int .u8 0, .int .u8 0, .int .u8 0, .int .u8 0, .int .u8 0, .int .u8 0, .int .u8 0, .int .u8 0, .int .u8 0, .int .u8 0, .int .u8 0, .int .u8 0, .int .u8 0, .int .u8 0, .int .u8 0, .int .u8 0, .int .u8 0, .int .u8 0, .int .u8 0, .int .u8 0, .int .u8 0, .int .u8 0] 27)) (.cells #[.slice (some ⟨w.heap.size, 0, none⟩) 32 32, .slice a l.length cap] 22)
    rw [World.size_alloc, World.size_alloc] at this
    exact this
  generalize ((w.alloc (.cells (D.map bv).toArray 27)).alloc (.cells #[.int .u8 0, .int .u8 0, .int .u8 0, .int .u8 0, .int .u8 0, .int .u8 0, .int .u8 0, .int .u8 0, .int .u8 0, .int .u8 0, .int .u8 0, .int .u8 0, .int .u8 0, .int .u8 0, .int .u8 0, .int .u8 0, .int .u8 0, .int .u8 0, .int .u8 0, .int .u8 0, .int .u8 0, .int .u8 0, .int .u8 0, .int .u8 0, .int .u8 0, .int .u8 0, .int .u8 0, .int .u8 0, .int .u8 0, .int .u8 0, .int .u8 0, .int .u8 0] 27)).alloc (.cells #[.slice (some ⟨w.heap.size, 0, none⟩) 32 32, .slice a l.length cap] 22) = w1 at k1 b1 r1 p1 ⊢
  have hp : Pts w1 (.slice (some ⟨w.heap.size + 1 + 1, 0, none⟩) [D, l].length 2) [D, l] := pts_of p1 rfl (fun i u m hu hm => by
    match i with
    | 0 =>
      simp at hu hm
      subst hu hm
      exact bs_arr b1 HD.out
    | 1 =>
      simp at hu hm
      subst hu hm
      exact HB.out.keepNon k1
    | i + 2 => simp at hu) 2
  refine (of_any [D, l] _ 2 _ hp (HK.out.keep k1) (HF.out.keep k1) (by simp) (by have := HD.out; simp; omega)).mono ?_
  rintro e w2 ⟨rfl, kp⟩
  have r2 := kp.at r1 (fun e => e)
  have K2 := Lib.hid (k1.trans1 kp)
  rw [show [D, l].flatten = D ++ l by simp]
  have HS := Lib.hid (digC_arr (shaS (D ++ l)))
  clear hp k1 r1 kp b1 p1
  go_wp2_with fail
  have hst := row_store (P := Tryd.prog) w2 (w.heap.size + 1) 27 _ (digC (shaS (D ++ l)) 32) r2 (by rw [digC_size]; rfl) (by rw [digC_size]; rfl) (digC_one _ _)
  simp only [oS27, Result.andThen, ↓reduceIte, hst, digC_size]
  rw [Oper.upon_skip]
  clear hst
  go_wp2_with fail
  refine bodyPost_ret (v := .agg (digC (shaS (D ++ l)) 32)) (results_cell_row (P := Tryd.prog) Tryd.results13 _ _ (w.heap.size + 1) 27 (digC (shaS (D ++ l)) 32) (0, 0) _ rfl (setRow_heap _ _ _ _ _ _ r2) Tryd.underlying27 rfl (by rw [digC_size]; rfl)) rfl ?_
  exact ⟨by rw [HS.out]; rfl, K2.out.setRow (.inr (by omega)) _⟩

set_option maxRecDepth 100000 in
set_option maxHeartbeats 1600000 in
theorem zero_any (D : List UInt8) (hD : D.length = 32) (w : World) :
    Calls Tryd.prog 12 #[arrV D] w fun e w' => e = .returned (.bool (isZ D)) ∧ Keep Non w w' := by
  have HD := Lib.hid hD
  clear hD
  unfold arrV
  have hq : ∀ w : World, (Op.equalIn 10000 27 (.agg (D.map bv).toArray) (.agg #[.int .u8 0, .int .u8 0, .int .u8 0, .int .u8 0, .int .u8 0, .int .u8 0, .int .u8 0, .int .u8 0, .int .u8 0, .int .u8 0, .int .u8 0, .int .u8 0, .int .u8 0, .int .u8 0, .int .u8 0, .int .u8 0, .int .u8 0, .int .u8 0, .int .u8 0, .int .u8 0, .int .u8 0, .int .u8 0, .int .u8 0, .int .u8 0, .int .u8 0, .int .u8 0, .int .u8 0, .int .u8 0, .int .u8 0, .int .u8 0, .int .u8 0, .int .u8 0])).run Tryd.prog w = .ok (isZ D) w := fun w => eq_dig D (List.replicate 32 0) HD.out rfl w
  go_enter Tryd.func12, Tryd.ntmps12
  go_wp2_with fail
  have hl := row_load (P := Tryd.prog) (w.alloc (.cells (D.map bv).toArray 27)) w.heap.size 27 _ (0, 0) 32 (blk_new _ _) (arr_size HD.out)
  simp only [oA27, oS27, Result.andThen, ↓reduceIte, hl]
  rw [Oper.upon_value]
  clear hl
  go_wp2_with fail
  go_ret
  exact ⟨rfl, (Keep.refl _ _).alloc _⟩
end

end Go.Proofs.YtcjjhgecmnfmdaaDoor
