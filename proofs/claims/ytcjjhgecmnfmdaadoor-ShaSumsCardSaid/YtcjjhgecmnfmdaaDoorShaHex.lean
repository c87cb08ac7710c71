/- A digest's text: Hex, walked. -/
import Derived.Test.YtcjjhgecmnfmdaaDoorShaSum
import Derived.Test.YtcjjhgecmnfmdaaDoorBytes
namespace Go.Proofs.YtcjjhgecmnfmdaaDoor
open Go.RowKit Go.Shelf
set_option linter.unusedVariables false

/-- The signs. -/
def signsL : List UInt8 := [48, 49, 50, 51, 52, 53, 54, 55, 56, 57, 97, 98, 99, 100, 101, 102]
def sg (n : Nat) : UInt8 := signsL.getD n 0
/-- Bytes as signs. -/
def hexL : List UInt8 → List UInt8
  | [] => []
  | c :: r => sg (c.toNat / 16) :: sg (c.toNat % 16) :: hexL r
theorem hexL_len : ∀ l : List UInt8, (hexL l).length = 2 * l.length
  | [] => rfl
  | c :: r => by simp [hexL, hexL_len r]; omega
theorem hexL_append : ∀ a b : List UInt8, hexL (a ++ b) = hexL a ++ hexL b
  | [], b => rfl
  | c :: r, b => by simp [hexL, hexL_append r b]
theorem and15n : ∀ n : Nat, n < 256 → bits .and .u8 (n : Int) 15 = ((n % 16 : Nat) : Int) := by decide +kernel
theorem and15 (n : Nat) (h : n < 256) : bits .and .u8 (n : Int) 15 = (n : Int) % 16 := by
  rw [and15n n h]
  omega
theorem index_sign (n : Nat) (h : n < 16) (x : Int) (hx : x = n) (w : World) : (Instr.index 9 (.string ⟨#[48, 49, 50, 51, 52, 53, 54, 55, 56, 57, 97, 98, 99, 100, 101, 102]⟩) (.int .u8 x)).run Tryd.prog w = .ok (.int .u8 ((sg n).toNat : Int)) w := by
  subst hx
  simp [Instr.index, go_sem, h]
  match n, h with
  | 0, _ => rfl
  | 1, _ => rfl
  | 2, _ => rfl
  | 3, _ => rfl
  | 4, _ => rfl
  | 5, _ => rfl
  | 6, _ => rfl
  | 7, _ => rfl
  | 8, _ => rfl
  | 9, _ => rfl
  | 10, _ => rfl
  | 11, _ => rfl
  | 12, _ => rfl
  | 13, _ => rfl
  | 14, _ => rfl
  | 15, _ => rfl
  | n + 16, h => omega
theorem rd_two (w : World) (u v : Value) (t : TypeId) : Rd (w.alloc (.cells #[u, v] t)) (.slice (some ⟨w.heap.size, 0, none⟩) 2 2) [u, v] := by
  refine ⟨_, 2, rfl, fun _ => ⟨w.heap.size, 0, rfl, fun j x hx => ?_⟩⟩
  rw [Nat.zero_add, cell_of_row _ _ j _ _ _ (blk_new w _)]
  simpa using hx
theorem index_arr (D : List UInt8) (hD : D.length = 32) (t : Nat) (h : t < 32) (w : World) : (Instr.index 27 (.agg (D.map bv).toArray) (.int .i64 (t : Int))).run Tryd.prog w = .ok (bv (D.getD t 0)) w := by
  simp [Instr.index, go_sem, hD, h]
theorem take_getD (D : List UInt8) (k : Nat) (h : k < D.length) : D.take (k + 1) = D.take k ++ [D.getD k 0] := by
  rw [List.take_succ_eq_append_getElem h]
  simp [h]

section
attribute [local simp high] hA27 hS27
set_option maxRecDepth 100000 in
set_option maxHeartbeats 1600000 in
theorem hex_any (D : List UInt8) (hD : D.length = 32) (w : World) :
    Calls Tryd.prog 20 #[arrV D] w fun e w' => e = .returned (.string ⟨(hexL D).toArray⟩) ∧ Keep Non w w' := by
  have HD := Lib.hid hD
  clear hD
  obtain ⟨i0, hi0, hz0, hz1, hz2⟩ := info_parts infoU8
  unfold arrV
  go_enter Tryd.func20, Tryd.ntmps20
  go_wp2_with fail
  have hl := row_load (P := Tryd.prog) (w.alloc (.cells (D.map bv).toArray 27)) w.heap.size 27 _ (0, 0) 32 (blk_new _ _) (arr_size HD.out)
  simp only [oA27, oS27, Result.andThen, ↓reduceIte, hl]
  rw [Oper.upon_value]
  clear hl
  go_wp2_with fail
  go_loopw [3, 7] (fun v i wr => ∃ k : Nat, k ≤ 32 ∧ i = .int .i64 k ∧ Keep Non w wr ∧ wr.ownsRow w.heap.size 5 1 v (2 * k) ((hexL (D.take k)).map bv)) (fun _ i _ => 32 - (intOf i).toNat)
  case atStart => exact ⟨0, by omega, rfl, (Keep.refl _ _).alloc _, World.ownsRow_nil _ _ _ _⟩
  case round =>
    obtain ⟨k, hk, rfl, kp, ho⟩ := hrel
    have KP := Lib.hid kp
    have HO := Lib.hid ho
    clear kp ho
    by_cases hlt : k < 32
    · have hlt' : (k : Int) < 32 := by omega
      have hix := index_arr D HD.out k hlt wr
      have FT : Hid (hexL (D.take (k + 1)) = hexL (D.take k) ++ [sg ((D.getD k 0).toNat / 16), sg ((D.getD k 0).toNat % 16)]) := Lib.hid (by rw [take_getD D k (by rw [HD.out]; exact hlt), hexL_append]; rfl)
      have hc := (D.getD k 0).toNat_lt
      rw [bv] at hix
      generalize (D.getD k 0).toNat = c at hix FT hc
      have h15 := and15 c hc
      have s1 := fun w => index_sign (c / 16) (by omega) ((c : Int) / 16) (by omega) w
      have s2 := fun w => index_sign (c % 16) (by omega) ((c : Int) % 16) (by omega) w
      go_wp2_with fail
      go_region_law (refine step_append_rd (by rfl) (.tmp 10) (.tmp 17) 22 (by rfl) w.heap.size 5 i0 (.int .u8 0) 1 Tryd.underlying22 hi0 hz0 hz1 hz2 rfl _ (2 * k) _ (by rfl) (by first | exact HO.out.alloc _ | exact HO.out.drew.alloc _ | exact (HO.out.alloc _).drew) (.slice (some ⟨wr.heap.size, 0, none⟩) 2 2) (by simp [Act.eval]) [.int .u8 ((sg (c / 16)).toNat : Int), .int .u8 ((sg (c % 16)).toNat : Int)] (by first | exact rd_two _ _ _ _ | exact (rd_two _ _ _ _).keepNon ((Keep.refl _ _).drew)) (by intro u hu; simp at hu; rcases hu with rfl | rfl <;> rfl) (by unfold maxLen; simp; omega) (by simp; omega) (by have := KP.out.size; simp; omega) ?_; intro v' w' ho hg hp; have HO2 := Lib.hid ho; have HG := Lib.hid hg; clear ho hp hg)
      all_goals
        go_wp2_with fail
        have ho2 := HO2.out
        rw [show List.map bv (hexL (D.take k)) ++ [Value.int .u8 ((sg (c / 16)).toNat : Int), .int .u8 ((sg (c % 16)).toNat : Int)] = List.map bv (hexL (D.take (k + 1))) by rw [FT.out]; simp [bv], show 2 * k + [Value.int .u8 ((sg (c / 16)).toNat : Int), .int .u8 ((sg (c % 16)).toNat : Int)].length = 2 * (k + 1) from rfl] at ho2
        exact ⟨⟨k + 1, by omega, by go_num, (by first | exact (KP.out.alloc _).drew | exact KP.out.drew.alloc _ : Keep Non w _).grown HG.out (fun q e => .inr (HO.out.lt q e).1), ho2⟩, by simp [intOf]; omega⟩
    · have e : k = 32 := by omega
      subst e
      rw [List.take_of_length_le (by rw [HD.out]; omega)] at HO
      have hcv := conv_bs wr _ (hexL D) (Rd.ofOwns HO.out)
      go_wp2_with fail
      go_ret
      exact ⟨rfl, KP.out⟩
end

end Go.Proofs.YtcjjhgecmnfmdaaDoor
