/- The document's Hex, walked. -/
import Derived.Test.YtcjjhgecmnfmdaaDoorShaHex
import Derived.Deep.QuietTactic
import Derived.BigQuiet
namespace Go.Proofs.YtcjjhgecmnfmdaaDoor
open Go.RowKit Go.Shelf
set_option linter.unusedVariables false

def sgS (n : Nat) : ByteArray := ⟨#[sg n]⟩
theorem slice_sign (n : Nat) (h : n < 16) (x y : Int) (hx : x = n) (hy : y = n + 1) (w : World) : (Instr.slice 9 (.string ⟨#[48, 49, 50, 51, 52, 53, 54, 55, 56, 57, 97, 98, 99, 100, 101, 102]⟩) (some (.int .u8 x)) (some (.int .u8 y)) none).run Tryd.prog w = .ok (.string (sgS n)) w := by
  subst hx hy
  rw [run_slice_string w 9 _ .u8 .u8 _ _ Tryd.underlying9 (by omega) (by omega) (by show _ ≤ ((16 : Nat) : Int); omega)]
  congr 2
  rw [show ((n : Int) + 1).toNat = n + 1 by omega, Int.toNat_natCast]
  unfold sgS
  match n, h with
  | 0, _ => rfl
  | 1, _ => rfl
  | 2, _ => rfl
  | 3, _ => rfl
  | 4, _ => rfl
  | 5, _ => rfl
  | 6, _ => rfl
  | 7, _ => rfl
  | 8, _ => rfl
  | 9, _ => rfl
  | 10, _ => rfl
  | 11, _ => rfl
  | 12, _ => rfl
  | 13, _ => rfl
  | 14, _ => rfl
  | 15, _ => rfl
  | n + 16, h => omega
theorem str_two (F : List UInt8) (a b : Nat) : (⟨F.toArray⟩ : ByteArray) ++ (sgS a ++ sgS b) = ⟨(F ++ [sg a, sg b]).toArray⟩ := by
  apply ByteArray.ext
  simp [sgS]

set_option maxRecDepth 100000 in
set_option maxHeartbeats 1600000 in
theorem rhex_any (D : List UInt8) (hD : D.length = 32) (a : Option Addr) (cap : Nat) (w : World) (hb : Bs w (.slice a 32 cap) D) :
    Calls Tryd.prog 23 #[.slice a 32 cap] w fun e w' => e = .returned (.string ⟨(hexL D).toArray⟩) ∧ Keep Non w w' := by
  obtain ⟨g, off, rfl, hcell⟩ : ∃ g off, a = some ⟨g, off, none⟩ ∧ ∀ j, j < 32 → w.cell? ⟨g, off + j, none⟩ = some (bv (D.getD j 0)) := by
    obtain ⟨a', c', e1, hx⟩ := hb
    obtain ⟨g, off, e2, hc⟩ := hx (by intro e; rw [List.map_eq_nil_iff] at e; rw [e] at hD; simp at hD)
    injection e1 with e1
    exact ⟨g, off, e1.trans e2, fun j hj => hc j _ (by simp [hD, hj])⟩
  have HC := Lib.hid hcell
  have HD := Lib.hid hD
  have hgl : g < w.heap.size := World.block_lt_of_cell? _ _ (hcell 0 (by omega))
  clear hcell hD hb
  go_enter Tryd.func23, Tryd.ntmps23
  go_wp2_with fail
  go_loopw [4, 5] (fun v i wr => ∃ k : Nat, k ≤ 32 ∧ i = .int .i64 k ∧ Keep Non w wr ∧ v = .string ⟨(hexL (D.take k)).toArray⟩) (fun _ i _ => 32 - (intOf i).toNat)
  case atStart => exact ⟨0, by omega, rfl, Keep.refl _ _, rfl⟩
  case round =>
    obtain ⟨k, hk, rfl, kp, rfl⟩ := hrel
    have KP := Lib.hid kp
    by_cases hlt : k < 32
    · have hlt' : (k : Int) < 32 := by omega
      have hc1 : wr.cell? ⟨g, off + k, none⟩ = some (bv (D.getD k 0)) := (World.cell?_of_block (kp.block g hgl (fun e => e))).trans (HC.out k hlt)
      have FT : Hid (hexL (D.take (k + 1)) = hexL (D.take k) ++ [sg ((D.getD k 0).toNat / 16), sg ((D.getD k 0).toNat % 16)]) := Lib.hid (by rw [take_getD D k (by rw [HD.out]; exact hlt), hexL_append]; rfl)
      have hc := (D.getD k 0).toNat_lt
      rw [bv] at hc1
      clear kp
      generalize (D.getD k 0).toNat = c at hc1 FT hc
      have FS := Lib.hid FT.out
      have lF : (hexL (D.take k)).length ≤ 64 := by rw [hexL_len, List.length_take]; omega
      generalize hexL (D.take k) = F at FT FS lF
      have s1 := fun w => slice_sign (c / 16) (by omega) ((c : Int) / 16) ((c : Int) / 16 + 1) (by omega) (by omega) w
      have s2 := fun w => slice_sign (c % 16) (by omega) ((c : Int) % 16) ((c : Int) % 16 + 1) (by omega) (by omega) w
      have e1 : IntKind.u8.wrap ((c : Int) / 16 + 1) = (c : Int) / 16 + 1 := by rw [IntKind.wrap_u8']; omega
      have e2 : IntKind.u8.wrap ((c : Int) % 16 + 1) = (c : Int) % 16 + 1 := by rw [IntKind.wrap_u8']; omega
      have e3 : Int.tdiv (c : Int) 16 = (c : Int) / 16 := by rw [Int.tdiv_eq_ediv_of_nonneg (by omega)]
      have e4 : Int.tmod (c : Int) 16 = (c : Int) % 16 := by rw [Int.tmod_eq_emod_of_nonneg (by omega)]
      have e5 : IntKind.u8.wrap ((c : Int) / 16) = (c : Int) / 16 := by rw [IntKind.wrap_u8']; omega
      have e6 : IntKind.u8.wrap ((c : Int) % 16) = (c : Int) % 16 := by rw [IntKind.wrap_u8']; omega
      have a1 := fun w : World => run_string_add_sum (P := Tryd.prog) w (sgS (c / 16)) (sgS (c % 16)) (by show 1 + 1 ≤ 9223372036854775807; decide)
      have a2 := fun w : World => run_string_add_sum (P := Tryd.prog) w ⟨F.toArray⟩ (sgS (c / 16) ++ sgS (c % 16)) (by
        rw [ByteArray.size_append', ByteArray.size_mk', List.size_toArray]
        show F.length + (1 + 1) ≤ _
        omega)
      go_wp2_with fail
      go_quiet (fail)
      go_wp2_with fail
      go_roundw
      case rel => exact ⟨k + 1, by omega, by go_num, KP.out.drewN _, by rw [FT.out, str_two]⟩
      case measure => simp [intOf]; omega
    · have e : k = 32 := by omega
      subst e
      have HE : Hid (D.take 32 = D) := Lib.hid (List.take_of_length_le (by rw [HD.out]; omega))
      clear kp
      go_wp2_with fail
      go_ret
      exact ⟨by rw [HE.out]; rfl, KP.out⟩

end Go.Proofs.YtcjjhgecmnfmdaaDoor
