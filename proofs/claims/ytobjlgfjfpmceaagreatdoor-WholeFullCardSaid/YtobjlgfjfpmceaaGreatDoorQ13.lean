/- What stands behind a text: 'pad', walked. -/
import Derived.Test.YtobjlgfjfpmceaaGreatDoorQ06
set_option linter.unusedVariables false
set_option maxRecDepth 100000
set_option maxHeartbeats 16000000
namespace Go.Proofs.YtobjlgfjfpmceaaGreatDoor
open Go.RowKit
def lensB (n j : Nat) : List UInt8 := (List.range j).map fun i => UInt8.ofNat (n * 8 / 2 ^ (56 - 8 * i))
def padB (n : Nat) : List UInt8 := 128 :: (List.replicate ((119 - n % 64) % 64) 0 ++ lensB n 8)
theorem padB_eq (n : Nat) : padB n = 128 :: (List.replicate ((119 - n % 64) % 64) 0 ++ lensB n 8) := rfl
theorem padB_len (n : Nat) : (padB n).length = 1 + (119 - n % 64) % 64 + 8 := by simp [padB, lensB]; omega
def lenOfV : Value → Nat
  | .slice _ n _ => n
  | _ => 0
theorem sh_rd_one (w : World) (u : Value) (t : TypeId) : Rd (w.alloc (.cells #[u] t)) (.slice (some ⟨w.heap.size, 0, none⟩) 1 1) [u] := by
  refine ⟨_, 1, rfl, fun _ => ⟨w.heap.size, 0, rfl, fun j x hx => ?_⟩⟩
  cases j with
  | zero =>
    simp at hx
    subst hx
    exact World.cell?_alloc_new _ _ _ 0
  | succ j => simp at hx
theorem sh_form {w : World} {base : Nat} {e : TypeId} {size : Nat} {v : Value} {n : Nat} {xs : List Value} (h : w.ownsRow base e size v n xs) : ∃ a cap, v = .slice a n cap ∧ n ≤ cap ∧ cap ≤ maxLen := by
  rcases h.2 with ⟨rfl, rfl⟩ | ⟨g, cap, cur, rfl, _, _, h1, h2, _⟩
  · exact ⟨none, 0, rfl, by omega, by simp [maxLen]⟩
  · exact ⟨_, cap, rfl, h1, h2⟩
theorem shU8 : (Tryz.prog.info? 5).map (fun i => (i.zero, i.size, i.bytes)) = some (some (.int .u8 0), 1, 1) := by kernel_rfl
theorem pad_any (n : Nat) (hn : n ≤ 131072) (w : World) :
    Calls Tryz.prog 345 #[.int .i64 (n : Int)] w fun e w' => ∃ g cap, e = .returned (.slice (some ⟨g, 0, none⟩) (padB n).length cap) ∧ Keep Non w w' ∧ w.heap.size ≤ g ∧ w'.ownsRow w.heap.size 5 1 (.slice (some ⟨g, 0, none⟩) (padB n).length cap) (padB n).length ((padB n).map bv) := by
  obtain ⟨i0, hi0, hz0, hz1, hz2⟩ := info_parts shU8
  go_enter Tryz.func345, Tryz.ntmps345
  go_wp2_with fail
  go_loopw [3] (fun v wr => ∃ k : Nat, k ≤ (119 - n % 64) % 64 ∧ Keep Non w wr ∧ wr.ownsRow w.heap.size 5 1 v (1 + k) ((128 :: List.replicate k 0).map bv)) (fun v _ => 64 - (lenOfV v))
  case atStart =>
    refine ⟨0, by omega, (Keep.refl _ _).alloc _, ?_⟩
    exact World.ownsRow_lit (base := w.heap.size) (e := 5) (size := 1) w #[.int .u8 128] 1 (Nat.le_refl _) (by decide) rfl
  case round =>
    obtain ⟨k, hk, kp, ho⟩ := hrel
    rcases ho.2 with ⟨_, hz⟩ | ⟨g, cap, cur, rfl, hb, hg, hle, hmx, hcs, htk⟩
    · omega
    have KP := Lib.hid kp
    have HO := Lib.hid ho
    clear kp ho
    have w1 : IntKind.i64.wrap ((n : Int) + ((1 + k : Nat) : Int)) = (n : Int) + ((1 + k : Nat) : Int) := by rw [IntKind.wrap_i64]; omega
    have w2 : IntKind.i64.wrap ((n : Int) + ((1 + k : Nat) : Int) + 8) = (n : Int) + ((1 + k : Nat) : Int) + 8 := by rw [IntKind.wrap_i64]; omega
    by_cases hlt : k < (119 - n % 64) % 64
    · have hne : (((n : Int) + (1 + (k : Int)) + 8) % 64 != 0) = true := by simp; omega
      go_wp2_with (at_builtin; refine wpList_append_rd rfl _ _ 53 rfl w.heap.size 5 i0 (.int .u8 0) 1 Tryz.underlying53 hi0 hz0 hz1 hz2 rfl (.slice (some ⟨g, 0, none⟩) (1 + k) cap) (1 + k) _ rfl (HO.out.alloc _) (.slice (some ⟨wr.heap.size, 0, none⟩) 1 1) rfl [.int .u8 0] (sh_rd_one _ _ _) (by intro u hu; simp at hu; subst hu; rfl) (by unfold maxLen; simp; omega) (by simp; omega) (by have := KP.out.size; simp; omega) ?_; intro v' w' ho hg hp; have HO2 := Lib.hid ho; have HG := Lib.hid hg; clear ho hp hg)
      have h2 := HO2.out
      rw [show List.map bv (128 :: List.replicate k 0) ++ [Value.int .u8 0] = List.map bv (128 :: List.replicate (k + 1) 0) by simp [List.replicate_succ', bv], show 1 + k + [Value.int .u8 0].length = 1 + (k + 1) from rfl] at h2
      obtain ⟨a2, cap2, rfl, _, _⟩ := sh_form h2
      exact ⟨⟨k + 1, by omega, (KP.out.alloc _).grown HG.out (fun q e => .inr (by injection e with e; subst e; exact hb)), h2⟩, by simp [lenOfV]; omega⟩
    · have ek : Hid (k = (119 - n % 64) % 64) := Lib.hid (by omega)
      have hne : (((n : Int) + (1 + (k : Int)) + 8) % 64 != 0) = false := by simp; omega
      go_wp2_with fail
      go_loopw [3, 4] (fun v i wq => ∃ j : Nat, j ≤ 8 ∧ i = .int .i64 (56 - 8 * (j : Int)) ∧ Keep Non w wq ∧ wq.ownsRow w.heap.size 5 1 v (1 + k + j) ((128 :: (List.replicate k 0 ++ lensB n j)).map bv)) (fun _ i _ => (intOf i + 8).toNat)
      case atStart => exact ⟨0, by omega, rfl, KP.out, by simpa [lensB] using HO.out⟩
      case round =>
        clear KP HO htk hle hmx hcs hg hb hk hlt hne
        obtain ⟨j, hj, rfl, kp, ho⟩ := hrel
        rcases ho.2 with ⟨_, hz⟩ | ⟨g, cap, cur, rfl, hb, hg, hle, hmx, hcs, htk⟩
        · omega
        have KP := Lib.hid kp
        have HO := Lib.hid ho
        clear kp ho
        by_cases h8 : j < 8
        · have hsh : (0 : Int) ≤ 56 - 8 * (j : Int) := by omega
          have w5 : IntKind.i64.wrap (56 - 8 * (j : Int) - 8) = 56 - 8 * (j : Int) - 8 := by rw [IntKind.wrap_i64]; omega
          have hk : k < 64 := by have := ek.out; omega
          go_wp2_with (at_builtin; refine wpList_append_rd rfl _ _ 53 rfl w.heap.size 5 i0 (.int .u8 0) 1 Tryz.underlying53 hi0 hz0 hz1 hz2 rfl (.slice (some ⟨g, 0, none⟩) (1 + k + j) cap) (1 + k + j) _ rfl (HO.out.alloc _) (.slice (some ⟨wr.heap.size, 0, none⟩) 1 1) rfl [.int .u8 ((n : Int) * 8 / 2 ^ (56 - 8 * j) % 256)] (sh_rd_one _ _ _) (by intro u hu; simp at hu; subst hu; rfl) (by unfold maxLen; simp; omega) (by simp; omega) (by have := KP.out.size; simp; omega) ?_; intro v' w' ho hg hp; have HO2 := Lib.hid ho; have HG := Lib.hid hg; clear ho hp hg)
          have h2 := HO2.out
          have e8 : (UInt8.ofNat (n * 8 / 2 ^ (56 - 8 * j))).toNat = n * 8 / 2 ^ (56 - 8 * j) % 256 := by simp
          rw [show List.map bv (128 :: (List.replicate k 0 ++ lensB n j)) ++ [Value.int .u8 ((n : Int) * 8 / 2 ^ (56 - 8 * j) % 256)] = List.map bv (128 :: (List.replicate k 0 ++ lensB n (j + 1))) by simp [lensB, List.range_succ, bv, e8], show 1 + k + j + [Value.int .u8 ((n : Int) * 8 / 2 ^ (56 - 8 * j) % 256)].length = 1 + k + (j + 1) from rfl] at h2
          exact ⟨⟨j + 1, by omega, by congr 1; omega, (KP.out.alloc _).grown HG.out (fun q e => .inr (by injection e with e; subst e; exact hb)), h2⟩, by simp [intOf]; omega⟩
        · have e : j = 8 := by omega
          subst e
          go_wp2_with fail
          go_ret
          refine ⟨g, cap, ?_, KP.out, hb, ?_⟩
          · rw [padB_len, ← ek.out]
            rfl
          · have := HO.out
            rw [padB_len, ← ek.out, padB_eq, ← ek.out]
            exact this
end Go.Proofs.YtobjlgfjfpmceaaGreatDoor
