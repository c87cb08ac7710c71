/- Hex and Parse undo one another: plain lists. -/
import Derived.Test.YtcjjhgecmnfmdaaDoorShaParse
namespace Go.Proofs.YtcjjhgecmnfmdaaDoor
open Go.RowKit
set_option linter.unusedVariables false

theorem sg_back : ∀ n : Nat, n < 16 → isSg (sg n) = true ∧ sgN (sg n) = n := by decide +kernel
theorem sg_forthN : ∀ n : Nat, n < 256 → isSg (UInt8.ofNat n) = true → sg (sgN (UInt8.ofNat n)) = UInt8.ofNat n := by decide +kernel
theorem sg_forth {c : UInt8} (h : isSg c = true) : sg (sgN c) = c := by
  have := sg_forthN c.toNat c.toNat_lt
  rw [ofNat_toNat8] at this
  exact this h
theorem hexL_even : ∀ (D : List UInt8) (j : Nat), j < D.length → (hexL D).getD (2 * j) 0 = sg ((D.getD j 0).toNat / 16)
  | [], j, h => by simp at h
  | c :: r, 0, _ => rfl
  | c :: r, j + 1, h => by
    rw [show 2 * (j + 1) = 2 * j + 1 + 1 by omega, hexL, List.getD_cons_succ, List.getD_cons_succ, List.getD_cons_succ]
    exact hexL_even r j (by simpa using h)
theorem hexL_odd : ∀ (D : List UInt8) (j : Nat), j < D.length → (hexL D).getD (2 * j + 1) 0 = sg ((D.getD j 0).toNat % 16)
  | [], j, h => by simp at h
  | c :: r, 0, _ => rfl
  | c :: r, j + 1, h => by
    rw [show 2 * (j + 1) + 1 = 2 * j + 1 + 1 + 1 by omega, hexL, List.getD_cons_succ, List.getD_cons_succ, List.getD_cons_succ]
    exact hexL_odd r j (by simpa using h)
theorem ok_hex {D : List UInt8} (h : D.length = 32) : okL (hexL D) = true := by
  unfold okL
  rw [Bool.and_eq_true]
  refine ⟨by simp [hexL_len, h], ?_⟩
  have : ∀ l : List UInt8, (hexL l).all isSg = true := by
    intro l
    induction l with
    | nil => rfl
    | cons c r ih =>
      rw [hexL, List.all_cons, List.all_cons, ih, (sg_back _ (by have := c.toNat_lt; omega)).1, (sg_back _ (by omega)).1]
      rfl
  exact this D
theorem prD_hex {D : List UInt8} (h : D.length = 32) : prD (hexL D) = D := by
  unfold prD
  rw [if_pos (ok_hex h)]
  apply List.ext_getElem
  · simp [h]
  · intro j h1 h2
    have hj : j < 32 := by simpa using h1
    rw [List.getElem_map, List.getElem_range]
    unfold pcL nvL
    rw [if_pos (by omega), hexL_even D j (by omega), hexL_odd D j (by omega)]
    have hd : D.getD j 0 = D[j] := by simp [h2]
    rw [hd]
    have hc := (D[j]).toNat_lt
    rw [(sg_back _ (by omega)).2, (sg_back _ (by omega)).2, show D[j].toNat / 16 * 16 + D[j].toNat % 16 = D[j].toNat by omega]
    simp
theorem hex_prD {s : List UInt8} (h : okL s = true) : hexL (prD s) = s := by
  have hl : s.length = 64 := by
    unfold okL at h
    simp only [Bool.and_eq_true, beq_iff_eq] at h
    exact h.1
  have hs : ∀ i, i < 64 → isSg (s.getD i 0) = true := fun i hi => by
    unfold okL at h
    simp only [Bool.and_eq_true, beq_iff_eq] at h
    exact List.all_eq_true.1 h.2 (s.getD i 0) (by rw [List.getD_eq_getElem?_getD, List.getElem?_eq_getElem (by omega)]; simp)
  have hp : ∀ j, j < 32 → ((prD s).getD j 0).toNat = nvL s (2 * j) * 16 + nvL s (2 * j + 1) := fun j hj => by
    have hlt := pc_lt h j hj
    unfold prD
    rw [if_pos h, List.getD_eq_getElem?_getD, List.getElem?_eq_getElem (by simpa using hj)]
    simp only [List.getElem_map, List.getElem_range, Option.getD_some, UInt8.toNat_ofNat']
    rw [Nat.mod_eq_of_lt (by omega)]
    unfold pcL
    rw [if_pos (by omega)]
  apply List.ext_getElem
  · rw [hexL_len, prD_len, hl]
  · intro i h1 h2
    have hi : i < 64 := by omega
    have e1 : (hexL (prD s))[i] = (hexL (prD s)).getD i 0 := by simp [h1]
    have e2 : s[i] = s.getD i 0 := by simp [h2]
    rw [e1, e2]
    have l0 : nvL s (2 * (i / 2) + 1) < 16 := sgN_lt (hs _ (by omega))
    have l1 : nvL s (2 * (i / 2)) < 16 := sgN_lt (hs _ (by omega))
    rcases Nat.mod_two_eq_zero_or_one i with e | e
    · have e3 : i = 2 * (i / 2) := by omega
      rw [e3, hexL_even _ _ (by rw [prD_len]; omega), hp _ (by omega), show (nvL s (2 * (i / 2)) * 16 + nvL s (2 * (i / 2) + 1)) / 16 = nvL s (2 * (i / 2)) by omega]
      exact sg_forth (hs _ (by omega))
    · have e3 : i = 2 * (i / 2) + 1 := by omega
      rw [e3, hexL_odd _ _ (by rw [prD_len]; omega)]
      rw [hp _ (by omega), show (nvL s (2 * (i / 2)) * 16 + nvL s (2 * (i / 2) + 1)) % 16 = nvL s (2 * (i / 2) + 1) by omega]
      exact sg_forth (hs _ (by omega))

end Go.Proofs.YtcjjhgecmnfmdaaDoor
