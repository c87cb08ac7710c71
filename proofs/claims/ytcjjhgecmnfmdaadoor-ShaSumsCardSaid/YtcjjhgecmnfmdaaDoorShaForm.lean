/- The document's round, its sums spelled as its walk spells them: plain laws. -/
import Derived.Test.YtcjjhgecmnfmdaaDoorShaBitLaw
namespace Go.Proofs.YtcjjhgecmnfmdaaDoor
open Go.RowKit
set_option linter.unusedVariables false

theorem ones_nat {a : Nat} (ha : a < M32) : (2 ^ 32 - 1) ^^^ a = notN a := by
  apply Nat.eq_of_testBit_eq
  intro i
  rw [Nat.testBit_xor, notN, Nat.testBit_two_pow_sub_succ (show a < 2 ^ 32 from ha), Nat.testBit_two_pow_sub_one]
  by_cases hi : i < 32
  · simp [hi]
  · rw [hi_bit ha (by omega)]
    simp [hi]
theorem not_eq {e : Int} (he : U32 e) : bits .xor .u32 (if IntKind.u32.signed = true then -1 else IntKind.u32.max) e = notI e := by
  obtain ⟨n, rfl, hn⟩ := u32_nat he
  rw [notI_nat hn, ← ones_nat hn]
  exact xorI_nat (a := 2 ^ 32 - 1) (by decide) hn
theorem x_form {ra rb rc rd re rf rg rh kt wt x6 x11 x25 : Int} (h6 : x6 = rotI re 6) (h11 : x11 = rotI re 11) (h25 : x25 = rotI re 25) (ue : U32 re) (uf : U32 rf) (ug : U32 rg) :
    IntKind.u32.wrap (IntKind.u32.wrap (IntKind.u32.wrap (IntKind.u32.wrap (rh + bits .xor .u32 (bits .xor .u32 x6 x11) x25) + bits .xor .u32 (bits .and .u32 re rf) (bits .and .u32 (notI re) rg)) + kt) + wt) = xW ⟨ra, rb, rc, rd, re, rf, rg, rh⟩ kt wt := by
  subst h6 h11 h25
  have h := ch_eq ue uf ug
  simp only [xorI, andI] at h
  rw [h]
  simp only [IntKind.wrap_u32', xW, ltS1, w32, xorI]
theorem y_form {ra rb rc rd re rf rg rh x2 x13 x22 : Int} (h2 : x2 = rotI ra 2) (h13 : x13 = rotI ra 13) (h22 : x22 = rotI ra 22) (ua : U32 ra) (ub : U32 rb) (uc : U32 rc) :
    IntKind.u32.wrap (bits .xor .u32 (bits .xor .u32 x2 x13) x22 + bits .xor .u32 (bits .xor .u32 (bits .and .u32 ra rb) (bits .and .u32 ra rc)) (bits .and .u32 rb rc)) = yW ⟨ra, rb, rc, rd, re, rf, rg, rh⟩ := by
  subst h2 h13 h22
  have h := maj_eq ua ub uc
  simp only [xorI, andI] at h
  rw [h]
  simp only [IntKind.wrap_u32', yW, ltS0, w32, xorI]
/-- The eight sums behind a block, as a row. -/
def sums (s r : W8) : List Value := [.int .u32 (IntKind.u32.wrap (s.a + r.a)), .int .u32 (IntKind.u32.wrap (s.b + r.b)), .int .u32 (IntKind.u32.wrap (s.c + r.c)), .int .u32 (IntKind.u32.wrap (s.d + r.d)), .int .u32 (IntKind.u32.wrap (s.e + r.e)), .int .u32 (IntKind.u32.wrap (s.f + r.f)), .int .u32 (IntKind.u32.wrap (s.g + r.g)), .int .u32 (IntKind.u32.wrap (s.h + r.h))]
theorem sums_eq (s r : W8) : sums s r = (addW r s).cells.toList := by
  simp only [sums, addW, W8.cells, IntKind.wrap_u32', w32, Int.add_comm]
theorem rd_eight (w : World) (a b c d e f g h : Value) (t : TypeId) : Rd (w.alloc (.cells #[a, b, c, d, e, f, g, h] t)) (.slice (some ⟨w.heap.size, 0, none⟩) 8 8) [a, b, c, d, e, f, g, h] := by
  refine ⟨_, 8, rfl, fun _ => ⟨w.heap.size, 0, rfl, fun j x hx => ?_⟩⟩
  rw [Nat.zero_add, cell_of_row _ _ j _ _ _ (blk_new w _)]
  simpa using hx

end Go.Proofs.YtcjjhgecmnfmdaaDoor
