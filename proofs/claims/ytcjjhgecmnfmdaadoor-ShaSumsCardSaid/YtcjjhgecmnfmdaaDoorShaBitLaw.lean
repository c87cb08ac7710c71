/- The document's forms of the bits, and the program's: plain numbers. -/
import Derived.Test.YtcjjhgecmnfmdaaDoorShaTab
namespace Go.Proofs.YtcjjhgecmnfmdaaDoor
open Go.RowKit
set_option linter.unusedVariables false

theorem hi_bit {a i : Nat} (ha : a < M32) (hi : 32 ≤ i) : a.testBit i = false := Nat.testBit_lt_two_pow (Nat.lt_of_lt_of_le ha (Nat.pow_le_pow_right (by decide) hi : 2 ^ 32 ≤ 2 ^ i))
def notN (a : Nat) : Nat := 2 ^ 32 - (a + 1)
theorem notN_lt (a : Nat) : notN a < M32 := by unfold notN M32; omega
theorem ch_nat {e f g : Nat} (he : e < M32) (hf : f < M32) (hg : g < M32) : (e &&& f) ^^^ (notN e &&& g) = g ^^^ (e &&& (f ^^^ g)) := by
  apply Nat.eq_of_testBit_eq
  intro i
  simp only [Nat.testBit_xor, Nat.testBit_and, notN]
  rw [Nat.testBit_two_pow_sub_succ (show e < 2 ^ 32 from he)]
  by_cases hi : i < 32
  · simp only [hi, decide_true, Bool.true_and]
    cases e.testBit i <;> cases f.testBit i <;> cases g.testBit i <;> rfl
  · rw [hi_bit he (by omega), hi_bit hf (by omega), hi_bit hg (by omega)]
    simp
theorem maj_nat (a b c : Nat) : ((a &&& b) ^^^ (a &&& c)) ^^^ (b &&& c) = (a &&& b) ||| (c &&& (a ||| b)) := by
  apply Nat.eq_of_testBit_eq
  intro i
  simp only [Nat.testBit_xor, Nat.testBit_and, Nat.testBit_or]
  cases a.testBit i <;> cases b.testBit i <;> cases c.testBit i <;> rfl
theorem u32_nat {x : Int} (h : U32 x) : ∃ n : Nat, x = (n : Int) ∧ n < M32 := by
  obtain ⟨h0, h1⟩ := h
  obtain ⟨n, rfl⟩ := Int.eq_ofNat_of_zero_le h0
  exact ⟨n, rfl, by unfold M32; omega⟩
def notI (x : Int) : Int := 4294967295 - x
theorem notI_nat {a : Nat} (h : a < M32) : notI (a : Int) = ((notN a : Nat) : Int) := by
  unfold notI notN
  unfold M32 at h
  omega
theorem ch_eq {e f g : Int} (he : U32 e) (hf : U32 f) (hg : U32 g) : xorI (andI e f) (andI (notI e) g) = chI e f g := by
  obtain ⟨e, rfl, he'⟩ := u32_nat he
  obtain ⟨f, rfl, hf'⟩ := u32_nat hf
  obtain ⟨g, rfl, hg'⟩ := u32_nat hg
  unfold chI
  rw [notI_nat he', andI_nat he' hf', andI_nat (notN_lt e) hg', xorI_nat (and_lt hf') (and_lt hg'), xorI_nat hf' hg', andI_nat he' (xor_lt hf' hg'), xorI_nat hg' (and_lt (xor_lt hf' hg')), ch_nat he' hf' hg']
theorem maj_eq {a b c : Int} (ha : U32 a) (hb : U32 b) (hc : U32 c) : xorI (xorI (andI a b) (andI a c)) (andI b c) = majI a b c := by
  obtain ⟨a, rfl, ha'⟩ := u32_nat ha
  obtain ⟨b, rfl, hb'⟩ := u32_nat hb
  obtain ⟨c, rfl, hc'⟩ := u32_nat hc
  unfold majI
  rw [andI_nat ha' hb', andI_nat ha' hc', andI_nat hb' hc', xorI_nat (and_lt hb') (and_lt hc'), xorI_nat (xor_lt (and_lt hb') (and_lt hc')) (and_lt hc'), orI_nat ha' hb', andI_nat hc' (or_lt ha' hb'), orI_nat (and_lt hb') (and_lt (or_lt ha' hb')), maj_nat]
theorem or_sum {a b k : Nat} (h : b < 2 ^ k) : a * 2 ^ k ||| b = a * 2 ^ k + b := by
  rw [Nat.mul_comm, Nat.two_pow_add_eq_or_of_lt h]
theorem bnd_0 {x0 : Nat} (h0 : x0 < 256) : x0 * 16777216 < 4294967296 := by omega
theorem bnd_1 {x0 : Nat} (h0 : x0 < 256) : x0 * 65536 < 16777216 := by omega
theorem bnd_2 {x0 : Nat} (h0 : x0 < 256) : x0 * 256 < 65536 := by omega
theorem sum_4 {x0 x1 x2 x3 : Nat} (h0 : x0 < 256) (h1 : x1 < 256) (h2 : x2 < 256) (h3 : x3 < 256) : ((x0 * 16777216 ||| x1 * 65536) ||| x2 * 256) ||| x3 = x0 * 16777216 + x1 * 65536 + x2 * 256 + x3 := by
  have s1 : x0 * 16777216 ||| x1 * 65536 = x0 * 16777216 + x1 * 65536 := or_sum (k := 24) (bnd_1 h1)
  have s2 : (x0 * 16777216 + x1 * 65536) ||| x2 * 256 = x0 * 16777216 + x1 * 65536 + x2 * 256 := by
    have := or_sum (a := x0 * 256 + x1) (b := x2 * 256) (k := 16) (bnd_2 h2)
    rw [show (x0 * 256 + x1) * 2 ^ 16 = x0 * 16777216 + x1 * 65536 by omega] at this
    exact this
  have s3 : (x0 * 16777216 + x1 * 65536 + x2 * 256) ||| x3 = x0 * 16777216 + x1 * 65536 + x2 * 256 + x3 := by
    have := or_sum (a := x0 * 65536 + x1 * 256 + x2) (b := x3) (k := 8) h3
    rw [show (x0 * 65536 + x1 * 256 + x2) * 2 ^ 8 = x0 * 16777216 + x1 * 65536 + x2 * 256 by omega] at this
    exact this
  rw [s1, s2, s3]
theorem orI_4 {x0 x1 x2 x3 : Nat} (h0 : x0 < 256) (h1 : x1 < 256) (h2 : x2 < 256) (h3 : x3 < 256) : orI (orI (orI ((x0 : Int) * 16777216) ((x1 : Int) * 65536)) ((x2 : Int) * 256)) (x3 : Int) = (x0 : Int) * 16777216 + (x1 : Int) * 65536 + (x2 : Int) * 256 + (x3 : Int) := by
  have l0 : x0 * 16777216 < M32 := bnd_0 h0
  have l1 : x1 * 65536 < M32 := Nat.lt_trans (bnd_1 h1) (by decide)
  have l2 : x2 * 256 < M32 := Nat.lt_trans (bnd_2 h2) (by decide)
  have l3 : x3 < M32 := Nat.lt_trans h3 (by decide)
  have e0 : (x0 : Int) * 16777216 = ((x0 * 16777216 : Nat) : Int) := by omega
  have e1 : (x1 : Int) * 65536 = ((x1 * 65536 : Nat) : Int) := by omega
  have e2 : (x2 : Int) * 256 = ((x2 * 256 : Nat) : Int) := by omega
  rw [e0, e1, e2, orI_nat l0 l1, orI_nat (or_lt l0 l1) l2, orI_nat (or_lt (or_lt l0 l1) l2) l3, sum_4 h0 h1 h2 h3]
  rfl
/-- A word out of four bytes, as a sum. -/
theorem beI_sum (b : List UInt8) (t : Nat) : beI b t = byI b (4 * t) * 16777216 + byI b (4 * t + 1) * 65536 + byI b (4 * t + 2) * 256 + byI b (4 * t + 3) :=
  orI_4 (b.getD (4 * t) 0).toNat_lt (b.getD (4 * t + 1) 0).toNat_lt (b.getD (4 * t + 2) 0).toNat_lt (b.getD (4 * t + 3) 0).toNat_lt

end Go.Proofs.YtcjjhgecmnfmdaaDoor
