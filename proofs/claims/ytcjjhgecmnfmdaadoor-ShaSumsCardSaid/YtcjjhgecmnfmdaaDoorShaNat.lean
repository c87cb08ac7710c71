/- The digest of one block, reckoned with natural numbers; what 'abc' comes to. No walk stands here. -/
import Derived.Test.YtcjjhgecmnfmdaaDoorShaHex
import Derived.Laws.BitsAllLaws
namespace Go.Proofs.YtcjjhgecmnfmdaaDoor
open Go.RowKit
set_option linter.unusedVariables false

/-- A number that is reckoned before it is handed on. -/
def force {α : Type} (n : Nat) (f : Nat → α) : α := Nat.casesOn (motive := fun _ => α) n (f 0) (fun k => f (k + 1))
theorem force_eq {α : Type} (n : Nat) (f : Nat → α) : force n f = f n := by cases n <;> rfl

abbrev M32 : Nat := 4294967296
theorem xorI_nat {a b : Nat} (ha : a < M32) (hb : b < M32) : xorI (a : Int) (b : Int) = ((a ^^^ b : Nat) : Int) := u32_xor_nat a b ha hb
theorem andI_nat {a b : Nat} (ha : a < M32) (hb : b < M32) : andI (a : Int) (b : Int) = ((a &&& b : Nat) : Int) := u32_and_nat a b ha hb
theorem orI_nat {a b : Nat} (ha : a < M32) (hb : b < M32) : orI (a : Int) (b : Int) = ((a ||| b : Nat) : Int) := u32_or_nat a b ha hb
theorem w32_nat (a : Nat) : w32 (a : Int) = ((a % M32 : Nat) : Int) := by
  unfold w32 M32
  omega
def rotN (x k : Nat) : Nat := x * 2 ^ (32 - k) % M32 ||| x / 2 ^ k
theorem xor_lt {a b : Nat} (ha : a < M32) (hb : b < M32) : a ^^^ b < M32 := Nat.xor_lt_two_pow (n := 32) ha hb
theorem or_lt {a b : Nat} (ha : a < M32) (hb : b < M32) : a ||| b < M32 := Nat.or_lt_two_pow (n := 32) ha hb
theorem and_lt {a b : Nat} (hb : b < M32) : a &&& b < M32 := Nat.and_lt_two_pow (n := 32) _ hb
theorem mod_lt32 (a : Nat) : a % M32 < M32 := Nat.mod_lt _ (by decide)
theorem div_lt32 {a : Nat} (ha : a < M32) (k : Nat) : a / 2 ^ k < M32 := Nat.lt_of_le_of_lt (Nat.div_le_self _ _) ha
theorem rotN_lt {x : Nat} (hx : x < M32) (k : Nat) : rotN x k < M32 := or_lt (mod_lt32 _) (div_lt32 hx k)
theorem rotI_nat {x : Nat} (hx : x < M32) (k : Nat) : rotI (x : Int) k = ((rotN x k : Nat) : Int) := by
  unfold rotI rotN
  have e1 : (x : Int) * 2 ^ (32 - k) = ((x * 2 ^ (32 - k) : Nat) : Int) := by simp
  have e2 : (x : Int) / 2 ^ k = ((x / 2 ^ k : Nat) : Int) := by simp
  rw [e1, e2, w32_nat, orI_nat (mod_lt32 _) (div_lt32 hx k)]

def sg0N (x : Nat) : Nat := (rotN x 7 ^^^ rotN x 18) ^^^ x / 8
def sg1N (x : Nat) : Nat := (rotN x 17 ^^^ rotN x 19) ^^^ x / 1024
theorem sg0_nat {x : Nat} (hx : x < M32) : sg0 (x : Int) = ((sg0N x : Nat) : Int) := by
  unfold sg0 sg0N
  have e2 : (x : Int) / 8 = ((x / 8 : Nat) : Int) := by omega
  rw [rotI_nat hx, rotI_nat hx, xorI_nat (rotN_lt hx _) (rotN_lt hx _), e2, xorI_nat (xor_lt (rotN_lt hx _) (rotN_lt hx _)) (div_lt32 hx 3)]
theorem sg1_nat {x : Nat} (hx : x < M32) : sg1 (x : Int) = ((sg1N x : Nat) : Int) := by
  unfold sg1 sg1N
  have e2 : (x : Int) / 1024 = ((x / 1024 : Nat) : Int) := by omega
  rw [rotI_nat hx, rotI_nat hx, xorI_nat (rotN_lt hx _) (rotN_lt hx _), e2, xorI_nat (xor_lt (rotN_lt hx _) (rotN_lt hx _)) (div_lt32 hx 10)]
def nextN (a b c d : Nat) : Nat := (((a + b) % M32 + sg0N c) % M32 + sg1N d) % M32
theorem next_nat {a b c d : Nat} (hc : c < M32) (hd : d < M32) : nextW (a : Int) (b : Int) (c : Int) (d : Int) = ((nextN a b c d : Nat) : Int) := by
  unfold nextW nextN
  rw [sg0_nat hc, sg1_nat hd, ← Int.natCast_add, w32_nat, ← Int.natCast_add, w32_nat, ← Int.natCast_add, w32_nat]
theorem nextN_lt (a b c d : Nat) : nextN a b c d < M32 := mod_lt32 _

/-- The words, the newest first. -/
def schN : Nat → List Nat → List Nat
  | 0, acc => acc
  | k + 1, acc => force (nextN (acc.getD 15 0) (acc.getD 6 0) (acc.getD 14 0) (acc.getD 1 0)) fun x => schN k (x :: acc)
def SchP (b : List UInt8) (t : Nat) (acc : List Nat) : Prop := acc.length = t ∧ ∀ i, i < t → acc.getD i 0 < M32 ∧ ((acc.getD i 0 : Nat) : Int) = schedW b (t - 1 - i)
theorem schN_cons {b : List UInt8} {t : Nat} {acc : List Nat} (ht : 16 ≤ t) (h : SchP b t acc) : SchP b (t + 1) (nextN (acc.getD 15 0) (acc.getD 6 0) (acc.getD 14 0) (acc.getD 1 0) :: acc) := by
  refine ⟨by simp [h.1], fun i hi => ?_⟩
  cases i with
  | zero =>
    rw [List.getD_cons_zero]
    refine ⟨nextN_lt _ _ _ _, ?_⟩
    have h15 := h.2 15 (by omega)
    have h6 := h.2 6 (by omega)
    have h14 := h.2 14 (by omega)
    have h1 := h.2 1 (by omega)
    rw [← next_nat h14.1 h1.1, h15.2, h6.2, h14.2, h1.2, show t + 1 - 1 - 0 = t by omega, schedW_ge (t := t) (by omega), show t - 1 - 15 = t - 16 by omega, show t - 1 - 6 = t - 7 by omega, show t - 1 - 14 = t - 15 by omega, show t - 1 - 1 = t - 2 by omega]
  | succ i =>
    have := h.2 i (by omega)
    rw [List.getD_cons_succ, show t + 1 - 1 - (i + 1) = t - 1 - i by omega]
    exact this
theorem schN_ok (b : List UInt8) (k : Nat) : ∀ (t : Nat) (acc : List Nat), 16 ≤ t → SchP b t acc → SchP b (t + k) (schN k acc) := by
  induction k with
  | zero => exact fun t acc _ h => h
  | succ k ih =>
    intro t acc ht h
    rw [schN, force_eq, show t + (k + 1) = t + 1 + k by omega]
    exact ih (t + 1) _ (by omega) (schN_cons ht h)

structure N8 where
  (a b c d e f g h : Nat)
def N8.toW (s : N8) : W8 := ⟨s.a, s.b, s.c, s.d, s.e, s.f, s.g, s.h⟩
def N8.lt (s : N8) : Prop := s.a < M32 ∧ s.b < M32 ∧ s.c < M32 ∧ s.d < M32 ∧ s.e < M32 ∧ s.f < M32 ∧ s.g < M32 ∧ s.h < M32
def xN (s : N8) (k w : Nat) : Nat := ((((s.h + ((rotN s.e 6 ^^^ rotN s.e 11) ^^^ rotN s.e 25)) % M32 + (s.g ^^^ (s.e &&& (s.f ^^^ s.g)))) % M32 + k) % M32 + w) % M32
def yN (s : N8) : Nat := (((rotN s.a 2 ^^^ rotN s.a 13) ^^^ rotN s.a 22) + ((s.a &&& s.b) ||| (s.c &&& (s.a ||| s.b)))) % M32
theorem xN_ok {s : N8} (h : s.lt) (k w : Nat) : xW s.toW (k : Int) (w : Int) = ((xN s k w : Nat) : Int) := by
  obtain ⟨h1, h2, h3, h4, h5, h6, h7, h8⟩ := h
  unfold xW xN ltS1 chI N8.toW
  simp only
  rw [rotI_nat h5, rotI_nat h5, rotI_nat h5, xorI_nat (rotN_lt h5 _) (rotN_lt h5 _), xorI_nat (xor_lt (rotN_lt h5 _) (rotN_lt h5 _)) (rotN_lt h5 _), xorI_nat h6 h7, andI_nat h5 (xor_lt h6 h7), xorI_nat h7 (and_lt (xor_lt h6 h7)),
    ← Int.natCast_add, w32_nat, ← Int.natCast_add, w32_nat, ← Int.natCast_add, w32_nat, ← Int.natCast_add, w32_nat]
theorem yN_ok {s : N8} (h : s.lt) : yW s.toW = ((yN s : Nat) : Int) := by
  obtain ⟨h1, h2, h3, h4, h5, h6, h7, h8⟩ := h
  unfold yW yN ltS0 majI N8.toW
  simp only
  rw [rotI_nat h1, rotI_nat h1, rotI_nat h1, xorI_nat (rotN_lt h1 _) (rotN_lt h1 _), xorI_nat (xor_lt (rotN_lt h1 _) (rotN_lt h1 _)) (rotN_lt h1 _), andI_nat h1 h2, orI_nat h1 h2, andI_nat h3 (or_lt h1 h2), orI_nat (and_lt h2) (and_lt (or_lt h1 h2)),
    ← Int.natCast_add, w32_nat]
/-- Rounds, by the constants and the words that are left. -/
def rdN : List Nat → List Nat → N8 → N8
  | k :: ks, w :: ws, s => force (xN s k w) fun x => force ((x + yN s) % M32) fun a => force ((s.d + x) % M32) fun e => rdN ks ws ⟨a, s.a, s.b, s.c, e, s.e, s.f, s.g⟩
  | _, _, s => s
theorem rdN_ok (s0 : W8) (b : List UInt8) (ks ws : List Nat) (hk : ks.length = 64) (hw : ws.length = 64) (hks : ∀ t, t < 64 → ((ks.getD t 0 : Nat) : Int) = kI t) (hws : ∀ t, t < 64 → ((ws.getD t 0 : Nat) : Int) = schedW b t) :
    ∀ (n t : Nat) (s : N8), t + n = 64 → s.lt → s.toW = roundsTo s0 b t → (rdN (ks.drop t) (ws.drop t) s).toW = roundsTo s0 b 64
  | 0, t, s, ht, hs, he => by
    obtain rfl : t = 64 := by omega
    rw [List.drop_of_length_le (by omega), List.drop_of_length_le (by omega)]
    exact he
  | n + 1, t, s, ht, hs, he => by
    have e1 : ks.drop t = ks.getD t 0 :: ks.drop (t + 1) := by
      rw [List.drop_eq_getElem_cons (by omega)]
      simp [show t < ks.length by omega]
    have e2 : ws.drop t = ws.getD t 0 :: ws.drop (t + 1) := by
      rw [List.drop_eq_getElem_cons (by omega)]
      simp [show t < ws.length by omega]
    rw [e1, e2, rdN, force_eq, force_eq, force_eq]
    obtain ⟨h1, h2, h3, h4, h5, h6, h7, h8⟩ := id hs
    refine rdN_ok s0 b ks ws hk hw hks hws n (t + 1) _ (by omega) ⟨mod_lt32 _, h1, h2, h3, mod_lt32 _, h5, h6, h7⟩ ?_
    show _ = roundW (roundsTo s0 b t) (kI t) (schedW b t)
    rw [← he, ← hks t (by omega), ← hws t (by omega)]
    unfold roundW
    rw [xN_ok hs, yN_ok hs]
    have e3 : (s.toW).d = ((s.d : Nat) : Int) := rfl
    rw [e3, ← Int.natCast_add, ← Int.natCast_add, w32_nat, w32_nat]
    rfl
def kN : List Nat := kList.map Int.toNat
def add8 (s t : N8) : N8 := ⟨(s.a + t.a) % M32, (s.b + t.b) % M32, (s.c + t.c) % M32, (s.d + t.d) % M32, (s.e + t.e) % M32, (s.f + t.f) % M32, (s.g + t.g) % M32, (s.h + t.h) % M32⟩
theorem add8_ok (s t : N8) : addW s.toW t.toW = (add8 s t).toW := by
  unfold addW N8.toW add8
  simp only [← Int.natCast_add, w32_nat]
/-- The state behind a block, whose sixteen words are these (the last first). -/
def stepN (s : N8) (acc : List Nat) : N8 := add8 (rdN kN (schN 48 acc).reverse s) s
theorem stepN_ok (s : N8) (hs : s.lt) (b : List UInt8) (acc : List Nat) (h : SchP b 16 acc) : stepW s.toW b = (stepN s acc).toW := by
  obtain ⟨hl, hv⟩ := schN_ok b 48 16 acc (by omega) h
  have := rdN_ok s.toW b kN (schN 48 acc).reverse rfl (by rw [List.length_reverse, hl]) (by decide +kernel) (fun t ht => by
    have := (hv (63 - t) (by omega)).2
    rw [show 16 + 48 - 1 - (63 - t) = t by omega] at this
    rw [← this, List.getD_eq_getElem?_getD, List.getElem?_reverse (by omega), hl, List.getD_eq_getElem?_getD, show 16 + 48 - 1 - t = 63 - t by omega]) 64 0 s (by omega) hs rfl
  rw [List.drop_zero, List.drop_zero] at this
  rw [stepW, stepN, ← add8_ok, this]

def abcL : List UInt8 := [97, 98, 99]
def abcW : List Nat := [24, 0, 0, 0, 0, 0, 0, 0, 0, 0, 0, 0, 0, 0, 0, 1633837952]
def first8N : N8 := ⟨0x6a09e667, 0xbb67ae85, 0x3c6ef372, 0xa54ff53a, 0x510e527f, 0x9b05688c, 0x1f83d9ab, 0x5be0cd19⟩
theorem abc_words : SchP (blkB (padL abcL) 0) 16 abcW := by
  refine ⟨rfl, ?_⟩
  have : ∀ i, i < 16 → abcW.getD i 0 < M32 ∧ ((abcW.getD i 0 : Nat) : Int) = beI (blkB (padL abcL) 0) (16 - 1 - i) := by decide +kernel
  intro i hi
  rw [schedW_lt (by omega)]
  exact this i hi
def abcS : N8 := ⟨0xba7816bf, 0x8f01cfea, 0x414140de, 0x5dae2223, 0xb00361a3, 0x96177a9c, 0xb410ff61, 0xf20015ad⟩
theorem step_abc : (stepN first8N abcW).toW = abcS.toW := by
  have : ∀ x y : N8, x.a = y.a ∧ x.b = y.b ∧ x.c = y.c ∧ x.d = y.d ∧ x.e = y.e ∧ x.f = y.f ∧ x.g = y.g ∧ x.h = y.h → x.toW = y.toW := by
    rintro ⟨⟩ ⟨⟩ ⟨h1, h2, h3, h4, h5, h6, h7, h8⟩
    simp only at h1 h2 h3 h4 h5 h6 h7 h8
    subst h1 h2 h3 h4 h5 h6 h7 h8
    rfl
  exact this _ _ (by decide +kernel)
theorem sha_abc : shaS abcL = abcS.toW := by
  have e : blocks abcL = 1 := by decide +kernel
  unfold shaS
  rw [e]
  show stepW first8 (blkB (padL abcL) 0) = _
  have := stepN_ok first8N (by unfold N8.lt first8N M32; decide) _ _ abc_words
  rw [show first8 = first8N.toW from rfl, this, step_abc]
def abcHex : List UInt8 := [98, 97, 55, 56, 49, 54, 98, 102, 56, 102, 48, 49, 99, 102, 101, 97, 52, 49, 52, 49, 52, 48, 100, 101, 53, 100, 97, 101, 50, 50, 50, 51, 98, 48, 48, 51, 54, 49, 97, 51, 57, 54, 49, 55, 55, 97, 57, 99, 98, 52, 49, 48, 102, 102, 54, 49, 102, 50, 48, 48, 49, 53, 97, 100]
theorem hex_abc : hexL (digB (shaS abcL)) = abcHex := by
  rw [sha_abc]
  decide +kernel

end Go.Proofs.YtcjjhgecmnfmdaaDoor
