/- The constants as roots of prime numbers: the document's Times, Square, Cube, walked. -/
import Derived.Test.YtcjjhgecmnfmdaaDoorShaNat
namespace Go.Proofs.YtcjjhgecmnfmdaaDoor
open Go.RowKit
set_option linter.unusedVariables false

abbrev wU : Int → Int := IntKind.u64.wrap
def loT (a b : Int) : Int := wU (a * b)
def midT (a b : Int) : Int := wU (wU (wU ((wU (a % 4294967296 * (b % 4294967296))).tdiv 4294967296) + (wU (wU (a.tdiv 4294967296) * (b % 4294967296))).tmod 4294967296) + (wU (a % 4294967296 * wU (b.tdiv 4294967296))).tmod 4294967296)
def hiT (a b : Int) : Int := wU (wU (wU (wU (wU (a.tdiv 4294967296) * wU (b.tdiv 4294967296)) + wU ((wU (wU (a.tdiv 4294967296) * (b % 4294967296))).tdiv 4294967296)) + wU ((wU (a % 4294967296 * wU (b.tdiv 4294967296))).tdiv 4294967296)) + wU ((midT a b).tdiv 4294967296))

set_option maxHeartbeats 1600000 in
theorem times_any (a b : Int) (ha : 0 ≤ a) (hb : 0 ≤ b) (w : World) : Calls Tryd.prog 29 #[.int .u64 a, .int .u64 b] w fun e w' => e = .returned (.tuple #[.int .u64 (hiT a b), .int .u64 (loT a b)]) ∧ w = w' := by
  go_enter Tryd.func29, Tryd.ntmps29
  go_wp2
  go_ret2
  exact ⟨rfl, rfl⟩

abbrev M64 : Nat := 18446744073709551616
def loN (a b : Nat) : Nat := a * b % M64
def midN (a b : Nat) : Nat := ((a % M32 * (b % M32) % M64 / M32 % M64 + a / M32 % M64 * (b % M32) % M64 % M32) % M64 + a % M32 * (b / M32 % M64) % M64 % M32) % M64
def hiN (a b : Nat) : Nat := (((a / M32 % M64 * (b / M32 % M64) % M64 + a / M32 % M64 * (b % M32) % M64 / M32 % M64) % M64 + a % M32 * (b / M32 % M64) % M64 / M32 % M64) % M64 + midN a b / M32 % M64) % M64
theorem wU_nat (n : Nat) : wU (n : Int) = ((n % M64 : Nat) : Int) := by
  show IntKind.u64.wrap (n : Int) = _
  rw [IntKind.wrap_u64]
  rfl
theorem td_nat (n : Nat) : ((n : Int)).tdiv 4294967296 = ((n / M32 : Nat) : Int) := rfl
theorem tm_nat (n : Nat) : ((n : Int)).tmod 4294967296 = ((n % M32 : Nat) : Int) := rfl
theorem em_nat (n : Nat) : ((n : Int)) % 4294967296 = ((n % M32 : Nat) : Int) := rfl
theorem loT_nat (a b : Nat) : loT a b = ((loN a b : Nat) : Int) := by
  unfold loT loN
  rw [← Int.natCast_mul, wU_nat]
theorem midT_nat (a b : Nat) : midT a b = ((midN a b : Nat) : Int) := by
  unfold midT midN
  simp only [td_nat, em_nat, wU_nat, tm_nat, ← Int.natCast_mul, ← Int.natCast_add]
theorem hiT_nat (a b : Nat) : hiT a b = ((hiN a b : Nat) : Int) := by
  unfold hiT hiN
  rw [midT_nat]
  simp only [td_nat, em_nat, wU_nat, ← Int.natCast_mul, ← Int.natCast_add]
theorem times_nat (a b : Nat) (x y : Int) (hx : x = a) (hy : y = b) (w : World) : Calls Tryd.prog 29 #[.int .u64 x, .int .u64 y] w fun e w' => e = .returned (.tuple #[.int .u64 ((hiN a b : Nat) : Int), .int .u64 ((loN a b : Nat) : Int)]) ∧ w = w' := by
  subst hx hy
  refine (times_any _ _ (by omega) (by omega) w).mono ?_
  rintro e w' ⟨rfl, rfl⟩
  exact ⟨by rw [hiT_nat, loT_nat], rfl⟩

/-- The bit at a round. -/
def bitN (n k : Nat) : Nat := 2 ^ n / 2 ^ k
theorem bitN_zero (n : Nat) : bitN n 0 = 2 ^ n := by simp [bitN]
theorem bitN_succ (n k : Nat) : bitN n (k + 1) = bitN n k / 2 := by
  unfold bitN
  rw [Nat.pow_succ, Nat.div_div_eq_div_mul]
theorem bitN_le (n k : Nat) : bitN n k ≤ 2 ^ n := Nat.div_le_self _ _
theorem bitN_pos {n k : Nat} (h : k ≤ n) : 0 < bitN n k := Nat.div_pos (Nat.pow_le_pow_right (by decide) h) (Nat.pow_pos (by decide))
theorem bitN_end (n : Nat) : bitN n (n + 1) = 0 := Nat.div_eq_of_lt (Nat.pow_lt_pow_right (by decide) (by omega))

def testN (hi lo p : Nat) : Bool := decide (hi < p) || (decide (hi = p) && decide (lo = 0))
/-- The root so far. -/
def sqX (p : Nat) : Nat → Nat
  | 0 => 0
  | k + 1 => if testN (hiN (sqX p k + bitN 36 k) (sqX p k + bitN 36 k)) (loN (sqX p k + bitN 36 k) (sqX p k + bitN 36 k)) p = true then sqX p k + bitN 36 k else sqX p k
theorem sqX_le (p : Nat) : ∀ k, sqX p k + 2 * bitN 36 k ≤ 2 ^ 37
  | 0 => by rw [bitN_zero]; simp [sqX]
  | k + 1 => by
    have := sqX_le p k
    rw [bitN_succ]
    unfold sqX
    split <;> omega
def testC (top l2 p : Nat) : Bool := decide (top / 4294967296 < p) || (decide (top / 4294967296 = p) && (decide (top % 4294967296 = 0) && decide (l2 = 0)))
def topN (y : Nat) : Nat := (hiN y y * y % M64 + hiN (loN y y) y) % M64
def cbX (p : Nat) : Nat → Nat
  | 0 => 0
  | k + 1 => if testC (topN (cbX p k + bitN 35 k)) (loN (loN (cbX p k + bitN 35 k) (cbX p k + bitN 35 k)) (cbX p k + bitN 35 k)) p = true then cbX p k + bitN 35 k else cbX p k
theorem cbX_le (p : Nat) : ∀ k, cbX p k + 2 * bitN 35 k ≤ 2 ^ 36
  | 0 => by rw [bitN_zero]; simp [cbX]
  | k + 1 => by
    have := cbX_le p k
    rw [bitN_succ]
    unfold cbX
    split <;> omega

set_option maxHeartbeats 1600000 in
theorem square_any (p : Nat) (P : Int) (hP : P = p) (w : World) : Calls Tryd.prog 17 #[.int .u64 P] w fun e w' => e = .returned (.int .u32 ((sqX p 37 : Nat) % 4294967296 : Int)) ∧ w = w' := by
  have HP := Lib.hid hP
  clear hP
  go_enter Tryd.func17, Tryd.ntmps17
  go_wp2_with fail
  go_loop [3, 4] (fun x b => ∃ k : Nat, k ≤ 37 ∧ x = .int .u64 ((sqX p k : Nat) : Int) ∧ b = .int .u64 ((bitN 36 k : Nat) : Int)) (fun _ b => (intOf b).toNat)
  case atStart => exact ⟨0, by omega, rfl, rfl⟩
  case round =>
    obtain ⟨k, hk, rfl, rfl⟩ := hrel
    by_cases hlt : k < 37
    · have hpos := bitN_pos (n := 36) (k := k) (by omega)
      have hle := sqX_le p k
      have hs : Hid (sqX p (k + 1) = if testN (hiN (sqX p k + bitN 36 k) (sqX p k + bitN 36 k)) (loN (sqX p k + bitN 36 k) (sqX p k + bitN 36 k)) p = true then sqX p k + bitN 36 k else sqX p k) := Lib.hid rfl
      have hb2 := Lib.hid (bitN_succ 36 k)
      generalize sqX p k = x at hle hs
      generalize bitN 36 k = b at hle hs hb2 hpos
      have h37 : x + 2 * b ≤ 137438953472 := hle
      have d1 : ((b : Int)).tdiv 2 = ((b / 2 : Nat) : Int) := rfl
      have hposI : (0 : Int) < (b : Int) := by omega
      clear hle
      go_wp2_with fail
      refine (times_nat (x + b) (x + b) _ _ (by omega) (by omega) _).mono ?_
      rintro e w' ⟨rfl, rfl⟩
      generalize hiN (x + b) (x + b) = hi at hs ⊢
      generalize loN (x + b) (x + b) = lo at hs ⊢
      have yes : Hid (testN hi lo p = true → ∃ k' : Nat, k' ≤ 37 ∧ Value.int .u64 ((x : Int) + (b : Int)) = .int .u64 ((sqX p k' : Nat) : Int) ∧ Value.int .u64 ((b / 2 : Nat) : Int) = .int .u64 ((bitN 36 k' : Nat) : Int)) := Lib.hid fun h => ⟨k + 1, by omega, by rw [hs.out, if_pos h]; rfl, by rw [hb2.out]⟩
      have no : Hid (testN hi lo p = false → ∃ k' : Nat, k' ≤ 37 ∧ Value.int .u64 (x : Int) = .int .u64 ((sqX p k' : Nat) : Int) ∧ Value.int .u64 ((b / 2 : Nat) : Int) = .int .u64 ((bitN 36 k' : Nat) : Int)) := Lib.hid fun h => ⟨k + 1, by omega, by rw [hs.out, if_neg (by simp [h])], by rw [hb2.out]⟩
      have hI0 : (0 : Int) ≤ (hi : Int) := by omega
      have lI0 : (0 : Int) ≤ (lo : Int) := by omega
      generalize hHI : ((hi : Nat) : Int) = hI at hI0 ⊢
      generalize hLI : ((lo : Nat) : Int) = lI at lI0 ⊢
      have HH := Lib.hid hHI
      have LL := Lib.hid hLI
      clear hHI hLI
      by_cases h1 : hI < P
      · have T : Hid (testN hi lo p = true) := Lib.hid (by unfold testN; simp [show hi < p by have := HH.out; have := HP.out; omega])
        go_wp2_with fail
        go_round
        case rel => exact yes.out T.out
        case measure => simp [intOf]; omega
      · by_cases h2 : hI = P
        · have h2b : (hI == P) = true := by simp [h2]
          by_cases h3 : lI = 0
          · have T : Hid (testN hi lo p = true) := Lib.hid (by unfold testN; simp [show hi = p by have := HH.out; have := HP.out; omega, show lo = 0 by have := LL.out; omega])
            have h3b : (lI == 0) = true := by simp [h3]
            clear h2 h3
            go_wp2_with fail
            go_round
            case rel => exact yes.out T.out
            case measure => simp [intOf]; omega
          · have T : Hid (testN hi lo p = false) := Lib.hid (by unfold testN; simp [show ¬ hi < p by have := HH.out; have := HP.out; omega, show ¬ lo = 0 by have := LL.out; omega])
            have h3b : (lI == 0) = false := by simp [h3]
            clear h2 h3
            go_wp2_with fail
            go_round
            case rel => exact no.out T.out
            case measure => simp [intOf]; omega
        · have h2b : (hI == P) = false := by simp [h2]
          have T : Hid (testN hi lo p = false) := Lib.hid (by unfold testN; simp [show ¬ hi < p by have := HH.out; have := HP.out; omega, show ¬ hi = p by have := HH.out; have := HP.out; omega])
          clear h2
          go_wp2_with fail
          go_round
          case rel => exact no.out T.out
          case measure => simp [intOf]; omega
    · have e : k = 37 := by omega
      subst e
      have e0 : bitN 36 37 = 0 := bitN_end 36
      rw [e0]
      go_wp2_with fail
      go_ret
      exact ⟨rfl, rfl⟩

set_option maxHeartbeats 1600000 in
theorem cube_any (p : Nat) (P : Int) (hP : P = p) (w : World) : Calls Tryd.prog 15 #[.int .u64 P] w fun e w' => e = .returned (.int .u32 ((cbX p 36 : Nat) % 4294967296 : Int)) ∧ w = w' := by
  have HP := Lib.hid hP
  clear hP
  go_enter Tryd.func15, Tryd.ntmps15
  go_wp2_with fail
  go_loop [3, 4] (fun x b => ∃ k : Nat, k ≤ 36 ∧ x = .int .u64 ((cbX p k : Nat) : Int) ∧ b = .int .u64 ((bitN 35 k : Nat) : Int)) (fun _ b => (intOf b).toNat)
  case atStart => exact ⟨0, by omega, rfl, rfl⟩
  case round =>
    obtain ⟨k, hk, rfl, rfl⟩ := hrel
    by_cases hlt : k < 36
    · have hpos := bitN_pos (n := 35) (k := k) (by omega)
      have hle := cbX_le p k
      have hs : Hid (cbX p (k + 1) = if testC (topN (cbX p k + bitN 35 k)) (loN (loN (cbX p k + bitN 35 k) (cbX p k + bitN 35 k)) (cbX p k + bitN 35 k)) p = true then cbX p k + bitN 35 k else cbX p k) := Lib.hid rfl
      have hb2 := Lib.hid (bitN_succ 35 k)
      generalize cbX p k = x at hle hs
      generalize bitN 35 k = b at hle hs hb2 hpos
      have h36 : x + 2 * b ≤ 68719476736 := hle
      have d1 : ((b : Int)).tdiv 2 = ((b / 2 : Nat) : Int) := rfl
      have hposI : (0 : Int) < (b : Int) := by omega
      clear hle
      go_wp2_with fail
      refine (times_nat (x + b) (x + b) _ _ (by omega) (by omega) _).mono ?_
      rintro e w' ⟨rfl, rfl⟩
      go_wp2_with fail
      refine (times_nat (loN (x + b) (x + b)) (x + b) _ _ (by omega) (by omega) _).mono ?_
      rintro e w' ⟨rfl, rfl⟩
      have ht : Hid (wU (wU (((hiN (x + b) (x + b) : Nat) : Int) * ((x : Int) + (b : Int))) + ((hiN (loN (x + b) (x + b)) (x + b) : Nat) : Int)) = ((topN (x + b) : Nat) : Int)) := Lib.hid (by
        unfold topN
        rw [← Int.natCast_add x b, ← Int.natCast_mul, wU_nat, ← Int.natCast_add, wU_nat])
      generalize loN (loN (x + b) (x + b)) (x + b) = l2 at hs ⊢
      generalize topN (x + b) = tp at hs ht
      generalize hiN (loN (x + b) (x + b)) (x + b) = h2 at ht ⊢
      generalize loN (x + b) (x + b) = lo
      generalize hiN (x + b) (x + b) = hi at ht ⊢
      have yes : Hid (testC tp l2 p = true → ∃ k' : Nat, k' ≤ 36 ∧ Value.int .u64 ((x : Int) + (b : Int)) = .int .u64 ((cbX p k' : Nat) : Int) ∧ Value.int .u64 ((b / 2 : Nat) : Int) = .int .u64 ((bitN 35 k' : Nat) : Int)) := Lib.hid fun h => ⟨k + 1, by omega, by rw [hs.out, if_pos h]; rfl, by rw [hb2.out]⟩
      have no : Hid (testC tp l2 p = false → ∃ k' : Nat, k' ≤ 36 ∧ Value.int .u64 (x : Int) = .int .u64 ((cbX p k' : Nat) : Int) ∧ Value.int .u64 ((b / 2 : Nat) : Int) = .int .u64 ((bitN 35 k' : Nat) : Int)) := Lib.hid fun h => ⟨k + 1, by omega, by rw [hs.out, if_neg (by simp [h])], by rw [hb2.out]⟩
      have tl : Hid (tp / M32 < M64 → wU ((tp / M32 : Nat) : Int) = ((tp / M32 : Nat) : Int)) := Lib.hid fun h => by rw [wU_nat, Nat.mod_eq_of_lt h]
      have htp : Hid (tp < M64) := Lib.hid (by
        have : ((tp : Nat) : Int) = wU (wU (((hi : Nat) : Int) * ((x : Int) + (b : Int))) + ((h2 : Nat) : Int)) := ht.out.symm
        have e : ∃ m : Nat, wU (((hi : Nat) : Int) * ((x : Int) + (b : Int))) + ((h2 : Nat) : Int) = (m : Int) := ⟨hi * (x + b) % M64 + h2, by rw [← Int.natCast_add x b, ← Int.natCast_mul, wU_nat, ← Int.natCast_add]⟩
        obtain ⟨m, hm⟩ := e
        rw [hm, wU_nat] at this
        have : tp = m % M64 := by omega
        rw [this]
        exact Nat.mod_lt _ (by decide))
      have eq1 : Hid (wU ((tp / M32 : Nat) : Int) = ((tp / M32 : Nat) : Int)) := Lib.hid (tl.out (Nat.lt_of_le_of_lt (Nat.div_le_self _ _) htp.out))
      have ed : Hid (((tp : Nat) : Int).tdiv 4294967296 = ((tp / M32 : Nat) : Int) ∧ ((tp : Nat) : Int) / 4294967296 = ((tp / M32 : Nat) : Int) ∧ ((tp : Nat) : Int).tmod 4294967296 = ((tp % M32 : Nat) : Int) ∧ ((tp : Nat) : Int) % 4294967296 = ((tp % M32 : Nat) : Int)) := Lib.hid ⟨rfl, rfl, rfl, rfl⟩
      have hT : Hid (testC tp l2 p = (decide (tp / M32 < p) || (decide (tp / M32 = p) && (decide (tp % M32 = 0) && decide (l2 = 0))))) := Lib.hid rfl
      generalize tp / M32 = q at eq1 ed hT
      generalize tp % M32 = r at ed hT
      have q0 : (0 : Int) ≤ (q : Int) := by omega
      have r0 : (0 : Int) ≤ (r : Int) := by omega
      have t0 : (0 : Int) ≤ (tp : Int) := by omega
      have l0 : (0 : Int) ≤ (l2 : Int) := by omega
      generalize hqI : ((q : Nat) : Int) = qI at eq1 ed q0
      generalize hrI : ((r : Nat) : Int) = rI at ed r0
      generalize htI : ((tp : Nat) : Int) = tI at ht ed t0
      generalize hlI : ((l2 : Nat) : Int) = lI at l0 ⊢
      have QQ := Lib.hid hqI
      have RR := Lib.hid hrI
      have LL := Lib.hid hlI
      clear hqI hrI htI hlI tl htp
      have a1 : IntKind.u64.wrap (IntKind.u64.wrap ((hi : Int) * ((x : Int) + (b : Int))) + (h2 : Int)) = tI := ht.out
      have a2 : IntKind.u64.wrap qI = qI := eq1.out
      obtain ⟨a3, a4, a5, a6⟩ := ed.out
      by_cases h1 : qI < P
      · have T : Hid (testC tp l2 p = true) := Lib.hid (by rw [hT.out]; simp [show q < p by have := QQ.out; have := HP.out; omega])
        go_wp2_with fail
        go_round
        case rel => exact yes.out T.out
        case measure => simp [intOf]; omega
      · by_cases h2 : qI = P
        · have h2b : (qI == P) = true := by simp [h2]
          by_cases h3 : rI = 0
          · have h3b : (rI == 0) = true := by simp [h3]
            by_cases h4 : lI = 0
            · have T : Hid (testC tp l2 p = true) := Lib.hid (by rw [hT.out]; simp [show q = p by have := QQ.out; have := HP.out; omega, show r = 0 by have := RR.out; omega, show l2 = 0 by have := LL.out; omega])
              have h4b : (lI == 0) = true := by simp [h4]
              clear h2 h3 h4
              go_wp2_with fail
              go_round
              case rel => exact yes.out T.out
              case measure => simp [intOf]; omega
            · have T : Hid (testC tp l2 p = false) := Lib.hid (by rw [hT.out]; simp [show ¬ q < p by have := QQ.out; have := HP.out; omega, show ¬ l2 = 0 by have := LL.out; omega])
              have h4b : (lI == 0) = false := by simp [h4]
              clear h2 h3 h4
              go_wp2_with fail
              go_round
              case rel => exact no.out T.out
              case measure => simp [intOf]; omega
          · have T : Hid (testC tp l2 p = false) := Lib.hid (by rw [hT.out]; simp [show ¬ q < p by have := QQ.out; have := HP.out; omega, show ¬ r = 0 by have := RR.out; omega])
            have h3b : (rI == 0) = false := by simp [h3]
            clear h2 h3
            go_wp2_with fail
            go_round
            case rel => exact no.out T.out
            case measure => simp [intOf]; omega
        · have h2b : (qI == P) = false := by simp [h2]
          have T : Hid (testC tp l2 p = false) := Lib.hid (by rw [hT.out]; simp [show ¬ q < p by have := QQ.out; have := HP.out; omega, show ¬ q = p by have := QQ.out; have := HP.out; omega])
          clear h2
          go_wp2_with fail
          go_round
          case rel => exact no.out T.out
          case measure => simp [intOf]; omega
    · have e : k = 36 := by omega
      subst e
      have e0 : bitN 35 36 = 0 := bitN_end 35
      rw [e0]
      go_wp2_with fail
      go_ret
      exact ⟨rfl, rfl⟩

end Go.Proofs.YtcjjhgecmnfmdaaDoor
