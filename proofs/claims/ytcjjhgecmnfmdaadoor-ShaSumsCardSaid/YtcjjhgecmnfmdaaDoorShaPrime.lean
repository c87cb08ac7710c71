/- The document's Prime, walked; the roots of the primes are the constants. -/
import Derived.Test.YtcjjhgecmnfmdaaDoorShaRoot
namespace Go.Proofs.YtcjjhgecmnfmdaaDoor
open Go.RowKit
set_option linter.unusedVariables false

def stP (s : Nat × Nat) : Nat × Nat := if s.1 % s.2 = 0 then (s.1 + 1, 2) else (s.1, s.2 + 1)
/-- The prime numbers, behind the number at which the search begins. -/
def primesL : List Nat := [1, 2, 3, 5, 7, 11, 13, 17, 19, 23, 29, 31, 37, 41, 43, 47, 53, 59, 61, 67, 71, 73, 79, 83, 89, 97, 101, 103, 107, 109, 113, 127, 131, 137, 139, 149, 151, 157, 163, 167, 173, 179, 181, 191, 193, 197, 199, 211, 223, 227, 229, 233, 239, 241, 251, 257, 263, 269, 271, 277, 281, 283, 293, 307, 311]
def prN (i : Nat) : Nat := primesL.getD i 0
/-- The search's steps. -/
def trP : Nat → Nat × Nat → List (Nat × Nat)
  | 0, _ => []
  | f + 1, s => s :: (if s.2 * s.2 ≤ s.1 then trP f (stP s) else [])
def okS (s : Nat × Nat) : Bool := decide (s.1 ≤ 400) && (decide (2 ≤ s.2) && decide (s.2 ≤ 400))
def chkP : List (Nat × Nat) → Nat → Bool
  | [], _ => false
  | [s], q => okS s && (!decide (s.2 * s.2 ≤ s.1) && decide (s.1 = q))
  | s :: t :: r, q => okS s && (decide (s.2 * s.2 ≤ s.1) && (decide (t = stP s) && chkP (t :: r) q))
theorem chk_start : ∀ i, i < 64 → chkP (trP 100 (prN i + 1, 2)) (prN (i + 1)) = true := by decide +kernel
theorem chk_cons (i : Nat) (h : i < 64) : ∃ L, chkP ((prN i + 1, 2) :: L) (prN (i + 1)) = true := ⟨_, chk_start i h⟩
theorem pr_le : ∀ i, i < 65 → prN i ≤ 311 := by decide +kernel
theorem okS_bd {s : Nat × Nat} (h : okS s = true) : s.1 ≤ 400 ∧ 2 ≤ s.2 ∧ s.2 ≤ 400 := by
  unfold okS at h
  simp only [Bool.and_eq_true, decide_eq_true_eq] at h
  exact ⟨h.1, h.2.1, h.2.2⟩
theorem chk_cases {n d q : Nat} {L : List (Nat × Nat)} (h : chkP ((n, d) :: L) q = true) :
    (n ≤ 400 ∧ 2 ≤ d ∧ d ≤ 400) ∧ ((n < d * d ∧ n = q) ∨ (d * d ≤ n ∧ ∃ L', (n % d = 0 → chkP ((n + 1, 2) :: L') q = true) ∧ (n % d ≠ 0 → chkP ((n, d + 1) :: L') q = true))) := by
  cases L with
  | nil =>
    simp only [chkP, Bool.and_eq_true, Bool.not_eq_true', decide_eq_false_iff_not, decide_eq_true_eq] at h
    exact ⟨okS_bd h.1, .inl ⟨by omega, h.2.2⟩⟩
  | cons t r =>
    simp only [chkP, Bool.and_eq_true, decide_eq_true_eq] at h
    obtain ⟨h1, h2, rfl, h3⟩ := h
    refine ⟨okS_bd h1, .inr ⟨h2, r, fun e => ?_, fun e => ?_⟩⟩
    · simpa [stP, e] using h3
    · simpa [stP, e] using h3
def ofV (v : Value) : Nat := (intOf v).toNat

set_option maxHeartbeats 1600000 in
theorem prime_at (k : Nat) (hk : k < 64) (w : World) : Calls Tryd.prog 16 #[.int .i64 (k : Int)] w fun e w' => e = .returned (.int .u64 ((prN (k + 1) : Nat) : Int)) ∧ w = w' := by
  go_enter Tryd.func16, Tryd.ntmps16
  go_wp2_with fail
  go_loop [3, 4] (fun n i => ∃ j : Nat, j ≤ k + 1 ∧ i = .int .i64 (j : Int) ∧ n = .int .u64 ((prN j : Nat) : Int)) (fun _ i => k + 1 - ofV i)
  case atStart => exact ⟨0, by omega, rfl, rfl⟩
  case round =>
    obtain ⟨j, hj, rfl, rfl⟩ := hrel
    by_cases hlt : j ≤ k
    · obtain ⟨L0, hL0⟩ := chk_cons j (by omega)
      have CH := Lib.hid hL0
      have hp := pr_le j (by omega)
      have hq := Lib.hid (rfl : prN (j + 1) = prN (j + 1))
      clear hL0
      generalize prN j = n0 at CH hp
      go_wp2_with fail
      go_loop [3, 5] (fun n d => ∃ (a b : Nat) (L : List (Nat × Nat)), n = .int .u64 (a : Int) ∧ d = .int .u64 (b : Int) ∧ chkP ((a, b) :: L) (prN (j + 1)) = true) (fun n d => (400 - ofV n) * 1000 + (400 - ofV d))
      case atStart => exact ⟨n0 + 1, 2, L0, rfl, rfl, CH.out⟩
      case round =>
        obtain ⟨a, b, L, rfl, rfl, hc⟩ := hrel
        obtain ⟨⟨h1, h2, h3⟩, hcc⟩ := chk_cases hc
        have hbb : b * b ≤ 160000 := Nat.mul_le_mul h3 h3
        have e1 : IntKind.u64.wrap ((b : Int) * (b : Int)) = ((b * b : Nat) : Int) := by
          rw [← Int.natCast_mul]
          have := wU_nat (b * b)
          rw [Nat.mod_eq_of_lt (Nat.lt_of_le_of_lt hbb (by decide))] at this
          exact this
        clear hc CH
        rcases hcc with ⟨h4, h5⟩ | ⟨h4, L', h5, h6⟩
        · have H5 := Lib.hid h5
          clear h5
          go_wp2_with fail
          exact ⟨⟨j + 1, by omega, by go_num, by rw [H5.out]⟩, by simp [ofV, intOf]; omega⟩
        · have H5 := Lib.hid h5
          have H6 := Lib.hid h6
          clear h5 h6
          by_cases hm : a % b = 0
          · go_wp2_with fail
            have h7 := (chk_cases (H5.out hm)).1.1
            exact ⟨⟨a + 1, 2, L', by go_num, rfl, H5.out hm⟩, by simp [ofV, intOf]; omega⟩
          · go_wp2_with fail
            have h7 := (chk_cases (H6.out hm)).1.2.2
            exact ⟨⟨a, b + 1, L', rfl, by go_num, H6.out hm⟩, by simp [ofV, intOf]; omega⟩
    · have e : j = k + 1 := by omega
      subst e
      go_wp2_with fail
      go_ret
      exact ⟨rfl, rfl⟩

/-- The roots, reckoned step by step. -/
def sqF (p : Nat) : Nat → Nat → Nat → Nat
  | 0, _, x => x
  | k + 1, b, x => force (x + b) fun y => force (if testN (hiN y y) (loN y y) p = true then y else x) fun x' => force (b / 2) fun b' => sqF p k b' x'
theorem sqF_ok (p : Nat) : ∀ n k, sqF p n (bitN 36 k) (sqX p k) = sqX p (k + n)
  | 0, k => rfl
  | n + 1, k => by
    rw [sqF, force_eq, force_eq, force_eq, ← bitN_succ, show k + (n + 1) = k + 1 + n by omega]
    exact sqF_ok p n (k + 1)
def cbF (p : Nat) : Nat → Nat → Nat → Nat
  | 0, _, x => x
  | k + 1, b, x => force (x + b) fun y => force (if testC (topN y) (loN (loN y y) y) p = true then y else x) fun x' => force (b / 2) fun b' => cbF p k b' x'
theorem cbF_ok (p : Nat) : ∀ n k, cbF p n (bitN 35 k) (cbX p k) = cbX p (k + n)
  | 0, k => rfl
  | n + 1, k => by
    rw [cbF, force_eq, force_eq, force_eq, ← bitN_succ, show k + (n + 1) = k + 1 + n by omega]
    exact cbF_ok p n (k + 1)
def fList' : List Int := [0x6a09e667, 0xbb67ae85, 0x3c6ef372, 0xa54ff53a, 0x510e527f, 0x9b05688c, 0x1f83d9ab, 0x5be0cd19]
/-- The first state's words. -/
def fI (i : Nat) : Int := fList'.getD i 0
theorem cube_root : ∀ t, t < 64 → ((cbF (prN (t + 1)) 36 34359738368 0 % 4294967296 : Nat) : Int) = kI t := by decide +kernel
theorem square_root : ∀ t, t < 8 → ((sqF (prN (t + 1)) 37 68719476736 0 % 4294967296 : Nat) : Int) = fI t := by decide +kernel
theorem cube_const (t : Nat) (h : t < 64) : ((cbX (prN (t + 1)) 36 : Nat) % 4294967296 : Int) = kI t := by
  have h1 := cube_root t h
  have h2 := cbF_ok (prN (t + 1)) 36 0
  rw [show cbX (prN (t + 1)) 0 = 0 from rfl, show bitN 35 0 = 34359738368 from rfl, Nat.zero_add] at h2
  rw [h2] at h1
  exact h1
theorem square_const (t : Nat) (h : t < 8) : ((sqX (prN (t + 1)) 37 : Nat) % 4294967296 : Int) = fI t := by
  have h1 := square_root t h
  have h2 := sqF_ok (prN (t + 1)) 37 0
  rw [show sqX (prN (t + 1)) 0 = 0 from rfl, show bitN 36 0 = 68719476736 from rfl, Nat.zero_add] at h2
  rw [h2] at h1
  exact h1

end Go.Proofs.YtcjjhgecmnfmdaaDoor
