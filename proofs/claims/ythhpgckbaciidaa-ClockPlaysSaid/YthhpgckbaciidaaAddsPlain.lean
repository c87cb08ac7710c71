/- Sums over the first places of a list, from its beginning and from its end. No program in sight. -/
import Derived.Test.YthhpgckbaciidaaClkPlain
namespace Go.Proofs.Ythhpgckbaciidaa

def psum (f : Nat → Int) : Nat → Int
  | 0 => 0
  | k + 1 => psum f k + f k

theorem psum_succ (f : Nat → Int) (k : Nat) : psum f (k + 1) = psum f k + f k := rfl

theorem psum_rev_aux (f : Nat → Int) (n : Nat) : ∀ k, k ≤ n → psum (fun i => f (n - 1 - i)) k + psum f (n - k) = psum f n := by
  intro k
  induction k with
  | zero => intro _; simp [psum]
  | succ k ih =>
    intro hk
    have h := ih (by omega)
    have e : n - k = (n - (k + 1)) + 1 := by omega
    rw [e, psum_succ] at h
    rw [psum_succ]
    have e2 : n - 1 - k = n - (k + 1) := by omega
    rw [e2]
    omega

theorem psum_rev (f : Nat → Int) (n : Nat) : psum (fun i => f (n - 1 - i)) n = psum f n := by
  have := psum_rev_aux f n n (Nat.le_refl _)
  simpa [psum] using this

theorem psum_bd (f : Nat → Int) (m : Int) : ∀ k : Nat, (∀ i, i < k → 0 ≤ f i ∧ f i ≤ m) → 0 ≤ psum f k ∧ psum f k ≤ k * m := by
  intro k
  induction k with
  | zero => intro _; simp [psum]
  | succ k ih =>
    intro h
    have h1 := ih (fun i hi => h i (by omega))
    have h2 := h k (by omega)
    rw [psum_succ, Int.natCast_succ, Int.add_mul]
    omega

/-- What an act adds to clock 1, and to clock 2. -/
def addA (W B : Nat → Int) (i : Nat) : Int := if W i = 1 then B i else 0
def addC (W B : Nat → Int) (i : Nat) : Int := if W i = 2 then B i else 0
/-- A fair act. -/
def Fit (W B : Nat → Int) (i : Nat) : Prop := 0 ≤ B i ∧ B i ≤ 4294967296 ∧ (W i = 1 ∨ W i = 2)

theorem fit_add {W B : Nat → Int} {i : Nat} (h : Fit W B i) : 0 ≤ addA W B i ∧ addA W B i ≤ 4294967296 ∧ 0 ≤ addC W B i ∧ addC W B i ≤ 4294967296 := by
  obtain ⟨h1, h2, h3⟩ := h
  unfold addA addC
  split <;> split <;> omega

theorem tick_adds {W B : Nat → Int} {i : Nat} (h : Fit W B i) {a c : Int} (ha : 0 ≤ a) (ha1 : a ≤ 429496729600) (hc : 0 ≤ c) (hc1 : c ≤ 429496729600) :
    tickE a c (W i) (B i) = 0 ∧ tickA a c (W i) (B i) = a + addA W B i ∧ tickC a c (W i) (B i) = c + addC W B i := by
  obtain ⟨h1, h2, h3⟩ := h
  have hn : tkN (W i) = true := decide_eq_true h3
  have hx : tkX (W i) (B i) = addA W B i := rfl
  have hy : tkY (W i) (B i) = addC W B i := rfl
  obtain ⟨g1, g2, g3, g4⟩ := fit_add (W := W) (B := B) (i := i) ⟨h1, h2, h3⟩
  have hk : onOk a c (addA W B i) (addC W B i) = true := onOk_mk g1 g3 (by omega) (by omega)
  unfold tickE tickA tickC onE onA onC
  rw [hx, hy]
  simp [hn, hk]

theorem which_cases (x : Int) : (x != 1) = false ∨ ((x != 1) = true ∧ (x != 2) = false) ∨ ((x != 1) = true ∧ (x != 2) = true) := by
  by_cases h1 : x = 1
  · exact .inl (by simp [h1])
  · by_cases h2 : x = 2
    · exact .inr (.inl ⟨by simpa using h1, by simp [h2]⟩)
    · exact .inr (.inr ⟨by simpa using h1, by simpa using h2⟩)

/-- Why an act isn't fair. -/
def Bad1 (x y : Int) : Prop := y < 0 ∨ (0 ≤ y ∧ 4294967296 < y) ∨ (0 ≤ y ∧ y ≤ 4294967296 ∧ (x != 1) = true ∧ (x != 2) = true)
def Good1 (x y : Int) : Prop := 0 ≤ y ∧ y ≤ 4294967296 ∧ ((x != 1) = false ∨ ((x != 1) = true ∧ (x != 2) = false))

theorem fit_or (W B : Nat → Int) (i : Nat) : (Fit W B i ∧ Good1 (W i) (B i)) ∨ Bad1 (W i) (B i) := by
  unfold Fit Good1 Bad1
  rcases which_cases (W i) with h | ⟨h, h2⟩ | ⟨h, h2⟩
  · have e : W i = 1 := by simpa using h
    by_cases h0 : B i < 0
    · exact .inr (.inl h0)
    · by_cases h1 : 4294967296 < B i
      · exact .inr (.inr (.inl ⟨by omega, h1⟩))
      · exact .inl ⟨⟨by omega, by omega, .inl e⟩, by omega, by omega, .inl h⟩
  · have e : W i = 2 := by simpa using h2
    by_cases h0 : B i < 0
    · exact .inr (.inl h0)
    · by_cases h1 : 4294967296 < B i
      · exact .inr (.inr (.inl ⟨by omega, h1⟩))
      · exact .inl ⟨⟨by omega, by omega, .inr e⟩, by omega, by omega, .inr ⟨h, h2⟩⟩
  · by_cases h0 : B i < 0
    · exact .inr (.inl h0)
    · by_cases h1 : 4294967296 < B i
      · exact .inr (.inr (.inl ⟨by omega, h1⟩))
      · exact .inr (.inr (.inr ⟨by omega, by omega, h, h2⟩))

end Go.Proofs.Ythhpgckbaciidaa
