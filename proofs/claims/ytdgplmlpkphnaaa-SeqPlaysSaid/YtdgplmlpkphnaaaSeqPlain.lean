/- A sequencer as plain numbers: an epoch, the next address; what each call answers and leaves. No program in sight. -/
namespace Go.Proofs.Ytdgplmlpkphnaaa

/-- What an asked epoch answers, where the rest fits. -/
def askE (ep x : Int) : Int := if x < ep then 6 else if ep < x then 7 else 0
def fitB (lo hi n : Int) : Bool := decide (lo ≤ n ∧ n ≤ hi)
def asksE (ep x : Int) (fits : Bool) : Int := if fits then askE ep x else 1

def takeE (ep nx x n : Int) : Int := if fitB 1 64 n then (if askE ep x = 0 then (if 1048576 < nx + n then 5 else 0) else askE ep x) else 1
def takeV (ep nx x n : Int) : Int := if takeE ep nx x n = 0 then nx else 0
def takeN (ep nx x n : Int) : Int := if takeE ep nx x n = 0 then nx + n else nx

def raiseE (ep x n : Int) : Int := asksE ep x (fitB 0 1048576 n)
def raiseN (ep nx x n : Int) : Int := if raiseE ep x n = 0 then (if nx < n then n else nx) else nx

def setE (ep x n : Int) : Int := if fitB 0 1099511627776 x && fitB 0 1048576 n then (if x ≤ ep then 6 else 0) else 1
def setP (ep x n : Int) : Int := if setE ep x n = 0 then x else ep
def setN (ep nx x n : Int) : Int := if setE ep x n = 0 then n else nx

def tailV (ep nx x : Int) : Int := if askE ep x = 0 then nx else 0

/-- Epoch and next address lie within their bounds. -/
def SqIn (ep nx : Int) : Prop := 0 ≤ ep ∧ ep ≤ 1099511627776 ∧ 0 ≤ nx ∧ nx ≤ 1048576

theorem fitB_true {lo hi n : Int} (h : fitB lo hi n = true) : lo ≤ n ∧ n ≤ hi := of_decide_eq_true h
theorem fitB_false {lo hi n : Int} (h : fitB lo hi n = false) : n < lo ∨ hi < n := by
  have := of_decide_eq_false h
  omega
theorem fitB_mk {lo hi n : Int} (h : lo ≤ n) (h' : n ≤ hi) : fitB lo hi n = true := decide_eq_true ⟨h, h'⟩
theorem fitB_no {lo hi n : Int} (h : n < lo ∨ hi < n) : fitB lo hi n = false := decide_eq_false (by omega)

theorem askE_zero {ep x : Int} (h : askE ep x = 0) : x = ep := by
  unfold askE at h
  split at h
  · omega
  · split at h <;> omega
theorem askE_same (ep : Int) : askE ep ep = 0 := by simp [askE]
theorem takeE_zero {ep nx x n : Int} (h : takeE ep nx x n = 0) : 1 ≤ n ∧ n ≤ 64 ∧ x = ep ∧ nx + n ≤ 1048576 := by
  unfold takeE at h
  cases hf : fitB 1 64 n
  · simp [hf] at h
  · have := fitB_true hf
    simp only [hf, if_true] at h
    split at h
    · next ha =>
      have := askE_zero ha
      split at h
      · omega
      · omega
    · next ha => exact (ha h).elim
theorem takeE_mk {ep nx n : Int} (h1 : 1 ≤ n) (h2 : n ≤ 64) (h3 : nx + n ≤ 1048576) : takeE ep nx ep n = 0 := by
  have h4 : ¬ 1048576 < nx + n := by omega
  simp [takeE, fitB_mk h1 h2, askE_same, h4]
theorem raiseE_zero {ep x n : Int} (h : raiseE ep x n = 0) : 0 ≤ n ∧ n ≤ 1048576 ∧ x = ep := by
  unfold raiseE asksE at h
  cases hf : fitB 0 1048576 n
  · simp [hf] at h
  · have := fitB_true hf
    simp only [hf, if_true] at h
    have := askE_zero h
    omega
theorem setE_zero {ep x n : Int} (h : setE ep x n = 0) : 0 ≤ x ∧ x ≤ 1099511627776 ∧ 0 ≤ n ∧ n ≤ 1048576 ∧ ep < x := by
  unfold setE at h
  cases hf : fitB 0 1099511627776 x
  · simp [hf] at h
  · cases hg : fitB 0 1048576 n
    · simp [hf, hg] at h
    · have := fitB_true hf
      have := fitB_true hg
      simp only [hf, hg, Bool.and_self, if_true] at h
      split at h <;> omega
theorem setE_mk {ep x n : Int} (h1 : 0 ≤ x) (h2 : x ≤ 1099511627776) (h3 : 0 ≤ n) (h4 : n ≤ 1048576) (h5 : ep < x) : setE ep x n = 0 := by
  have h6 : ¬ x ≤ ep := by omega
  simp [setE, fitB_mk h1 h2, fitB_mk h3 h4, h6]

theorem take_in {ep nx : Int} (x n : Int) (h : SqIn ep nx) : SqIn ep (takeN ep nx x n) := by
  unfold SqIn takeN at *
  split
  · next he => have := takeE_zero he; omega
  · exact h
theorem raise_in {ep nx : Int} (x n : Int) (h : SqIn ep nx) : SqIn ep (raiseN ep nx x n) := by
  unfold SqIn raiseN at *
  split
  · next he =>
    have := raiseE_zero he
    split <;> omega
  · exact h
theorem set_in {ep nx : Int} (x n : Int) (h : SqIn ep nx) : SqIn (setP ep x n) (setN ep nx x n) := by
  unfold SqIn setP setN at *
  split
  · next he => have := setE_zero he; omega
  · exact h

end Go.Proofs.Ytdgplmlpkphnaaa
