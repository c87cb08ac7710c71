/- Two clocks as plain numbers: what a step of theirs answers and leaves. No program in sight. -/
namespace Go.Proofs.Ythhpgckbaciidaa

/-- How far two clocks are apart. -/
def apartI (a c : Int) : Int := if c < a then a - c else c - a

/-- May the clocks a and c go on by x and y? -/
def onOk (a c x y : Int) : Bool := decide (0 ≤ x ∧ 0 ≤ y ∧ x ≤ 1099511627776 - a ∧ y ≤ 1099511627776 - c)
/-- The error's number, and what both clocks say then; whether they are unfair then. -/
def onE (a c x y : Int) : Int := if onOk a c x y then 0 else 1
def onA (a c x y : Int) : Int := if onOk a c x y then a + x else a
def onC (a c x y : Int) : Int := if onOk a c x y then c + y else c
def onU (a c bd : Int) (u : Bool) (x y : Int) : Bool := if onOk a c x y then u || decide (bd < apartI (a + x) (c + y)) else u

/-- Both clocks lie within their bounds. -/
def InB (a c : Int) : Prop := 0 ≤ a ∧ a ≤ 1099511627776 ∧ 0 ≤ c ∧ c ≤ 1099511627776

theorem onOk_true {a c x y : Int} (h : onOk a c x y = true) : 0 ≤ x ∧ 0 ≤ y ∧ x ≤ 1099511627776 - a ∧ y ≤ 1099511627776 - c := of_decide_eq_true h
theorem onOk_false {a c x y : Int} (h : onOk a c x y = false) : x < 0 ∨ y < 0 ∨ 1099511627776 - a < x ∨ 1099511627776 - c < y := by
  have := of_decide_eq_false h
  omega
theorem onOk_mk {a c x y : Int} (h0 : 0 ≤ x) (h1 : 0 ≤ y) (h2 : x ≤ 1099511627776 - a) (h3 : y ≤ 1099511627776 - c) : onOk a c x y = true := decide_eq_true ⟨h0, h1, h2, h3⟩
theorem onOk_no {a c x y : Int} (h : x < 0 ∨ y < 0 ∨ 1099511627776 - a < x ∨ 1099511627776 - c < y) : onOk a c x y = false := decide_eq_false (by omega)

theorem on_in {a c : Int} (x y : Int) (h : InB a c) : InB (onA a c x y) (onC a c x y) := by
  unfold InB at *
  unfold onA onC
  cases hk : onOk a c x y
  · simpa using h
  · have := onOk_true hk
    simp only [if_true]
    omega
theorem on_up {a c : Int} (x y : Int) : a ≤ onA a c x y ∧ c ≤ onC a c x y := by
  unfold onA onC
  cases hk : onOk a c x y
  · simp
  · have := onOk_true hk
    simp only [if_true]
    omega

/-- What 'Tick' hands on: the steps of both clocks. -/
def tkX (which b : Int) : Int := if which = 1 then b else 0
def tkY (which b : Int) : Int := if which = 2 then b else 0
def tkN (which : Int) : Bool := decide (which = 1 ∨ which = 2)
def tickE (a c which b : Int) : Int := if tkN which then onE a c (tkX which b) (tkY which b) else 1
def tickA (a c which b : Int) : Int := if tkN which then onA a c (tkX which b) (tkY which b) else a
def tickC (a c which b : Int) : Int := if tkN which then onC a c (tkX which b) (tkY which b) else c
def tickU (a c bd : Int) (u : Bool) (which b : Int) : Bool := if tkN which then onU a c bd u (tkX which b) (tkY which b) else u

theorem tick_in {a c : Int} (which b : Int) (h : InB a c) : InB (tickA a c which b) (tickC a c which b) := by
  unfold tickA tickC
  cases tkN which
  · simpa using h
  · simpa using on_in _ _ h
theorem tick_up {a c : Int} (which b : Int) : a ≤ tickA a c which b ∧ c ≤ tickC a c which b := by
  unfold tickA tickC
  cases tkN which
  · simp
  · simpa using on_up _ _

end Go.Proofs.Ythhpgckbaciidaa
