/- A region that draws its order, in a round of a range over a function: one walk of the order of the text serves every order, where no operation is a defer statement. No program's number stands here. -/
import Derived.Sort.QuietIn
import Derived.OwnWalkIn
namespace Go.Proofs.Ytggnkcpnbnpbhaa

section
variable {F : Fence} {n : Nat} {P : Program} {ops : Array Oper} {md : Region.Mode} {C : World → Prop}

/-- No operation is a defer statement. -/
def NoDefer (ops : Array Oper) : Bool := ops.all fun o => match o.op with | .defer _ => false | _ => true

theorem noDefer_at (h : NoDefer ops = true) {i : Nat} {o : Oper} (hi : ops[i]? = some o) (c : Call) : o.op ≠ .defer c := by
  intro e
  have h1 := Array.all_eq_true.1 h
  obtain ⟨hl, he⟩ := Array.getElem?_eq_some_iff.1 hi
  have h2 := h1 i hl
  rw [he] at h2
  simp [e] at h2

theorem wpIn_ofQuietR {o : Oper} {a : Act} {K : Act → Prop} {K' : Act → World → Prop} {Q' : Exit → Act → World → Prop} {w : World} (hnd : ∀ c, o.op ≠ .defer c) (hw : C w) (h : ∀ a w', C w' → K a → K' a w')
    (ha : o.askedIn F P a C) (hh : o.quietIn F n P a C K) : o.wpIn F n P a w K' Q' := by
  obtain ⟨v, h1, h2⟩ := hh
  have h3 := h1 w hw
  unfold Oper.quietAtIn at h3
  refine ⟨ha w hw, ?_⟩
  rw [Oper.semAt_plain F _ _ hnd]
  generalize (execOp a.eval o).run P w = r at h3
  cases r with
  | ok x w' =>
    cases x with
    | value u =>
      obtain ⟨rfl, rfl⟩ := h3
      exact h _ _ hw h2
    | skip =>
      obtain ⟨rfl, rfl⟩ := h3
      exact h _ _ hw h2
    | enter f args =>
      obtain ⟨rfl, hd, hc⟩ := h3
      exact ⟨hd, hc.mono fun e w'' ⟨he, hw''⟩ => by subst he; exact h _ _ hw'' h2⟩
    | _ => exact h3.elim
  | halt x w' => exact h3.elim

theorem wpOpIn_ofQuietR (hnd : NoDefer ops = true) {i : Nat} {a : Act} {K : Act → Prop} {K' : Act → World → Prop} {Q' : Exit → Act → World → Prop} {w : World} (hC : C w) (h : ∀ a w', C w' → K a → K' a w')
    (hh : qOpIn F n P ops C i K a) : wpOpIn F n P ops Q' i K' a w := by
  unfold qOpIn at hh
  unfold wpOpIn
  cases ho : ops[i]? with
  | none =>
    simp only [ho] at hh
    exact h _ _ hC hh
  | some o =>
    simp only [ho] at hh
    obtain ⟨ha, hh⟩ := hh
    by_cases hw : Region.wanted o (yielded ops a.tmps) = true
    · simp only [hw, if_true] at hh ⊢
      exact wpIn_ofQuietR (noDefer_at hnd ho) hC h ha hh
    · simp only [hw] at hh ⊢
      exact ⟨ha w hC, h _ _ hC hh⟩

theorem wpAnyIn_ofQuietR (hnd : NoDefer ops = true) {Q : Act → Prop} {Q' : Exit → Act → World → Prop} (hQ : ∀ a w, C w → Q a → Q' .normal a w) : ∀ (fuel : Nat) (listed : Array Bool) (a : Act) (w : World), C w →
    wpAnyQIn F n P md ops C Q fuel listed a → wpAnyIn F n P md ops Q' fuel listed a w
  | 0, _, _, _, hw, h => ⟨h.1, hQ _ _ hw h.2⟩
  | fuel + 1, _, _, _, hw, h => ⟨fun h0 => hQ _ _ hw (h.1 h0), fun i hi => wpOpIn_ofQuietR hnd hw (fun a' w' hw' => wpAnyIn_ofQuietR hnd hQ fuel _ a' w' hw') (h.2 i hi)⟩

/-- The region, in a round too. -/
theorem wpIn_region_quietR {id : Nat} {Q : Exit → Act → World → Prop} {a : Act} {w : World} {l : List Oper} (hnd : NoDefer l.toArray = true) (hm : P.follows .mixedOrders = true) (hB : Region.lexB .any l.toArray = true)
    (h : wpQuietIn F n P l.toArray (fun w' => ∃ n, w' = w.drewN n) (fun a' => ∀ w', (∃ n, w' = w.drewN n) → Q .normal a' w') l a) : (Code.region id l.toArray true).wpIn F n P Q a w := by
  simp only [Region.lexB, Bool.and_eq_true] at hB
  refine wpIn_region_any hm (wpAnyIn_ofQuietR (C := fun w' => ∃ n, w' = w.drewN n) hnd (Q := fun a' => ∀ w', (∃ n, w' = w.drewN n) → Q .normal a' w') (fun _ w' hw' h => h w' hw') _ _ _ _ ⟨1, rfl⟩ ?_)
  have := wpAnyQIn_lex (F := F) (n := n) (P := P) (C := fun w' => ∃ n, w' = w.drewN n) (md := .any) hB.1 l 0 (Array.replicate l.length false) a (by simp) (by simpa using hB.2) h
  simpa using this
end

end Go.Proofs.Ytggnkcpnbnpbhaa
