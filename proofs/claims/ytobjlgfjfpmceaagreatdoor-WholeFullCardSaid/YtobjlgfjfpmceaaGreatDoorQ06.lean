/- Words of 32 bits: the model's operations on them; a word turned right. · A drawn region: an operation that may come up now, A CALL TOO, is taken first -/
import Derived.Deep.RegionHeld3
import Derived.Deep.QuietTactic
import Derived.BigQuiet
import Derived.Test.YtobjlgfjfpmceaaGreatDoorQ03
set_option linter.unusedVariables false
set_option maxRecDepth 100000
set_option maxHeartbeats 16000000
namespace Go.Proofs.YtobjlgfjfpmceaaGreatDoor
open Go.RowKit
def U32 (x : Int) : Prop := 0 ≤ x ∧ x < 4294967296
def w32 (x : Int) : Int := x % 4294967296
def xorI (x y : Int) : Int := bits .xor .u32 x y
def andI (x y : Int) : Int := bits .and .u32 x y
def orI (x y : Int) : Int := bits .or .u32 x y
def rotI (x : Int) (k : Nat) : Int := orI (w32 (x * 2 ^ (32 - k))) (x / 2 ^ k)
theorem u32_w (x : Int) : U32 (w32 x) := by
  unfold U32 w32
  omega
theorem u32_bits (op : BinOp) (x y : Int) : U32 (bits op .u32 x y) := by
  unfold U32
  have h : ∀ z : Int, 0 ≤ IntKind.u32.wrap z ∧ IntKind.u32.wrap z < 4294967296 := fun z => by
    rw [IntKind.wrap_u32']
    omega
  exact h _
theorem u32_or (x y : Int) : U32 (orI x y) := u32_bits _ _ _
theorem rotl_2 (x : Int) (hx : U32 x) (w : World) : Calls Tryz.prog 379 #[.int .u32 x, .int .i64 (-2)] w fun e w' => e = .returned (.int .u32 (rotI x 2)) ∧ w = w' := by
  obtain ⟨h0, h1⟩ := hx
  have hb : bits .and .u64 (IntKind.u64.wrap (-2)) 31 = 30 := by decide
  go_enter Tryz.func379, Tryz.ntmps379
  go_wp2
  go_ret
  exact ⟨by simp [rotI, orI, w32], rfl⟩
theorem right_2 (x : Int) (hx : U32 x) (w : World) : Calls Tryz.prog 370 #[.int .u32 x, .int .i64 2] w fun e w' => e = .returned (.int .u32 (rotI x 2)) ∧ w = w' := by
  go_enter Tryz.func370, Tryz.ntmps370
  go_wp2_with fail
  refine (rotl_2 x hx _).mono ?_
  rintro e w' ⟨rfl, rfl⟩
  go_wp2_with fail
  go_ret
  exact ⟨rfl, rfl⟩
theorem rotl_6 (x : Int) (hx : U32 x) (w : World) : Calls Tryz.prog 379 #[.int .u32 x, .int .i64 (-6)] w fun e w' => e = .returned (.int .u32 (rotI x 6)) ∧ w = w' := by
  obtain ⟨h0, h1⟩ := hx
  have hb : bits .and .u64 (IntKind.u64.wrap (-6)) 31 = 26 := by decide
  go_enter Tryz.func379, Tryz.ntmps379
  go_wp2
  go_ret
  exact ⟨by simp [rotI, orI, w32], rfl⟩
theorem right_6 (x : Int) (hx : U32 x) (w : World) : Calls Tryz.prog 370 #[.int .u32 x, .int .i64 6] w fun e w' => e = .returned (.int .u32 (rotI x 6)) ∧ w = w' := by
  go_enter Tryz.func370, Tryz.ntmps370
  go_wp2_with fail
  refine (rotl_6 x hx _).mono ?_
  rintro e w' ⟨rfl, rfl⟩
  go_wp2_with fail
  go_ret
  exact ⟨rfl, rfl⟩
theorem rotl_7 (x : Int) (hx : U32 x) (w : World) : Calls Tryz.prog 379 #[.int .u32 x, .int .i64 (-7)] w fun e w' => e = .returned (.int .u32 (rotI x 7)) ∧ w = w' := by
  obtain ⟨h0, h1⟩ := hx
  have hb : bits .and .u64 (IntKind.u64.wrap (-7)) 31 = 25 := by decide
  go_enter Tryz.func379, Tryz.ntmps379
  go_wp2
  go_ret
  exact ⟨by simp [rotI, orI, w32], rfl⟩
theorem right_7 (x : Int) (hx : U32 x) (w : World) : Calls Tryz.prog 370 #[.int .u32 x, .int .i64 7] w fun e w' => e = .returned (.int .u32 (rotI x 7)) ∧ w = w' := by
  go_enter Tryz.func370, Tryz.ntmps370
  go_wp2_with fail
  refine (rotl_7 x hx _).mono ?_
  rintro e w' ⟨rfl, rfl⟩
  go_wp2_with fail
  go_ret
  exact ⟨rfl, rfl⟩
theorem rotl_11 (x : Int) (hx : U32 x) (w : World) : Calls Tryz.prog 379 #[.int .u32 x, .int .i64 (-11)] w fun e w' => e = .returned (.int .u32 (rotI x 11)) ∧ w = w' := by
  obtain ⟨h0, h1⟩ := hx
  have hb : bits .and .u64 (IntKind.u64.wrap (-11)) 31 = 21 := by decide
  go_enter Tryz.func379, Tryz.ntmps379
  go_wp2
  go_ret
  exact ⟨by simp [rotI, orI, w32], rfl⟩
theorem right_11 (x : Int) (hx : U32 x) (w : World) : Calls Tryz.prog 370 #[.int .u32 x, .int .i64 11] w fun e w' => e = .returned (.int .u32 (rotI x 11)) ∧ w = w' := by
  go_enter Tryz.func370, Tryz.ntmps370
  go_wp2_with fail
  refine (rotl_11 x hx _).mono ?_
  rintro e w' ⟨rfl, rfl⟩
  go_wp2_with fail
  go_ret
  exact ⟨rfl, rfl⟩
theorem rotl_13 (x : Int) (hx : U32 x) (w : World) : Calls Tryz.prog 379 #[.int .u32 x, .int .i64 (-13)] w fun e w' => e = .returned (.int .u32 (rotI x 13)) ∧ w = w' := by
  obtain ⟨h0, h1⟩ := hx
  have hb : bits .and .u64 (IntKind.u64.wrap (-13)) 31 = 19 := by decide
  go_enter Tryz.func379, Tryz.ntmps379
  go_wp2
  go_ret
  exact ⟨by simp [rotI, orI, w32], rfl⟩
theorem right_13 (x : Int) (hx : U32 x) (w : World) : Calls Tryz.prog 370 #[.int .u32 x, .int .i64 13] w fun e w' => e = .returned (.int .u32 (rotI x 13)) ∧ w = w' := by
  go_enter Tryz.func370, Tryz.ntmps370
  go_wp2_with fail
  refine (rotl_13 x hx _).mono ?_
  rintro e w' ⟨rfl, rfl⟩
  go_wp2_with fail
  go_ret
  exact ⟨rfl, rfl⟩
theorem rotl_17 (x : Int) (hx : U32 x) (w : World) : Calls Tryz.prog 379 #[.int .u32 x, .int .i64 (-17)] w fun e w' => e = .returned (.int .u32 (rotI x 17)) ∧ w = w' := by
  obtain ⟨h0, h1⟩ := hx
  have hb : bits .and .u64 (IntKind.u64.wrap (-17)) 31 = 15 := by decide
  go_enter Tryz.func379, Tryz.ntmps379
  go_wp2
  go_ret
  exact ⟨by simp [rotI, orI, w32], rfl⟩
theorem right_17 (x : Int) (hx : U32 x) (w : World) : Calls Tryz.prog 370 #[.int .u32 x, .int .i64 17] w fun e w' => e = .returned (.int .u32 (rotI x 17)) ∧ w = w' := by
  go_enter Tryz.func370, Tryz.ntmps370
  go_wp2_with fail
  refine (rotl_17 x hx _).mono ?_
  rintro e w' ⟨rfl, rfl⟩
  go_wp2_with fail
  go_ret
  exact ⟨rfl, rfl⟩
theorem rotl_18 (x : Int) (hx : U32 x) (w : World) : Calls Tryz.prog 379 #[.int .u32 x, .int .i64 (-18)] w fun e w' => e = .returned (.int .u32 (rotI x 18)) ∧ w = w' := by
  obtain ⟨h0, h1⟩ := hx
  have hb : bits .and .u64 (IntKind.u64.wrap (-18)) 31 = 14 := by decide
  go_enter Tryz.func379, Tryz.ntmps379
  go_wp2
  go_ret
  exact ⟨by simp [rotI, orI, w32], rfl⟩
theorem right_18 (x : Int) (hx : U32 x) (w : World) : Calls Tryz.prog 370 #[.int .u32 x, .int .i64 18] w fun e w' => e = .returned (.int .u32 (rotI x 18)) ∧ w = w' := by
  go_enter Tryz.func370, Tryz.ntmps370
  go_wp2_with fail
  refine (rotl_18 x hx _).mono ?_
  rintro e w' ⟨rfl, rfl⟩
  go_wp2_with fail
  go_ret
  exact ⟨rfl, rfl⟩
theorem rotl_19 (x : Int) (hx : U32 x) (w : World) : Calls Tryz.prog 379 #[.int .u32 x, .int .i64 (-19)] w fun e w' => e = .returned (.int .u32 (rotI x 19)) ∧ w = w' := by
  obtain ⟨h0, h1⟩ := hx
  have hb : bits .and .u64 (IntKind.u64.wrap (-19)) 31 = 13 := by decide
  go_enter Tryz.func379, Tryz.ntmps379
  go_wp2
  go_ret
  exact ⟨by simp [rotI, orI, w32], rfl⟩
theorem right_19 (x : Int) (hx : U32 x) (w : World) : Calls Tryz.prog 370 #[.int .u32 x, .int .i64 19] w fun e w' => e = .returned (.int .u32 (rotI x 19)) ∧ w = w' := by
  go_enter Tryz.func370, Tryz.ntmps370
  go_wp2_with fail
  refine (rotl_19 x hx _).mono ?_
  rintro e w' ⟨rfl, rfl⟩
  go_wp2_with fail
  go_ret
  exact ⟨rfl, rfl⟩
theorem rotl_22 (x : Int) (hx : U32 x) (w : World) : Calls Tryz.prog 379 #[.int .u32 x, .int .i64 (-22)] w fun e w' => e = .returned (.int .u32 (rotI x 22)) ∧ w = w' := by
  obtain ⟨h0, h1⟩ := hx
  have hb : bits .and .u64 (IntKind.u64.wrap (-22)) 31 = 10 := by decide
  go_enter Tryz.func379, Tryz.ntmps379
  go_wp2
  go_ret
  exact ⟨by simp [rotI, orI, w32], rfl⟩
theorem right_22 (x : Int) (hx : U32 x) (w : World) : Calls Tryz.prog 370 #[.int .u32 x, .int .i64 22] w fun e w' => e = .returned (.int .u32 (rotI x 22)) ∧ w = w' := by
  go_enter Tryz.func370, Tryz.ntmps370
  go_wp2_with fail
  refine (rotl_22 x hx _).mono ?_
  rintro e w' ⟨rfl, rfl⟩
  go_wp2_with fail
  go_ret
  exact ⟨rfl, rfl⟩
theorem rotl_25 (x : Int) (hx : U32 x) (w : World) : Calls Tryz.prog 379 #[.int .u32 x, .int .i64 (-25)] w fun e w' => e = .returned (.int .u32 (rotI x 25)) ∧ w = w' := by
  obtain ⟨h0, h1⟩ := hx
  have hb : bits .and .u64 (IntKind.u64.wrap (-25)) 31 = 7 := by decide
  go_enter Tryz.func379, Tryz.ntmps379
  go_wp2
  go_ret
  exact ⟨by simp [rotI, orI, w32], rfl⟩
theorem right_25 (x : Int) (hx : U32 x) (w : World) : Calls Tryz.prog 370 #[.int .u32 x, .int .i64 25] w fun e w' => e = .returned (.int .u32 (rotI x 25)) ∧ w = w' := by
  go_enter Tryz.func370, Tryz.ntmps370
  go_wp2_with fail
  refine (rotl_25 x hx _).mono ?_
  rintro e w' ⟨rfl, rfl⟩
  go_wp2_with fail
  go_ret
  exact ⟨rfl, rfl⟩
section
variable {P : Program} {ops : Array Oper} {Q : Exit → Act → World → Prop} {md : Region.Mode} {S : World → Prop}
def Calm (P : Program) (ops : Array Oper) (S : World → Prop) (o : Oper) (v : Value) (a : Act) : Prop :=
  (Region.wanted o (yielded ops a.tmps) = true ∧ ∀ w, S w → o.quietAt P a (fun w' => w' = w) w v) ∨ (Region.wanted o (yielded ops a.tmps) = false ∧ v = undef)
theorem Calm.wpOp {i : Nat} {o : Oper} {v : Value} {a : Act} (hi : ops[i]? = some o) (hy : Calm P ops S o v a) {K : Act → World → Prop} {w : World} (hS : S w) (h : K (a.put o.dst v) w) : wpOp P ops Q i K a w := by
  refine wpOp_of_qOp (C := fun w' => w' = w) (K := fun a' => K a' w) rfl (fun a' w' e hk => by rw [e]; exact hk) ?_
  unfold qOp
  simp only [hi]
  rcases hy with ⟨hw, hv⟩ | ⟨hw, rfl⟩
  · rw [if_pos hw]; exact ⟨v, fun w' e => by rw [e]; exact hv w hS, h⟩
  · rw [if_neg (by rw [hw]; decide)]; exact h
theorem Calm.of_same {o : Oper} {v : Value} {a a' : Act} (hy : Calm P ops S o v a) (he : execOp a'.eval o = execOp a.eval o) (hw : Region.wanted o (yielded ops a'.tmps) = Region.wanted o (yielded ops a.tmps)) : Calm P ops S o v a' := by
  unfold Calm Oper.quietAt at *
  rw [he, hw]
  exact hy
theorem wpOp_put_calm {j : Nat} {oi oj : Oper} {v : Value} (hj : ops[j]? = some oj) (hap : oi.apart ops oj = true)
    (hsi : ∀ cs b, oi.op ≠ .select cs b) (hsj : ∀ cs b, oj.op ≠ .select cs b)
    (hQ : ∀ c a w, Q (.panic c) (a.put oi.dst v) w → Q (.panic c) a w) {K : Act → World → Prop} {a : Act} {w : World}
    (hy : Calm P ops S oi v a) (h : wpOp P ops Q j K (a.put oi.dst v) w) :
    wpOp P ops Q j (fun a' w' => Calm P ops S oi v a' ∧ K (a'.put oi.dst v) w') a w := by
  obtain ⟨h1, h2, h3⟩ := Oper.apart_spec hap
  have keep : ∀ (a : Act), Calm P ops S oi v a → ∀ u, Calm P ops S oi v (a.put oj.dst u) := fun a hy u => hy.of_same (execOp_put oi hsi a oj.dst u h3) (wanted_put oi a oj.dst u h3)
  have keepD : ∀ d, Calm P ops S oi v { a with defers := d :: a.defers } := fun d => hy.of_same rfl rfl
  unfold Go.wpOp at *
  simp only [hj] at *
  rw [wanted_put oj a oi.dst v h1] at h
  split
  · rename_i hw
    simp only [hw, if_true] at h
    rcases h with h | ⟨hasks, hlets⟩
    case inr => exact .inr ⟨by unfold Oper.asks at *; rw [execOp_put oj hsj a oi.dst v h1] at hasks; exact hasks, hlets⟩
    refine .inl ?_
    unfold Oper.wp at *
    rw [execOp_put oj hsj a oi.dst v h1] at h
    generalize (execOp a.eval oj).run P w = r at *
    cases r with
    | ok n w' =>
      cases n <;> simp only [Oper.upon] at h ⊢
      case value u => exact ⟨keep a hy u, by rw [← Act.put_comm a v u h2]; exact h⟩
      case skip => exact ⟨keep a hy _, by rw [← Act.put_comm a v undef h2]; exact h⟩
      case defer d =>
        refine ⟨keep _ (keepD d) _, ?_⟩
        rw [← Act.put_comm _ v undef h2, ← Act.put_defers]
        exact h
      case enter f args =>
        refine Calls.mono h fun e w'' he => ?_
        cases e with
        | returned u => exact ⟨keep a hy u, by rw [← Act.put_comm a v u h2]; exact he⟩
        | panicked c => exact hQ _ _ _ he
        | outgrown => exact he
      case row row args => exact Rows.mono h fun u w'' he => ⟨keep a hy u, by rw [← Act.put_comm a v u h2]; exact he⟩
    | halt x w' =>
      cases x <;> simp only [Oper.upon] at h ⊢
      case panic u => exact hQ _ _ _ h
  · rename_i hw
    simp only [hw] at h
    exact ⟨keep a hy _, by rw [← Act.put_comm a v undef h2]; exact h⟩
theorem first_calm {i : Nat} {oi : Oper} {v : Value} (hi : ops[i]? = some oi) (hsel : ∀ (j : Nat) (o : Oper) cs b, ops[j]? = some o → o.op ≠ .select cs b)
    (hQ : ∀ c a w, Q (.panic c) (a.put oi.dst v) w → Q (.panic c) a w) :
    ∀ (fuel : Nat) (listed : Array Bool) (a : Act) (w : World),
      (∀ j oj, ops[j]? = some oj → j ≠ i → listed.getD j true = false → (∀ e ∈ oj.after, Region.binds md e = true → e.on ≠ i) → oi.apart ops oj = true) →
      i ∈ Region.ready md ops listed → Calm P ops S oi v a → S w →
      wpAnyH P md ops Q S fuel (listed.setIfInBounds i true) (a.put oi.dst v) w → wpAnyH P md ops Q S (fuel + 1) listed a w := by
  intro fuel
  induction fuel with
  | zero =>
    intro listed a w _ hr hy hS H
    refine ⟨fun h => (by rw [h] at hr; cases hr), fun j hj => ?_⟩
    by_cases hji : j = i
    · subst hji; exact hy.wpOp hi hS ⟨hS, H⟩
    · have := ready_mono hj hji
      rw [H.1] at this
      cases this
  | succ fuel ih =>
    intro listed a w hfree hr hy hS H
    refine ⟨fun h => (by rw [h] at hr; cases hr), fun j hj => ?_⟩
    by_cases hji : j = i
    · subst hji; exact hy.wpOp hi hS ⟨hS, H⟩
    · have h1 := H.2 j (ready_mono hj hji)
      obtain ⟨hjun, oj, hoj, hall⟩ := mem_ready.1 hj
      have hnot : ∀ e ∈ oj.after, Region.binds md e = true → e.on ≠ i := fun e he hb heq => by
        have h1 := hall e he hb
        have h0 := (mem_ready.1 hr).1
        rw [heq] at h1
        rcases Nat.lt_or_ge i listed.size with h' | h'
        · simp [h'] at h0 h1; rw [h0] at h1; cases h1
        · simp [Array.getElem?_eq_none h'] at h1
      have h2 := wpOp_put_calm hoj (hfree j oj hoj hji hjun hnot) (fun cs b => hsel i oi cs b hi) (fun cs b => hsel j oj cs b hoj) hQ hy h1
      have hfree' : ∀ k ok, ops[k]? = some ok → k ≠ i → (listed.setIfInBounds j true).getD k true = false → (∀ e ∈ ok.after, Region.binds md e = true → e.on ≠ i) → oi.apart ops ok = true := fun k ok hk hki hun hno => by
        refine hfree k ok hk hki ?_ hno
        by_cases hjk : j = k
        · subst hjk; exact hjun
        · rw [getD_set_ne true hjk] at hun; exact hun
      refine wpOp_mono (fun a' w' h3 => ⟨h3.2.1, ih (listed.setIfInBounds j true) a' w' hfree' (ready_mono hr (Ne.symm hji)) h3.1 h3.2.1 ?_⟩) h2
      rw [Array.setIfInBounds_comm _ _ hji]
      exact h3.2.2
theorem take_calm {i : Nat} {oi : Oper} {v : Value} {fuel : Nat} {listed : Array Bool} {a : Act} {w : World} (hi : ops[i]? = some oi)
    (hs : Region.noSelect ops = true) (hf : Region.free md ops listed i = true) (hr : (Region.ready md ops listed).contains i = true)
    (hQ : ∀ c a w, Q (.panic c) (a.put oi.dst v) w → Q (.panic c) a w) (hy : Calm P ops S oi v a) (hS : S w)
    (h : wpAnyH P md ops Q S fuel (listed.setIfInBounds i true) (a.put oi.dst v) w) : wpAnyH P md ops Q S (fuel + 1) listed a w :=
  first_calm hi (Region.noSelect_spec hs) hQ fuel listed a w (Region.free_spec hi hf) (by simpa using hr) hy hS h
theorem tc {i : Nat} {oi : Oper} {v : Value} {fuel : Nat} {listed l2 : Array Bool} {a a2 : Act} {w : World} (hy : ∀ w, S w → oi.quietAt P a (fun w' => w' = w) w v) (h : wpAnyH P md ops Q S fuel l2 a2 w)
    (hi : ops[i]? = some oi := by simp only [List.getElem?_toArray, List.getElem?_cons_succ, List.getElem?_cons_zero]; rfl) (hs : Region.noSelect ops = true := by as_aux_lemma => kernel_rfl)
    (hf : Region.free md ops listed i = true := by as_aux_lemma => kernel_rfl) (hr : (Region.ready md ops listed).contains i = true := by as_aux_lemma => kernel_rfl)
    (hQ : ∀ c a w, Q (.panic c) (a.put oi.dst v) w → Q (.panic c) a w := by exact fun _ _ _ h => h) (hw : Region.wanted oi (yielded ops a.tmps) = true := by rfl) (hS : S w := by assumption)
    (e : a.put oi.dst v = a2 := by first | (simp only [Act.put, List.setIfInBounds_toArray, List.set_cons_zero, List.set_cons_succ]; exact rfl) | exact rfl)
    (e2 : listed.setIfInBounds i true = l2 := by first | (simp only [List.setIfInBounds_toArray, List.set_cons_zero, List.set_cons_succ]; exact rfl) | exact rfl) :
    wpAnyH P md ops Q S (fuel + 1) listed a w := by
  subst e
  subst e2
  exact take_calm hi hs hf hr hQ (.inl ⟨hw, hy⟩) hS h
theorem rc {i : Nat} {o : Oper} {fuel : Nat} {listed : Array Bool} {a : Act} {w : World}
    (h : ∀ K' : Act → World → Prop, Shut (∀ a w, S w → (S w → wpAnyH P md ops Q S fuel (listed.setIfInBounds i true) a w) → K' a w) → if Region.wanted o (yielded ops a.tmps) = true then Oper.wp P o a w K' Q else K' (a.put o.dst undef) w)
    (hr : Region.ready md ops listed = [i] := by as_aux_lemma => kernel_rfl) (ho : ops[i]? = some o := by simp only [List.getElem?_toArray, List.getElem?_cons_succ, List.getElem?_cons_zero]; rfl) :
    wpAnyH P md ops Q S (fuel + 1) listed a w := wpAnyH_ready hr (by simp) (AllReadyH.cons ho h AllReadyH.nil)
end
def byI (b : List UInt8) (j : Nat) : Int := ((b.getD j 0).toNat : Int)
def beI (b : List UInt8) (t : Nat) : Int := orI (orI (orI (byI b (4 * t) * 16777216) (byI b (4 * t + 1) * 65536)) (byI b (4 * t + 2) * 256)) (byI b (4 * t + 3))
def sg0 (x : Int) : Int := xorI (xorI (rotI x 7) (rotI x 18)) (x / 8)
def sg1 (x : Int) : Int := xorI (xorI (rotI x 17) (rotI x 19)) (x / 1024)
def nextW (a b c d : Int) : Int := w32 (w32 (w32 (a + b) + sg0 c) + sg1 d)
def schedTo (b : List UInt8) : Nat → List Int
  | 0 => []
  | t + 1 => schedTo b t ++ [if t < 16 then beI b t else nextW ((schedTo b t).getD (t - 16) 0) ((schedTo b t).getD (t - 7) 0) ((schedTo b t).getD (t - 15) 0) ((schedTo b t).getD (t - 2) 0)]
def schedW (b : List UInt8) (i : Nat) : Int := (schedTo b (i + 1)).getD i 0
theorem sched_len (b : List UInt8) : ∀ t, (schedTo b t).length = t
  | 0 => rfl
  | t + 1 => by simp [schedTo, sched_len b t]
theorem sched_get (b : List UInt8) (i : Nat) : ∀ t, i < t → (schedTo b t).getD i 0 = schedW b i
  | 0, h => by omega
  | t + 1, h => by
    by_cases e : i = t
    · subst e
      rfl
    · have h' : i < t := by omega
      rw [← sched_get b i t h']
      simp only [schedTo, List.getD_eq_getElem?_getD]
      rw [List.getElem?_append_left (by rw [sched_len]; exact h')]
theorem schedW_lt {b : List UInt8} {t : Nat} (h : t < 16) : schedW b t = beI b t := by
  unfold schedW
  simp only [schedTo, if_pos h, List.getD_eq_getElem?_getD]
  rw [List.getElem?_append_right (by rw [sched_len]; omega), sched_len]
  simp
theorem schedW_ge {b : List UInt8} {t : Nat} (h : ¬ t < 16) : schedW b t = nextW (schedW b (t - 16)) (schedW b (t - 7)) (schedW b (t - 15)) (schedW b (t - 2)) := by
  rw [← sched_get b (t - 16) t (by omega), ← sched_get b (t - 7) t (by omega), ← sched_get b (t - 15) t (by omega), ← sched_get b (t - 2) t (by omega)]
  conv => lhs; unfold schedW
  simp only [schedTo, if_neg h, List.getD_eq_getElem?_getD]
  rw [List.getElem?_append_right (by rw [sched_len]; omega), sched_len]
  simp
theorem byI_bd (b : List UInt8) (j : Nat) : 0 ≤ byI b j ∧ byI b j ≤ 255 := by
  unfold byI
  have := (b.getD j 0).toNat_lt
  omega
theorem schedW_u32 (b : List UInt8) (t : Nat) : U32 (schedW b t) := by
  by_cases h : t < 16
  · rw [schedW_lt h]
    exact u32_or _ _
  · rw [schedW_ge h]
    exact u32_w _
def SchB (w : World) (g : Nat) (b : List UInt8) (t : Nat) : Prop := ∃ cs : Array Value, cs.size = 64 ∧ w.heap[g]? = some (.cells cs 433 (0, 0)) ∧ ∀ i, i < t → cs[i]? = some (.int .u32 (schedW b i))
def ShByt (w : World) (g off n : Nat) (b : List UInt8) : Prop := ∀ j, j < n → w.cell? ⟨g, off + j, none⟩ = some (.int .u8 (byI b j))
def Row64 (w : World) (g : Nat) : Prop := ∃ cs : Array Value, cs.size = 64 ∧ w.heap[g]? = some (.cells cs 433 (0, 0))
theorem SchB.cell {w : World} {g : Nat} {b : List UInt8} {t i : Nat} (h : SchB w g b t) (hi : i < t) : w.cell? ⟨g, i, none⟩ = some (.int .u32 (schedW b i)) := by
  obtain ⟨cs, _, h2, h3⟩ := h
  have := h3 i hi
  simp [World.cell?, h2, this]
theorem SchB.frozen {w : World} {g : Nat} {b : List UInt8} {t : Nat} (h : SchB w g b t) (i : Nat) : w.frozen? ⟨g, i, none⟩ = false := by
  obtain ⟨cs, _, h2, h3⟩ := h
  simp [World.frozen?, h2]
theorem SchB.has {w : World} {g : Nat} {b : List UInt8} {t i : Nat} (h : SchB w g b t) (hi : i < 64) : ∃ v, w.cell? ⟨g, i, none⟩ = some v := by
  obtain ⟨cs, h1, h2, h3⟩ := h
  exact ⟨cs[i], by simp [World.cell?, h2, show i < cs.size by omega]⟩
theorem SchB.set {w : World} {g : Nat} {b : List UInt8} {t : Nat} (h : SchB w g b t) (ht : t < 64) {x : Int} (hx : x = schedW b t) : SchB (w.setCell ⟨g, t, none⟩ (.int .u32 x)) g b (t + 1) := by
  obtain ⟨cs, h1, h2, h3⟩ := h
  subst hx
  refine ⟨cs.setIfInBounds t _, by simpa using h1, blk_set h2 t _, fun i hi => ?_⟩
  rw [Array.getElem?_setIfInBounds]
  by_cases e : t = i
  · subst e
    simp [show t < cs.size by omega]
  · rw [if_neg e]
    exact h3 i (by omega)
theorem SchB.keep {S : Nat → Prop} {w w' : World} {g : Nat} {b : List UInt8} {t : Nat} (h : SchB w g b t) (k : Keep S w w') (hn : ¬ S g) : SchB w' g b t := by
  obtain ⟨cs, h1, h2, h3⟩ := h
  exact ⟨cs, h1, k.at h2 hn, h3⟩
theorem Row64.keep {S : Nat → Prop} {w w' : World} {g : Nat} (h : Row64 w g) (k : Keep S w w') (hn : ¬ S g) : Row64 w' g := by
  obtain ⟨cs, h1, h2⟩ := h
  exact ⟨cs, h1, k.at h2 hn⟩
theorem SchB.start {w : World} {g : Nat} {cs : Array Value} (b : List UInt8) (h : w.heap[g]? = some (.cells cs 433 (0, 0))) (hs : cs.size = 64) : SchB w g b 0 := ⟨cs, hs, h, fun i hi => absurd hi (by omega)⟩
theorem Row64.start {w : World} {g : Nat} {cs : Array Value} (h : w.heap[g]? = some (.cells cs 433 (0, 0))) (hs : cs.size = 64) : Row64 w g := ⟨cs, hs, h⟩
section
attribute [local simp high] hA433 hS433
theorem sched_any (g off cap : Nat) (b : List UInt8) (w : World) (hb : ShByt w g off 64 b) (hcap : 64 ≤ cap) (hcm : cap ≤ 9223372036854775807) :
    Calls Tryz.prog 369 #[.slice (some ⟨g, off, none⟩) 64 cap] w fun e w' => ∃ ws : Array Value, e = .returned (.agg ws) ∧ ws.size = 64 ∧ (∀ i, i < 64 → ws[i]? = some (.int .u32 (schedW b i))) ∧ Keep Non w w' := by
  have HB := Lib.hid hb
  have hgl : g < w.heap.size := World.block_lt_of_cell? _ _ (hb 0 (by omega))
  clear hb
  go_enter Tryz.func369, Tryz.ntmps369
  go_wp2_with fail
  go_loopw [7] (fun i wr => ∃ t : Nat, t ≤ 64 ∧ i = .int .i64 t ∧ Keep Non w wr ∧ SchB wr (w.heap.size + 1) b t ∧ Row64 wr w.heap.size) (fun i _ => 64 - (intOf i).toNat)
  case atStart =>
    refine ⟨0, by omega, rfl, ((Keep.refl _ _).alloc _).alloc _, SchB.start b (World.size_alloc w _ ▸ blk_new _ _) rfl, Row64.start (blk_alloc (blk_new _ _) _) rfl⟩
  case round =>
    obtain ⟨t, ht, rfl, kp, hs, hr⟩ := hrel
    have KP := Lib.hid kp
    have HS := Lib.hid hs
    have HR := Lib.hid hr
    clear kp hs hr
    by_cases h64 : t < 64
    · obtain ⟨v0, hv0⟩ := HS.out.has h64
      have f0 := HS.out.frozen t
      by_cases h16 : t < 16
      · have hby : ∀ j, j < 64 → wr.cell? ⟨g, off + j, none⟩ = some (.int .u8 (byI b j)) := fun j hj => (World.cell?_of_block (KP.out.block g hgl (fun e => e))).trans (HB.out j hj)
        have b0 := hby (4 * t) (by omega)
        have b1 := hby (4 * t + 1) (by omega)
        have b2 := hby (4 * t + 2) (by omega)
        have b3 := hby (4 * t + 3) (by omega)
        obtain ⟨l0, u0⟩ := byI_bd b (4 * t)
        obtain ⟨l1, u1⟩ := byI_bd b (4 * t + 1)
        obtain ⟨l2, u2⟩ := byI_bd b (4 * t + 2)
        obtain ⟨l3, u3⟩ := byI_bd b (4 * t + 3)
        have w0 : IntKind.i64.wrap (4 * (t : Int)) = 4 * (t : Int) := by rw [IntKind.wrap_i64]; omega
        have w1 : IntKind.i64.wrap (4 * (t : Int) + 1) = 4 * (t : Int) + 1 := by rw [IntKind.wrap_i64]; omega
        have w2 : IntKind.i64.wrap (4 * (t : Int) + 2) = 4 * (t : Int) + 2 := by rw [IntKind.wrap_i64]; omega
        have w3 : IntKind.i64.wrap (4 * (t : Int) + 3) = 4 * (t : Int) + 3 := by rw [IntKind.wrap_i64]; omega
        have p0 : (4 * (t : Int)).toNat = 4 * t := by omega
        have p1 : (4 * (t : Int) + 1).toNat = 4 * t + 1 := by omega
        have p2 : (4 * (t : Int) + 2).toNat = 4 * t + 2 := by omega
        have p3 : (4 * (t : Int) + 3).toNat = 4 * t + 3 := by omega
        have q0 : 0 ≤ 4 * (t : Int) ∧ 4 * (t : Int) < 64 := by omega
        have q1 : 0 ≤ 4 * (t : Int) + 1 ∧ 4 * (t : Int) + 1 < 64 := by omega
        have q2 : 0 ≤ 4 * (t : Int) + 2 ∧ 4 * (t : Int) + 2 < 64 := by omega
        have q3 : 0 ≤ 4 * (t : Int) + 3 ∧ 4 * (t : Int) + 3 < 64 := by omega
        have ht16 : (t : Int) < 16 := by omega
        have ht64 : (t : Int) < 64 := by omega
        have hgn : g ≠ w.heap.size + 1 := by omega
        clear hby
        go_wp2_with fail
        have HV : Hid (∀ v : Value, (wr.setCell ⟨w.heap.size + 1, t, none⟩ v).drew.cell? ⟨g, off + 4 * t, none⟩ = some (.int .u8 (byI b (4 * t))) ∧ (wr.setCell ⟨w.heap.size + 1, t, none⟩ v).drew.cell? ⟨g, off + (4 * t + 1), none⟩ = some (.int .u8 (byI b (4 * t + 1))) ∧ (wr.setCell ⟨w.heap.size + 1, t, none⟩ v).drew.cell? ⟨g, off + (4 * t + 2), none⟩ = some (.int .u8 (byI b (4 * t + 2))) ∧ (wr.setCell ⟨w.heap.size + 1, t, none⟩ v).drew.cell? ⟨g, off + (4 * t + 3), none⟩ = some (.int .u8 (byI b (4 * t + 3)))) := Lib.hid (fun v => by
          refine ⟨(World.cell?_setCell_other _ _ _ _ ?_).trans b0, (World.cell?_setCell_other _ _ _ _ ?_).trans b1, (World.cell?_setCell_other _ _ _ _ ?_).trans b2, (World.cell?_setCell_other _ _ _ _ ?_).trans b3⟩ <;> (intro e; injection e; omega))
        go_region_held3 (fun W => W.cell? ⟨g, off + 4 * t, none⟩ = some (.int .u8 (byI b (4 * t))) ∧ W.cell? ⟨g, off + (4 * t + 1), none⟩ = some (.int .u8 (byI b (4 * t + 1))) ∧ W.cell? ⟨g, off + (4 * t + 2), none⟩ = some (.int .u8 (byI b (4 * t + 2))) ∧ W.cell? ⟨g, off + (4 * t + 3), none⟩ = some (.int .u8 (byI b (4 * t + 3))))
          (first | with_reducible exact ⟨b0, b1, b2, b3⟩ | with_reducible exact HV.out _ | go_keep)
          (first | fail)
        go_wp2_with fail
        go_roundw
        case rel =>
          refine ⟨t + 1, by omega, by go_num, (KP.out.setNew (by omega) _ _).drewN _, (HS.out.set h64 ?_).keep (Keep.drewN (Keep.refl (fun _ => False) _) _) (fun e => e), HR.out.keep ((Keep.setCell (S := One (w.heap.size + 1)) (Keep.refl _ _) (.inl (one_self _)) _).drewN _) (fun e => by unfold One at e; omega)⟩
          rw [schedW_lt h16]
          rfl
        case measure => simp [intOf]; omega
      · have ht16 : ¬ ((t : Int) < 16) := by omega
        have ht64 : (t : Int) < 64 := by omega
        have hn : Hid (∀ i, i < t → wr.cell? ⟨w.heap.size + 1, i, none⟩ = some (.int .u32 (schedW b i))) := Lib.hid (fun i hi => HS.out.cell hi)
        have c15 := hn.out (t - 15) (by omega)
        have c2 := hn.out (t - 2) (by omega)
        have c16 := hn.out (t - 16) (by omega)
        have c7 := hn.out (t - 7) (by omega)
        have w15 : IntKind.i64.wrap ((t : Int) - 15) = (t : Int) - 15 := by rw [IntKind.wrap_i64]; omega
        have w2 : IntKind.i64.wrap ((t : Int) - 2) = (t : Int) - 2 := by rw [IntKind.wrap_i64]; omega
        have w16 : IntKind.i64.wrap ((t : Int) - 16) = (t : Int) - 16 := by rw [IntKind.wrap_i64]; omega
        have w7 : IntKind.i64.wrap ((t : Int) - 7) = (t : Int) - 7 := by rw [IntKind.wrap_i64]; omega
        have p15 : ((t : Int) - 15).toNat = t - 15 := by omega
        have p2 : ((t : Int) - 2).toNat = t - 2 := by omega
        have p16 : ((t : Int) - 16).toNat = t - 16 := by omega
        have p7 : ((t : Int) - 7).toNat = t - 7 := by omega
        have q15 : 0 ≤ (t : Int) - 15 ∧ (t : Int) - 15 < 64 := by omega
        have q2 : 0 ≤ (t : Int) - 2 ∧ (t : Int) - 2 < 64 := by omega
        have q16 : 0 ≤ (t : Int) - 16 ∧ (t : Int) - 16 < 64 := by omega
        have q7 : 0 ≤ (t : Int) - 7 ∧ (t : Int) - 7 < 64 := by omega
        have r7 : (7 : Int) ≤ (t : Int) := by omega
        have r7' : (t : Int) - 7 < 64 := by omega
        have r16' : (t : Int) - 16 < 64 := by omega
        have s15 := schedW_u32 b (t - 15)
        have s2 := schedW_u32 b (t - 2)
        go_wp2_with fail
        go_quiet (fail)
        have kpq := KP.out.drewN nq
        have hsq : SchB (wr.drewN nq) (w.heap.size + 1) b t := HS.out.keep ((Keep.refl Non _).drewN nq) (fun e => e)
        have hrq : Row64 (wr.drewN nq) w.heap.size := HR.out.keep ((Keep.refl Non _).drewN nq) (fun e => e)
        revert kpq hsq hrq
        clear hn c15 c2 c16 c7 f0 hv0 HR HS KP
        clear v0
        generalize wr.drewN nq = wq
        intro kpq hsq hrq
        have KP := Lib.hid kpq
        have HS := Lib.hid hsq
        have HR := Lib.hid hrq
        clear kpq hsq hrq
        have ST : Hid (schedW b t = nextW (schedW b (t - 16)) (schedW b (t - 7)) (schedW b (t - 15)) (schedW b (t - 2))) := Lib.hid (schedW_ge h16)
        have s16 := schedW_u32 b (t - 16)
        have s7 := schedW_u32 b (t - 7)
        have c16 := HS.out.cell (i := t - 16) (by omega)
        have c7 := HS.out.cell (i := t - 7) (by omega)
        have f0 := HS.out.frozen t
        obtain ⟨v0, hv0⟩ := HS.out.has h64
        have HT : Hid (t < 64 ∧ 16 ≤ t ∧ g < w.heap.size) := Lib.hid ⟨h64, by omega, hgl⟩
        clear w15 w2 p15 p2 q15 q2 h16 hgl hcap hcm HB
        revert ST s16 s7 s15 s2 c16 c7
        generalize schedW b (t - 16) = x16
        generalize schedW b (t - 15) = x15
        generalize schedW b (t - 7) = x7
        generalize schedW b (t - 2) = x2
        intro s15 s2 ST s16 s7 c16 c7
        have SD : Hid (∀ v : Value, (wq.setCell ⟨w.heap.size + 1, t, none⟩ v).drew.cell? ⟨w.heap.size + 1, t - 16, none⟩ = some (.int .u32 x16) ∧ (wq.setCell ⟨w.heap.size + 1, t, none⟩ v).drew.cell? ⟨w.heap.size + 1, t - 7, none⟩ = some (.int .u32 x7)) := Lib.hid (fun v => by
          have := HT.out
          refine ⟨(World.cell?_setCell_other _ _ _ _ ?_).trans c16, (World.cell?_setCell_other _ _ _ _ ?_).trans c7⟩ <;> (intro e; injection e; omega))
        have SA : Hid (wq.drew.cell? ⟨w.heap.size + 1, t - 16, none⟩ = some (.int .u32 x16) ∧ wq.drew.cell? ⟨w.heap.size + 1, t - 7, none⟩ = some (.int .u32 x7)) := Lib.hid ⟨c16, c7⟩
        have S15 : Hid (U32 x15) := Lib.hid s15
        have S2 : Hid (U32 x2) := Lib.hid s2
        clear s16 s7 s15 s2
        go_wp2_with fail
        go_region_held3 (fun W => W.cell? ⟨w.heap.size + 1, t - 16, none⟩ = some (.int .u32 x16) ∧ W.cell? ⟨w.heap.size + 1, t - 7, none⟩ = some (.int .u32 x7))
          (first | with_reducible exact SA.out | with_reducible exact SD.out _ | go_keep)
          (first
          | (go_at_call 370; refine (right_7 _ S15.out _).mono ?_; rintro e w' ⟨he, rfl⟩; obtain ⟨r7, e7⟩ : ∃ r, r = rotI x15 7 := ⟨_, rfl⟩; rw [← e7] at he; subst he; replace e7 := Lib.hid e7)
          | (go_at_call 370; refine (right_18 _ S15.out _).mono ?_; rintro e w' ⟨he, rfl⟩; obtain ⟨r18, e18⟩ : ∃ r, r = rotI x15 18 := ⟨_, rfl⟩; rw [← e18] at he; subst he; replace e18 := Lib.hid e18)
          | (go_at_call 370; refine (right_17 _ S2.out _).mono ?_; rintro e w' ⟨he, rfl⟩; obtain ⟨r17, e17⟩ : ∃ r, r = rotI x2 17 := ⟨_, rfl⟩; rw [← e17] at he; subst he; replace e17 := Lib.hid e17)
          | (go_at_call 370; refine (right_19 _ S2.out _).mono ?_; rintro e w' ⟨he, rfl⟩; obtain ⟨r19, e19⟩ : ∃ r, r = rotI x2 19 := ⟨_, rfl⟩; rw [← e19] at he; subst he; replace e19 := Lib.hid e19))
        go_wp2_with fail
        go_roundw
        case rel =>
          refine ⟨t + 1, by omega, by go_num, (KP.out.setNew (by omega) _ _).drewN _, (HS.out.set h64 ?_).keep (Keep.drewN (Keep.refl (fun _ => False) _) _) (fun e => e), HR.out.keep ((Keep.setCell (S := One (w.heap.size + 1)) (Keep.refl _ _) (.inl (one_self _)) _).drewN _) (fun e => by unfold One at e; omega)⟩
          rw [ST.out, e7.out, e18.out, e17.out, e19.out]
          simp only [nextW, sg0, sg1, w32, xorI]
        case measure => simp [intOf]; omega
    · have e : t = 64 := by omega
      subst e
      go_wp2_with fail
      obtain ⟨cs, hcs, hcb, hcv⟩ := HS.out
      obtain ⟨rs, hrs, hrb⟩ := HR.out
      have hl := row_load (P := Tryz.prog) wr (w.heap.size + 1) 433 cs (0, 0) 64 hcb hcs
      simp only [oA433, oS433, Result.andThen, ↓reduceIte, hl]
      rw [Oper.upon_value]
      go_wp2_with fail
      have hst := row_store (P := Tryz.prog) wr w.heap.size 433 rs cs hrb (by rw [hcs]; rfl) (by omega) (all_one hcs fun i hi => ⟨_, hcv i hi⟩)
      simp only [oS433, Result.andThen, ↓reduceIte, hst]
      rw [Oper.upon_skip]
      go_wp2_with fail
      refine bodyPost_ret (v := .agg cs) (results_cell_row (P := Tryz.prog) Tryz.results369 _ _ w.heap.size 433 cs (0, 0) _ rfl (setRow_heap _ _ _ _ _ _ hrb) Tryz.underlying433 rfl (by rw [hcs]; rfl)) rfl ?_
      exact ⟨cs, rfl, hcs, hcv, KP.out.setRow (.inr (Nat.le_refl _)) _⟩
end
def kList : List Int := [0x428a2f98, 0x71374491, 0xb5c0fbcf, 0xe9b5dba5, 0x3956c25b, 0x59f111f1, 0x923f82a4, 0xab1c5ed5,
  0xd807aa98, 0x12835b01, 0x243185be, 0x550c7dc3, 0x72be5d74, 0x80deb1fe, 0x9bdc06a7, 0xc19bf174,
  0xe49b69c1, 0xefbe4786, 0x0fc19dc6, 0x240ca1cc, 0x2de92c6f, 0x4a7484aa, 0x5cb0a9dc, 0x76f988da,
  0x983e5152, 0xa831c66d, 0xb00327c8, 0xbf597fc7, 0xc6e00bf3, 0xd5a79147, 0x06ca6351, 0x14292967,
  0x27b70a85, 0x2e1b2138, 0x4d2c6dfc, 0x53380d13, 0x650a7354, 0x766a0abb, 0x81c2c92e, 0x92722c85,
  0xa2bfe8a1, 0xa81a664b, 0xc24b8b70, 0xc76c51a3, 0xd192e819, 0xd6990624, 0xf40e3585, 0x106aa070,
  0x19a4c116, 0x1e376c08, 0x2748774c, 0x34b0bcb5, 0x391c0cb3, 0x4ed8aa4a, 0x5b9cca4f, 0x682e6ff3,
  0x748f82ee, 0x78a5636f, 0x84c87814, 0x8cc70208, 0x90befffa, 0xa4506ceb, 0xbef9a3f7, 0xc67178f2]
def kI (i : Nat) : Int := kList.getD i 0
structure W8 where
  (a b c d e f g h : Int)
deriving DecidableEq
def W8.u32 (s : W8) : Prop := U32 s.a ∧ U32 s.b ∧ U32 s.c ∧ U32 s.d ∧ U32 s.e ∧ U32 s.f ∧ U32 s.g ∧ U32 s.h
def W8.cells (s : W8) : Array Value := #[.int .u32 s.a, .int .u32 s.b, .int .u32 s.c, .int .u32 s.d, .int .u32 s.e, .int .u32 s.f, .int .u32 s.g, .int .u32 s.h]
theorem W8.size (s : W8) : s.cells.size = 8 := rfl
theorem W8.one (s : W8) : s.cells.all (·.oneCell') = true := by simp [W8.cells, Value.oneCell']
def ltS1 (e : Int) : Int := xorI (xorI (rotI e 6) (rotI e 11)) (rotI e 25)
def ltS0 (a : Int) : Int := xorI (xorI (rotI a 2) (rotI a 13)) (rotI a 22)
def chI (e f g : Int) : Int := xorI g (andI e (xorI f g))
def majI (a b c : Int) : Int := orI (andI a b) (andI c (orI a b))
def xW (s : W8) (k w : Int) : Int := w32 (w32 (w32 (w32 (s.h + ltS1 s.e) + chI s.e s.f s.g) + k) + w)
def yW (s : W8) : Int := w32 (ltS0 s.a + majI s.a s.b s.c)
def roundW (s : W8) (k w : Int) : W8 := ⟨w32 (xW s k w + yW s), s.a, s.b, s.c, w32 (s.d + xW s k w), s.e, s.f, s.g⟩
def roundsTo (s : W8) (b : List UInt8) : Nat → W8
  | 0 => s
  | t + 1 => roundW (roundsTo s b t) (kI t) (schedW b t)
def addW (s t : W8) : W8 := ⟨w32 (s.a + t.a), w32 (s.b + t.b), w32 (s.c + t.c), w32 (s.d + t.d), w32 (s.e + t.e), w32 (s.f + t.f), w32 (s.g + t.g), w32 (s.h + t.h)⟩
def stepW (s : W8) (b : List UInt8) : W8 := addW (roundsTo s b 64) s
def Zer8 : Obj := .cells #[.int .u32 0, .int .u32 0, .int .u32 0, .int .u32 0, .int .u32 0, .int .u32 0, .int .u32 0, .int .u32 0] 407
def mixW (s t : W8) (i : Nat) : W8 := ⟨if 0 < i then w32 (s.a + t.a) else s.a, if 1 < i then w32 (s.b + t.b) else s.b, if 2 < i then w32 (s.c + t.c) else s.c, if 3 < i then w32 (s.d + t.d) else s.d, if 4 < i then w32 (s.e + t.e) else s.e, if 5 < i then w32 (s.f + t.f) else s.f, if 6 < i then w32 (s.g + t.g) else s.g, if 7 < i then w32 (s.h + t.h) else s.h⟩
def W8.at (s : W8) : Nat → Int
  | 0 => s.a
  | 1 => s.b
  | 2 => s.c
  | 3 => s.d
  | 4 => s.e
  | 5 => s.f
  | 6 => s.g
  | _ => s.h
theorem W8.get (s : W8) : ∀ n, n < 8 → s.cells[n]? = some (.int .u32 (s.at n))
  | 0, _ => rfl
  | 1, _ => rfl
  | 2, _ => rfl
  | 3, _ => rfl
  | 4, _ => rfl
  | 5, _ => rfl
  | 6, _ => rfl
  | 7, _ => rfl
  | n + 8, h => by omega
theorem mixW_at (s t : W8) : ∀ n, n < 8 → (mixW s t n).at n = s.at n
  | 0, _ => rfl
  | 1, _ => rfl
  | 2, _ => rfl
  | 3, _ => rfl
  | 4, _ => rfl
  | 5, _ => rfl
  | 6, _ => rfl
  | 7, _ => rfl
  | n + 8, h => by omega
theorem mixW_set (s t : W8) : ∀ n, n < 8 → (mixW s t n).cells.setIfInBounds n (.int .u32 (w32 (s.at n + t.at n))) = (mixW s t (n + 1)).cells
  | 0, _ => rfl
  | 1, _ => rfl
  | 2, _ => rfl
  | 3, _ => rfl
  | 4, _ => rfl
  | 5, _ => rfl
  | 6, _ => rfl
  | 7, _ => rfl
  | n + 8, h => by omega
def Kon (w : World) : Prop := ∃ cs : Array Value, cs.size = 64 ∧ (∃ (tt : TypeId) (fr : Nat × Nat), w.heap[5]? = some (.cells cs tt fr)) ∧ 5 + 1 ≤ w.heap.size ∧ ∀ i, i < 64 → cs[i]? = some (.int .u32 (kI i))
theorem ShByt.keep {S : Nat → Prop} {w w' : World} {g off n : Nat} {b : List UInt8} (h : ShByt w g off n b) (k : Keep S w w') (hg : g < w.heap.size) (hn : ¬ S g) : ShByt w' g off n b := fun j hj => (World.cell?_of_block (k.block g hg hn)).trans (h j hj)
theorem roundsTo_u32 {s : W8} (h : s.u32) (b : List UInt8) : ∀ t, (roundsTo s b t).u32
  | 0 => h
  | t + 1 => by
    obtain ⟨h1, h2, h3, h4, h5, h6, h7, h8⟩ := roundsTo_u32 h b t
    exact ⟨u32_w _, h1, h2, h3, u32_w _, h5, h6, h7⟩
theorem index_row (ws : Array Value) (hws : ws.size = 64) (t : Nat) (h : t < 64) (v : Value) (hv : ws[t]? = some v) (w : World) : (Instr.index 433 (.agg ws) (.int .i64 (t : Int))).run Tryz.prog w = .ok v w := by
  have e : ws[t]'(by omega) = v := by
    rw [Array.getElem?_eq_getElem (by omega)] at hv
    exact Option.some.inj hv
  simp [Instr.index, go_sem, hws, h, e]
section
attribute [local simp high] hA433 hS433 hA407 hS407
theorem step_any (s0 : W8) (g off cap : Nat) (b : List UInt8) (w : World) (hu : s0.u32) (hk : Kon w) (hb : ShByt w g off 64 b) (hcap : 64 ≤ cap) (hcm : cap ≤ 9223372036854775807) :
    Calls Tryz.prog 346 #[.agg s0.cells, .slice (some ⟨g, off, none⟩) 64 cap] w fun e w' => e = .returned (.agg (stepW s0 b).cells) ∧ Keep Non w w' := by
  have HB := Lib.hid hb
  have HK := Lib.hid hk
  have hgl : g < w.heap.size := World.block_lt_of_cell? _ _ (hb 0 (by omega))
  clear hb hk
  go_enter Tryz.func346, Tryz.ntmps346
  go_wp2_with fail
  have hl := row_load (P := Tryz.prog) _ w.heap.size 407 s0.cells (0, 0) 8 (blk_alloc (blk_new w (.cells s0.cells 407)) Zer8) rfl
  unfold Zer8 at hl
  simp only [oA407, oS407, Result.andThen, ↓reduceIte, hl]
  rw [Oper.upon_value]
  go_wp2_with fail
  have hz := blk_new ((w.alloc (.cells s0.cells 407)).alloc Zer8) Zer8
  rw [World.size_alloc, World.size_alloc] at hz
  have hst := row_store (P := Tryz.prog) (((w.alloc (.cells s0.cells 407)).alloc Zer8).alloc Zer8) (w.heap.size + 1 + 1) 407 #[.int .u32 0, .int .u32 0, .int .u32 0, .int .u32 0, .int .u32 0, .int .u32 0, .int .u32 0, .int .u32 0] s0.cells hz rfl rfl s0.one
  unfold Zer8 at hst
  simp only [oS407, Result.andThen, ↓reduceIte, hst, W8.size]
  rw [Oper.upon_skip]
  go_wp2_with fail
  have kW : Keep Non w ((((w.alloc (.cells s0.cells 407)).alloc Zer8).alloc Zer8).setRow (w.heap.size + 1 + 1) s0.cells) := ((((Keep.refl _ _).alloc _).alloc _).alloc _).setRow (.inr (by omega)) _
  have gs := setRow_heap _ (w.heap.size + 1 + 1) _ s0.cells _ _ hz
  have gz := (setRow_other (((w.alloc (.cells s0.cells 407)).alloc Zer8).alloc Zer8) (w.heap.size + 1 + 1) w.heap.size s0.cells (by omega)).trans (blk_alloc (blk_alloc (blk_new w (.cells s0.cells 407)) Zer8) Zer8)
  have gr := blk_new (w.alloc (.cells s0.cells 407)) Zer8
  rw [World.size_alloc] at gr
  have gr := (setRow_other (((w.alloc (.cells s0.cells 407)).alloc Zer8).alloc Zer8) (w.heap.size + 1 + 1) (w.heap.size + 1) s0.cells (by omega)).trans (blk_alloc gr Zer8)
  refine (sched_any g off cap b _ (HB.out.keep kW hgl (fun e => e)) hcap hcm).mono ?_
  rintro e w1 ⟨ws, rfl, hws, hwv, kp⟩
  have gs := kp.at gs (fun e => e)
  have gz := kp.at gz (fun e => e)
  have gr := kp.at gr (fun e => e)
  have KP := Lib.hid (kW.trans1 kp)
  have WV := Lib.hid hwv
  clear kW kp hl hz hst hwv
  revert gs gz gr
  intro gs gz gr
  have GS := Lib.hid gs
  have GZ := Lib.hid gz
  have GR := Lib.hid gr
  clear gs gz gr
  go_wp2_with fail
  go_loopw [16] (fun i wr => ∃ t : Nat, t ≤ 64 ∧ i = .int .i64 t ∧ Keep Non w wr ∧ wr.heap[w.heap.size + 1 + 1]? = some (.cells (roundsTo s0 b t).cells 407 (0, 0)) ∧ wr.heap[w.heap.size]? = some (.cells s0.cells 407 (0, 0)) ∧ wr.heap[w.heap.size + 1]? = some Zer8) (fun i _ => 64 - (intOf i).toNat)
  case atStart => exact ⟨0, by omega, rfl, KP.out, GS.out, GZ.out, GR.out⟩
  case round =>
    obtain ⟨t, ht, rfl, kp, gs, gz, gr⟩ := hrel
    clear KP GS GZ GR
    have KP := Lib.hid kp
    have GS := Lib.hid gs
    have GZ := Lib.hid gz
    have GR := Lib.hid gr
    clear kp gs gz gr
    by_cases h64 : t < 64
    · have ht64 : (t : Int) < 64 := by omega
      have hix : (Instr.index 433 (.agg ws) (.int .i64 (t : Int))).run Tryz.prog wr = .ok (.int .u32 (schedW b t)) wr :=
        index_row ws hws t h64 _ (WV.out t h64) wr
      have HU := Lib.hid (roundsTo_u32 hu b t)
      obtain ⟨kcs, hk1, ⟨ktt, kfr, hk2⟩, hk3, hk4⟩ := HK.out
      have kt : wr.cell? ⟨5, t, none⟩ = some (.int .u32 (kI t)) := (World.cell?_of_block (KP.out.block 5 (by omega) (fun e => e))).trans ((cell_of_row w 5 t kcs ktt kfr hk2).trans (hk4 t h64))
      have hrt : Hid (roundsTo s0 b (t + 1) = roundW (roundsTo s0 b t) (kI t) (schedW b t)) := Lib.hid rfl
      generalize roundsTo s0 b t = sr at GS HU hrt
      obtain ⟨sa, sb, sc, sd, se, sf, sg, sh⟩ := sr
      have c0 : wr.cell? ⟨w.heap.size + 1 + 1, 0, none⟩ = some (.int .u32 sa) := (cell_of_row _ _ 0 _ _ _ GS.out)
      have c1 : wr.cell? ⟨w.heap.size + 1 + 1, 1, none⟩ = some (.int .u32 sb) := (cell_of_row _ _ 1 _ _ _ GS.out)
      have c2 : wr.cell? ⟨w.heap.size + 1 + 1, 2, none⟩ = some (.int .u32 sc) := (cell_of_row _ _ 2 _ _ _ GS.out)
      have c3 : wr.cell? ⟨w.heap.size + 1 + 1, 3, none⟩ = some (.int .u32 sd) := (cell_of_row _ _ 3 _ _ _ GS.out)
      have c4 : wr.cell? ⟨w.heap.size + 1 + 1, 4, none⟩ = some (.int .u32 se) := (cell_of_row _ _ 4 _ _ _ GS.out)
      have c5 : wr.cell? ⟨w.heap.size + 1 + 1, 5, none⟩ = some (.int .u32 sf) := (cell_of_row _ _ 5 _ _ _ GS.out)
      have c6 : wr.cell? ⟨w.heap.size + 1 + 1, 6, none⟩ = some (.int .u32 sg) := (cell_of_row _ _ 6 _ _ _ GS.out)
      have c7 : wr.cell? ⟨w.heap.size + 1 + 1, 7, none⟩ = some (.int .u32 sh) := (cell_of_row _ _ 7 _ _ _ GS.out)
      clear hk1 hk2 hk3 hk4 kfr ktt
      have HU2 : Hid (U32 sa ∧ U32 se) := Lib.hid ⟨HU.out.1, HU.out.2.2.2.2.1⟩
      go_wp2_with fail
      go_quiet (fail)
      generalize nq = n1
      go_wp2_with fail
      go_quiet ((first
        | (go_at_call 370; refine (right_6 _ HU2.out.2 _).mono ?_; rintro e w' ⟨rfl, rfl⟩; exact ⟨rfl, _, rfl⟩)
        | (go_at_call 370; refine (right_11 _ HU2.out.2 _).mono ?_; rintro e w' ⟨rfl, rfl⟩; exact ⟨rfl, _, rfl⟩)
        | (go_at_call 370; refine (right_25 _ HU2.out.2 _).mono ?_; rintro e w' ⟨rfl, rfl⟩; exact ⟨rfl, _, rfl⟩)))
      generalize nq = n2
      generalize hx : (((sh + bits BinOp.xor IntKind.u32 (bits BinOp.xor IntKind.u32 (rotI se 6) (rotI se 11)) (rotI se 25) + bits BinOp.xor IntKind.u32 sg (bits BinOp.and IntKind.u32 se (bits BinOp.xor IntKind.u32 sf sg)) + kI t) % 4294967296 + schedW b t) % 4294967296) = x
      have HX := Lib.hid hx
      clear hx
      go_wp2_with fail
      go_quiet ((first
        | (go_at_call 370; refine (right_2 _ HU2.out.1 _).mono ?_; rintro e w' ⟨rfl, rfl⟩; exact ⟨rfl, _, rfl⟩)
        | (go_at_call 370; refine (right_13 _ HU2.out.1 _).mono ?_; rintro e w' ⟨rfl, rfl⟩; exact ⟨rfl, _, rfl⟩)
        | (go_at_call 370; refine (right_22 _ HU2.out.1 _).mono ?_; rintro e w' ⟨rfl, rfl⟩; exact ⟨rfl, _, rfl⟩)))
      generalize nq = n3
      generalize hy : ((bits BinOp.xor IntKind.u32 (bits BinOp.xor IntKind.u32 (rotI sa 2) (rotI sa 13)) (rotI sa 22) + bits BinOp.or IntKind.u32 (bits BinOp.and IntKind.u32 sa sb) (bits BinOp.and IntKind.u32 sc (bits BinOp.or IntKind.u32 sa sb))) % 4294967296) = y
      have HY := Lib.hid hy
      clear hy
      have ER : Hid (roundsTo s0 b (t + 1) = ⟨(x + y) % 4294967296, sa, sb, sc, (sd + x) % 4294967296, se, sf, sg⟩) := Lib.hid (by
        have ex : xW ⟨sa, sb, sc, sd, se, sf, sg, sh⟩ (kI t) (schedW b t) = x := by
          rw [← HX.out]
          simp only [xW, w32, ltS1, chI, xorI, andI]
          omega
        have ey : yW ⟨sa, sb, sc, sd, se, sf, sg, sh⟩ = y := by
          rw [← HY.out]
          simp only [yW, w32, ltS0, majI, xorI, andI, orI]
        rw [hrt.out]
        unfold roundW
        rw [ex, ey]
        rfl)
      go_wp2_with fail
      refine Eq.mpr (congrArg (Oper.upon _ _ _ _ _) (show _ = Result.ok Next.skip (World.setRow (wr.drewN (n1 + n2 + n3)) (w.heap.size + 1 + 1) (W8.cells ⟨(x + y) % 4294967296, sa, sb, sc, (sd + x) % 4294967296, se, sf, sg⟩)) from ?_)) ?_
      · have h := run_storeVar_row (P := Tryz.prog) (wr.drewN (n1 + n2 + n3)) (w.heap.size + 1 + 1) 407 407 _ (W8.cells ⟨(x + y) % 4294967296, sa, sb, sc, (sd + x) % 4294967296, se, sf, sg⟩) GS.out rfl rfl (W8.one _)
        refine Eq.trans ?_ (congrArg (fun r => Result.andThen r (fun _ w' => Result.ok Next.skip w')) h)
        clear h
        have hsz := oS407
        have f0 := frozen_of_row wr (w.heap.size + 1 + 1) 0 _ _ GS.out
        have f1 := frozen_of_row wr (w.heap.size + 1 + 1) 1 _ _ GS.out
        have f2 := frozen_of_row wr (w.heap.size + 1 + 1) 2 _ _ GS.out
        have f3 := frozen_of_row wr (w.heap.size + 1 + 1) 3 _ _ GS.out
        have f4 := frozen_of_row wr (w.heap.size + 1 + 1) 4 _ _ GS.out
        have f5 := frozen_of_row wr (w.heap.size + 1 + 1) 5 _ _ GS.out
        have f6 := frozen_of_row wr (w.heap.size + 1 + 1) 6 _ _ GS.out
        have f7 := frozen_of_row wr (w.heap.size + 1 + 1) 7 _ _ GS.out
        unfold W8.cells
        go_simp
      rw [Oper.upon_skip]
      go_wp2_with fail
      go_roundw
      case rel => exact ⟨t + 1, by omega, by go_num, (KP.out.drewN _).setRow (.inr (by omega)) _, by rw [ER.out]; exact setRow_heap _ _ _ _ _ _ GS.out, (setRow_other _ _ _ _ (by omega)).trans GZ.out, (setRow_other _ _ _ _ (by omega)).trans GR.out⟩
      case measure => simp [intOf]; omega
    · have e : t = 64 := by omega
      subst e
      go_wp2_with fail
      go_loopw [92] (fun i wq => ∃ n : Nat, n ≤ 8 ∧ i = .int .i64 n ∧ Keep Non w wq ∧ wq.heap[w.heap.size + 1 + 1]? = some (.cells (mixW (roundsTo s0 b 64) s0 n).cells 407 (0, 0)) ∧ wq.heap[w.heap.size]? = some (.cells s0.cells 407 (0, 0)) ∧ wq.heap[w.heap.size + 1]? = some Zer8) (fun i _ => 8 - (intOf i).toNat)
      case atStart => exact ⟨0, by omega, rfl, KP.out, GS.out, GZ.out, GR.out⟩
      case round =>
        obtain ⟨n, hn, rfl, kp, gs, gz, gr⟩ := hrel
        clear KP GS GZ GR
        have KP := Lib.hid kp
        have GS := Lib.hid gs
        have GZ := Lib.hid gz
        have GR := Lib.hid gr
        clear kp gs gz gr
        by_cases h8 : n < 8
        · have h8i : (n : Int) < 8 := by omega
          have cs : wr.cell? ⟨w.heap.size + 1 + 1, n, none⟩ = some (.int .u32 ((roundsTo s0 b 64).at n)) := by
            rw [cell_of_row _ _ n _ _ _ GS.out, W8.get _ n h8, mixW_at _ _ n h8]
          have ct : wr.cell? ⟨w.heap.size, n, none⟩ = some (.int .u32 (s0.at n)) := by
            rw [cell_of_row _ _ n _ _ _ GZ.out, W8.get _ n h8]
          have fs := frozen_of_row wr (w.heap.size + 1 + 1) n _ _ GS.out
          have MS := Lib.hid (mixW_set (roundsTo s0 b 64) s0 n h8)
          generalize (roundsTo s0 b 64).at n = x at cs MS
          generalize s0.at n = y at ct MS
          go_wp2_with fail
          go_region
          all_goals go_wp2_with fail
          go_roundw
          case rel => exact ⟨n + 1, by omega, by go_num, (KP.out.setNew (by omega) _ _).drewN _, by rw [← MS.out]; exact blk_drewN (blk_set GS.out n _) _, blk_drewN (blk_skip GZ.out (by omega) _ _) _, blk_drewN (blk_skip GR.out (by omega) _ _) _⟩
          case measure => simp [intOf]; omega
        · have e : n = 8 := by omega
          subst e
          go_wp2_with fail
          have hl := row_load (P := Tryz.prog) wr (w.heap.size + 1 + 1) 407 _ (0, 0) 8 GS.out rfl
          simp only [oA407, oS407, Result.andThen, ↓reduceIte, hl]
          rw [Oper.upon_value]
          go_wp2_with fail
          have hst := row_store (P := Tryz.prog) wr (w.heap.size + 1) 407 _ (mixW (roundsTo s0 b 64) s0 8).cells GR.out rfl rfl (W8.one _)
          simp only [oS407, Result.andThen, ↓reduceIte, hst, W8.size]
          rw [Oper.upon_skip]
          go_wp2_with fail
          refine bodyPost_ret (v := .agg (stepW s0 b).cells) (results_cell_row (P := Tryz.prog) Tryz.results346 _ _ (w.heap.size + 1) 407 (stepW s0 b).cells (0, 0) _ rfl (setRow_heap _ _ _ _ _ _ GR.out) Tryz.underlying407 rfl rfl) rfl ?_
          exact ⟨rfl, KP.out.setRow (.inr (by omega)) _⟩
end
end Go.Proofs.YtobjlgfjfpmceaaGreatDoor
