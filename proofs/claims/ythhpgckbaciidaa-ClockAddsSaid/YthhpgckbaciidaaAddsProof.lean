/- DERIVED. ClockAdds: for every input the law's Go function returns true, and each argument reads as it did. No condition. -/
import Derived.Test.YthhpgckbaciidaaAdds
import Derived.Test.YthhpgckbaciidaaRows
import Derived.Test.YthhpgckbaciidaaOpen
import Derived.WalkKit
import Derived.ProofKit
import Derived.OpenShut
import Derived.ShutString
import Derived.ChangeOld
import Derived.Below
namespace Go.Proofs.Ythhpgckbaciidaa.clockAdds
open Go.ChangeShapes Go.WideShapes Go.ChangeAt Go.RowKit Go.Deep
open Go.ChangeMaps (open_string shut_string)
set_option linter.unusedVariables false

theorem own : ownKnob Try.prog.godebug = none := by kernel_rfl
theorem laidOut : laidOutB Try.prog = true := by kernel_rfl

theorem open_acts (H : Type) (enc : TypeId × Value → H) (W : World) {fuel : Nat} {a : Option Addr} {len cap : Nat} {x : DataW H × List MemPlace}
    (h : DataW.trod enc Try.prog W 0 (fun _ => true) true fuel 22 [.slice a len cap] = some x) :
    len = 0 ∨ ∃ b off K V B, a = some ⟨b, off, none⟩ ∧ Acts W b off len K V B := by
  rcases open_int_fields Try.underlying22 Try.underlying30 (by kernel_rfl) (by kernel_rfl) (by decide) (by intro j f hj; match j, hj with | 0, hj => (simp at hj; subst hj; exact Try.underlying3) | 1, hj => (simp at hj; subst hj; exact Try.underlying3) | 2, hj => (simp at hj; subst hj; exact Try.underlying3) | j + 3, hj => simp at hj) h with h0 | ⟨b, off, rfl, hb, _, _, hc⟩
  · exact .inl h0
  · refine .inr ⟨b, off, fun i => cellInt W b (off + i * 3), fun i => cellInt W b (off + i * 3 + 1), fun i => cellInt W b (off + i * 3 + 2), rfl, hb, fun i hi => ?_, fun i hi => ?_, fun i hi => ?_⟩
    · obtain ⟨n, h1, _⟩ := hc i hi 0 (by decide)
      exact cellInt_of h1
    · obtain ⟨n, h1, _⟩ := hc i hi 1 (by decide)
      exact cellInt_of h1
    · obtain ⟨n, h1, _⟩ := hc i hi 2 (by decide)
      exact cellInt_of h1

theorem walk (H : Type) (enc : TypeId × Value → H) (W : World) {a : Option Addr} {len cap : Nat} {d : DataW H} {p : List MemPlace}
    (h : DataW.Trod enc Try.prog W 0 (fun _ => true) true 22 (.slice a len cap) d p) :
    Calls Try.prog 3 #[.slice a len cap] W fun e w' => e = .returned (.bool true) ∧ Keep Non W w' := by
  obtain ⟨fuel, hf⟩ := h
  rcases open_acts H enc W (by simpa [Value.cells] using hf) with rfl | ⟨b, off, K, V, B, rfl, ha⟩
  · exact adds_nil a cap W
  · by_cases hl : len ≤ 100
    · exact adds_some b off len cap K V B W ha hl
    · exact adds_long _ len cap W (by omega)

set_option maxRecDepth 100000 in
theorem lifted (os : Os) (started : os.Started) (H : Type) (enc : TypeId × Value → H) :
    ReturnsInHanded {} Try.checked os 3 .any (Rows.clockAddsSpec.pre6 enc Try.prog Try.f3 Rows.clockAddsRow.domain false) (Rows.clockAddsSpec.post enc Try.prog Try.f3 false true false false) := by
  refine returnsInHanded_of_change (C := Try.checked) own started (by kernel_rfl) Try.func3
    (ChangeSpec.witness6 (enc := enc) (C := Try.checked) false ⟨#[], #[.slice none 0 0], []⟩ 8 (by kernel_rfl) (by kernel_rfl) (by kernel_rfl) (by kernel_rfl)) ?_
  intro W base args ds gs before hval0 hW hcnd _
  have hval : ∀ (j : Nat) t v, Try.f3.params[j]? = some t → args[j]? = some v → Value.okWide Try.prog W .any base t v := hval0
  have hW' := hW
  obtain ⟨p, q, hA0, hV, rfl, hfz, hnd⟩ := hW
  have hA : DataW.TrodAll enc Try.prog W 0 (fun _ => true) true Try.f3.params.toList args.toList ds p := hA0
  rw [Try.params3] at hA hval
  obtain ⟨v0, vs0, d0, ds0, p0, q0, hargs, rfl, rfl, h0, r0⟩ := trodAll_cons hA
  obtain ⟨rfl, rfl, rfl⟩ := trodAll_nil r0
  obtain rfl : args = #[v0] := by cases args; simp_all
  obtain ⟨rfl, rfl⟩ := trodVars_none hV
  have k0 := h0
  have lt0 : ∀ x ∈ p0, x.block < W.heap.size := by obtain ⟨m, hm⟩ := k0; exact DataW.trod_lt m _ _ _ hm
  obtain ⟨a0, len0, cap0, rfl⟩ := okWide_slice Try.underlying22 (hval 0 22 v0 rfl rfl)
  clear hA0 hval0
  refine (walk H enc W k0).mono fun e W' ⟨he, bel0⟩ => ?_
  have bel := bel0.below
  subst he
  exact ⟨_, rfl, _, _, _, [], _, [], hW', trodAll_mk1 (shut_bool Try.underlying4 _), (trodAll_cons_mk (Below.trod laidOut (by kernel_rfl) (of_decide_eq_true (by kernel_rfl)) k0 bel lt0) trodAll_mk0), rfl, bel.frame _, fun h => by cases h⟩

theorem over : Rows.clockAddsRow.holds Try.pinned (OpenSpec.ofChange Rows.clockAddsSpec) :=
  OpenClaim.holds_of_wide 3 Try.f3 rfl rfl rfl rfl rfl rfl rfl ⟨rfl, rfl, rfl, rfl, rfl⟩ rfl rfl rfl rfl rfl (by kernel_rfl) Try.func3 (by kernel_rfl)
    (of_decide_eq_true (by kernel_rfl)) (by unfold Func.isWrapper; first | (rw [if_pos (by decide +kernel)]; kernel_rfl) | (rw [if_neg (by decide +kernel)]; exact ⟨rfl, rfl⟩))
    (fun os started H enc _ => lifted os started H enc)

/-- The statement. -/
theorem proved : Rows.ClockAddsSaid := over
#print axioms proved
end Go.Proofs.Ythhpgckbaciidaa.clockAdds
