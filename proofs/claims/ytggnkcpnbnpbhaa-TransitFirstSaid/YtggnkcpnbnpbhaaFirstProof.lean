/- DERIVED. TransitFirst: for every input the law's Go function returns true, and each argument reads as it did. No condition. -/
import Derived.Test.YtggnkcpnbnpbhaaFirst
import Derived.Test.YtggnkcpnbnpbhaaRows
import Derived.Test.YtggnkcpnbnpbhaaOpenBs
import Derived.WalkKit
import Derived.ProofKit
import Derived.OpenShut
import Derived.ShutString
import Derived.ChangeOld
import Derived.Below
namespace Go.Proofs.Ytggnkcpnbnpbhaa.transitFirst
open Go.ChangeShapes Go.WideShapes Go.ChangeAt Go.RowKit Go.Deep
open Go.ChangeMaps (open_string shut_string)
set_option linter.unusedVariables false

theorem own : ownKnob Try.prog.godebug = none := by kernel_rfl
theorem laidOut : laidOutB Try.prog = true := by kernel_rfl

theorem open_txts (H : Type) (enc : TypeId × Value → H) (W : World) {fuel : Nat} {a : Option Addr} {len cap : Nat} {x : DataW H × List MemPlace}
    (h : DataW.trod enc Try.prog W 0 (fun _ => true) true fuel 22 [.slice a len cap] = some x) :
    len = 0 ∨ ∃ b off T, a = some ⟨b, off, none⟩ ∧ Txts W b off len T := by
  rcases open_slice1 Try.underlying22 (by kernel_rfl) h with ⟨h0, _⟩ | ⟨a', len', cap', m, n, V, D, Pl, hcs, hb, hl, hm, hmm, hx, hi⟩
  · simp at h0
    exact .inl h0.2.1
  simp at hcs
  obtain ⟨rfl, rfl, rfl⟩ := hcs
  by_cases hz : len = 0
  · exact .inl hz
  refine .inr ?_
  have hml : len ≤ m := by rw [hmm]; split <;> omega
  have key : ∀ i, i < len → ∃ l : List UInt8, ∃ q cp, W.cell? (a'.add i) = some (.slice q l.length cp) ∧ Bs W (.slice q l.length cp) l := by
    intro i hil
    obtain ⟨h1, h2⟩ := hi i (by omega)
    obtain ⟨q, l, cp, e, hbs, _⟩ := open_bytes Try.underlying26 Try.underlying5 (by kernel_rfl) h2
    rw [e] at h1 hbs
    exact ⟨l, q, cp, h1, hbs⟩
  obtain ⟨T, hT⟩ := choose_lt (α := List UInt8) (p := fun i l => ∃ q cp, W.cell? (a'.add i) = some (.slice q l.length cp) ∧ Bs W (.slice q l.length cp) l) key
  obtain ⟨b, off, spot⟩ := a'
  obtain ⟨q0, c0, h0, _⟩ := hT 0 (by omega)
  have hspot : spot = none := by
    have := World.cell?_spot h0
    simpa [Addr.add] using this
  subst hspot
  refine ⟨b, off, T, rfl, ?_, fun i hil => ?_⟩
  · have := World.block_lt_of_cell? _ _ h0
    simpa [Addr.add] using this
  · obtain ⟨q, cp, h1, h2⟩ := hT i hil
    rw [add_off] at h1
    exact ⟨q, cp, h1, h2⟩

theorem walk (H : Type) (enc : TypeId × Value → H) (W : World) {a : Option Addr} {len cap : Nat} {d : DataW H} {p : List MemPlace}
    (h : DataW.Trod enc Try.prog W 0 (fun _ => true) true 22 (.slice a len cap) d p) :
    Calls Try.prog 3 #[.slice a len cap] W fun e w' => e = .returned (.bool true) ∧ Keep Non W w' := by
  obtain ⟨fuel, hf⟩ := h
  by_cases hl : len ≤ 64
  · rcases open_txts H enc W (by simpa [Value.cells] using hf) with rfl | ⟨b, off, T, rfl, ha⟩
    · exact first_nil a cap W
    · exact first_some b off len cap T W ha hl
  · exact first_long a len cap W (by omega)

set_option maxRecDepth 100000 in
theorem lifted (os : Os) (started : os.Started) (H : Type) (enc : TypeId × Value → H) :
    ReturnsInHanded {} Try.checked os 3 .any (Rows.transitFirstSpec.pre6 enc Try.prog Try.f3 Rows.transitFirstRow.domain false) (Rows.transitFirstSpec.post enc Try.prog Try.f3 false true false false) := by
  refine returnsInHanded_of_change (C := Try.checked) own started (by kernel_rfl) Try.func3
    (ChangeSpec.witness6 (enc := enc) (C := Try.checked) false ⟨#[], #[.slice none 0 0], []⟩ 8 (by kernel_rfl) (by kernel_rfl) (by kernel_rfl) (by kernel_rfl)) ?_
  intro W base args ds gs before hval0 hW hcnd _
  have hval : ∀ (j : Nat) t v, Try.f3.params[j]? = some t → args[j]? = some v → Value.okWide Try.prog W .any base t v := hval0
  have hW' := hW
  obtain ⟨p, q, hA0, hV, rfl, hfz, hnd⟩ := hW
  have hA : DataW.TrodAll enc Try.prog W 0 (fun _ => true) true Try.f3.params.toList args.toList ds p := hA0
  rw [Try.params3] at hA hval
  obtain ⟨v0, vs0, d0, ds0, p0, q0, hargs, rfl, rfl, h0, r0⟩ := trodAll_cons hA
  obtain ⟨rfl, rfl, rfl⟩ := trodAll_nil r0
  obtain rfl : args = #[v0] := by cases args; simp_all
  obtain ⟨rfl, rfl⟩ := trodVars_none hV
  have k0 := h0
  have lt0 : ∀ x ∈ p0, x.block < W.heap.size := by obtain ⟨m, hm⟩ := k0; exact DataW.trod_lt m _ _ _ hm
  obtain ⟨a0, len0, cap0, rfl⟩ := okWide_slice Try.underlying22 (hval 0 22 v0 rfl rfl)
  clear hA0 hval0
  refine (walk H enc W k0).mono fun e W' ⟨he, bel0⟩ => ?_
  have bel := bel0.below
  subst he
  exact ⟨_, rfl, _, _, _, [], _, [], hW', trodAll_mk1 (shut_bool Try.underlying4 _), (trodAll_cons_mk (Below.trod laidOut (by kernel_rfl) (of_decide_eq_true (by kernel_rfl)) k0 bel lt0) trodAll_mk0), rfl, bel.frame _, fun h => by cases h⟩

theorem over : Rows.transitFirstRow.holds Try.pinned (OpenSpec.ofChange Rows.transitFirstSpec) :=
  OpenClaim.holds_of_wide 3 Try.f3 rfl rfl rfl rfl rfl rfl rfl ⟨rfl, rfl, rfl, rfl, rfl⟩ rfl rfl rfl rfl rfl (by kernel_rfl) Try.func3 (by kernel_rfl)
    (of_decide_eq_true (by kernel_rfl)) (by unfold Func.isWrapper; first | (rw [if_pos (by decide +kernel)]; kernel_rfl) | (rw [if_neg (by decide +kernel)]; exact ⟨rfl, rfl⟩))
    (fun os started H enc _ => lifted os started H enc)

/-- The statement. -/
theorem proved : Rows.TransitFirstSaid := over
#print axioms proved
end Go.Proofs.Ytggnkcpnbnpbhaa.transitFirst
