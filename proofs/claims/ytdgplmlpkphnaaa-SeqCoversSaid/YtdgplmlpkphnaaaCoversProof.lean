/- DERIVED. SeqCovers: for every input the law's Go function returns true, and each argument reads as it did. No condition. -/
import Derived.Test.YtdgplmlpkphnaaaCovers
import Derived.Test.YtdgplmlpkphnaaaRows
import Derived.Test.YtdgplmlpkphnaaaOpen
import Derived.WalkKit
import Derived.ProofKit
import Derived.OpenShut
import Derived.ShutString
import Derived.ChangeOld
import Derived.Below
namespace Go.Proofs.Ytdgplmlpkphnaaa.seqCovers
open Go.ChangeShapes Go.WideShapes Go.ChangeAt Go.RowKit Go.Deep
open Go.ChangeMaps (open_string shut_string)
set_option linter.unusedVariables false

theorem own : ownKnob Try.prog.godebug = none := by kernel_rfl
theorem laidOut : laidOutB Try.prog = true := by kernel_rfl

theorem open_list (H : Type) (enc : TypeId × Value → H) (W : World) {fuel : Nat} {a : Option Addr} {len cap : Nat} {x : DataW H × List MemPlace}
    (h : DataW.trod enc Try.prog W 0 (fun _ => true) true fuel 22 [.slice a len cap] = some x) :
    len = 0 ∨ ∃ b off L, a = some ⟨b, off, none⟩ ∧ Ints W b off len L := by
  rcases open_int_cells Try.underlying22 Try.underlying3 (by kernel_rfl) h with h0 | ⟨b, off, rfl, hb, _, _, hc⟩
  · exact .inl h0
  · refine .inr ⟨b, off, fun i => cellInt W b (off + i), rfl, hb, fun i hi => ?_⟩
    obtain ⟨n, h1, _⟩ := hc i hi
    exact cellInt_of h1

theorem walk (H : Type) (enc : TypeId × Value → H) (W : World) {a : Option Addr} {len cap : Nat} {d : DataW H} {p : List MemPlace} (fr : Int)
    (h : DataW.Trod enc Try.prog W 0 (fun _ => true) true 22 (.slice a len cap) d p) :
    Calls Try.prog 3 #[.int .i64 fr, .slice a len cap] W fun e w' => e = .returned (.bool true) ∧ Keep Non W w' := by
  obtain ⟨fuel, hf⟩ := h
  by_cases hl : len ≤ 100
  · by_cases hb : fr < 0 ∨ (0 ≤ fr ∧ 1048576 < fr)
    · exact covers_out a len cap fr W hl hb
    · rcases open_list H enc W (by simpa [Value.cells] using hf) with rfl | ⟨b, off, L, rfl, ha⟩
      · exact covers_nil a cap fr W (by omega) (by omega)
      · exact covers_some b off len cap L fr W ha hl (by omega) (by omega)
  · exact covers_long a len cap fr W (by omega)

set_option maxRecDepth 100000 in
theorem lifted (os : Os) (started : os.Started) (H : Type) (enc : TypeId × Value → H) :
    ReturnsInHanded {} Try.checked os 3 .any (Rows.seqCoversSpec.pre6 enc Try.prog Try.f3 Rows.seqCoversRow.domain false) (Rows.seqCoversSpec.post enc Try.prog Try.f3 false true false false) := by
  refine returnsInHanded_of_change (C := Try.checked) own started (by kernel_rfl) Try.func3
    (ChangeSpec.witness6 (enc := enc) (C := Try.checked) false ⟨#[], #[.int .i64 0, .slice none 0 0], []⟩ 8 (by kernel_rfl) (by kernel_rfl) (by kernel_rfl) (by kernel_rfl)) ?_
  intro W base args ds gs before hval0 hW hcnd _
  have hval : ∀ (j : Nat) t v, Try.f3.params[j]? = some t → args[j]? = some v → Value.okWide Try.prog W .any base t v := hval0
  have hW' := hW
  obtain ⟨p, q, hA0, hV, rfl, hfz, hnd⟩ := hW
  have hA : DataW.TrodAll enc Try.prog W 0 (fun _ => true) true Try.f3.params.toList args.toList ds p := hA0
  rw [Try.params3] at hA hval
  obtain ⟨v0, vs0, d0, ds0, p0, q0, hargs, rfl, rfl, h0, r0⟩ := trodAll_cons hA
  obtain ⟨v1, vs1, d1, ds1, p1, q1, rfl, rfl, rfl, h1, r1⟩ := trodAll_cons r0
  obtain ⟨rfl, rfl, rfl⟩ := trodAll_nil r1
  obtain rfl : args = #[v0, v1] := by cases args; simp_all
  obtain ⟨rfl, rfl⟩ := trodVars_none hV
  have k0 := h0
  have lt0 : ∀ x ∈ p0, x.block < W.heap.size := by obtain ⟨m, hm⟩ := k0; exact DataW.trod_lt m _ _ _ hm
  have k1 := h1
  have lt1 : ∀ x ∈ p1, x.block < W.heap.size := by obtain ⟨m, hm⟩ := k1; exact DataW.trod_lt m _ _ _ hm
  obtain ⟨a0, rfl, rfl, rfl, w0⟩ := open_int Try.underlying3 (hval 0 3 v0 rfl rfl) h0
  obtain ⟨a1, len1, cap1, rfl⟩ := okWide_slice Try.underlying22 (hval 1 22 v1 rfl rfl)
  clear hA0 hval0
  refine (walk H enc W a0 k1).mono fun e W' ⟨he, bel0⟩ => ?_
  have bel := bel0.below
  subst he
  exact ⟨_, rfl, _, _, _, [], _, [], hW', trodAll_mk1 (shut_bool Try.underlying4 _), (trodAll_cons_mk (shut_int Try.underlying3 w0) (trodAll_cons_mk (Below.trod laidOut (by kernel_rfl) (of_decide_eq_true (by kernel_rfl)) k1 bel lt1) trodAll_mk0)), rfl, bel.frame _, fun h => by cases h⟩

theorem over : Rows.seqCoversRow.holds Try.pinned (OpenSpec.ofChange Rows.seqCoversSpec) :=
  OpenClaim.holds_of_wide 3 Try.f3 rfl rfl rfl rfl rfl rfl rfl ⟨rfl, rfl, rfl, rfl, rfl⟩ rfl rfl rfl rfl rfl (by kernel_rfl) Try.func3 (by kernel_rfl)
    (of_decide_eq_true (by kernel_rfl)) (by unfold Func.isWrapper; first | (rw [if_pos (by decide +kernel)]; kernel_rfl) | (rw [if_neg (by decide +kernel)]; exact ⟨rfl, rfl⟩))
    (fun os started H enc _ => lifted os started H enc)

/-- The statement. -/
theorem proved : Rows.SeqCoversSaid := over
#print axioms proved
end Go.Proofs.Ytdgplmlpkphnaaa.seqCovers
