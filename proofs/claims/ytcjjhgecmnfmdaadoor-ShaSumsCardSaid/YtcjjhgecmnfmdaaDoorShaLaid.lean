/- What the rows' condition gives ('laid'): the rounds' constants, the first state; an array of bytes that came in, opened. -/
import Derived.Test.YtcjjhgecmnfmdaaDoorShaSum
import Derived.Test.YtcjjhgecmnfmdaaDoorOpenBs
import Derived.LaidMore
import Derived.Lib.LaidTab
import Derived.Stop.Joined
import Derived.ProofKit
import Derived.OpenShut
namespace Go.Proofs.YtcjjhgecmnfmdaaDoor
open Go.ChangeShapes Go.WideShapes Go.ChangeAt Go.RowKit Go.Deep
set_option linter.unusedVariables false

theorem own : ownKnob Tryd.prog.godebug = none := by kernel_rfl
theorem laidOut : laidOutB Tryd.prog = true := by kernel_rfl
/-- The rows' list. -/
abbrev laid2 : List (String × DataW Unit) := [("holdfast/sha.constants", Rows.laid_holdfast_sha_constants), ("holdfast/sha.firsts", Rows.laid_holdfast_sha_firsts)]
theorem gCons : Tryd.prog.globalNamed "holdfast/sha.constants" = some 1 := by kernel_rfl
theorem gFirs : Tryd.prog.globalNamed "holdfast/sha.firsts" = some 0 := by kernel_rfl
theorem tCons : (Tryd.prog.globals[1]?).map (·.type) = some 66 := by kernel_rfl
theorem tFirs : (Tryd.prog.globals[0]?).map (·.type) = some 56 := by kernel_rfl
def fList : List Int := [0x6a09e667, 0xbb67ae85, 0x3c6ef372, 0xa54ff53a, 0x510e527f, 0x9b05688c, 0x1f83d9ab, 0x5be0cd19]
theorem cData : (Rows.laid_holdfast_sha_constants : DataW Unit) = Lib.tabData .u32 kList := rfl
theorem fData : (Rows.laid_holdfast_sha_firsts : DataW Unit) = Lib.tabData .u32 fList := rfl

/-- The door's own heap meets the condition: closed facts. -/
theorem door_met (os : Os) (args : Array Value) : laidMetH Tryd.prog laid2 ((World.doorLaid Tryd.prog 400 os).forCall (fun _ _ => 0) ⟨#[], args, []⟩).memory :=
  laidMetH_of_parts3 (fuel := 8) (laidMet_of_run' 8 (by kernel_rfl) (by kernel_rfl)) (by kernel_rfl) (by kernel_rfl)

theorem blk_of_var {P : Program} {w : World} {n : String} {g : Nat} {cs : Array Value} (hg : P.globalNamed n = some g) (h : w.var? P n = some cs) : ∃ (tt : TypeId) (fr : Nat × Nat), w.heap[g]? = some (.cells cs tt fr) := by
  simp only [World.var?, hg, Option.bind_some] at h
  split at h
  · next cs' tt fr e =>
    obtain rfl := Option.some.inj h
    exact ⟨tt, fr, e⟩
  · cases h

theorem of_laid {W : World} (h : laidMetH Tryd.prog laid2 W) : Kon W ∧ Frs W := by
  rw [MakeChecks.laidMetH_plain _ _ _ (by kernel_rfl)] at h
  have h0 : laidMet Tryd.prog (("holdfast/sha.constants", Lib.tabData .u32 kList) :: [("holdfast/sha.firsts", Lib.tabData .u32 fList)]) W := h
  have c1 : Lib.TabIs Tryd.prog W "holdfast/sha.constants" .u32 kList := Lib.tabIs_of_head gCons tCons Tryd.underlying66 Tryd.underlying40 (by kernel_rfl) (by kernel_rfl) h0
  obtain ⟨ps, ⟨g0, t0, cs0, f0, p0, q0, hg0, ht0, hv0, hd0, ⟨g1, t1, cs1, f1, p1, q1, hg1, ht1, hv1, hd1, _, _⟩, _⟩, _⟩ := h0
  obtain rfl := Option.some.inj (gFirs.symm.trans hg1)
  obtain rfl := Option.some.inj (tFirs.symm.trans ht1)
  have e1 := Lib.cells_of_tab Tryd.underlying56 Tryd.underlying40 (by kernel_rfl) (by kernel_rfl) hd1
  obtain ⟨tt, fr, hb⟩ := blk_of_var gFirs hv1
  have e2 : cs1 = first8.cells := by
    obtain ⟨l⟩ := cs1
    simp only at e1
    subst e1
    rfl
  subst e2
  obtain ⟨tc, fc, hc⟩ := blk_of_var gCons c1
  refine ⟨⟨_, ?_, ⟨tc, fc, hc⟩, ?_, fun i hi => ?_⟩, ⟨tt, fr, hb⟩⟩
  · rfl
  · have := lt_of_block hc
    omega
  · have hl : kList.length = 64 := rfl
    simp [kI, show i < kList.length by omega]

section
variable {H : Type} {enc : TypeId × Value → H} {P : Program} {w : World} {base : Nat} {spare : Nat → Bool} {held : Bool}

/-- An array of 32 bytes by value reads as its bytes. -/
theorem open_arr {t e : TypeId} {fuel : Nat} {v : Value} {r : Reach} {b0 : Nat} {x : DataW H × List MemPlace}
    (ht : P.underlying t = some (.array 32 e)) (he : P.underlying e = some (.int .u8)) (hC : P.cellsOf e = 1) (hA : P.cellsOf t = 32) (hv : Value.okWide P w r b0 t v)
    (h : DataW.trod enc P w base spare held fuel t v.cells.toList = some x) :
    ∃ D : List UInt8, D.length = 32 ∧ v = arrV D := by
  simp only [Value.okWide, ht] at hv
  obtain ⟨cs, rfl, hs, _⟩ := hv
  rw [hA] at hs
  obtain ⟨xs, m, _, _, hl, hn, hel⟩ := DataW.trod_array ht h
  have key : ∀ i, i < 32 → ∃ n, cs[i]? = some (.int .u8 n) ∧ (Lit.int .u8 n).wf = true := by
    intro i hi
    have h1 := hel i hi
    rw [hC, List.getElem?_eq_getElem (by omega)] at h1
    obtain ⟨q, hq, _, hwf⟩ := DataW.trod_int he h1
    refine ⟨q, ?_, hwf⟩
    have := congrArg (·[0]?) hq
    simpa [List.getElem?_take, List.getElem?_drop, Value.cells] using this
  obtain ⟨N, hN⟩ := choose_lt (α := Int) (p := fun i n => cs[i]? = some (.int .u8 n) ∧ (Lit.int .u8 n).wf = true) key
  refine ⟨(List.range 32).map fun i => UInt8.ofNat (N i).toNat, by simp, ?_⟩
  unfold arrV
  congr 1
  apply Array.ext_getElem?
  intro i
  by_cases hi : i < 32
  · rw [(hN i hi).1, ← bv_of (hN i hi).2]
    simp [hi]
  · rw [Array.getElem?_eq_none (by omega), Array.getElem?_eq_none (by simp; omega)]
end

end Go.Proofs.YtcjjhgecmnfmdaaDoor
