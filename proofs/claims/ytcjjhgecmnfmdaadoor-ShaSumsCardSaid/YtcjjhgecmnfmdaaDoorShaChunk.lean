/- The blocks of a text, one behind the other: slices.Chunk, walked; a range over it. -/
import Derived.RangeFuncNested
import Derived.RangeFuncBound
import Derived.RangeFuncCalls
import Derived.RangeFuncLeaves
import Derived.Shelf.Abstract
import Derived.Shelf.RegionOpen
import Derived.OwnWalkIn
import Derived.TacticsInMore
import Derived.LoopNIn
import Derived.LoopIn
import Derived.Sort.QuietIn
import Derived.Sort.BigQuietIn
import Derived.Test.YtcjjhgecmnfmdaaDoorRdAppend
namespace Go.Proofs.YtcjjhgecmnfmdaaDoor
open Go.RowKit Go.Shelf
set_option linter.unusedVariables false
attribute [local go_sem] Oper.semAt_some

set_option maxHeartbeats 400000 in
/-- Chunk: the text and the number are boxed; the function value captures the boxes. -/
theorem chunk_any (v : Value) (hv : v.oneCell' = true) (w : World) :
    Calls Tryd.prog 25 #[v, .int .i64 64] w fun e w' => e = .returned (.func (.func 31) #[] #[.pointer (some ⟨w.heap.size, 0, none⟩), .pointer (some ⟨w.heap.size + 1, 0, none⟩)]) ∧ w' = (w.alloc (.cells #[v] 22)).alloc (.cells #[.int .i64 64] 3) := by
  go_enter Tryd.func25, Tryd.ntmps25
  go_wp2
  go_ret
  exact ⟨rfl, rfl⟩

set_option maxRecDepth 100000 in
set_option maxHeartbeats 2000000 in
/-- The iterator: for every loop body that keeps its word. -/
theorem chunk1_any (n l Bs Bn g len cap m : Nat) (hm : len = 64 * m) (hcap : len ≤ cap) (hcm : cap ≤ 9223372036854775807) (hlen : len ≤ 1000000) (J : Nat → World → Prop)
    (hJd : ∀ i W k, J i W → J i (W.drewN k)) (hJs : ∀ i W, J i W → W.heap[Bs]? = some (.cells #[.slice (some ⟨g, 0, none⟩) len cap] 22 (0, 0)) ∧ W.heap[Bn]? = some (.cells #[.int .i64 64] 3 (0, 0)))
    (W : World) (h0 : J 0 W)
    (hY : ∀ (i : Nat) (W1 : World), i < m → J i W1 →
      YieldAt Fence.wide (n - 1) Tryd.prog l #[.slice (some ⟨g, 64 * i, none⟩) 64 64] W1 fun e W' => e = .returned (.bool true) ∧ J (i + 1) W') :
    CallsIn Fence.wide n Tryd.prog 31 #[.func (.yield l) #[] #[], .pointer (some ⟨Bs, 0, none⟩), .pointer (some ⟨Bn, 0, none⟩)] W fun e W' => (∃ v, e = .returned v) ∧ J m W' := by
  have HJd := Lib.hid hJd
  have HJs := Lib.hid hJs
  have HY := Lib.hid hY
  have HI := Lib.hid h0
  clear hJd hJs hY h0
  refine callsIn_of_wp Tryd.func31 rfl trivial ?_ rfl
  simp only [Tryd.ntmps31, List.size_toArray, List.length_cons, List.length_nil, Nat.reduceAdd, Nat.reduceSub, Array.replicate_succ, Array.replicate_zero, List.push_toArray, List.append_toArray, List.nil_append, List.cons_append]
  gi_wp2_with fail
  gi_loopw [4] (fun i wr => ∃ k : Nat, k ≤ m ∧ i = .int .i64 ((64 * k : Nat) : Int) ∧ J k wr) (fun i _ => len - (intOf i).toNat)
  case atStart => exact ⟨0, Nat.zero_le _, rfl, HI.out⟩
  case round =>
    obtain ⟨k, hk, rfl, hj⟩ := hrel
    obtain ⟨bs, bn⟩ := HJs.out k wr hj
    have m1 : wr.cell? ⟨Bs, 0, none⟩ = some (.slice (some ⟨g, 0, none⟩) len cap) := by simp [World.cell?, bs]
    have m2 : wr.cell? ⟨Bn, 0, none⟩ = some (.int .i64 64) := by simp [World.cell?, bn]
    have HJ := Lib.hid hj
    clear bs bn hj
    by_cases hlt : k < m
    · have HM := Lib.hid hm
      have h1 : ((64 * k : Nat) : Int) < (len : Int) := by omega
      have h2 : 64 ≤ len - 64 * k := by omega
      have h3 : 64 * k + 64 ≤ cap := by omega
      clear hm
      gi_wp2_with fail
      gi_big_quiet_th (fail)
      have hJ2 := HJd.out k wr nq HJ.out
      have m3 : (wr.drewN nq).cell? ⟨Bs, 0, none⟩ = some (.slice (some ⟨g, 0, none⟩) len cap) := m1
      obtain ⟨fn, tmps, assign, body, hy, hR⟩ := HY.out k _ hlt hJ2
      have hR' := Lib.hid hR
      have w1 : IntKind.i64.wrap (((64 * k : Nat) : Int) + 64) = ((64 * k + 64 : Nat) : Int) := by rw [IntKind.wrap_i64]; omega
      have w2 : (((64 * k : Nat) : Int) + 64) = ((64 * k + 64 : Nat) : Int) := by omega
      have p1 : 64 * k ≤ 64 * k + 64 := by omega
      have p2 : 64 * k + 64 - 64 * k = 64 := by omega
      clear hR hJ2
      gi_wp2_with fail
      refine ⟨fun h => (by cases h), ?_⟩
      refine hR'.out.mono ?_
      rintro e W3 ⟨rfl, hJ3⟩
      have HJ3 := Lib.hid hJ3
      obtain ⟨bs3, bn3⟩ := HJs.out _ _ hJ3
      have m4 : W3.cell? ⟨Bs, 0, none⟩ = some (.slice (some ⟨g, 0, none⟩) len cap) := by simp [World.cell?, bs3]
      have m5 : W3.cell? ⟨Bn, 0, none⟩ = some (.int .i64 64) := by simp [World.cell?, bn3]
      clear hJ3 bs3 bn3 hy hR'
      gi_wp2_with fail
      go_roundw
      case rel => exact ⟨k + 1, by omega, by go_num, HJ3.out⟩
      case measure => simp [intOf]; omega
    · have e : k = m := by omega
      subst e
      gi_wp2_with fail
      go_end0
      exact ⟨⟨_, rfl⟩, HJ.out⟩

theorem Keep.putObj {S : Nat → Prop} {a w : World} (h : Keep S a w) {l : Nat} (hl : S l ∨ a.heap.size ≤ l) (o : Obj) : Keep S a (w.putObj l o) :=
  h.grown (grownBy_putObj' w l o) (fun k e => by injection e with e; subst e; exact hl)

/-- How the body of a round may be left. -/
def CPost (I : Nat → World → Prop) (i B0 : Nat) (W : World) : Exit → Act → World → Prop
  | .normal, _, W' => I (i + 1) W' ∧ Keep (fun k => k < B0) W W'
  | _, _, _ => False

set_option maxHeartbeats 1000000 in
/-- A range over the blocks: the statement, out of its body's walk. -/
theorem range_chunk {n Bs Bn g len cap m : Nat} (hm : len = 64 * m) (hcap : len ≤ cap) (hcm : cap ≤ 9223372036854775807) (hlen : len ≤ 1000000) {o : Operand} {ps : Array Tmp} {assign body : Code} {Q : Exit → Act → World → Prop} {a : Act} {w : World}
    (hg : a.eval o = .func (.func 31) #[] #[.pointer (some ⟨Bs, 0, none⟩), .pointer (some ⟨Bn, 0, none⟩)]) (hps : ps.size = 1)
    (I : Nat → World → Prop)
    (hI : ∀ i W W', I i W → Keep (fun k => w.heap.size ≤ k) W W' → I i W')
    (hIB : ∀ i W, I i W → W.heap[Bs]? = some (.cells #[.slice (some ⟨g, 0, none⟩) len cap] 22 (0, 0)) ∧ W.heap[Bn]? = some (.cells #[.int .i64 64] 3 (0, 0))) (h0 : I 0 w)
    (a1 : Nat → Act)
    (hassign : ∀ (i : Nat) (W : World) (K : Act → World → Prop), K (a1 i) W →
      assign.wpIn (Fence.wide.inRound (w.heap.size + 1)) (n - 1 - 1) Tryd.prog (Exit.then K (fun _ _ _ => False)) { tmps := (ps.zip #[.slice (some ⟨g, 64 * i, none⟩) 64 64]).foldl (fun t (p, v) => t.setIfInBounds p v) a.tmps, defers := [] } W)
    (hbody : ∀ (i : Nat) (W : World), i < m → I i W →
      body.wpIn (Fence.wide.inRound (w.heap.size + 1)) (n - 1 - 1) Tryd.prog (CPost I i w.heap.size W) (a1 i) W)
    (hdone : ∀ W, I m W → W.heap[w.heap.size]? = some (.deferred (some [])) → Q .normal { a with defers := { target := .collected w.heap.size, args := #[] } :: a.defers } W) :
    (Code.rangeFunc o ps assign body).wpIn Fence.wide n Tryd.prog Q a w := by
  refine wpIn_rangeFunc ?_
  intro fn hfn
  show ∃ l mark w₁ d w₁' f args w₂, (Instr.enterLoop fn a.tmps ps assign body none).run Tryd.prog w = .ok (l, mark) w₁ ∧ _
  obtain ⟨rec, hrec⟩ : ∃ rec : LoopState → Option Code → Loop, rec = fun st pe => { state := st, pending := pe, fn, tmps := a.tmps, params := ps, assign, body, defers := w.heap.size } := ⟨_, rfl⟩
  obtain ⟨W1, hW1⟩ : ∃ W1, (w.alloc (.deferred (some []))).alloc (.loop (rec .ready none)) = W1 := ⟨_, rfl⟩
  have hsz : W1.heap.size = w.heap.size + 2 := by rw [← hW1]; simp
  have hkW : Keep Non w W1 := by rw [← hW1]; exact ((Keep.refl _ _).alloc _).alloc _
  have hL1 : W1.heap[w.heap.size + 1]? = some (.loop (rec .ready none)) := by
    have := blk_new (w.alloc (.deferred (some []))) (.loop (rec .ready none))
    rw [World.size_alloc, hW1] at this
    exact this
  have hK1 : W1.heap[w.heap.size]? = some (.deferred (some [])) := by rw [← hW1]; exact blk_alloc (blk_new _ _) _
  have hI1 : I 0 W1 := hI 0 w W1 h0 hkW.ofNon
  refine ⟨w.heap.size + 1, [{ target := .collected w.heap.size, args := #[] }], W1, { target := .fn (.func 31) #[.pointer (some ⟨Bs, 0, none⟩), .pointer (some ⟨Bn, 0, none⟩)], args := #[.func (.yield (w.heap.size + 1)) #[] #[]] }, W1, 31,
    #[.func (.yield (w.heap.size + 1)) #[] #[], .pointer (some ⟨Bs, 0, none⟩), .pointer (some ⟨Bn, 0, none⟩)], W1, ?_, ?_, ?_, ?_, (fun h => by cases h), ?_⟩
  · rw [← hW1, hrec]; exact run_enterLoop_outer _ _ _ _ _
  · simp only [resolve, hg]
    simp [go_sem]
  · intro f' hf'; exact trivial
  · simp [invoke, go_sem]
  · refine (chunk1_any (n - 1) (w.heap.size + 1) Bs Bn g len cap m hm hcap hcm hlen
      (fun i W => I i W ∧ W.heap[w.heap.size + 1]? = some (.loop (rec .ready none)) ∧ W.heap[w.heap.size]? = some (.deferred (some [])))
      (fun i W k h => ⟨hI i W _ h.1 ((Keep.refl _ _).drewN k), h.2.1, h.2.2⟩) (fun i W h => hIB i W h.1) W1 ⟨hI1, hL1, hK1⟩ ?_).mono ?_
    · rintro i W hi ⟨hII, hl, hk⟩
      have hlt := lt_of_block hl
      have hy := run_yield (P := Tryd.prog) (args := #[.slice (some ⟨g, 64 * i, none⟩) 64 64]) hl (by rw [hrec]; exact hps.symm)
      rw [hrec] at hy
      refine ⟨fn, _, assign, body, hy, roundIn_of_wpIn hfn (hassign i W _ ⟨_, run_beginRound hl (by rw [hrec]), ?_⟩)⟩
      have hl2 : (W.putObj (w.heap.size + 1) (.loop { rec .ready none with state := .busy })).heap[w.heap.size + 1]? = some (.loop { rec .ready none with state := .busy }) := World.putObj_heap_same hlt
      have hk2 : (W.putObj (w.heap.size + 1) (.loop { rec .ready none with state := .busy })).heap[w.heap.size]? = some (.deferred (some [])) := (World.putObj_heap_other (by omega)).trans hk
      have kp : Keep (One (w.heap.size + 1)) W (W.putObj (w.heap.size + 1) (.loop { rec .ready none with state := .busy })) := (Keep.refl (One (w.heap.size + 1)) W).putObj (.inl (one_self _)) _
      refine wpIn_mono (hbody i _ hi (hI i W _ hII (kp.mono fun k _ h => by unfold One at h; omega))) ?_
      rintro e a3 W3 hp
      cases e with
      | normal =>
        obtain ⟨hi3, hk3⟩ := hp
        have hl3 := hk3.at hl2 (fun e => by omega)
        have hk4 := hk3.at hk2 (fun e => by omega)
        have hr := run_endRound (P := Tryd.prog) none hl3
        rw [hrec] at hr
        refine ⟨_, _, hr, rfl, hI _ _ _ hi3 ((Keep.refl _ _).putObj (.inl (by omega)) _), ?_, (World.putObj_heap_other (by omega)).trans hk4⟩
        rw [hrec]
        exact World.putObj_heap_same (lt_of_block hl3)
      | ret => exact hp.elim
      | exit id => exact hp.elim
      | goto t => exact hp.elim
      | panic ch => exact hp.elim
      | outgrown => exact hp.elim
    · rintro e W2 ⟨⟨v, rfl⟩, hi, hl, hk⟩
      have kp : Keep (fun k => w.heap.size ≤ k) W2 (W2.putObj (w.heap.size + 1) (.loop { rec .ready none with state := .exhausted })) := (Keep.refl _ _).putObj (.inl (by omega)) _
      exact ⟨none, _, by have := run_endLoop (P := Tryd.prog) hl (by rw [hrec]; simp); rw [hrec] at this ⊢; exact this, hdone _ (hI _ _ _ hi kp) ((World.putObj_heap_other (by omega)).trans hk)⟩

end Go.Proofs.YtcjjhgecmnfmdaaDoor
