/- A range over the messages under way: the statement, out of its body's walk. -/
import Derived.Test.YtggnkcpnbnpbhaaIter
namespace Go.Proofs.Ytggnkcpnbnpbhaa
open Go.RowKit Go.Shelf
set_option linter.unusedVariables false

theorem Keep.putObj {S : Nat → Prop} {a w : World} (h : Keep S a w) {l : Nat} (hl : S l ∨ a.heap.size ≤ l) (o : Obj) : Keep S a (w.putObj l o) :=
  h.grown (grownBy_putObj' w l o) (fun k e => by injection e with e; subst e; exact hl)

/-- How the body of a round may be left. -/
def RPost (I : Nat → World → Prop) (Ix : Code → World → Prop) (i B0 : Nat) (v : Value) (W : World) : Exit → Act → World → Prop
  | .normal, _, W' => I (i + 1) W' ∧ Keep (fun k => k < B0 ∨ v.ownBlock = some k) W W'
  | .ret, _, W' => Ix .ret W' ∧ Keep (fun k => k < B0 ∨ v.ownBlock = some k) W W'
  | .exit id, _, W' => Ix (.exit id) W' ∧ Keep (fun k => k < B0 ∨ v.ownBlock = some k) W W'
  | .goto t, _, W' => Ix (.goto t) W' ∧ Keep (fun k => k < B0 ∨ v.ownBlock = some k) W W'
  | .panic _, _, _ => False
  | .outgrown, _, _ => False

set_option maxHeartbeats 1000000 in
theorem range_all {n B p : Nat} {g : Operand} {ps : Array Tmp} {assign body : Code} {Q : Exit → Act → World → Prop} {a : Act} {w w0 : World} {c : Nat → Int} {ms : List (List UInt8)} {F : Nat → Prop}
    (hg : a.eval g = .func (.func 30) #[] #[.pointer (some ⟨B, 0, none⟩)]) (hps : ps.size = 2)
    (hL : Line F w0 p c ms) (hlen : ∀ m ∈ ms, m.length ≤ 1000000) (hmn : ms.length ≤ 1000000)
    (I : Nat → World → Prop) (Ix : Code → World → Prop)
    (hI : ∀ i W W', I i W → Keep (fun k => w.heap.size ≤ k) W W' → I i W') (hIx : ∀ e W W', Ix e W → Keep (fun k => w.heap.size ≤ k) W W' → Ix e W')
    (hI0 : ∀ i W, I i W → Keep Non w0 W) (hIB : ∀ i W, I i W → W.heap[B]? = some (.cells #[.pointer (some ⟨p, 0, none⟩)] 24 (0, 0))) (h0 : I 0 w)
    (a1 : Nat → Value → Act)
    (hassign : ∀ (i : Nat) (v : Value) (W : World) (K : Act → World → Prop), K (a1 i v) W →
      assign.wpIn (Fence.wide.inRound (w.heap.size + 1)) (n - 1 - 1) Try.prog (Exit.then K (fun _ _ _ => False)) { tmps := (ps.zip #[.int .i64 (i : Int), v]).foldl (fun t (p, v) => t.setIfInBounds p v) a.tmps, defers := [] } W)
    (hbody : ∀ (i : Nat) (x : Option Addr) (cap : Nat) (m : List UInt8) (base : Nat) (W : World), ms[i]? = some m → I i W → w.heap.size + 2 ≤ base → W.ownsRow base 5 1 (.slice x m.length cap) m.length (m.map bv) →
      body.wpIn (Fence.wide.inRound (w.heap.size + 1)) (n - 1 - 1) Try.prog (RPost I Ix i w.heap.size (.slice x m.length cap) W) (a1 i (.slice x m.length cap)) W)
    (hdone : ∀ W, I ms.length W → W.heap[w.heap.size]? = some (.deferred (some [])) → Q .normal { a with defers := { target := .collected w.heap.size, args := #[] } :: a.defers } W)
    (hstop : ∀ (e : Code) W, Ix e W → W.heap[w.heap.size]? = some (.deferred (some [])) → e.wpIn Fence.wide n Try.prog Q { a with defers := { target := .collected w.heap.size, args := #[] } :: a.defers } W) :
    (Code.rangeFunc g ps assign body).wpIn Fence.wide n Try.prog Q a w := by
  refine wpIn_rangeFunc ?_
  intro fn hfn
  show ∃ l mark w₁ d w₁' f args w₂, (Instr.enterLoop fn a.tmps ps assign body none).run Try.prog w = .ok (l, mark) w₁ ∧ _
  obtain ⟨rec, hrec⟩ : ∃ rec : LoopState → Option Code → Loop, rec = fun st pe => { state := st, pending := pe, fn, tmps := a.tmps, params := ps, assign, body, defers := w.heap.size } := ⟨_, rfl⟩
  obtain ⟨W1, hW1⟩ : ∃ W1, (w.alloc (.deferred (some []))).alloc (.loop (rec .ready none)) = W1 := ⟨_, rfl⟩
  have hsz : W1.heap.size = w.heap.size + 2 := by rw [← hW1]; simp
  have hkW : Keep Non w W1 := by rw [← hW1]; exact ((Keep.refl _ _).alloc _).alloc _
  have hL1 : W1.heap[w.heap.size + 1]? = some (.loop (rec .ready none)) := by
    have := blk_new (w.alloc (.deferred (some []))) (.loop (rec .ready none))
    rw [World.size_alloc, hW1] at this
    exact this
  have hK1 : W1.heap[w.heap.size]? = some (.deferred (some [])) := by rw [← hW1]; exact blk_alloc (blk_new _ _) _
  have hI1 : I 0 W1 := hI 0 w W1 h0 hkW.ofNon
  refine ⟨w.heap.size + 1, [{ target := .collected w.heap.size, args := #[] }], W1, { target := .fn (.func 30) #[.pointer (some ⟨B, 0, none⟩)], args := #[.func (.yield (w.heap.size + 1)) #[] #[]] }, W1, 30,
    #[.func (.yield (w.heap.size + 1)) #[] #[], .pointer (some ⟨B, 0, none⟩)], W1, ?_, ?_, ?_, ?_, (fun h => by cases h), ?_⟩
  · rw [← hW1, hrec]; exact run_enterLoop_outer _ _ _ _ _
  · simp only [resolve, hg]
    simp [go_sem]
  · intro f' hf'; exact trivial
  · simp [invoke, go_sem]
  · refine (all1_any (n - 1) (w.heap.size + 1) p B c ms F w0 hL hlen hmn
      (fun i W => I i W ∧ W.heap[w.heap.size + 1]? = some (.loop (rec .ready none)) ∧ W.heap[w.heap.size]? = some (.deferred (some [])))
      (fun W => ∃ e, Ix e W ∧ W.heap[w.heap.size + 1]? = some (.loop (rec .done (some e))) ∧ W.heap[w.heap.size]? = some (.deferred (some [])))
      (fun i W W' h k => ⟨hI i W W' h.1 k.ofNon, k.at h.2.1 (fun e => e), k.at h.2.2 (fun e => e)⟩) (fun i W h => hI0 i W h.1) (fun i W h => hIB i W h.1) W1 ⟨hI1, hL1, hK1⟩ ?_).mono ?_
    · rintro i x cap m base W hm ⟨hi, hl, hk⟩ hbase hown
      have hlt := lt_of_block hl
      have hxo : ∀ k, (Value.slice x m.length cap).ownBlock = some k → w.heap.size + 2 ≤ k ∧ k < W.heap.size := fun k e => by
        have := hown.lt k e
        omega
      have hy := run_yield (P := Try.prog) (args := #[.int .i64 (i : Int), .slice x m.length cap]) hl (by rw [hrec]; exact hps.symm)
      rw [hrec] at hy
      refine ⟨fn, _, assign, body, hy, roundIn_of_wpIn hfn (hassign i (.slice x m.length cap) W _ ⟨_, run_beginRound hl (by rw [hrec]), ?_⟩)⟩
      have hl2 : (W.putObj (w.heap.size + 1) (.loop { rec .ready none with state := .busy })).heap[w.heap.size + 1]? = some (.loop { rec .ready none with state := .busy }) := World.putObj_heap_same hlt
      have hk2 : (W.putObj (w.heap.size + 1) (.loop { rec .ready none with state := .busy })).heap[w.heap.size]? = some (.deferred (some [])) := (World.putObj_heap_other (by omega)).trans hk
      have kp : Keep (One (w.heap.size + 1)) W (W.putObj (w.heap.size + 1) (.loop { rec .ready none with state := .busy })) := (Keep.refl (One (w.heap.size + 1)) W).putObj (.inl (one_self _)) _
      have ho2 := ownsRow_keep hown kp (fun g e h => by have := hxo g e; unfold One at h; omega)
      refine wpIn_mono (hbody i x cap m base _ hm (hI i W _ hi (kp.mono fun k _ h => by unfold One at h; omega)) (by omega) ho2) ?_
      have fin : ∀ (jump : Option Code) (W3 : World), Keep (fun k => k < w.heap.size ∨ (Value.slice x m.length cap).ownBlock = some k) (W.putObj (w.heap.size + 1) (.loop { rec .ready none with state := .busy })) W3 →
          (Instr.endRound (w.heap.size + 1) jump).run Try.prog W3 = .ok (.bool jump.isNone) (W3.putObj (w.heap.size + 1) (.loop (rec (if jump.isNone then .ready else .done) jump))) ∧
          (W3.putObj (w.heap.size + 1) (.loop (rec (if jump.isNone then .ready else .done) jump))).heap[w.heap.size + 1]? = some (.loop (rec (if jump.isNone then .ready else .done) jump)) ∧
          (W3.putObj (w.heap.size + 1) (.loop (rec (if jump.isNone then .ready else .done) jump))).heap[w.heap.size]? = some (.deferred (some [])) ∧
          Keep (fun k => w.heap.size ≤ k) W3 (W3.putObj (w.heap.size + 1) (.loop (rec (if jump.isNone then .ready else .done) jump))) := fun jump W3 hk3 => by
        have hl3 := hk3.at hl2 (fun e => by rcases e with e | e; omega; (have := hxo _ e; omega))
        have hk4 := hk3.at hk2 (fun e => by rcases e with e | e; omega; (have := hxo _ e; omega))
        have := run_endRound (P := Try.prog) jump hl3
        rw [hrec] at this ⊢
        exact ⟨this, World.putObj_heap_same (lt_of_block hl3), (World.putObj_heap_other (by omega)).trans hk4, (Keep.refl _ _).putObj (.inl (by omega)) _⟩
      rintro e a3 W3 hp
      cases e with
      | normal =>
        obtain ⟨hi3, hk3⟩ := hp
        obtain ⟨hr, hl4, hk4, hks⟩ := fin none W3 hk3
        refine ⟨_, _, hr, .inl ⟨rfl, ⟨hI _ _ _ hi3 hks, hl4, hk4⟩, ?_⟩⟩
        have k1 : Keep (fun k => k < W1.heap.size ∨ (Value.slice x m.length cap).ownBlock = some k) W (W.putObj (w.heap.size + 1) (.loop { rec .ready none with state := .busy })) := kp.mono fun k _ h => by unfold One at h; omega
        have k2 := k1.trans hk3 (fun _ _ h => h) (fun k _ h => by rcases h with h | h; exact .inl (by omega); exact .inr h)
        exact k2.putObj (.inl (.inl (by omega))) _
      | ret =>
        obtain ⟨hi3, hk3⟩ := hp
        obtain ⟨hr, hl4, hk4, hks⟩ := fin (some .ret) W3 hk3
        exact ⟨_, _, hr, .inr ⟨rfl, .ret, hIx _ _ _ hi3 hks, hl4, hk4⟩⟩
      | exit id =>
        obtain ⟨hi3, hk3⟩ := hp
        obtain ⟨hr, hl4, hk4, hks⟩ := fin (some (.exit id)) W3 hk3
        exact ⟨_, _, hr, .inr ⟨rfl, .exit id, hIx _ _ _ hi3 hks, hl4, hk4⟩⟩
      | goto t =>
        obtain ⟨hi3, hk3⟩ := hp
        obtain ⟨hr, hl4, hk4, hks⟩ := fin (some (.goto t)) W3 hk3
        exact ⟨_, _, hr, .inr ⟨rfl, .goto t, hIx _ _ _ hi3 hks, hl4, hk4⟩⟩
      | panic ch => exact hp.elim
      | outgrown => exact hp.elim
    · rintro e W2 ⟨⟨v, rfl⟩, (⟨hi, hl, hk⟩ | ⟨ex, hi, hl, hk⟩)⟩
      · have kp : Keep (fun k => w.heap.size ≤ k) W2 (W2.putObj (w.heap.size + 1) (.loop { rec .ready none with state := .exhausted })) := (Keep.refl _ _).putObj (.inl (by omega)) _
        exact ⟨none, _, by have := run_endLoop (P := Try.prog) hl (by rw [hrec]; simp); rw [hrec] at this ⊢; exact this, hdone _ (hI _ _ _ hi kp) ((World.putObj_heap_other (by omega)).trans hk)⟩
      · have kp : Keep (fun k => w.heap.size ≤ k) W2 (W2.putObj (w.heap.size + 1) (.loop { rec .done (some ex) with state := .exhausted })) := (Keep.refl _ _).putObj (.inl (by omega)) _
        exact ⟨some ex, _, by have := run_endLoop (P := Try.prog) hl (by rw [hrec]; simp); rw [hrec] at this ⊢; exact this, hstop ex _ (hIx _ _ _ hi kp) ((World.putObj_heap_other (by omega)).trans hk)⟩

set_option maxHeartbeats 1000000 in
/-- .. of a nil line: nothing is handed out. -/
theorem all1_nil (n l B : Nat) (W : World) (hB : W.heap[B]? = some (.cells #[.pointer none] 24 (0, 0))) :
    CallsIn Fence.wide n Try.prog 30 #[.func (.yield l) #[] #[], .pointer (some ⟨B, 0, none⟩)] W fun e W' => (∃ v, e = .returned v) ∧ W' = W := by
  have mB : W.cell? ⟨B, 0, none⟩ = some (.pointer none) := by simp [World.cell?, hB]
  clear hB
  refine callsIn_of_wp Try.func30 rfl trivial ?_ rfl
  simp only [Try.ntmps30, List.size_toArray, List.length_cons, List.length_nil, Nat.reduceAdd, Nat.reduceSub, Array.replicate_succ, Array.replicate_zero, List.push_toArray, List.append_toArray, List.nil_append, List.cons_append]
  gi_wp2_with fail
  refine bodyPost_ret (results_none rfl _ _ _) rfl ?_
  exact ⟨⟨_, rfl⟩, rfl⟩

set_option maxHeartbeats 1000000 in
theorem range_nil {n B : Nat} {g : Operand} {ps : Array Tmp} {assign body : Code} {Q : Exit → Act → World → Prop} {a : Act} {w : World}
    (hg : a.eval g = .func (.func 30) #[] #[.pointer (some ⟨B, 0, none⟩)])
    (hB : w.heap[B]? = some (.cells #[.pointer none] 24 (0, 0)))
    (hdone : ∀ W, Keep Non w W → W.heap[w.heap.size]? = some (.deferred (some [])) → Q .normal { a with defers := { target := .collected w.heap.size, args := #[] } :: a.defers } W) :
    (Code.rangeFunc g ps assign body).wpIn Fence.wide n Try.prog Q a w := by
  refine wpIn_rangeFunc ?_
  intro fn hfn
  show ∃ l mark w₁ d w₁' f args w₂, (Instr.enterLoop fn a.tmps ps assign body none).run Try.prog w = .ok (l, mark) w₁ ∧ _
  obtain ⟨rec, hrec⟩ : ∃ rec : Loop, rec = { state := .ready, pending := none, fn, tmps := a.tmps, params := ps, assign, body, defers := w.heap.size } := ⟨_, rfl⟩
  obtain ⟨W1, hW1⟩ : ∃ W1, (w.alloc (.deferred (some []))).alloc (.loop rec) = W1 := ⟨_, rfl⟩
  have hkW : Keep Non w W1 := by rw [← hW1]; exact ((Keep.refl _ _).alloc _).alloc _
  have hL1 : W1.heap[w.heap.size + 1]? = some (.loop rec) := by
    have := blk_new (w.alloc (.deferred (some []))) (.loop rec)
    rw [World.size_alloc, hW1] at this
    exact this
  have hK1 : W1.heap[w.heap.size]? = some (.deferred (some [])) := by rw [← hW1]; exact blk_alloc (blk_new _ _) _
  refine ⟨w.heap.size + 1, [{ target := .collected w.heap.size, args := #[] }], W1, { target := .fn (.func 30) #[.pointer (some ⟨B, 0, none⟩)], args := #[.func (.yield (w.heap.size + 1)) #[] #[]] }, W1, 30,
    #[.func (.yield (w.heap.size + 1)) #[] #[], .pointer (some ⟨B, 0, none⟩)], W1, ?_, ?_, ?_, ?_, (fun h => by cases h), ?_⟩
  · rw [← hW1, hrec]; exact run_enterLoop_outer _ _ _ _ _
  · simp only [resolve, hg]
    simp [go_sem]
  · intro f' hf'; exact trivial
  · simp [invoke, go_sem]
  · refine (all1_nil (n - 1) (w.heap.size + 1) B W1 (hkW.at hB (fun e => e))).mono ?_
    rintro e W2 ⟨⟨v, rfl⟩, rfl⟩
    have kp : Keep (One (w.heap.size + 1)) W2 (W2.putObj (w.heap.size + 1) (.loop { rec with state := .exhausted })) := (Keep.refl (One (w.heap.size + 1)) W2).putObj (.inl (one_self _)) _
    exact ⟨none, _, by have := run_endLoop (P := Try.prog) hL1 (by rw [hrec]; simp); rw [hrec] at this ⊢; exact this, hdone _ (hkW.trans kp (fun _ _ h => h) (fun i hi h => by unfold One at h; show False; omega)) ((World.putObj_heap_other (by omega)).trans hK1)⟩

end Go.Proofs.Ytggnkcpnbnpbhaa
