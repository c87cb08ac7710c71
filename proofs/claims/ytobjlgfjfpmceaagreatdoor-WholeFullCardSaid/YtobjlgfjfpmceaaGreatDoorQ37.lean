/- plan.After, plan.first at one item: walked. · (*Export).All, (*Restore).All: steps till one is the last, or fails: walked. · slices.Equal at parts, cu -/
import Derived.Test.YtobjlgfjfpmceaaGreatDoorQ34
set_option linter.unusedVariables false
set_option maxRecDepth 100000
set_option maxHeartbeats 16000000
namespace Go.Proofs.YtobjlgfjfpmceaaGreatDoor
open Go.RowKit
def itV (n p a b : Nat) : Value := .agg #[.int .i64 n, .int .i64 p, .int .i64 a, .int .i64 b]
def ItB (n p a b : Nat) : Obj := .cells #[.int .i64 n, .int .i64 p, .int .i64 a, .int .i64 b] 235 (0, 0)
def NB (x : Int) : Obj := .cells #[.int .i64 x] 3 (0, 0)
theorem nb_0 {w : World} {g : Nat} {x : Int} (h : w.heap[g]? = some (NB x)) : w.cell? ⟨g, 0, none⟩ = some (.int .i64 x) := by simp [World.cell?, h, NB]
theorem atNon {w w' : World} {b : Nat} {o : Obj} (k : Keep Non w w') (h : w.heap[b]? = some o) : w'.heap[b]? = some o := k.at h (fun e => e)
def ItAt (w : World) (a : Addr) (n p x y : Nat) : Prop := ∃ g off, a = ⟨g, off, none⟩ ∧ w.cell? ⟨g, off, none⟩ = some (.int .i64 n) ∧ w.cell? ⟨g, off + 1, none⟩ = some (.int .i64 p) ∧ w.cell? ⟨g, off + 2, none⟩ = some (.int .i64 x) ∧ w.cell? ⟨g, off + 3, none⟩ = some (.int .i64 y)
theorem cell_keepS {S : Nat → Prop} {w w' : World} {g i : Nat} {v : Value} (k : Keep S w w') (hn : ¬ S g) (e : w.cell? ⟨g, i, none⟩ = some v) : w'.cell? ⟨g, i, none⟩ = some v := by
  have hg : g < w.heap.size := by
    rcases Nat.lt_or_ge g w.heap.size with q | q
    · exact q
    · rw [World.cell?, Array.getElem?_eq_none q] at e
      cases e
  have := k.block g hg hn
  unfold World.cell? at *
  rw [this]
  exact e
theorem ItAt.keep {S : Nat → Prop} {w w' : World} {a : Addr} {n p x y : Nat} (h : ItAt w a n p x y) (k : Keep S w w') (hn : ¬ S a.block) : ItAt w' a n p x y := by
  obtain ⟨g, off, rfl, h0, h1, h2, h3⟩ := h
  exact ⟨g, off, rfl, cell_keepS k hn h0, cell_keepS k hn h1, cell_keepS k hn h2, cell_keepS k hn h3⟩
theorem after_enter (args : Array Value) (w : World) : (callFunc 204 args).run Tryz.prog w = .ok (.enter 204 args) w := by
  kernel_rfl
theorem pafter1_ok (n p x y t g : Nat) (w : World) (h : w.heap[g]? = some (NB t)) :
    Calls Tryz.prog 204 #[itV n p x y, .pointer (some ⟨g, 0, none⟩)] w fun e w' => e = .returned (.bool (decide (t < y))) ∧ Keep Non w w' := by
  have c0 := nb_0 (atNon ((Keep.refl Non w).alloc (ItB n p x y)) h)
  unfold itV
  unfold ItB at c0
  go_enter Tryz.func204, Tryz.ntmps204
  go_wp2_with fail
  go_ret
  exact ⟨rfl, (Keep.refl Non w).alloc _⟩
theorem pidx_one (n p x y t g c : Nat) (a : Addr) (w : World) (h : w.heap[g]? = some (NB t)) (hi : ItAt w a n p x y) :
    Calls Tryz.prog 262 #[.slice (some a) 1 c, .func (.func 204) #[] #[.pointer (some ⟨g, 0, none⟩)]] w fun e w' => e = .returned (.int .i64 (if t < y then 0 else -1)) ∧ Keep Non w w' := by
  have AF := Lib.hid (pafter1_ok n p x y t g w h)
  obtain ⟨ig, off, rfl, h0, h1, h2, h3⟩ := hi
  have en := after_enter
  clear h
  unfold itV at AF
  by_cases hlt : t < y
  · rw [if_pos hlt]
    rw [decide_eq_true hlt] at AF
    go_enter Tryz.func262, Tryz.ntmps262
    go_wp2_with fail
    refine wp_loop_rounds 1 ?_
    rw [rounds_succ]
    go_wp2_with (go_at_call 204; refine AF.out.mono ?_; rintro e w1 ⟨rfl, k1⟩)
    go_ret
    exact ⟨rfl, k1⟩
  · rw [if_neg hlt]
    rw [decide_eq_false hlt] at AF
    go_enter Tryz.func262, Tryz.ntmps262
    go_wp2_with fail
    refine wp_loop_rounds 2 ?_
    rw [rounds_succ]
    go_wp2_with (go_at_call 204; refine AF.out.mono ?_; rintro e w1 ⟨rfl, k1⟩)
    rw [rounds_succ]
    go_wp2_with fail
    go_ret
    exact ⟨rfl, k1⟩
section
variable {w : World} {b n p x y : Nat}
theorem it_0 (h : w.heap[b]? = some (ItB n p x y)) : w.cell? ⟨b, 0, none⟩ = some (.int .i64 n) := by simp [World.cell?, h, ItB]
theorem it_1 (h : w.heap[b]? = some (ItB n p x y)) : w.cell? ⟨b, 1, none⟩ = some (.int .i64 p) := by simp [World.cell?, h, ItB]
theorem it_2 (h : w.heap[b]? = some (ItB n p x y)) : w.cell? ⟨b, 2, none⟩ = some (.int .i64 x) := by simp [World.cell?, h, ItB]
theorem it_3 (h : w.heap[b]? = some (ItB n p x y)) : w.cell? ⟨b, 3, none⟩ = some (.int .i64 y) := by simp [World.cell?, h, ItB]
theorem it_f (h : w.heap[b]? = some (ItB n p x y)) (i : Nat) : w.frozen? ⟨b, i, none⟩ = false := by simp [World.frozen?, h, ItB]
theorem it_four (h : w.heap[b]? = some (ItB n p x y)) (a0 a1 a2 a3 : Nat) :
    w.cell? ⟨b, 0, none⟩ = some (.int .i64 n) ∧ w.cell? ⟨b, 1, none⟩ = some (.int .i64 p) ∧ w.cell? ⟨b, 2, none⟩ = some (.int .i64 x) ∧ w.cell? ⟨b, 3, none⟩ = some (.int .i64 y) ∧
    w.frozen? ⟨b, 0, none⟩ = false ∧ w.frozen? ⟨b, 1, none⟩ = false ∧ w.frozen? ⟨b, 2, none⟩ = false ∧ w.frozen? ⟨b, 3, none⟩ = false ∧
    ((((w.setCell ⟨b, 0, none⟩ (.int .i64 a0)).setCell ⟨b, 1, none⟩ (.int .i64 a1)).setCell ⟨b, 2, none⟩ (.int .i64 a2)).setCell ⟨b, 3, none⟩ (.int .i64 a3)).heap[b]? = some (ItB a0 a1 a2 a3) ∧
    Keep (One b) w ((((w.setCell ⟨b, 0, none⟩ (.int .i64 a0)).setCell ⟨b, 1, none⟩ (.int .i64 a1)).setCell ⟨b, 2, none⟩ (.int .i64 a2)).setCell ⟨b, 3, none⟩ (.int .i64 a3)) :=
  ⟨it_0 h, it_1 h, it_2 h, it_3 h, it_f h 0, it_f h 1, it_f h 2, it_f h 3, blk_set (blk_set (blk_set (blk_set h 0 (.int .i64 a0)) 1 (.int .i64 a1)) 2 (.int .i64 a2)) 3 (.int .i64 a3), ((((Keep.refl _ _).setOne _ _).setOne _ _).setOne _ _).setOne _ _⟩
end
def PlB (N B M : Nat) (v : Value) : Obj := .cells #[.int .i64 N, .int .i64 B, .int .i64 M, v] 166 (0, 0)
theorem pl_0 {w : World} {b N B M : Nat} {v : Value} (h : w.heap[b]? = some (PlB N B M v)) : w.cell? ⟨b, 0, none⟩ = some (.int .i64 N) := by simp [World.cell?, h, PlB]
theorem pl_1 {w : World} {b N B M : Nat} {v : Value} (h : w.heap[b]? = some (PlB N B M v)) : w.cell? ⟨b, 1, none⟩ = some (.int .i64 B) := by simp [World.cell?, h, PlB]
theorem pl_2 {w : World} {b N B M : Nat} {v : Value} (h : w.heap[b]? = some (PlB N B M v)) : w.cell? ⟨b, 2, none⟩ = some (.int .i64 M) := by simp [World.cell?, h, PlB]
theorem pl_3 {w : World} {b N B M : Nat} {v : Value} (h : w.heap[b]? = some (PlB N B M v)) : w.cell? ⟨b, 3, none⟩ = some v := by simp [World.cell?, h, PlB]
theorem pfirst_one (N B M n p x y t g c : Nat) (a : Addr) (w : World) (h : w.heap[g]? = some (NB t)) (hi : ItAt w a n p x y) :
    Calls Tryz.prog 203 #[.agg #[.int .i64 N, .int .i64 B, .int .i64 M, .slice (some a) 1 c], .func (.func 204) #[] #[.pointer (some ⟨g, 0, none⟩)]] w fun e w' => e = .returned (.tuple #[if t < y then itV n p x y else itV 0 0 0 0, .bool (decide (t < y))]) ∧ Keep Non w w' := by
  have kA : Keep Non w ((w.alloc (PlB N B M (.slice (some a) 1 c))).alloc (ItB 0 0 0 0)) := ((Keep.refl _ _).alloc _).alloc _
  have IXA := Lib.hid (pidx_one n p x y t g c a _ (atNon kA h) (hi.keep kA (fun e => e)))
  have HI := Lib.hid hi
  obtain ⟨ig, off, rfl, h0, h1, h2, h3⟩ := hi
  clear h h0 h1 h2 h3
  have PB := Lib.hid (blk_alloc (blk_new w (PlB N B M (.slice (some ⟨ig, off, none⟩) 1 c))) (ItB 0 0 0 0))
  have RB : Hid (((w.alloc (PlB N B M (.slice (some ⟨ig, off, none⟩) 1 c))).alloc (ItB 0 0 0 0)).heap[w.heap.size + 1]? = some (ItB 0 0 0 0)) := Lib.hid (by have := blk_new (w.alloc (PlB N B M (.slice (some ⟨ig, off, none⟩) 1 c))) (ItB 0 0 0 0); simpa using this)
  have q3 := pl_3 PB.out
  have KA := Lib.hid kA
  clear kA
  dsimp only [PlB, ItB] at q3 IXA
  unfold itV
  by_cases hlt : t < y
  · rw [if_pos hlt, decide_eq_true hlt]
    rw [if_pos hlt] at IXA
    go_enter Tryz.func203, Tryz.ntmps203
    go_wp2_with (go_at_call 262; refine IXA.out.mono ?_; rintro e w1 ⟨rfl, k1⟩; have k1' := KA.out.trans1 k1; have c3 := pl_3 (atNon k1 PB.out); obtain ⟨g', o', e', h0, h1, h2, h3⟩ := HI.out.keep k1' (fun e => e); injection e' with e1 e2; subst e1; subst e2; obtain ⟨b0, b1, b2, b3, f0, f1, f2, f3, r4, k4⟩ := it_four (atNon k1 RB.out) n p x y; have R4 := Lib.hid r4; have K4 := Lib.hid k4; have K1 := Lib.hid k1'; clear k1 k1' r4 k4)
    refine bodyPost_ret (v := .tuple #[itV n p x y, .bool true]) (by simp [results, Tryz.results203, go_sem, it_0 R4.out, it_1 R4.out, it_2 R4.out, it_3 R4.out, itV]) rfl ?_
    exact ⟨rfl, K1.out.trans K4.out (fun _ _ e => e) (fun g' hg e => by have e' : g' = w.heap.size + 1 := e; omega)⟩
  · rw [if_neg hlt, decide_eq_false hlt]
    rw [if_neg hlt] at IXA
    go_enter Tryz.func203, Tryz.ntmps203
    go_wp2_with (go_at_call 262; refine IXA.out.mono ?_; rintro e w1 ⟨rfl, k1⟩; have k1' := KA.out.trans1 k1; obtain ⟨b0, b1, b2, b3, f0, f1, f2, f3, r4, k4⟩ := it_four (atNon k1 RB.out) 0 0 0 0; have R4 := Lib.hid r4; have K4 := Lib.hid k4; have K1 := Lib.hid k1'; clear k1 k1' r4 k4)
    have r := And.intro (it_0 R4.out) (And.intro (it_1 R4.out) (And.intro (it_2 R4.out) (it_3 R4.out)))
    rw [show ((0 : Nat) : Int) = 0 from rfl] at r
    obtain ⟨r0, r1, r2, r3⟩ := r
    refine bodyPost_ret (v := .tuple #[itV 0 0 0 0, .bool false]) (by simp [results, Tryz.results203, go_sem, itV, r0, r1, r2, r3]) rfl ?_
    exact ⟨rfl, K1.out.trans K4.out (fun _ _ e => e) (fun g' hg e => by have e' : g' = w.heap.size + 1 := e; omega)⟩
theorem pafter_one (N B M n p x y t c : Nat) (a : Addr) (w : World) (hi : ItAt w a n p x y) :
    Calls Tryz.prog 151 #[.agg #[.int .i64 N, .int .i64 B, .int .i64 M, .slice (some a) 1 c], .int .i64 t] w fun e w' => e = .returned (.tuple #[if t < y then itV n p x y else itV 0 0 0 0, .bool (decide (t < y))]) ∧ Keep Non w w' := by
  have kA : Keep Non w (((w.alloc (PlB N B M (.slice (some a) 1 c))).alloc (NB t)).alloc (ItB 0 0 0 0)) := (((Keep.refl _ _).alloc _).alloc _).alloc _
  have kB : Keep Non (w.alloc (PlB N B M (.slice (some a) 1 c))) (((w.alloc (PlB N B M (.slice (some a) 1 c))).alloc (NB t)).alloc (ItB 0 0 0 0)) := ((Keep.refl _ _).alloc _).alloc _
  have kC : Keep Non ((w.alloc (PlB N B M (.slice (some a) 1 c))).alloc (NB t)) (((w.alloc (PlB N B M (.slice (some a) 1 c))).alloc (NB t)).alloc (ItB 0 0 0 0)) := (Keep.refl _ _).alloc _
  have hg : (((w.alloc (PlB N B M (.slice (some a) 1 c))).alloc (NB t)).alloc (ItB 0 0 0 0)).heap[w.heap.size + 1]? = some (NB t) := atNon kC (by have := blk_new (w.alloc (PlB N B M (.slice (some a) 1 c))) (NB t); simpa using this)
  have FI := Lib.hid (pfirst_one N B M n p x y t (w.heap.size + 1) c a _ hg (hi.keep kA (fun e => e)))
  have P := atNon kB (blk_new w (PlB N B M (.slice (some a) 1 c)))
  have RB : Hid ((((w.alloc (PlB N B M (.slice (some a) 1 c))).alloc (NB t)).alloc (ItB 0 0 0 0)).heap[w.heap.size + 2]? = some (ItB 0 0 0 0)) := Lib.hid (by have := blk_new ((w.alloc (PlB N B M (.slice (some a) 1 c))).alloc (NB t)) (ItB 0 0 0 0); simpa using this)
  have q0 := pl_0 P
  have q1 := pl_1 P
  have q2 := pl_2 P
  have q3 := pl_3 P
  have KA := Lib.hid kA
  clear kA kB kC hg P hi
  dsimp only [PlB, ItB, NB] at q0 q1 q2 q3 FI
  by_cases hlt : t < y
  · rw [if_pos hlt, decide_eq_true hlt] at FI ⊢
    unfold itV at FI ⊢
    go_enter Tryz.func151, Tryz.ntmps151
    go_wp2_with (go_at_call 203; refine FI.out.mono ?_; rintro e w1 ⟨rfl, k1⟩; have k1' := KA.out.trans1 k1; obtain ⟨b0, b1, b2, b3, f0, f1, f2, f3, r4, k4⟩ := it_four (atNon k1 RB.out) n p x y; have R4 := Lib.hid r4; have K4 := Lib.hid k4; have K1 := Lib.hid k1'; clear k1 k1' r4 k4)
    refine bodyPost_ret (v := .tuple #[itV n p x y, .bool true]) (by simp [results, Tryz.results151, go_sem, it_0 R4.out, it_1 R4.out, it_2 R4.out, it_3 R4.out, itV]) rfl ?_
    exact ⟨rfl, K1.out.trans K4.out (fun _ _ e => e) (fun g' hg e => by have e' : g' = w.heap.size + 2 := e; omega)⟩
  · rw [if_neg hlt, decide_eq_false hlt] at FI ⊢
    unfold itV at FI ⊢
    go_enter Tryz.func151, Tryz.ntmps151
    go_wp2_with (go_at_call 203; refine FI.out.mono ?_; rintro e w1 ⟨rfl, k1⟩; have k1' := KA.out.trans1 k1; obtain ⟨b0, b1, b2, b3, f0, f1, f2, f3, r4, k4⟩ := it_four (atNon k1 RB.out) 0 0 0 0; have R4 := Lib.hid r4; have K4 := Lib.hid k4; have K1 := Lib.hid k1'; clear k1 k1' r4 k4)
    have r := And.intro (it_0 R4.out) (And.intro (it_1 R4.out) (And.intro (it_2 R4.out) (it_3 R4.out)))
    rw [show ((0 : Nat) : Int) = 0 from rfl] at r
    obtain ⟨r0, r1, r2, r3⟩ := r
    refine bodyPost_ret (v := .tuple #[itV 0 0 0 0, .bool false]) (by simp [results, Tryz.results151, go_sem, itV, r0, r1, r2, r3]) rfl ?_
    exact ⟨rfl, K1.out.trans K4.out (fun _ _ e => e) (fun g' hg e => by have e' : g' = w.heap.size + 2 := e; omega)⟩
theorem least_of {p : Nat → Prop} : ∀ n, p n → ∃ j, p j ∧ ∀ k, p k → j ≤ k := by
  intro n
  induction n using Nat.strongRecOn with
  | _ n ih =>
    intro h
    by_cases hk : ∃ k, k < n ∧ p k
    · obtain ⟨k, h1, h2⟩ := hk
      exact ih k h1 h2
    · exact ⟨n, h, fun k hp => by
        rcases Nat.lt_or_ge k n with h1 | h1
        · exact absurd ⟨k, h1, hp⟩ hk
        · exact h1⟩
open Classical in
/-- The least number of which something is true. -/
noncomputable def leastN (p : Nat → Prop) : Nat := if h : ∃ j, p j ∧ ∀ k, p k → j ≤ k then Classical.choose h else 0
theorem leastN_spec {p : Nat → Prop} {n : Nat} (h : p n) : p (leastN p) ∧ ∀ k, p k → leastN p ≤ k := by
  have h' := least_of n h
  unfold leastN
  rw [dif_pos h']
  exact Classical.choose_spec h'
theorem xall_any (x : Nat) (w : World) (N : Nat) (hN : N ≤ 1000000) (I : Nat → World → Prop) (Q : Value → World → Prop) (h0 : I N w)
    (hs : ∀ j W, I j W → Calls Tryz.prog 35 #[.pointer (some ⟨x, 0, none⟩)] W fun e w' => (∃ k, k < j ∧ e = .returned (.tuple #[.bool false, .nilIface]) ∧ I k w') ∨ (e = .returned (.tuple #[.bool true, .nilIface]) ∧ Q .nilIface w') ∨ (∃ c : Int, e = .returned (.tuple #[.bool false, .iface 45 (.int .i64 c)]) ∧ Q (.iface 45 (.int .i64 c)) w')) :
    Calls Tryz.prog 11 #[.pointer (some ⟨x, 0, none⟩)] w fun e w' => ∃ (n : Nat) (v : Value), e = .returned (.tuple #[.int .i64 n, v]) ∧ Q v w' := by
  have HS := Lib.hid hs
  have H0 := Lib.hid h0
  clear hs h0
  go_enter Tryz.func11, Tryz.ntmps11
  go_wp2_with fail
  go_loopw [4] (fun i wr => ∃ (n j : Nat), i = .int .i64 n ∧ n + j ≤ N ∧ j = leastN (fun j => I j wr) ∧ I j wr) (fun _ wr => leastN (fun j => I j wr))
  case atStart =>
    have := leastN_spec (p := fun j => I j w) H0.out
    exact ⟨0, _, rfl, by have := this.2 N H0.out; omega, rfl, this.1⟩
  case round =>
    obtain ⟨n, j, rfl, hnj, hj, hI⟩ := hrel
    have ST := Lib.hid (HS.out j wr hI)
    have HJ := Lib.hid hj
    clear hj hI
    go_wp2_with (go_at_call 35; refine ST.out.mono ?_; rintro e w1 (⟨k, hk, rfl, hI⟩ | ⟨rfl, hQ⟩ | ⟨c, rfl, hQ⟩))
    · have hl := leastN_spec (p := fun j => I j w1) hI
      have hk2 := hl.2 k hI
      have hj2 := HJ.out
      refine ⟨⟨n + 1, leastN (fun j => I j w1), by first | rfl | (congr 1; omega), by omega, rfl, hl.1⟩, by omega⟩
    · go_ret2
      exact ⟨n + 1, _, rfl, hQ⟩
    · go_ret2
      exact ⟨n, _, rfl, hQ⟩
theorem rall_any (x : Nat) (w : World) (N : Nat) (hN : N ≤ 1000000) (I : Nat → World → Prop) (Q : Value → World → Prop) (h0 : I N w)
    (hs : ∀ j W, I j W → Calls Tryz.prog 93 #[.pointer (some ⟨x, 0, none⟩)] W fun e w' => (∃ k, k < j ∧ e = .returned (.tuple #[.bool false, .nilIface]) ∧ I k w') ∨ (e = .returned (.tuple #[.bool true, .nilIface]) ∧ Q .nilIface w') ∨ (∃ c : Int, e = .returned (.tuple #[.bool false, .iface 45 (.int .i64 c)]) ∧ Q (.iface 45 (.int .i64 c)) w')) :
    Calls Tryz.prog 46 #[.pointer (some ⟨x, 0, none⟩)] w fun e w' => ∃ (n : Nat) (v : Value), e = .returned (.tuple #[.int .i64 n, v]) ∧ Q v w' := by
  have HS := Lib.hid hs
  have H0 := Lib.hid h0
  clear hs h0
  go_enter Tryz.func46, Tryz.ntmps46
  go_wp2_with fail
  go_loopw [4] (fun i wr => ∃ (n j : Nat), i = .int .i64 n ∧ n + j ≤ N ∧ j = leastN (fun j => I j wr) ∧ I j wr) (fun _ wr => leastN (fun j => I j wr))
  case atStart =>
    have := leastN_spec (p := fun j => I j w) H0.out
    exact ⟨0, _, rfl, by have := this.2 N H0.out; omega, rfl, this.1⟩
  case round =>
    obtain ⟨n, j, rfl, hnj, hj, hI⟩ := hrel
    have ST := Lib.hid (HS.out j wr hI)
    have HJ := Lib.hid hj
    clear hj hI
    go_wp2_with (go_at_call 93; refine ST.out.mono ?_; rintro e w1 (⟨k, hk, rfl, hI⟩ | ⟨rfl, hQ⟩ | ⟨c, rfl, hQ⟩))
    · have hl := leastN_spec (p := fun j => I j w1) hI
      have hk2 := hl.2 k hI
      have hj2 := HJ.out
      refine ⟨⟨n + 1, leastN (fun j => I j w1), by first | rfl | (congr 1; omega), by omega, rfl, hl.1⟩, by omega⟩
    · go_ret2
      exact ⟨n + 1, _, rfl, hQ⟩
    · go_ret2
      exact ⟨n, _, rfl, hQ⟩
end Go.Proofs.YtobjlgfjfpmceaaGreatDoor
namespace Go.Proofs.YtobjlgfjfpmceaaGreatDoor
open Go.RowKit Go.Maps
theorem eq_pt (p : Pt) (h : p.sum.length = 32) (w : World) : (Op.equalIn 10000 101 (ptV p) (ptV p)).run Tryz.prog w = .ok true w := by
  have e : (10000 : Nat) = 9999 + 1 := rfl
  rw [e]
  unfold ptV
  rw [run_equalIn_agg _ _ _ _ _ (by kernel_rfl) (by kernel_rfl)]
  have hq : ∀ (x : Int) (w : World), (Op.equalIn 9999 3 (.int .i64 x) (.int .i64 x)).run Tryz.prog w = .ok true w := fun x w => by
    have := run_equalIn_int (P := Tryz.prog) w 9998 3 .i64 .i64 x x Tryz.underlying3
    simpa using this
  have hs : ∀ w : World, (Op.equalIn 9999 81 (arrV p.sum) (arrV p.sum)).run Tryz.prog w = .ok true w := fun w => by
    have := run_equalIn_bytes w 9997 81 5 32 Tryz.underlying81 Tryz.underlying5 sizeU8 p.sum p.sum h h
    rw [beq_self_eq_true] at this
    exact this
  have hp : ∀ w : World, (part 81 (ptC p).toArray 3).run Tryz.prog w = .ok (arrV p.sum) w := fun w => by
    unfold part
    have e1 : List.take 32 (List.drop 3 (ptC p)) = p.sum.map bv := by
      show List.take 32 (p.sum.map bv) = _
      exact List.take_of_length_le (by simp [h])
    simp [Tryz.isAgg81, Tryz.sizeOf81, e1, arrV]
  have hi : ∀ (k : Nat) (x : Int) (w : World), (ptC p)[k]? = some (.int .i64 x) → (part 3 (ptC p).toArray k).run Tryz.prog w = .ok (.int .i64 x) w := fun k x w hk => by
    unfold part
    have e1 : (ptC p).toArray[k]? = some (.int .i64 x) := by simpa using hk
    have hg : (isAgg 3).run Tryz.prog w = .ok false w := by simp [isAgg, run_underlying Tryz.underlying3]
    simp [hg, e1]
  simp only [Program.fieldsOf, Tryz.underlying101, Op.eqFields]
  simp [hp, hq, hs, hi 0 p.first _ rfl, hi 1 p.many _ rfl, hi 2 p.size _ rfl]
theorem neq_pt (p : Pt) (h : p.sum.length = 32) (w : World) : (binOp BinOp.neq 101 (ptV p) (ptV p)).run Tryz.prog w = .ok (.bool false) w := by
  have h := eq_pt p h
  unfold ptV at h ⊢
  simp [go_sem, h]
theorem guard_pt (o : BinOp) (x y : Operand) (p q : Pt) (w : World) : (eqGuard o 101 x y (ptV p) (ptV q)).run Tryz.prog w = .ok () w := by
  unfold ptV
  simp [go_sem, eqGuard]
section
attribute [local go_sem ↓] hV81 hV101 hV83 hW81 hW101 hW83 hB101 hB83
theorem ptseq_ok (v v' : Value) (l : List Pt) (w : World) (h : PtsAt w v l) (h' : PtsAt w v' l) (h32 : pts32 l) (hl : l.length ≤ 10000) :
    Calls Tryz.prog 40 #[v, v'] w fun e w' => e = .returned (.bool true) ∧ Keep Non w w' := by
  have P1 := Lib.hid h
  have P2 := Lib.hid h'
  obtain ⟨a, c, rfl, _, _, hx⟩ := h
  obtain ⟨a2, c2, rfl, _, _, hx2⟩ := h'
  have hgd := guard_pt
  clear hx hx2
  go_enter Tryz.func40, Tryz.ntmps40
  go_wp2_with fail
  go_loopw [13] (fun i wr => ∃ j : Nat, j ≤ l.length ∧ i = .int .i64 j ∧ Keep Non w wr) (fun i _ => l.length - (intOf i).toNat)
  case atStart => exact ⟨0, by omega, rfl, Keep.refl _ _⟩
  case round =>
    obtain ⟨j, hj, rfl, hk⟩ := hrel
    by_cases hlt : j < l.length
    · have hlj : (j : Int) < (l.length : Int) := by omega
      obtain ⟨p, hpj⟩ : ∃ p, l[j]? = some p := ⟨_, List.getElem?_eq_getElem hlt⟩
      have p5 := h32 p (List.mem_of_getElem? hpj)
      obtain ⟨a1, c1, e1, _, _, hx⟩ := P1.out.keepNon hk
      injection e1 with e1 e3 e4
      subst e1
      subst e4
      obtain ⟨g, off, rfl, hcell⟩ := hx j p hpj
      obtain ⟨b1, d1, f1, _, _, hy⟩ := P2.out.keepNon hk
      injection f1 with f1 f3 f4
      subst f1
      subst f4
      obtain ⟨g2, off2, rfl, hcell2⟩ := hy j p hpj
      have l1 := load101 wr g (off + j * 35) p p5 hcell
      have l2 := load101 wr g2 (off2 + j * 35) p p5 hcell2
      have hne := neq_pt p p5
      have l1' := load101 wr.drew g (off + j * 35) p p5 hcell
      have l2' := load101 wr.drew g2 (off2 + j * 35) p p5 hcell2
      clear hx hy hcell hcell2
      go_wp2_with fail
      go_region_law (fail)
      all_goals go_wp2_with fail
      all_goals exact ⟨⟨j + 1, by omega, by first | rfl | go_num, hk.drew⟩, by simp [intOf]; omega⟩
    · obtain rfl : j = l.length := by omega
      go_wp2_with fail
      go_ret
      exact ⟨rfl, hk⟩
end
theorem cusame_ok (c : Cu) (v v' : Value) (w : World) (h : PtsAt w v c.parts) (h' : PtsAt w v' c.parts) (h32 : pts32 c.parts) (hl : c.parts.length ≤ 10000) :
    Calls Tryz.prog 17 #[cuV c v, cuV c v'] w fun e w' => e = .returned (.bool true) ∧ Keep Non w w' := by
  have kA : Keep Non w ((w.alloc (CuB c v)).alloc (CuB c v')) := ((Keep.refl _ _).alloc _).alloc _
  have SE := Lib.hid (fun W (k : Keep Non w W) => ptseq_ok v v' c.parts W (h.keepNon k) (h'.keepNon k) h32 hl)
  obtain ⟨a, k, rfl, _, _, hx⟩ := h
  obtain ⟨a2, k2, rfl, _, _, hx2⟩ := h'
  have KA := Lib.hid kA
  have A1 := blk_alloc (blk_new w (CuB c (.slice a c.parts.length k))) (CuB c (.slice a2 c.parts.length k2))
  have A2 : ((w.alloc (CuB c (.slice a c.parts.length k))).alloc (CuB c (.slice a2 c.parts.length k2))).heap[w.heap.size + 1]? = some (CuB c (.slice a2 c.parts.length k2)) := alloc2_at _ _ _
  have SEA := Lib.hid (SE.out _ kA)
  have a0 := cu_0 A1
  have a1 := cu_1 A1
  have a2' := cu_2 A1
  have a3 := cu_3 A1
  have a4 := cu_4 A1
  have b0 := cu_0 A2
  have b1 := cu_1 A2
  have b2 := cu_2 A2
  have b3 := cu_3 A2
  have b4 := cu_4 A2
  clear hx hx2 A1 A2 kA SE
  dsimp only [CuB] at a0 a1 a2' a3 a4 b0 b1 b2 b3 b4 SEA
  unfold cuV
  go_enter Tryz.func17, Tryz.ntmps17
  go_wp2_with (go_at_call 40; ((with_reducible refine SEA.out.mono ?_); rintro e w1 ⟨rfl, k1⟩))
  go_ret
  exact ⟨rfl, KA.out.trans1 k1⟩
theorem cuload_ok (F : Nat → Prop) (q p : Nat) (n : Byt) (c : Cu) (X : Dk) (w : World) (d : StoreAt F w q p X) (hn : okObj n) (hd : X.down = false) (hh : fhas X.shown n = true) (hg : fget X.shown n = cuBy c) (ok : okCu c) (hl : (cuBy c).length ≤ 65536) (hl2 : (cuT c).length ≤ 65536) :
    Calls Tryz.prog 77 #[.pointer (some ⟨q, 0, none⟩), sv n] w fun e w' => ∃ v', e = .returned (.tuple #[cuV c v', .bool true, .nilIface]) ∧ Keep Non w w' ∧ w'.ownsRow w.heap.size 101 35 v' c.parts.length (ptsC c.parts) := by
  have G := Lib.hid (fun w1 (k : Keep Non w w1) => sget_ok F q p n X w1 (d.keep k (fun _ _ e => e)) hn hd hh (by rw [hg]; omega))
  rw [hg] at G
  have CT := Lib.hid (fun W v (hb : Bs W v (cuBy c)) (hc : okc v) (hv : ∀ g, v.ownBlock = some g → g < W.heap.size) => cutake_ok v c W hb hc hv ok hl2)
  have hne := eql_nil_err 4
  clear d hh hg
  unfold cuV sv at *
  go_enter Tryz.func77, Tryz.ntmps77
  go_wp2_with (first
    | (go_at_call 24; refine (G.out _ ((Keep.refl _ _).alloc _)).mono ?_; rintro e w1 ⟨v1, rfl, k1, o1⟩; obtain ⟨a1, c1, rfl, _, _⟩ := ownsRow_form o1; have B1 := Lib.hid (nonAt k1 (blk_new w (CuB ⟨0, 0, 0, 0, []⟩ (.slice none 0 0)))); have CTW := Lib.hid (CT.out w1 _ (Rd.ofOwns o1) (okc_own o1) (fun g e => (o1.lt g e).2)); have K1 := Lib.hid (((Keep.refl Non w).alloc _).trans1 k1); have Z1 : Hid (w.heap.size < w1.heap.size) := Lib.hid (lt_of_block B1.out); clear k1 o1)
    | (go_at_call 133; refine CTW.out.mono ?_; rintro e w2 ⟨v2, rfl, k2, o2⟩; obtain ⟨a2, c2, rfl, _, _⟩ := ownsRow_form o2; have K2 := Lib.hid k2; have O2 := Lib.hid o2; have b2 := nonAt ((Keep.refl Non w2).alloc (CuB c (.slice a2 c.parts.length c2))) (nonAt k2 B1.out); have B2 := Lib.hid b2; have i0' := cu_0 b2; have i1' := cu_1 b2; have i2' := cu_2 b2; have i3' := cu_3 b2; have i4' := cu_4 b2; have j0' := cu_f b2 0; have j1' := cu_f b2 1; have j2' := cu_f b2 2; have j3' := cu_f b2 3; have j4' := cu_f b2 4; dsimp only [CuB] at i0' i1' i2' i3' i4' j0' j1' j2' j3' j4'; clear k2 o2 b2))
  go_region_law (fail)
  go_wp2_with fail
  have ka : Keep Non w2 (w2.alloc (CuB c (.slice a2 c.parts.length c2))) := (Keep.refl _ _).alloc _
  have b3 : (w2.alloc (CuB c (.slice a2 c.parts.length c2))).heap[w.heap.size]? = some (CuB ⟨0, 0, 0, 0, []⟩ (.slice none 0 0)) := B2.out
  unfold CuB at ka b3
  generalize w2.alloc _ = W3 at ka b3 ⊢
  obtain ⟨r0, r1, r2, r3, r4, kf⟩ := cu_five (w := W3) b3 (.int .i64 c.lo) (.int .i64 c.next) (.int .i64 c.hi) (.int .i64 c.trim) (.slice a2 c.parts.length c2) _ rfl
  refine bodyPost_ret (v := .tuple #[.agg #[.int .i64 c.lo, .int .i64 c.next, .int .i64 c.hi, .int .i64 c.trim, .slice a2 c.parts.length c2], .bool true, .nilIface]) (by simp [results, Tryz.results77, go_sem, r0, r1, r2, r3, r4]) rfl ?_
  have z1 := Z1.out
  have s2 := K2.out.size
  have k0 := (K1.out.trans1 K2.out).trans1 ka
  have o3 := ownsRow_keep O2.out ka (fun _ _ e => e)
  exact ⟨_, rfl, (k0.trans kf (fun _ _ e => e) (fun g hg e => by have e' : g = w.heap.size := e; omega)).drew, ownsRow_low (ownsRow_keep o3 kf.drew (fun g e e2 => by have e' : g = w.heap.size := e2; have := (o3.lt g e).1; omega)) (by omega)⟩
def CuZ : Obj := .cells #[.int .i64 0, .int .i64 0, .int .i64 0, .int .i64 0, .slice none 0 0] 48 (0, 0)
theorem cuz_new (w : World) : (w.alloc CuZ).heap[w.heap.size]? = some (CuB ⟨0, 0, 0, 0, []⟩ (.slice none 0 0)) := blk_new w CuZ
theorem xload_none (F : Nat → Prop) (b lb q p : Nat) (lv : Value) (X : Dk) (w : World) (hb : w.heap[b]? = some (VtB q lv)) (d : StoreAt F w q p X) (hd : X.down = false) (hh : fhas X.shown cname = false) :
    Calls Tryz.prog 28 #[.pointer (some ⟨b, 0, none⟩), .pointer (some ⟨lb, 0, none⟩)] w fun e w' => e = .returned (.tuple #[.agg #[.int .i64 0, .int .i64 0, .int .i64 0, .int .i64 0, .slice none 0 0], .bool false, .nilIface]) ∧ Keep Non w w' := by
  have kA : Keep Non w (w.alloc CuZ) := (Keep.refl _ _).alloc _
  have ST := Lib.hid (vstore_ok b q lv (w.alloc CuZ) (nonAt kA hb))
  have LD := Lib.hid (cuload_none F q p cname X (w.alloc CuZ) (d.keep kA (fun _ _ e => e)) cname_ok hd hh)
  have KA := Lib.hid kA
  have BA := Lib.hid (cuz_new w)
  clear hb d kA
  unfold sv cname at LD
  dsimp only [CuZ] at LD ST
  go_enter Tryz.func28, Tryz.ntmps28
  go_wp2_with (first
    | (go_at_call 33; ((with_reducible refine ST.out.mono ?_); rintro e w1 ⟨rfl, rfl⟩))
    | (go_at_call 77; ((with_reducible refine LD.out.mono ?_); rintro e w2 ⟨rfl, k2⟩); have b2 := nonAt (w := w.alloc CuZ) k2 BA.out; have B2 := Lib.hid b2; have K2 := Lib.hid (KA.out.trans1 k2); have i0' := cu_0 b2; have i1' := cu_1 b2; have i2' := cu_2 b2; have i3' := cu_3 b2; have i4' := cu_4 b2; have j0' := cu_f b2 0; have j1' := cu_f b2 1; have j2' := cu_f b2 2; have j3' := cu_f b2 3; have j4' := cu_f b2 4; clear k2 b2))
  obtain ⟨r0, r1, r2, r3, r4, kf⟩ := cu_five B2.out (.int .i64 0) (.int .i64 0) (.int .i64 0) (.int .i64 0) (.slice none 0 0) _ rfl
  refine bodyPost_ret (v := .tuple #[.agg #[.int .i64 0, .int .i64 0, .int .i64 0, .int .i64 0, .slice none 0 0], .bool false, .nilIface]) (by simp [results, Tryz.results28, go_sem, r0, r1, r2, r3, r4]) rfl ?_
  exact ⟨rfl, K2.out.trans kf (fun _ _ e => e) (fun g hg e => by have e' : g = w.heap.size := e; omega)⟩
theorem xload_ok (F : Nat → Prop) (b lb q p : Nat) (lv : Value) (c : Cu) (X : Dk) (w : World) (hb : w.heap[b]? = some (VtB q lv)) (d : StoreAt F w q p X) (hd : X.down = false) (hh : fhas X.shown cname = true) (hg : fget X.shown cname = cuBy c) (ok : okCu c) :
    Calls Tryz.prog 28 #[.pointer (some ⟨b, 0, none⟩), .pointer (some ⟨lb, 0, none⟩)] w fun e w' => ∃ v', e = .returned (.tuple #[cuV c v', .bool true, .nilIface]) ∧ Keep Non w w' ∧ w'.ownsRow w.heap.size 101 35 v' c.parts.length (ptsC c.parts) := by
  have kA : Keep Non w (w.alloc CuZ) := (Keep.refl _ _).alloc _
  have ST := Lib.hid (vstore_ok b q lv (w.alloc CuZ) (nonAt kA hb))
  have hl := cu_len' ok
  have hl2 : (cuT c).length ≤ 65536 := by
    have h1 := ptsB_len c.parts (fun p hp => okPt_nums (okPts_all _ _ ok.parts p hp))
    have h2 := ok.many
    have h3 := ok.le
    have h4 := ok.hi
    have h5 := ok.trim
    have h6 := ok.lo
    have h7 := vputs_len [c.lo, c.next, c.hi, c.trim, c.parts.length] (by intro n hn; simp at hn; omega)
    unfold cuT
    rw [List.length_append]
    simp only [List.length_cons, List.length_nil] at h7
    omega
  have LD := Lib.hid (cuload_ok F q p cname c X (w.alloc CuZ) (d.keep kA (fun _ _ e => e)) cname_ok hd hh hg ok (by omega) hl2)
  have KA := Lib.hid kA
  have BA := Lib.hid (cuz_new w)
  clear hb d kA hh hg hl hl2
  unfold sv cname cuV at LD
  dsimp only [CuZ] at LD ST
  unfold cuV
  go_enter Tryz.func28, Tryz.ntmps28
  go_wp2_with (first
    | (go_at_call 33; ((with_reducible refine ST.out.mono ?_); rintro e w1 ⟨rfl, rfl⟩))
    | (go_at_call 77; ((with_reducible refine LD.out.mono ?_); rintro e w2 ⟨v2, rfl, k2, o2⟩); obtain ⟨a2, c2, rfl, _, _⟩ := ownsRow_form o2; have b2 := nonAt (w := w.alloc CuZ) k2 BA.out; have B2 := Lib.hid b2; have K2 := Lib.hid (KA.out.trans1 k2); have O2 := Lib.hid o2; have i0' := cu_0 b2; have i1' := cu_1 b2; have i2' := cu_2 b2; have i3' := cu_3 b2; have i4' := cu_4 b2; have j0' := cu_f b2 0; have j1' := cu_f b2 1; have j2' := cu_f b2 2; have j3' := cu_f b2 3; have j4' := cu_f b2 4; clear k2 b2 o2))
  obtain ⟨r0, r1, r2, r3, r4, kf⟩ := cu_five B2.out (.int .i64 c.lo) (.int .i64 c.next) (.int .i64 c.hi) (.int .i64 c.trim) (.slice a2 c.parts.length c2) _ rfl
  refine bodyPost_ret (v := .tuple #[.agg #[.int .i64 c.lo, .int .i64 c.next, .int .i64 c.hi, .int .i64 c.trim, .slice a2 c.parts.length c2], .bool true, .nilIface]) (by simp [results, Tryz.results28, go_sem, r0, r1, r2, r3, r4]) rfl ?_
  have hz : w.heap.size < (w.alloc CuZ).heap.size := lt_of_block BA.out
  exact ⟨_, rfl, K2.out.trans kf (fun _ _ e => e) (fun g hg e => by have e' : g = w.heap.size := e; omega), ownsRow_low (ownsRow_keep O2.out kf (fun g e e2 => by have e' : g = w.heap.size := e2; have := (O2.out.lt g e).1; dsimp only [CuZ] at hz; omega)) (by dsimp only [CuZ] at hz; omega)⟩
theorem xcursor_ok {x b lb : Nat} {c : Cu} {pv : Value} {ov : Bool} (w : World) (hx : w.heap[x]? = some (ExB b lb c pv ov)) (hp : PtsAt w pv c.parts) (h32 : pts32 c.parts) (hl : c.parts.length ≤ 64) :
    Calls Tryz.prog 15 #[.pointer (some ⟨x, 0, none⟩)] w fun e w' => ∃ v', e = .returned (cuV c v') ∧ Keep Non w w' ∧ w'.ownsRow w.heap.size 101 35 v' c.parts.length (ptsC c.parts) := by
  have kA : Keep Non w (w.alloc CuZ) := (Keep.refl _ _).alloc _
  have xa := nonAt kA hx
  obtain ⟨pa, pc, rfl, _, _, hy⟩ := id hp
  have kB : Keep Non w ((w.alloc CuZ).alloc (CuB c (.slice pa c.parts.length pc))) := kA.alloc _
  have CL := Lib.hid (clone_pts (.slice pa c.parts.length pc) c.parts _ (hp.keepNon kB) h32 (by omega))
  have c2 := ex_2 xa
  have c3 := ex_3 xa
  have c4 := ex_4 xa
  have c5 := ex_5 xa
  have c6 := ex_6 xa
  have KB := Lib.hid kB
  have RB : Hid (((w.alloc CuZ).alloc (CuB c (.slice pa c.parts.length pc))).heap[w.heap.size]? = some (CuB ⟨0, 0, 0, 0, []⟩ (.slice none 0 0))) := Lib.hid (nonAt ((Keep.refl Non _).alloc _) (cuz_new w))
  have NB : Hid (((w.alloc CuZ).alloc (CuB c (.slice pa c.parts.length pc))).heap[w.heap.size + 1]? = some (CuB c (.slice pa c.parts.length pc))) := Lib.hid (alloc2_at w CuZ (CuB c (.slice pa c.parts.length pc)))
  have ZB : Hid (((w.alloc CuZ).alloc (CuB c (.slice pa c.parts.length pc))).heap.size = w.heap.size + 2) := Lib.hid (by simp)
  have n4 := cu_4 NB.out
  clear kA xa kB hy hx hp
  dsimp only [CuZ, CuB] at CL c2 c3 c4 c5 c6 n4
  unfold cuV
  go_enter Tryz.func15, Tryz.ntmps15
  go_wp2_with (go_at_call 38; ((with_reducible refine CL.out.mono ?_); rintro e w1 ⟨v1, rfl, k1, o1⟩); obtain ⟨a1, c1, rfl, _, _⟩ := ownsRow_form o1; have nb := nonAt k1 NB.out; have rb := nonAt ((Keep.refl Non w1).mono (fun _ _ e => e)) (nonAt k1 RB.out); have nb4 := cu_set4 nb (.slice a1 c.parts.length c1); have rbs : (w1.setCell ⟨w.heap.size + 1, 4, none⟩ (.slice a1 c.parts.length c1)).heap[w.heap.size]? = some (CuB ⟨0, 0, 0, 0, []⟩ (.slice none 0 0)) := ((Keep.refl (One (w.heap.size + 1)) w1).setOne _ _).at rb (fun e => by have e' : w.heap.size = w.heap.size + 1 := e; omega); have K1 := Lib.hid (KB.out.trans1 k1); have O1 := Lib.hid o1; have RBS := Lib.hid rbs; have f4 := cu_f nb 4; have g4 := cu_4 nb; have m0 := cu_0 nb4; have m1 := cu_1 nb4; have m2 := cu_2 nb4; have m3 := cu_3 nb4; have m4 := cu_4 nb4; have i0' := cu_0 rbs; have i1' := cu_1 rbs; have i2' := cu_2 rbs; have i3' := cu_3 rbs; have i4' := cu_4 rbs; have j0' := cu_f rbs 0; have j1' := cu_f rbs 1; have j2' := cu_f rbs 2; have j3' := cu_f rbs 3; have j4' := cu_f rbs 4; clear k1 o1 nb rb nb4 rbs)
  obtain ⟨r0, r1, r2, r3, r4, kf⟩ := cu_five RBS.out (.int .i64 c.lo) (.int .i64 c.next) (.int .i64 c.hi) (.int .i64 c.trim) (.slice a1 c.parts.length c1) _ rfl
  refine bodyPost_ret (v := .agg #[.int .i64 c.lo, .int .i64 c.next, .int .i64 c.hi, .int .i64 c.trim, .slice a1 c.parts.length c1]) (by simp [results, Tryz.results15, go_sem, r0, r1, r2, r3, r4]) rfl ?_
  have zb := ZB.out
  dsimp only [CuZ, CuB] at zb
  have ks : Keep (One (w.heap.size + 1)) w1 (w1.setCell ⟨w.heap.size + 1, 4, none⟩ (.slice a1 c.parts.length c1)) := (Keep.refl _ _).setOne _ _
  have hlt : ∀ g, (Value.slice a1 c.parts.length c1).ownBlock = some g → w.heap.size + 2 ≤ g := fun g e => by have := (O1.out.lt g e).1; omega
  refine ⟨_, rfl, (K1.out.trans ks (fun _ _ e => e) (fun g hg e => by have e' : g = w.heap.size + 1 := e; omega)).trans kf (fun _ _ e => e) (fun g hg e => by have e' : g = w.heap.size := e; omega), ownsRow_low (ownsRow_keep (ownsRow_keep O1.out ks (fun g e e2 => by have e' : g = w.heap.size + 1 := e2; have := hlt g e; omega)) kf (fun g e e2 => by have e' : g = w.heap.size := e2; have := hlt g e; omega)) (by omega)⟩
end Go.Proofs.YtobjlgfjfpmceaaGreatDoor
namespace Go.Proofs.YtobjlgfjfpmceaaGreatDoor
open Go.RowKit
def RsB (b lb q N B M : Nat) (iv : Value) (t : Nat) (ov : Bool) : Obj := .cells #[.pointer (some ⟨b, 0, none⟩), .pointer (some ⟨lb, 0, none⟩), .pointer (some ⟨q, 0, none⟩), .int .i64 N, .int .i64 B, .int .i64 M, iv, .int .i64 t, .bool ov] 170 (0, 0)
section
variable {w : World} {x b lb q N B M t : Nat} {iv : Value} {ov : Bool}
theorem rs_0 (h : w.heap[x]? = some (RsB b lb q N B M iv t ov)) : w.cell? ⟨x, 0, none⟩ = some (.pointer (some ⟨b, 0, none⟩)) := by simp [World.cell?, h, RsB]
theorem rs_1 (h : w.heap[x]? = some (RsB b lb q N B M iv t ov)) : w.cell? ⟨x, 1, none⟩ = some (.pointer (some ⟨lb, 0, none⟩)) := by simp [World.cell?, h, RsB]
theorem rs_2 (h : w.heap[x]? = some (RsB b lb q N B M iv t ov)) : w.cell? ⟨x, 2, none⟩ = some (.pointer (some ⟨q, 0, none⟩)) := by simp [World.cell?, h, RsB]
theorem rs_3 (h : w.heap[x]? = some (RsB b lb q N B M iv t ov)) : w.cell? ⟨x, 3, none⟩ = some (.int .i64 N) := by simp [World.cell?, h, RsB]
theorem rs_4 (h : w.heap[x]? = some (RsB b lb q N B M iv t ov)) : w.cell? ⟨x, 4, none⟩ = some (.int .i64 B) := by simp [World.cell?, h, RsB]
theorem rs_5 (h : w.heap[x]? = some (RsB b lb q N B M iv t ov)) : w.cell? ⟨x, 5, none⟩ = some (.int .i64 M) := by simp [World.cell?, h, RsB]
theorem rs_6 (h : w.heap[x]? = some (RsB b lb q N B M iv t ov)) : w.cell? ⟨x, 6, none⟩ = some iv := by simp [World.cell?, h, RsB]
theorem rs_7 (h : w.heap[x]? = some (RsB b lb q N B M iv t ov)) : w.cell? ⟨x, 7, none⟩ = some (.int .i64 t) := by simp [World.cell?, h, RsB]
theorem rs_8 (h : w.heap[x]? = some (RsB b lb q N B M iv t ov)) : w.cell? ⟨x, 8, none⟩ = some (.bool ov) := by simp [World.cell?, h, RsB]
theorem rs_f (h : w.heap[x]? = some (RsB b lb q N B M iv t ov)) (i : Nat) : w.frozen? ⟨x, i, none⟩ = false := by simp [World.frozen?, h, RsB]
theorem rs_set7 (h : w.heap[x]? = some (RsB b lb q N B M iv t ov)) (n : Nat) : (w.setCell ⟨x, 7, none⟩ (.int .i64 n)).heap[x]? = some (RsB b lb q N B M iv n ov) := blk_set h 7 _
theorem rs_set8 (h : w.heap[x]? = some (RsB b lb q N B M iv t ov)) (k : Bool) : (w.setCell ⟨x, 8, none⟩ (.bool k)).heap[x]? = some (RsB b lb q N B M iv t k) := blk_set h 8 _
end
theorem setNon4 {w w1 w2 : World} (k : Keep Non w w1) (k4 : Keep (One w.heap.size) w1 w2) : Keep Non w w2 := k.trans k4 (fun _ _ e => e) (fun g hg e => by have e' : g = w.heap.size := e; omega)
def ZB : Obj := .cells #[.int .i64 0, .int .i64 0, .int .i64 0, .int .i64 0] 235 (0, 0)
theorem zb_new (w : World) : (w.alloc ZB).heap[w.heap.size]? = some (ItB 0 0 0 0) := blk_new w ZB
theorem rstep_item (x b lb q N B M t n p f u c : Nat) (a : Addr) (Q : Value → World → Prop) (w : World) (hx : w.heap[x]? = some (RsB b lb q N B M (.slice (some a) 1 c) t false)) (hi : ItAt w a n p f u) (hlt : t < u)
    (hp : ∀ W, Keep Non w W → Calls Tryz.prog 152 #[.pointer (some ⟨x, 0, none⟩), itV n p f u] W fun e w' => ∃ v, e = .returned v ∧ Q v w') :
    Calls Tryz.prog 93 #[.pointer (some ⟨x, 0, none⟩)] w fun e w' => ∃ v, e = .returned (.tuple #[.bool false, v]) ∧ Q v w' := by
  have XB : Hid (∀ W, Keep Non w W → W.cell? ⟨x, 3, none⟩ = some (.int .i64 N) ∧ W.cell? ⟨x, 4, none⟩ = some (.int .i64 B) ∧ W.cell? ⟨x, 5, none⟩ = some (.int .i64 M) ∧ W.cell? ⟨x, 6, none⟩ = some (.slice (some a) 1 c) ∧ W.cell? ⟨x, 7, none⟩ = some (.int .i64 t)) := Lib.hid (fun W k => by have h := atNon k hx; exact ⟨rs_3 h, rs_4 h, rs_5 h, rs_6 h, rs_7 h⟩)
  have AF := Lib.hid (fun W (k : Keep Non w W) => by have h := pafter_one N B M n p f u t c a W (hi.keep k (fun e => e)); rw [if_pos hlt, decide_eq_true hlt] at h; exact h)
  have HP := Lib.hid hp
  have c8 := rs_8 hx
  obtain ⟨y3, y4, y5, y6, y7⟩ := XB.out w (Keep.refl _ _)
  obtain ⟨z3, z4, z5, z6, z7⟩ := XB.out (w.alloc ZB) ((Keep.refl _ _).alloc _)
  have K0 : Hid (Keep Non w (w.alloc ZB)) := Lib.hid ((Keep.refl _ _).alloc _)
  have KD : Hid (Keep Non w w.drew) := Lib.hid (Keep.refl Non w).drew
  have AFA := Lib.hid (AF.out (w.alloc ZB).drew K0.out.drew)
  have AFB := Lib.hid (AF.out w.drew KD.out)
  have AB := Lib.hid (zb_new w)
  clear hx hi hp AF
  dsimp only [ZB] at z3 z4 z5 z6 z7 AFA
  unfold itV at *
  go_enter Tryz.func93, Tryz.ntmps93
  go_wp2_with fail
  go_region_law (go_simp; go_at_call 151; first
    | ((with_reducible refine AFA.out.mono ?_); rintro e w1 ⟨rfl, k1⟩; obtain ⟨b0, b1, b2, b3, f0, f1, f2, f3, r4, k4⟩ := it_four (atNon (w := (w.alloc ZB).drew) k1 AB.out) n p f u; have E4 := Lib.hid (And.intro r4 (setNon4 (K0.out.drew.trans1 k1) k4)); clear r4 k4 k1)
    | ((with_reducible refine AFB.out.mono ?_); rintro e w1 ⟨rfl, k1⟩; have E4 := Lib.hid (And.intro (blk_new w1 (ItB n p f u)) ((KD.out.trans1 k1).alloc (ItB n p f u))); clear k1))
  all_goals go_wp2_with (go_at_call 152; refine (HP.out _ E4.out.2).mono ?_; rintro e w2 ⟨v, rfl, q⟩)
  all_goals
    go_ret2
    exact ⟨v, rfl, q⟩
theorem rstep_end (x b lb q N B M t n p f u c : Nat) (a : Addr) (Q : Value → World → Prop) (w : World) (hx : w.heap[x]? = some (RsB b lb q N B M (.slice (some a) 1 c) t false)) (hi : ItAt w a n p f u) (hlt : ¬ t < u)
    (hp : ∀ W, Keep Non w W → Calls Tryz.prog 153 #[.pointer (some ⟨x, 0, none⟩)] W fun e w' => e = .returned .nilIface ∧ Q .nilIface w') :
    Calls Tryz.prog 93 #[.pointer (some ⟨x, 0, none⟩)] w fun e w' => e = .returned (.tuple #[.bool true, .nilIface]) ∧ Q .nilIface w' := by
  have XB : Hid (∀ W, Keep Non w W → W.cell? ⟨x, 3, none⟩ = some (.int .i64 N) ∧ W.cell? ⟨x, 4, none⟩ = some (.int .i64 B) ∧ W.cell? ⟨x, 5, none⟩ = some (.int .i64 M) ∧ W.cell? ⟨x, 6, none⟩ = some (.slice (some a) 1 c) ∧ W.cell? ⟨x, 7, none⟩ = some (.int .i64 t)) := Lib.hid (fun W k => by have h := atNon k hx; exact ⟨rs_3 h, rs_4 h, rs_5 h, rs_6 h, rs_7 h⟩)
  have AF := Lib.hid (fun W (k : Keep Non w W) => by have h := pafter_one N B M n p f u t c a W (hi.keep k (fun e => e)); rw [if_neg hlt, decide_eq_false hlt] at h; exact h)
  have HP := Lib.hid hp
  have c8 := rs_8 hx
  obtain ⟨y3, y4, y5, y6, y7⟩ := XB.out w (Keep.refl _ _)
  obtain ⟨z3, z4, z5, z6, z7⟩ := XB.out (w.alloc ZB) ((Keep.refl _ _).alloc _)
  have K0 : Hid (Keep Non w (w.alloc ZB)) := Lib.hid ((Keep.refl _ _).alloc _)
  have KD : Hid (Keep Non w w.drew) := Lib.hid (Keep.refl Non w).drew
  have AFA := Lib.hid (AF.out (w.alloc ZB).drew K0.out.drew)
  have AFB := Lib.hid (AF.out w.drew KD.out)
  have AB := Lib.hid (zb_new w)
  clear hx hi hp AF
  dsimp only [ZB] at z3 z4 z5 z6 z7 AFA
  unfold itV at *
  go_enter Tryz.func93, Tryz.ntmps93
  go_wp2_with fail
  go_region_law (go_simp; go_at_call 151; first
    | ((with_reducible refine AFA.out.mono ?_); rintro e w1 ⟨rfl, k1⟩; obtain ⟨b0, b1, b2, b3, f0, f1, f2, f3, r4, k4⟩ := it_four (atNon (w := (w.alloc ZB).drew) k1 AB.out) 0 0 0 0; have E4 := Lib.hid (And.intro r4 (setNon4 (K0.out.drew.trans1 k1) k4)); clear r4 k4 k1)
    | ((with_reducible refine AFB.out.mono ?_); rintro e w1 ⟨rfl, k1⟩; have E4 := Lib.hid (And.intro (zb_new w1) ((KD.out.trans1 k1).alloc ZB)); clear k1))
  all_goals go_wp2_with (go_at_call 153; refine (HP.out _ E4.out.2).mono ?_; rintro e w2 ⟨rfl, q⟩)
  all_goals
    go_ret2
    exact ⟨rfl, q⟩
end Go.Proofs.YtobjlgfjfpmceaaGreatDoor
namespace Go.Proofs.YtobjlgfjfpmceaaGreatDoor
open Go.RowKit Go.Maps
section
attribute [local go_sem ↓] hV81 hV101 hV83 hW81 hW101 hW83 hB101 hB83
theorem mark_enter (args : Array Value) (w : World) : (callFunc 202 args).run Tryz.prog w = .ok (.enter 202 args) w := by
  kernel_rfl
theorem pmark1_ok (m : Mf) (pa : Option Addr) (pn pc g t : Nat) (w : World) (h : w.heap[g]? = some (NB t)) (ht : t ≤ m.hi) :
    Calls Tryz.prog 202 #[mfV m (.slice pa pn pc), .pointer (some ⟨g, 0, none⟩)] w fun e w' => e = .returned (.bool true) ∧ Keep Non w w' := by
  have kA : Keep Non w (w.alloc (MfB m (.slice pa pn pc))) := (Keep.refl _ _).alloc _
  have c0 := nb_0 (atNon kA h)
  have c2 := mf_2 (blk_new w (MfB m (.slice pa pn pc)))
  have ht' : (t : Int) ≤ (m.hi : Int) := by omega
  have KA := Lib.hid kA
  clear h kA
  dsimp only [MfB] at c0 c2
  unfold mfV
  go_enter Tryz.func202, Tryz.ntmps202
  go_wp2_with fail
  go_ret
  exact ⟨by simp, KA.out⟩
theorem midx_one (T : Nat → Prop) (v : Value) (m : Mf) (g t : Nat) (w : World) (h : w.heap[g]? = some (NB t)) (hm : MsAt T w v [m]) (ht : t ≤ m.hi) :
    Calls Tryz.prog 201 #[v, .func (.func 202) #[] #[.pointer (some ⟨g, 0, none⟩)]] w fun e w' => e = .returned (.int .i64 0) ∧ Keep Non w w' := by
  obtain ⟨a, c, rfl, hc, ha, hx⟩ := hm
  obtain ⟨h32, g1, off, pa, pc, rfl, hp, hT, hcell⟩ := hx 0 m rfl
  have hld := load83 w g1 off m (.slice pa m.parts.length pc) h32 (fun i u hu => by have := hcell i u hu; simpa using this)
  have MK := Lib.hid (pmark1_ok m pa m.parts.length pc g t w h ht)
  have en := mark_enter
  clear h hx hcell hp hT ha
  simp only [List.length_singleton]
  go_enter Tryz.func201, Tryz.ntmps201
  go_wp2_with fail
  refine wp_loop_rounds 1 ?_
  rw [rounds_succ]
  go_wp2_with (go_at_call 202; refine MK.out.mono ?_; rintro e w1 ⟨rfl, k1⟩)
  go_ret
  exact ⟨rfl, k1⟩
theorem pmark_one (T : Nat → Prop) (v : Value) (m : Mf) (w : World) (hm : MsAt T w v [m]) (hh : m.hi = 1) (htr : m.trim = 0) :
    Calls Tryz.prog 150 #[v, .int .i64 1] w fun e w' => e = .returned (.int .i64 0) ∧ Keep Non w w' := by
  have kA : Keep Non w (w.alloc (NB 1)) := (Keep.refl _ _).alloc _
  have IX := Lib.hid (midx_one T v m w.heap.size 1 (w.alloc (NB 1)) (blk_new w (NB 1)) (hm.keepNon kA) (by omega))
  have HM := Lib.hid hm
  obtain ⟨a, c, rfl, hc, ha, hx⟩ := hm
  obtain ⟨h32, g1, off, pa, pc, rfl, hp, hT, hcell⟩ := hx 0 m rfl
  have CB : Hid (∀ W, Keep Non w W → W.cell? ⟨g1, off + 3, none⟩ = some (.int .i64 0)) := Lib.hid (fun W k => by
    have := hcell 3 (.int .i64 m.trim) rfl
    rw [htr] at this
    exact cell_keepS k (fun e => e) (by simpa using this))
  have NBK := Lib.hid (blk_new w (NB 1))
  have KA := Lib.hid kA
  clear hx hcell hp hT ha kA
  simp only [List.length_singleton] at IX ⊢
  dsimp only [NB] at IX
  go_enter Tryz.func150, Tryz.ntmps150
  go_wp2_with (go_at_call 201; ((with_reducible refine IX.out.mono ?_); rintro e w1 ⟨rfl, k1⟩); have n1 := nb_0 (atNon (w := w.alloc (NB 1)) k1 NBK.out); have c1 := CB.out w1 (KA.out.trans1 k1); have K1 := Lib.hid (KA.out.trans1 k1); clear k1)
  go_region_law (fail)
  all_goals go_wp2_with fail
  all_goals
    go_ret
    exact ⟨by first | rfl | simp, K1.out.drew⟩
end
theorem xresume_ok {F : Nat → Prop} {b lb q p : Nat} {X : Dk} {c : Cu} (w : World) (hb : w.heap[b]? = some (VtB q (.slice none 0 0))) (d : StoreAt F w q p X) (he : PErr X c) :
    Calls Tryz.prog 16 #[.pointer (some ⟨b, 0, none⟩), .pointer (some ⟨lb, 0, none⟩)] w fun e w' => ∃ x v', e = .returned (.tuple #[.pointer (some ⟨x, 0, none⟩), .nilIface]) ∧ Keep Non w w' ∧ w.heap.size ≤ x ∧ w'.heap[x]? = some (ExB b lb c v' false) ∧ w'.ownsRow w.heap.size 101 35 v' c.parts.length (ptsC c.parts) := by
  have LD := Lib.hid (xload_ok F b lb q p (.slice none 0 0) c X w hb d he.free.1 he.cur.1 he.cur.2 he.ok)
  have CH := Lib.hid (fun W (k : Keep Non w W) => vchain_nil b q none 0 W (nonAt k hb))
  have EN : Hid (∀ W, Calls Tryz.prog 13 #[.slice none 0 0] W fun e w' => e = .returned (.int .i64 0) ∧ Keep Non W w') := Lib.hid (fun W => cend_any Non (.slice none 0 0) [] W (MsAt.nil Non W) (by simp))
  have hlo : ((c.lo : Nat) : Int) = 0 := by rw [he.lo]; rfl
  have HLO := Lib.hid hlo
  have eq0 : ((c.lo : Int) != 0) = false := by rw [hlo]; rfl
  clear hb d he hlo
  unfold cuV at LD
  go_enter Tryz.func16, Tryz.ntmps16
  go_wp2_with (go_at_call 28; ((with_reducible refine LD.out.mono ?_); rintro e w1 ⟨v1, rfl, k1, o1⟩); obtain ⟨a1, c1, rfl, _, _⟩ := ownsRow_form o1; have K1 := Lib.hid k1; have O1 := Lib.hid o1; clear k1 o1)
  have k2 : Keep Non w1 (w1.alloc (CuB c (.slice a1 c.parts.length c1))) := (Keep.refl _ _).alloc _
  have b2 := blk_new w1 (CuB c (.slice a1 c.parts.length c1))
  have K2 := Lib.hid (K1.out.trans1 k2)
  have LF : Hid (∀ W, Keep Non (w1.alloc (CuB c (.slice a1 c.parts.length c1))) W → W.heap[w1.heap.size]? = some (CuB c (.slice a1 c.parts.length c1))) := Lib.hid (fun W k => nonAt k (blk_new w1 _))
  obtain ⟨W2, hW2⟩ : ∃ W2, W2 = w1.alloc (CuB c (.slice a1 c.parts.length c1)) := ⟨_, rfl⟩
  rw [← hW2] at K2 LF
  have O2 : Hid (W2.ownsRow w.heap.size 101 35 (.slice a1 c.parts.length c1) c.parts.length (ptsC c.parts)) := Lib.hid (by rw [hW2]; exact ownsRow_keep O1.out k2 (fun _ _ e => e))
  unfold CuB at hW2
  rw [← hW2]
  have CHW := Lib.hid (CH.out W2.drew K2.out.drew)
  have l0 := cu_0 (LF.out W2.drew (Keep.refl Non W2).drew)
  clear k2 b2 hW2 CH
  go_region_law (go_simp; first
    | (go_at_call 10; ((with_reducible refine CHW.out.mono ?_); rintro e w3 ⟨rfl, k3⟩); have K3 := Lib.hid ((Keep.refl Non W2).drew.trans1 k3); have l3 := cu_0 (LF.out w3 K3.out); clear k3)
    | (go_at_call 13; refine (EN.out _).mono ?_; rintro e w4 ⟨rfl, k4⟩; have K4 := Lib.hid (K3.out.trans1 k4); have l4 := cu_0 (LF.out w4 K4.out); clear k4))
  all_goals
    have b4 := LF.out w4 K4.out
    have y1 := cu_1 b4
    have y2 := cu_2 b4
    have y3 := cu_3 b4
    have y4 := cu_4 b4
    clear b4
    go_wp2_with fail
  all_goals
    go_ret2
    have k4 := K2.out.trans1 K4.out
    exact ⟨w4.heap.size, .slice a1 c.parts.length c1, rfl, k4.alloc _, k4.size, blk_new w4 _, ownsRow_keep (ownsRow_keep O2.out K4.out (fun _ _ e => e)) ((Keep.refl Non w4).alloc _) (fun _ _ e => e)⟩
end Go.Proofs.YtobjlgfjfpmceaaGreatDoor
