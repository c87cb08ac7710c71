/- The document's clocks (the reference), walked: they answer the same plain numbers. -/
import Derived.Test.YthhpgckbaciidaaClkLaw
import Derived.Deep.DeepCutAuto
namespace Go.Proofs.Ythhpgckbaciidaa
open Go.RowKit

/-- The document's clocks in memory. -/
def MkB (a c bd : Int) (f : Bool) : Obj := .cells #[.int .i64 a, .int .i64 c, .int .i64 bd, .bool f] 42 (0, 0)
section
variable {w : World} {b : Nat} {a c bd : Int} {u : Bool}
theorem mk0 (h : w.heap[b]? = some (MkB a c bd u)) : w.cell? ⟨b, 0, none⟩ = some (.int .i64 a) := by simp [World.cell?, h, MkB]
theorem mk1 (h : w.heap[b]? = some (MkB a c bd u)) : w.cell? ⟨b, 1, none⟩ = some (.int .i64 c) := by simp [World.cell?, h, MkB]
theorem mk2 (h : w.heap[b]? = some (MkB a c bd u)) : w.cell? ⟨b, 2, none⟩ = some (.int .i64 bd) := by simp [World.cell?, h, MkB]
theorem mk3 (h : w.heap[b]? = some (MkB a c bd u)) : w.cell? ⟨b, 3, none⟩ = some (.bool u) := by simp [World.cell?, h, MkB]
theorem mkf (h : w.heap[b]? = some (MkB a c bd u)) (i : Nat) : w.frozen? ⟨b, i, none⟩ = false := by simp [World.frozen?, h, MkB]
end

set_option maxHeartbeats 400000 in
theorem rapart_any (a c bd : Int) (f : Bool) (w : World) (hi : InB a c) :
    Calls Try.prog 19 #[.agg #[.int .i64 a, .int .i64 c, .int .i64 bd, .bool f]] w fun e w' => e = .returned (.int .i64 (apartI a c)) ∧ w' = w.alloc (MkB a c bd f) := by
  obtain ⟨ha0, ha1, hc0, hc1⟩ := hi
  by_cases h : c < a
  · go_enter Try.func19, Try.ntmps19
    go_wp2
    go_ret
    exact ⟨ret_int (by unfold apartI; rw [if_pos h]), rfl⟩
  · go_enter Try.func19, Try.ntmps19
    go_wp2
    go_ret
    exact ⟨ret_int (by unfold apartI; rw [if_neg (by omega)]), rfl⟩

set_option maxHeartbeats 400000 in
theorem rnew_good (bd : Int) (w : World) (h0 : 0 ≤ bd) (h1 : bd ≤ 1099511627776) :
    Calls Try.prog 15 #[.int .i64 bd] w fun e w' => e = .returned (.tuple #[.agg #[.int .i64 0, .int .i64 0, .int .i64 bd, .bool true], .int .i64 0]) ∧ Keep Non w w' := by
  go_enter Try.func15, Try.ntmps15
  go_wp2
  go_returns
  exact ⟨rfl, (Keep.refl _ _).alloc _⟩

set_option maxHeartbeats 400000 in
theorem rnew_low (bd : Int) (w : World) (h0 : bd < 0) :
    Calls Try.prog 15 #[.int .i64 bd] w fun e w' => e = .returned (.tuple #[.agg #[.int .i64 0, .int .i64 0, .int .i64 0, .bool false], .int .i64 1]) ∧ Keep Non w w' := by
  go_enter Try.func15, Try.ntmps15
  go_wp2
  go_returns
  exact ⟨rfl, (Keep.refl _ _).alloc _⟩

set_option maxHeartbeats 400000 in
theorem rnew_high (bd : Int) (w : World) (h0 : 1099511627776 < bd) :
    Calls Try.prog 15 #[.int .i64 bd] w fun e w' => e = .returned (.tuple #[.agg #[.int .i64 0, .int .i64 0, .int .i64 0, .bool false], .int .i64 1]) ∧ Keep Non w w' := by
  have hn : ¬ bd < 0 := by omega
  go_enter Try.func15, Try.ntmps15
  go_wp2
  go_returns
  exact ⟨rfl, (Keep.refl _ _).alloc _⟩

theorem rnew_out (bd : Int) (w : World) (h : bd < 0 ∨ 1099511627776 < bd) :
    Calls Try.prog 15 #[.int .i64 bd] w fun e w' => e = .returned (.tuple #[.agg #[.int .i64 0, .int .i64 0, .int .i64 0, .bool false], .int .i64 1]) ∧ Keep Non w w' := by
  rcases h with h | h
  · exact rnew_low bd w h
  · exact rnew_high bd w h

set_option maxHeartbeats 800000 in
theorem ron_bad (a c bd : Int) (f : Bool) (x y : Int) (w : World) (hi : InB a c) (hx : x < 0 ∨ (0 ≤ x ∧ y < 0) ∨ (0 ≤ x ∧ 0 ≤ y ∧ 1099511627776 - a < x) ∨ (0 ≤ x ∧ 0 ≤ y ∧ x ≤ 1099511627776 - a ∧ 1099511627776 - c < y)) :
    Calls Try.prog 17 #[.agg #[.int .i64 a, .int .i64 c, .int .i64 bd, .bool f], .int .i64 x, .int .i64 y] w fun e w' => e = .returned (.tuple #[.agg #[.int .i64 a, .int .i64 c, .int .i64 bd, .bool f], .int .i64 1]) ∧ Keep Non w w' := by
  obtain ⟨ha0, ha1, hc0, hc1⟩ := hi
  rcases hx with h | ⟨h1, h⟩ | ⟨h1, h2, h⟩ | ⟨h1, h2, h3, h⟩
  all_goals
    go_enter Try.func17, Try.ntmps17
    go_wp2
    go_returns
    exact ⟨rfl, ((Keep.refl _ _).alloc _).alloc _⟩

set_option maxHeartbeats 1600000 in
theorem ron_good (a c bd : Int) (f : Bool) (x y : Int) (w : World) (hi : InB a c) (h0 : 0 ≤ x) (h1 : 0 ≤ y) (h2 : x ≤ 1099511627776 - a) (h3 : y ≤ 1099511627776 - c) :
    Calls Try.prog 17 #[.agg #[.int .i64 a, .int .i64 c, .int .i64 bd, .bool f], .int .i64 x, .int .i64 y] w fun e w' => e = .returned (.tuple #[.agg #[.int .i64 (a + x), .int .i64 (c + y), .int .i64 bd, .bool (f && decide (apartI (a + x) (c + y) ≤ bd))], .int .i64 0]) ∧ Keep Non w w' := by
  obtain ⟨ha0, ha1, hc0, hc1⟩ := hi
  have hi2 : InB (a + x) (c + y) := ⟨by omega, by omega, by omega, by omega⟩
  cases f
  · go_enter Try.func17, Try.ntmps17
    go_wp2
    go_region
    all_goals go_wp2
    all_goals go_returns
    all_goals exact ⟨rfl, by (repeat' (first | with_reducible exact Keep.refl _ _ | with_reducible refine Keep.drew ?_ | with_reducible refine Keep.drewN ?_ _ | with_reducible refine Keep.alloc ?_ _))⟩
  · go_enter Try.func17, Try.ntmps17
    go_wp2
    go_region_with (go_at_call 19; go_must (refine (rapart_any (a + x) (c + y) bd true _ hi2).mono ?_); rintro e w' ⟨rfl, rfl⟩)
    all_goals go_wp2
    all_goals go_returns
    all_goals exact ⟨rfl, by (repeat' (first | with_reducible exact Keep.refl _ _ | with_reducible refine Keep.drew ?_ | with_reducible refine Keep.drewN ?_ _ | with_reducible refine Keep.alloc ?_ _))⟩

theorem ron_any (a c bd : Int) (u : Bool) (x y : Int) (w : World) (hi : InB a c) :
    Calls Try.prog 17 #[.agg #[.int .i64 a, .int .i64 c, .int .i64 bd, .bool (!u)], .int .i64 x, .int .i64 y] w fun e w' => e = .returned (.tuple #[.agg #[.int .i64 (onA a c x y), .int .i64 (onC a c x y), .int .i64 bd, .bool (!onU a c bd u x y)], .int .i64 (onE a c x y)]) ∧ Keep Non w w' := by
  cases hk : onOk a c x y
  · refine (ron_bad a c bd (!u) x y w hi (by have := onOk_false hk; omega)).mono ?_
    rintro e w' ⟨rfl, hw⟩
    simp only [onE, onA, onC, onU, hk]
    exact ⟨rfl, hw⟩
  · obtain ⟨h0, h1, h2, h3⟩ := onOk_true hk
    refine (ron_good a c bd (!u) x y w hi h0 h1 h2 h3).mono ?_
    rintro e w' ⟨rfl, hw⟩
    have e1 : (!u && decide (apartI (a + x) (c + y) ≤ bd)) = !(u || decide (bd < apartI (a + x) (c + y))) := by
      rw [Bool.not_or]
      congr 1
      rw [← decide_not]
      exact decide_eq_decide.2 (by omega)
    rw [e1]
    simp only [onE, onA, onC, onU, hk]
    exact ⟨rfl, hw⟩

set_option maxHeartbeats 400000 in
theorem rtick_one (a c bd : Int) (u : Bool) (x : Int) (w : World) (hi : InB a c) :
    Calls Try.prog 18 #[.agg #[.int .i64 a, .int .i64 c, .int .i64 bd, .bool (!u)], .int .i64 1, .int .i64 x] w fun e w' => e = .returned (.tuple #[.agg #[.int .i64 (onA a c x 0), .int .i64 (onC a c x 0), .int .i64 bd, .bool (!onU a c bd u x 0)], .int .i64 (onE a c x 0)]) ∧ Keep Non w w' := by
  go_enter Try.func18, Try.ntmps18
  go_wp2_with fail
  refine (ron_any a c bd u x 0 _ hi).mono ?_
  rintro e w' ⟨rfl, hw⟩
  have e1 : (w.alloc (MkB a c bd (!u))).heap.size = w.heap.size + 1 := by simp
  have hb : w'.heap[w.heap.size + 1]? = some (MkB 0 0 0 false) := by rw [← e1]; exact hw.at (blk_new _ _) (fun e => e)
  have m0 := mk0 hb
  have m1 := mk1 hb
  have m2 := mk2 hb
  have m3 := mk3 hb
  have f0 := mkf hb 0
  have f1 := mkf hb 1
  have f2 := mkf hb 2
  have f3 := mkf hb 3
  have k0 : (w'.setCell ⟨w.heap.size + 1, 0, none⟩ (.int .i64 (onA a c x 0))).cell? ⟨w.heap.size + 1, 0, none⟩ = some (.int .i64 (onA a c x 0)) := mk0 (by exact (blk_set hb 0 (.int .i64 (onA a c x 0))))
  have k1 : ((w'.setCell ⟨w.heap.size + 1, 0, none⟩ (.int .i64 (onA a c x 0))).setCell ⟨w.heap.size + 1, 1, none⟩ (.int .i64 (onC a c x 0))).cell? ⟨w.heap.size + 1, 1, none⟩ = some (.int .i64 (onC a c x 0)) := mk1 (by exact (blk_set (blk_set hb 0 (.int .i64 (onA a c x 0))) 1 (.int .i64 (onC a c x 0))))
  have k2 : (((w'.setCell ⟨w.heap.size + 1, 0, none⟩ (.int .i64 (onA a c x 0))).setCell ⟨w.heap.size + 1, 1, none⟩ (.int .i64 (onC a c x 0))).setCell ⟨w.heap.size + 1, 2, none⟩ (.int .i64 bd)).cell? ⟨w.heap.size + 1, 2, none⟩ = some (.int .i64 bd) := mk2 (by exact (blk_set (blk_set (blk_set hb 0 (.int .i64 (onA a c x 0))) 1 (.int .i64 (onC a c x 0))) 2 (.int .i64 bd)))
  have k3 : ((((w'.setCell ⟨w.heap.size + 1, 0, none⟩ (.int .i64 (onA a c x 0))).setCell ⟨w.heap.size + 1, 1, none⟩ (.int .i64 (onC a c x 0))).setCell ⟨w.heap.size + 1, 2, none⟩ (.int .i64 bd)).setCell ⟨w.heap.size + 1, 3, none⟩ (.bool (!onU a c bd u x 0))).cell? ⟨w.heap.size + 1, 3, none⟩ = some (.bool (!onU a c bd u x 0)) := mk3 (by exact (blk_set (blk_set (blk_set (blk_set hb 0 (.int .i64 (onA a c x 0))) 1 (.int .i64 (onC a c x 0))) 2 (.int .i64 bd)) 3 (.bool (!onU a c bd u x 0))))
  clear hb e1
  go_wp2_with fail
  refine bodyPost_ret (v := .tuple #[.agg #[.int .i64 (onA a c x 0), .int .i64 (onC a c x 0), .int .i64 bd, .bool (!onU a c bd u x 0)], .int .i64 (onE a c x 0)]) (by simp [results, Try.results18, go_sem, k0, k1, k2, k3]) rfl ?_
  refine ⟨rfl, Keep.trans (((Keep.refl Non w).alloc (MkB a c bd (!u))).alloc (MkB 0 0 0 false)) ?_ (fun _ _ h => h) (T := One (w.heap.size + 1)) (fun i hi h => by unfold One at h; omega)⟩
  exact ((((hw.ofNon).setOne _ _).setOne _ _).setOne _ _).setOne _ _

set_option maxHeartbeats 400000 in
theorem rtick_two (a c bd : Int) (u : Bool) (x : Int) (w : World) (hi : InB a c) :
    Calls Try.prog 18 #[.agg #[.int .i64 a, .int .i64 c, .int .i64 bd, .bool (!u)], .int .i64 2, .int .i64 x] w fun e w' => e = .returned (.tuple #[.agg #[.int .i64 (onA a c 0 x), .int .i64 (onC a c 0 x), .int .i64 bd, .bool (!onU a c bd u 0 x)], .int .i64 (onE a c 0 x)]) ∧ Keep Non w w' := by
  go_enter Try.func18, Try.ntmps18
  go_wp2_with fail
  refine (ron_any a c bd u 0 x _ hi).mono ?_
  rintro e w' ⟨rfl, hw⟩
  have e1 : (w.alloc (MkB a c bd (!u))).heap.size = w.heap.size + 1 := by simp
  have hb : w'.heap[w.heap.size + 1]? = some (MkB 0 0 0 false) := by rw [← e1]; exact hw.at (blk_new _ _) (fun e => e)
  have m0 := mk0 hb
  have m1 := mk1 hb
  have m2 := mk2 hb
  have m3 := mk3 hb
  have f0 := mkf hb 0
  have f1 := mkf hb 1
  have f2 := mkf hb 2
  have f3 := mkf hb 3
  have k0 : (w'.setCell ⟨w.heap.size + 1, 0, none⟩ (.int .i64 (onA a c 0 x))).cell? ⟨w.heap.size + 1, 0, none⟩ = some (.int .i64 (onA a c 0 x)) := mk0 (by exact (blk_set hb 0 (.int .i64 (onA a c 0 x))))
  have k1 : ((w'.setCell ⟨w.heap.size + 1, 0, none⟩ (.int .i64 (onA a c 0 x))).setCell ⟨w.heap.size + 1, 1, none⟩ (.int .i64 (onC a c 0 x))).cell? ⟨w.heap.size + 1, 1, none⟩ = some (.int .i64 (onC a c 0 x)) := mk1 (by exact (blk_set (blk_set hb 0 (.int .i64 (onA a c 0 x))) 1 (.int .i64 (onC a c 0 x))))
  have k2 : (((w'.setCell ⟨w.heap.size + 1, 0, none⟩ (.int .i64 (onA a c 0 x))).setCell ⟨w.heap.size + 1, 1, none⟩ (.int .i64 (onC a c 0 x))).setCell ⟨w.heap.size + 1, 2, none⟩ (.int .i64 bd)).cell? ⟨w.heap.size + 1, 2, none⟩ = some (.int .i64 bd) := mk2 (by exact (blk_set (blk_set (blk_set hb 0 (.int .i64 (onA a c 0 x))) 1 (.int .i64 (onC a c 0 x))) 2 (.int .i64 bd)))
  have k3 : ((((w'.setCell ⟨w.heap.size + 1, 0, none⟩ (.int .i64 (onA a c 0 x))).setCell ⟨w.heap.size + 1, 1, none⟩ (.int .i64 (onC a c 0 x))).setCell ⟨w.heap.size + 1, 2, none⟩ (.int .i64 bd)).setCell ⟨w.heap.size + 1, 3, none⟩ (.bool (!onU a c bd u 0 x))).cell? ⟨w.heap.size + 1, 3, none⟩ = some (.bool (!onU a c bd u 0 x)) := mk3 (by exact (blk_set (blk_set (blk_set (blk_set hb 0 (.int .i64 (onA a c 0 x))) 1 (.int .i64 (onC a c 0 x))) 2 (.int .i64 bd)) 3 (.bool (!onU a c bd u 0 x))))
  clear hb e1
  go_wp2_with fail
  refine bodyPost_ret (v := .tuple #[.agg #[.int .i64 (onA a c 0 x), .int .i64 (onC a c 0 x), .int .i64 bd, .bool (!onU a c bd u 0 x)], .int .i64 (onE a c 0 x)]) (by simp [results, Try.results18, go_sem, k0, k1, k2, k3]) rfl ?_
  refine ⟨rfl, Keep.trans (((Keep.refl Non w).alloc (MkB a c bd (!u))).alloc (MkB 0 0 0 false)) ?_ (fun _ _ h => h) (T := One (w.heap.size + 1)) (fun i hi h => by unfold One at h; omega)⟩
  exact ((((hw.ofNon).setOne _ _).setOne _ _).setOne _ _).setOne _ _

set_option maxHeartbeats 400000 in
theorem rtick_bad (a c bd : Int) (u : Bool) (i x : Int) (w : World) (h1 : (i == 1) = false) (h2 : (i == 2) = false) :
    Calls Try.prog 18 #[.agg #[.int .i64 a, .int .i64 c, .int .i64 bd, .bool (!u)], .int .i64 i, .int .i64 x] w fun e w' => e = .returned (.tuple #[.agg #[.int .i64 a, .int .i64 c, .int .i64 bd, .bool (!u)], .int .i64 1]) ∧ Keep Non w w' := by
  go_enter Try.func18, Try.ntmps18
  go_wp2_with fail
  go_returns
  exact ⟨rfl, ((Keep.refl Non w).alloc _).alloc _⟩

theorem rtick_any (a c bd : Int) (u : Bool) (i x : Int) (w : World) (hi : InB a c) :
    Calls Try.prog 18 #[.agg #[.int .i64 a, .int .i64 c, .int .i64 bd, .bool (!u)], .int .i64 i, .int .i64 x] w fun e w' => e = .returned (.tuple #[.agg #[.int .i64 (tickA a c i x), .int .i64 (tickC a c i x), .int .i64 bd, .bool (!tickU a c bd u i x)], .int .i64 (tickE a c i x)]) ∧ Keep Non w w' := by
  by_cases h1 : i = 1
  · subst h1
    exact rtick_one a c bd u x w hi
  · by_cases h2 : i = 2
    · subst h2
      exact rtick_two a c bd u x w hi
    · have hn : tkN i = false := by simp [tkN, h1, h2]
      refine (rtick_bad a c bd u i x w (by simpa using h1) (by simpa using h2)).mono ?_
      rintro e w' ⟨rfl, hk⟩
      simp only [tickE, tickA, tickC, tickU, hn]
      exact ⟨rfl, hk⟩

end Go.Proofs.Ythhpgckbaciidaa
