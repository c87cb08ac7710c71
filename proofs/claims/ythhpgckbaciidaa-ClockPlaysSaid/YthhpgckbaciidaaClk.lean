/- The clock's calls: what each does to the block of a clock, said once. -/
import Derived.Test.YthhpgckbaciidaaBase
import Derived.Test.YthhpgckbaciidaaClkPlain
import Derived.Handy
import Derived.Deep.RegionWith
import Derived.StillTailTactics
import Derived.Lib.Hide
import Derived.Deep.QuietTactic
import Derived.BigQuiet
import Derived.RegionTactic
import Derived.ChangeAlike
namespace Go.Proofs.Ythhpgckbaciidaa
open Go.RowKit

/-- A clock's block: what both clocks say, the bound, whether they are unfair. -/
def CkB (a c bd : Int) (u : Bool) : Obj := .cells #[.int .i64 a, .int .i64 c, .int .i64 bd, .bool u] 50 (0, 0)

section
variable {w : World} {b : Nat} {a c bd : Int} {u : Bool}
theorem ck0 (h : w.heap[b]? = some (CkB a c bd u)) : w.cell? ⟨b, 0, none⟩ = some (.int .i64 a) := by simp [World.cell?, h, CkB]
theorem ck1 (h : w.heap[b]? = some (CkB a c bd u)) : w.cell? ⟨b, 1, none⟩ = some (.int .i64 c) := by simp [World.cell?, h, CkB]
theorem ck2 (h : w.heap[b]? = some (CkB a c bd u)) : w.cell? ⟨b, 2, none⟩ = some (.int .i64 bd) := by simp [World.cell?, h, CkB]
theorem ck3 (h : w.heap[b]? = some (CkB a c bd u)) : w.cell? ⟨b, 3, none⟩ = some (.bool u) := by simp [World.cell?, h, CkB]
theorem ckf (h : w.heap[b]? = some (CkB a c bd u)) (i : Nat) : w.frozen? ⟨b, i, none⟩ = false := by simp [World.frozen?, h, CkB]
end

set_option maxHeartbeats 400000 in
theorem now_one (b : Nat) (a c bd : Int) (u : Bool) (w : World) (h : w.heap[b]? = some (CkB a c bd u)) :
    Calls Try.prog 9 #[.pointer (some ⟨b, 0, none⟩), .int .i64 1] w fun e w' => e = .returned (.tuple #[.int .i64 a, .nilIface]) ∧ w = w' := by
  have h0 := ck0 h
  clear h
  go_enter Try.func9, Try.ntmps9
  go_wp2
  go_ret2
  exact ⟨rfl, rfl⟩

set_option maxHeartbeats 400000 in
theorem now_two (b : Nat) (a c bd : Int) (u : Bool) (w : World) (h : w.heap[b]? = some (CkB a c bd u)) :
    Calls Try.prog 9 #[.pointer (some ⟨b, 0, none⟩), .int .i64 2] w fun e w' => e = .returned (.tuple #[.int .i64 c, .nilIface]) ∧ w = w' := by
  have h0 := ck1 h
  clear h
  go_enter Try.func9, Try.ntmps9
  go_wp2
  go_ret2
  exact ⟨rfl, rfl⟩

set_option maxHeartbeats 400000 in
theorem now_bad (b : Nat) (i : Int) (w : World) (h1 : (i == 1) = false) (h2 : (i == 2) = false) :
    Calls Try.prog 9 #[.pointer (some ⟨b, 0, none⟩), .int .i64 i] w fun e w' => e = .returned (.tuple #[.int .i64 0, .iface 40 (.int .i64 1)]) ∧ w = w' := by
  have h3 : (i != 1) = true := by simp_all
  have h4 : (i != 2) = true := by simp_all
  go_enter Try.func9, Try.ntmps9
  go_wp2
  go_ret2
  exact ⟨rfl, rfl⟩

set_option maxHeartbeats 400000 in
theorem now_nil (i : Int) (w : World) :
    Calls Try.prog 9 #[.pointer none, .int .i64 i] w fun e w' => e = .returned (.tuple #[.int .i64 0, .iface 40 (.int .i64 4)]) ∧ w = w' := by
  go_enter Try.func9, Try.ntmps9
  go_wp2
  go_ret2
  exact ⟨rfl, rfl⟩

set_option maxHeartbeats 400000 in
theorem new_good (bd : Int) (w : World) (h0 : 0 ≤ bd) (h1 : bd ≤ 1099511627776) :
    Calls Try.prog 7 #[.int .i64 bd] w fun e w' => e = .returned (.tuple #[.pointer (some ⟨w.heap.size, 0, none⟩), .nilIface]) ∧ w' = w.alloc (CkB 0 0 bd false) := by
  go_enter Try.func7, Try.ntmps7
  go_wp2
  go_ret2
  exact ⟨rfl, rfl⟩

set_option maxHeartbeats 400000 in
theorem new_low (bd : Int) (w : World) (h0 : bd < 0) :
    Calls Try.prog 7 #[.int .i64 bd] w fun e w' => e = .returned (.tuple #[.pointer none, .iface 40 (.int .i64 1)]) ∧ w = w' := by
  go_enter Try.func7, Try.ntmps7
  go_wp2
  go_ret2
  exact ⟨rfl, rfl⟩

set_option maxHeartbeats 400000 in
theorem new_high (bd : Int) (w : World) (h0 : 1099511627776 < bd) :
    Calls Try.prog 7 #[.int .i64 bd] w fun e w' => e = .returned (.tuple #[.pointer none, .iface 40 (.int .i64 1)]) ∧ w = w' := by
  have hn : ¬ bd < 0 := by omega
  go_enter Try.func7, Try.ntmps7
  go_wp2
  go_ret2
  exact ⟨rfl, rfl⟩

set_option maxHeartbeats 400000 in
theorem apart_any (b : Nat) (a c bd : Int) (u : Bool) (w : World) (h : w.heap[b]? = some (CkB a c bd u)) (ha0 : 0 ≤ a) (ha1 : a ≤ 1099511627776) (hc0 : 0 ≤ c) (hc1 : c ≤ 1099511627776) :
    Calls Try.prog 10 #[.pointer (some ⟨b, 0, none⟩)] w fun e w' => e = .returned (.int .i64 (apartI a c)) ∧ ∃ n, w' = w.drewN n := by
  have h0 := ck0 h
  have h1 := ck1 h
  clear h
  go_enter Try.func10, Try.ntmps10
  go_wp2
  go_quiet (fail)
  go_wp2
  all_goals
    go_ret
    exact ⟨ret_int (by unfold apartI; split <;> omega), nq, rfl⟩

set_option maxHeartbeats 400000 in
theorem apart_nil (w : World) :
    Calls Try.prog 10 #[.pointer none] w fun e w' => e = .returned (.int .i64 0) ∧ w = w' := by
  go_enter Try.func10, Try.ntmps10
  go_wp2
  go_ret
  exact ⟨rfl, rfl⟩

set_option maxHeartbeats 400000 in
theorem fair_any (b : Nat) (a c bd : Int) (u : Bool) (w : World) (h : w.heap[b]? = some (CkB a c bd u)) :
    Calls Try.prog 11 #[.pointer (some ⟨b, 0, none⟩)] w fun e w' => e = .returned (.bool (!u)) ∧ w = w' := by
  have h0 := ck2 h
  have h1 := ck3 h
  clear h
  go_enter Try.func11, Try.ntmps11
  go_wp2
  go_ret
  exact ⟨rfl, rfl⟩

set_option maxHeartbeats 400000 in
theorem fair_nil (w : World) :
    Calls Try.prog 11 #[.pointer none] w fun e w' => e = .returned (.bool false) ∧ w = w' := by
  go_enter Try.func11, Try.ntmps11
  go_wp2
  go_ret
  exact ⟨rfl, rfl⟩

set_option maxHeartbeats 400000 in
theorem bound_any (b : Nat) (a c bd : Int) (u : Bool) (w : World) (h : w.heap[b]? = some (CkB a c bd u)) :
    Calls Try.prog 13 #[.pointer (some ⟨b, 0, none⟩)] w fun e w' => e = .returned (.int .i64 bd) ∧ w = w' := by
  have h0 := ck2 h
  have h1 := ck3 h
  clear h
  go_enter Try.func13, Try.ntmps13
  go_wp2
  go_ret
  exact ⟨rfl, rfl⟩

set_option maxHeartbeats 400000 in
theorem bound_nil (w : World) :
    Calls Try.prog 13 #[.pointer none] w fun e w' => e = .returned (.int .i64 0) ∧ w = w' := by
  go_enter Try.func13, Try.ntmps13
  go_wp2
  go_ret
  exact ⟨rfl, rfl⟩


set_option maxHeartbeats 400000 in
theorem on_nil (x y : Int) (w : World) :
    Calls Try.prog 20 #[.pointer none, .agg #[.int .i64 x, .int .i64 y]] w fun e w' => e = .returned (.iface 40 (.int .i64 4)) ∧ Keep Non w w' := by
  go_enter Try.func20, Try.ntmps20
  go_wp2
  go_ret
  exact ⟨rfl, (Keep.refl _ _).alloc _⟩

theorem ix0 (x y : Int) (w : World) : (Instr.index 48 (.agg #[.int .i64 x, .int .i64 y]) (.int .i64 0)).run Try.prog w = .ok (.int .i64 x) w := by kernel_rfl
theorem ix1 (x y : Int) (w : World) : (Instr.index 48 (.agg #[.int .i64 x, .int .i64 y]) (.int .i64 1)).run Try.prog w = .ok (.int .i64 y) w := by kernel_rfl

set_option maxHeartbeats 800000 in
theorem on_bad (b : Nat) (a c bd : Int) (u : Bool) (x y : Int) (w : World) (h : w.heap[b]? = some (CkB a c bd u)) (ha0 : 0 ≤ a) (ha1 : a ≤ 1099511627776) (hc0 : 0 ≤ c) (hc1 : c ≤ 1099511627776)
    (hx : x < 0 ∨ y < 0 ∨ 1099511627776 - a < x ∨ 1099511627776 - c < y) :
    Calls Try.prog 20 #[.pointer (some ⟨b, 0, none⟩), .agg #[.int .i64 x, .int .i64 y]] w fun e w' => e = .returned (.iface 40 (.int .i64 1)) ∧ Keep Non w w' := by
  have h0 := ck0 h
  have h1 := ck1 h
  have hb := lt_of_block h
  have i0 := ix0 x y
  have i1 := ix1 x y
  clear h
  by_cases h3 : x < 0
  · clear hx
    go_enter Try.func20, Try.ntmps20
    go_wp2
    go_rounds 2
    go_ret
    exact ⟨rfl, (Keep.refl _ _).alloc _⟩
  · by_cases h4 : 1099511627776 - a < x
    · clear hx
      go_enter Try.func20, Try.ntmps20
      go_wp2
      go_rounds 2
      go_ret
      exact ⟨rfl, (Keep.refl _ _).alloc _⟩
    · by_cases h5 : y < 0
      · clear hx
        go_enter Try.func20, Try.ntmps20
        go_wp2
        go_rounds 2
        go_ret
        exact ⟨rfl, (Keep.refl _ _).alloc _⟩
      · have h6 : 1099511627776 - c < y := by omega
        clear hx
        go_enter Try.func20, Try.ntmps20
        go_wp2
        go_rounds 2
        go_ret
        exact ⟨rfl, (Keep.refl _ _).alloc _⟩

set_option maxHeartbeats 1600000 in
theorem on_good (b : Nat) (a c bd : Int) (u : Bool) (x y : Int) (w : World) (h : w.heap[b]? = some (CkB a c bd u)) (ha0 : 0 ≤ a) (ha1 : a ≤ 1099511627776) (hc0 : 0 ≤ c) (hc1 : c ≤ 1099511627776)
    (hx : 0 ≤ x) (hy : 0 ≤ y) (hx1 : x ≤ 1099511627776 - a) (hy1 : y ≤ 1099511627776 - c) :
    Calls Try.prog 20 #[.pointer (some ⟨b, 0, none⟩), .agg #[.int .i64 x, .int .i64 y]] w fun e w' => e = .returned .nilIface ∧ Keep (One b) w w' ∧ w'.heap[b]? = some (CkB (a + x) (c + y) bd (u || decide (bd < apartI (a + x) (c + y)))) := by
  have h0 := ck0 h
  have h1 := ck1 h
  have h2 := ck2 h
  have h3 := ck3 h
  have hf := ckf h
  have f0 := hf 0
  have f1 := hf 1
  have f3 := hf 3
  clear hf
  have hb := lt_of_block h
  have i0 := ix0 x y
  have i1 := ix1 x y
  have H := Lib.hid h
  clear h
  go_enter Try.func20, Try.ntmps20
  go_wp2
  go_rounds 3
  refine wp_loop_rounds 3 ?_
  rw [rounds_succ]
  go_wp2
  go_region
  go_wp2
  rw [rounds_succ]
  go_wp2
  go_region
  go_wp2
  rw [rounds_succ]
  go_wp2
  refine abs_world (fun W => Keep (One b) w W ∧ W.heap[b]? = some (CkB (a + x) (c + y) bd u)) ?_ ?_
  · refine ⟨?_, blk_drew (blk_drew (blk_alloc (blk_set (blk_set H.out 0 _) 1 _) _))⟩
    exact ((((Keep.refl _ _).setOne _ _).setOne _ _).alloc _).drew.drew
  · intro W hW
    obtain ⟨hk, hw⟩ := hW
    clear h0 h1 h2 h3 f0 f1 f3 i0 i1 H
    have h0 := ck0 hw
    have h1 := ck1 hw
    have h2 := ck2 hw
    have h3 := ck3 hw
    have f3 := ckf hw 3
    have H := Lib.hid hw
    clear hw
    cases u
    · go_region_with (go_at_call 10; go_must (refine (apart_any b (a + x) (c + y) bd false _ (by exact H.out) (by omega) (by omega) (by omega) (by omega)).mono ?_); rintro e w' ⟨rfl, n, rfl⟩)
      all_goals go_wp2
      all_goals go_ret
      all_goals exact ⟨rfl, hk.trans1 (((Keep.refl _ _).drewN _).setOne _ _), blk_set (blk_drewN H.out _) 3 _⟩
    · go_region
      all_goals go_wp2
      all_goals go_ret
      all_goals exact ⟨rfl, hk.trans1 (((Keep.refl _ _).setOne _ _).drew), blk_drew (blk_set H.out 3 _)⟩

end Go.Proofs.Ythhpgckbaciidaa
