/- The clock's steps, each answer as a plain number. -/
import Derived.Test.YthhpgckbaciidaaClk
namespace Go.Proofs.Ythhpgckbaciidaa
open Go.RowKit

theorem on_any (b : Nat) (a c bd : Int) (u : Bool) (x y : Int) (w : World) (h : w.heap[b]? = some (CkB a c bd u)) (hi : InB a c) :
    Calls Try.prog 20 #[.pointer (some ⟨b, 0, none⟩), .agg #[.int .i64 x, .int .i64 y]] w fun e w' => e = .returned (errv (onE a c x y)) ∧ Keep (One b) w w' ∧ w'.heap[b]? = some (CkB (onA a c x y) (onC a c x y) bd (onU a c bd u x y)) := by
  obtain ⟨ha0, ha1, hc0, hc1⟩ := hi
  cases hk : onOk a c x y
  · refine (on_bad b a c bd u x y w h ha0 ha1 hc0 hc1 (onOk_false hk)).mono ?_
    rintro e w' ⟨rfl, hw⟩
    simp only [onE, onA, onC, onU, hk]
    refine ⟨rfl, hw.ofNon, hw.at h (fun e => e)⟩
  · obtain ⟨h0, h1, h2, h3⟩ := onOk_true hk
    refine (on_good b a c bd u x y w h ha0 ha1 hc0 hc1 h0 h1 h2 h3).mono ?_
    rintro e w' ⟨rfl, hw, hb⟩
    simp only [onE, onA, onC, onU, hk]
    exact ⟨rfl, hw, hb⟩

set_option maxHeartbeats 400000 in
theorem both_any (b : Nat) (a c bd : Int) (u : Bool) (x : Int) (w : World) (h : w.heap[b]? = some (CkB a c bd u)) (hi : InB a c) :
    Calls Try.prog 12 #[.pointer (some ⟨b, 0, none⟩), .int .i64 x] w fun e w' => e = .returned (errv (onE a c x x)) ∧ Keep (One b) w w' ∧ w'.heap[b]? = some (CkB (onA a c x x) (onC a c x x) bd (onU a c bd u x x)) := by
  have H := Lib.hid h
  clear h
  go_enter Try.func12, Try.ntmps12
  go_wp2_with (go_at_call 20; go_must (refine (on_any b a c bd u x x _ H.out hi).mono ?_); rintro e w' ⟨rfl, hk, hb⟩; have HB := Lib.hid hb; clear hb)
  go_ret
  exact ⟨rfl, hk, HB.out⟩

set_option maxHeartbeats 400000 in
theorem both_nil (x : Int) (w : World) :
    Calls Try.prog 12 #[.pointer none, .int .i64 x] w fun e w' => e = .returned (.iface 40 (.int .i64 4)) ∧ Keep Non w w' := by
  go_enter Try.func12, Try.ntmps12
  go_wp2_with (go_at_call 20; go_must (refine (on_nil x x _).mono ?_); rintro e w' ⟨rfl, hk⟩)
  go_ret
  exact ⟨rfl, hk⟩

set_option maxHeartbeats 400000 in
theorem tick_one (b : Nat) (a c bd : Int) (u : Bool) (x : Int) (w : World) (h : w.heap[b]? = some (CkB a c bd u)) (hi : InB a c) :
    Calls Try.prog 8 #[.pointer (some ⟨b, 0, none⟩), .int .i64 1, .int .i64 x] w fun e w' => e = .returned (errv (onE a c x 0)) ∧ Keep (One b) w w' ∧ w'.heap[b]? = some (CkB (onA a c x 0) (onC a c x 0) bd (onU a c bd u x 0)) := by
  have H := Lib.hid h
  have hb := lt_of_block h
  have hne : ¬ b = w.heap.size := by omega
  clear h
  go_enter Try.func8, Try.ntmps8
  go_wp2_with (go_at_call 20; go_must (refine (on_any b a c bd u x 0 _ (by exact blk_alloc H.out _) hi).mono ?_); rintro e w' ⟨rfl, hk, hb⟩; have HB := Lib.hid hb; clear hb)
  go_ret
  exact ⟨rfl, ((Keep.refl _ _).alloc _).trans1 hk, HB.out⟩

set_option maxHeartbeats 400000 in
theorem tick_two (b : Nat) (a c bd : Int) (u : Bool) (x : Int) (w : World) (h : w.heap[b]? = some (CkB a c bd u)) (hi : InB a c) :
    Calls Try.prog 8 #[.pointer (some ⟨b, 0, none⟩), .int .i64 2, .int .i64 x] w fun e w' => e = .returned (errv (onE a c 0 x)) ∧ Keep (One b) w w' ∧ w'.heap[b]? = some (CkB (onA a c 0 x) (onC a c 0 x) bd (onU a c bd u 0 x)) := by
  have H := Lib.hid h
  have hb := lt_of_block h
  have hne : ¬ b = w.heap.size := by omega
  clear h
  go_enter Try.func8, Try.ntmps8
  go_wp2_with (go_at_call 20; go_must (refine (on_any b a c bd u 0 x _ (by exact blk_alloc H.out _) hi).mono ?_); rintro e w' ⟨rfl, hk, hb⟩; have HB := Lib.hid hb; clear hb)
  go_ret
  exact ⟨rfl, ((Keep.refl _ _).alloc _).trans1 hk, HB.out⟩

set_option maxHeartbeats 400000 in
theorem tick_bad (b : Nat) (i x : Int) (w : World) (h1 : (i != 1) = true) (h2 : (i != 2) = true) :
    Calls Try.prog 8 #[.pointer (some ⟨b, 0, none⟩), .int .i64 i, .int .i64 x] w fun e w' => e = .returned (.iface 40 (.int .i64 1)) ∧ w = w' := by
  go_enter Try.func8, Try.ntmps8
  go_wp2_with fail
  go_ret
  exact ⟨rfl, rfl⟩

theorem tick_any (b : Nat) (a c bd : Int) (u : Bool) (i x : Int) (w : World) (h : w.heap[b]? = some (CkB a c bd u)) (hi : InB a c) :
    Calls Try.prog 8 #[.pointer (some ⟨b, 0, none⟩), .int .i64 i, .int .i64 x] w fun e w' => e = .returned (errv (tickE a c i x)) ∧ Keep (One b) w w' ∧ w'.heap[b]? = some (CkB (tickA a c i x) (tickC a c i x) bd (tickU a c bd u i x)) := by
  by_cases h1 : i = 1
  · subst h1
    exact tick_one b a c bd u x w h hi
  · by_cases h2 : i = 2
    · subst h2
      exact tick_two b a c bd u x w h hi
    · have hn : tkN i = false := by simp [tkN, h1, h2]
      refine (tick_bad b i x w (by simpa using h1) (by simpa using h2)).mono ?_
      rintro e w' ⟨rfl, rfl⟩
      simp only [tickE, tickA, tickC, tickU, hn]
      exact ⟨rfl, Keep.refl _ _, h⟩

set_option maxHeartbeats 400000 in
theorem tick_nil (i x : Int) (w : World) :
    Calls Try.prog 8 #[.pointer none, .int .i64 i, .int .i64 x] w fun e w' => e = .returned (.iface 40 (.int .i64 4)) ∧ Keep Non w w' := by
  go_enter Try.func8, Try.ntmps8
  go_wp2_with (go_at_call 20; go_must (refine (on_nil 0 0 _).mono ?_); rintro e w' ⟨rfl, hk⟩)
  go_ret
  exact ⟨rfl, ((Keep.refl _ _).alloc _).trans1 hk⟩

end Go.Proofs.Ythhpgckbaciidaa
