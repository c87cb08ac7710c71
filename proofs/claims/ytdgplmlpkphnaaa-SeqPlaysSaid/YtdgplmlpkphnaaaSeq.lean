/- The sequencer's calls, walked: each answers a plain number and leaves a plain state. -/
import Derived.Test.YtdgplmlpkphnaaaNum
import Derived.Test.YtdgplmlpkphnaaaSeqPlain
import Derived.Handy
import Derived.Lib.Hide
namespace Go.Proofs.Ytdgplmlpkphnaaa
open Go.RowKit

/-- A sequencer's block. -/
def SqB (ep nx : Int) : Obj := .cells #[.int .i64 ep, .int .i64 nx] 55 (0, 0)
section
variable {w : World} {b : Nat} {ep nx : Int}
theorem sq0 (h : w.heap[b]? = some (SqB ep nx)) : w.cell? ⟨b, 0, none⟩ = some (.int .i64 ep) := by simp [World.cell?, h, SqB]
theorem sq1 (h : w.heap[b]? = some (SqB ep nx)) : w.cell? ⟨b, 1, none⟩ = some (.int .i64 nx) := by simp [World.cell?, h, SqB]
theorem sqf (h : w.heap[b]? = some (SqB ep nx)) (i : Nat) : w.frozen? ⟨b, i, none⟩ = false := by simp [World.frozen?, h, SqB]
end

set_option maxHeartbeats 400000 in
theorem load_any (b i : Nat) (v : Int) (w : World) (h : w.cell? ⟨b, i, none⟩ = some (.int .i64 v)) :
    Calls Try.prog 22 #[.pointer (some ⟨b, i, none⟩)] w fun e w' => e = .returned (.int .i64 v) ∧ w = w' := by
  have hl := run_call_load (P := Try.prog) Try.func25 (by kernel_rfl) (by kernel_rfl) (by kernel_rfl) .i64 (by kernel_rfl) h
  go_enter Try.func22, Try.ntmps22
  go_wp2
  go_ret
  exact ⟨rfl, rfl⟩

set_option maxHeartbeats 400000 in
theorem store_any (b i : Nat) (v y : Int) (w : World) (h : w.cell? ⟨b, i, none⟩ = some (.int .i64 v)) (hf : w.frozen? ⟨b, i, none⟩ = false) :
    Calls Try.prog 20 #[.pointer (some ⟨b, i, none⟩), .int .i64 y] w fun e w' => e = .returned (.tuple #[]) ∧ w' = w.setCell ⟨b, i, none⟩ (.int .i64 y) := by
  have hl := run_call_store (P := Try.prog) Try.func24 (by kernel_rfl) (by kernel_rfl) (by kernel_rfl) (by kernel_rfl) (k := .i64) (y := y) h hf
  go_enter Try.func20, Try.ntmps20
  go_wp2
  go_end0
  exact ⟨rfl, rfl⟩

set_option maxHeartbeats 400000 in
theorem cas_hit (b i : Nat) (v y : Int) (w : World) (h : w.cell? ⟨b, i, none⟩ = some (.int .i64 v)) (hf : w.frozen? ⟨b, i, none⟩ = false) :
    Calls Try.prog 23 #[.pointer (some ⟨b, i, none⟩), .int .i64 v, .int .i64 y] w fun e w' => e = .returned (.bool true) ∧ w' = w.setCell ⟨b, i, none⟩ (.int .i64 y) := by
  have hl := run_call_cas_hit (P := Try.prog) Try.func26 (by kernel_rfl) (by kernel_rfl) (by kernel_rfl) .i64 (by kernel_rfl) (y := y) h hf
  go_enter Try.func23, Try.ntmps23
  go_wp2
  go_ret
  exact ⟨rfl, rfl⟩

set_option maxHeartbeats 400000 in
theorem in_any (x most : Int) (w : World) :
    Calls Try.prog 19 #[.int .i64 x, .int .i64 most] w fun e w' => e = .returned (.bool (fitB 0 most x)) ∧ w = w' := by
  by_cases h : 0 ≤ x
  · by_cases h2 : x ≤ most
    · rw [fitB_mk h h2]
      go_enter Try.func19, Try.ntmps19
      go_wp2
      go_ret
      exact ⟨ret_bool (by simp), rfl⟩
    · rw [fitB_no (by omega)]
      go_enter Try.func19, Try.ntmps19
      go_wp2
      go_ret
      exact ⟨ret_bool (by simp), rfl⟩
  · rw [fitB_no (by omega)]
    go_enter Try.func19, Try.ntmps19
    go_wp2
    go_ret
    exact ⟨rfl, rfl⟩

set_option maxHeartbeats 400000 in
theorem epoch_any (b : Nat) (ep nx : Int) (w : World) (h : w.heap[b]? = some (SqB ep nx)) :
    Calls Try.prog 11 #[.pointer (some ⟨b, 0, none⟩)] w fun e w' => e = .returned (.int .i64 ep) ∧ w = w' := by
  have h0 := sq0 h
  clear h
  go_enter Try.func11, Try.ntmps11
  go_wp2_with (go_at_call 22; go_must (refine (load_any b 0 ep _ h0).mono ?_); rintro e w' ⟨rfl, rfl⟩)
  go_ret
  exact ⟨rfl, rfl⟩

set_option maxHeartbeats 400000 in
theorem epoch_nil (w : World) : Calls Try.prog 11 #[.pointer none] w fun e w' => e = .returned (.int .i64 0) ∧ w = w' := by
  go_enter Try.func11, Try.ntmps11
  go_wp2
  go_ret
  exact ⟨rfl, rfl⟩

set_option maxHeartbeats 400000 in
theorem asks_nil (x : Int) (f : Bool) (w : World) : Calls Try.prog 21 #[.pointer none, .int .i64 x, .bool f] w fun e w' => e = .returned (.iface 40 (.int .i64 4)) ∧ w = w' := by
  go_enter Try.func21, Try.ntmps21
  go_wp2
  go_ret
  exact ⟨rfl, rfl⟩

set_option maxHeartbeats 400000 in
theorem asks_any (b : Nat) (ep nx x : Int) (f : Bool) (w : World) (h : w.heap[b]? = some (SqB ep nx)) :
    Calls Try.prog 21 #[.pointer (some ⟨b, 0, none⟩), .int .i64 x, .bool f] w fun e w' => e = .returned (errv (asksE ep x f)) ∧ w = w' := by
  have H := Lib.hid h
  clear h
  cases f
  · go_enter Try.func21, Try.ntmps21
    go_wp2
    go_ret
    exact ⟨rfl, rfl⟩
  · by_cases h1 : x < ep
    · have e1 : asksE ep x true = 6 := by simp [asksE, askE, h1]
      rw [e1]
      clear e1
      go_enter Try.func21, Try.ntmps21
      go_wp2_with (go_at_call 11; go_must (refine (epoch_any b ep nx _ H.out).mono ?_); rintro e w' ⟨rfl, rfl⟩)
      go_ret
      exact ⟨rfl, rfl⟩
    · by_cases h2 : ep < x
      · have e1 : asksE ep x true = 7 := by simp [asksE, askE, h1, h2]
        rw [e1]
        clear e1
        go_enter Try.func21, Try.ntmps21
        go_wp2_with (go_at_call 11; go_must (refine (epoch_any b ep nx _ H.out).mono ?_); rintro e w' ⟨rfl, rfl⟩)
        go_ret
        exact ⟨rfl, rfl⟩
      · have e1 : asksE ep x true = 0 := by simp [asksE, askE, h1, h2]
        rw [e1]
        clear e1
        go_enter Try.func21, Try.ntmps21
        go_wp2_with (go_at_call 11; go_must (refine (epoch_any b ep nx _ H.out).mono ?_); rintro e w' ⟨rfl, rfl⟩)
        go_ret
        exact ⟨rfl, rfl⟩

/-- What 'asks' answers, parted: no error, or one. -/
theorem asks_zero (b : Nat) (ep nx x : Int) (f : Bool) (w : World) (h : w.heap[b]? = some (SqB ep nx)) (he : asksE ep x f = 0) :
    Calls Try.prog 21 #[.pointer (some ⟨b, 0, none⟩), .int .i64 x, .bool f] w fun e w' => e = .returned .nilIface ∧ w = w' := by
  have := asks_any b ep nx x f w h
  rw [he] at this
  exact this
theorem asks_some (b : Nat) (ep nx x : Int) (f : Bool) (w : World) (h : w.heap[b]? = some (SqB ep nx)) (he : asksE ep x f ≠ 0) :
    Calls Try.prog 21 #[.pointer (some ⟨b, 0, none⟩), .int .i64 x, .bool f] w fun e w' => e = .returned (.iface 40 (.int .i64 (asksE ep x f))) ∧ w = w' := by
  have := asks_any b ep nx x f w h
  rw [errv_of he] at this
  exact this

set_option maxHeartbeats 400000 in
theorem new_raw (w : World) :
    Calls Try.prog 7 #[] w fun e w' => e = .returned (.pointer (some ⟨w.heap.size, 0, none⟩)) ∧ w' = w.alloc (SqB 0 0) := by
  go_enter Try.func7, Try.ntmps7
  go_wp2
  go_ret
  exact ⟨rfl, rfl⟩

theorem new_seq (w : World) :
    Calls Try.prog 7 #[] w fun e w' => ∃ b, e = .returned (.pointer (some ⟨b, 0, none⟩)) ∧ w.heap.size ≤ b ∧ Keep Non w w' ∧ w'.heap[b]? = some (SqB 0 0) := by
  refine (new_raw w).mono ?_
  rintro e w' ⟨rfl, rfl⟩
  exact ⟨_, rfl, Nat.le_refl _, (Keep.refl _ _).alloc _, blk_new _ _⟩

end Go.Proofs.Ytdgplmlpkphnaaa
