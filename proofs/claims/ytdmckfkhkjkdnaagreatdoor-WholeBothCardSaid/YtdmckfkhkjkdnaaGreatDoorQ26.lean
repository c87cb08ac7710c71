/- A sequencer as plain numbers: an epoch, the next address; what each call answers and leaves. No program in sight. · The sequencer's calls, walked: eac -/
import Derived.Test.YtdmckfkhkjkdnaaGreatDoorQ25
set_option linter.unusedVariables false
set_option maxRecDepth 100000
set_option maxHeartbeats 16000000
namespace Go.Proofs.YtdmckfkhkjkdnaaGreatDoor
def askE (ep x : Int) : Int := if x < ep then 6 else if ep < x then 7 else 0
def fitB (lo hi n : Int) : Bool := decide (lo ≤ n ∧ n ≤ hi)
def asksE (ep x : Int) (fits : Bool) : Int := if fits then askE ep x else 1
def raiseE (ep x n : Int) : Int := asksE ep x (fitB 0 1048576 n)
def raiseN (ep nx x n : Int) : Int := if raiseE ep x n = 0 then (if nx < n then n else nx) else nx
def setE (ep x n : Int) : Int := if fitB 0 1099511627776 x && fitB 0 1048576 n then (if x ≤ ep then 6 else 0) else 1
def setP (ep x n : Int) : Int := if setE ep x n = 0 then x else ep
def setN (ep nx x n : Int) : Int := if setE ep x n = 0 then n else nx
def tailV (ep nx x : Int) : Int := if askE ep x = 0 then nx else 0
def SqIn (ep nx : Int) : Prop := 0 ≤ ep ∧ ep ≤ 1099511627776 ∧ 0 ≤ nx ∧ nx ≤ 1048576
theorem fitB_true {lo hi n : Int} (h : fitB lo hi n = true) : lo ≤ n ∧ n ≤ hi := of_decide_eq_true h
theorem fitB_mk {lo hi n : Int} (h : lo ≤ n) (h' : n ≤ hi) : fitB lo hi n = true := decide_eq_true ⟨h, h'⟩
theorem fitB_no {lo hi n : Int} (h : n < lo ∨ hi < n) : fitB lo hi n = false := decide_eq_false (by omega)
end Go.Proofs.YtdmckfkhkjkdnaaGreatDoor
namespace Go.Proofs.YtdmckfkhkjkdnaaGreatDoor
open Go.RowKit
def SqB (ep nx : Int) : Obj := .cells #[.int .i64 ep, .int .i64 nx] 168 (0, 0)
section
variable {w : World} {b : Nat} {ep nx : Int}
theorem sq0 (h : w.heap[b]? = some (SqB ep nx)) : w.cell? ⟨b, 0, none⟩ = some (.int .i64 ep) := by simp [World.cell?, h, SqB]
theorem sq1 (h : w.heap[b]? = some (SqB ep nx)) : w.cell? ⟨b, 1, none⟩ = some (.int .i64 nx) := by simp [World.cell?, h, SqB]
theorem sqf (h : w.heap[b]? = some (SqB ep nx)) (i : Nat) : w.frozen? ⟨b, i, none⟩ = false := by simp [World.frozen?, h, SqB]
end
theorem load_any (b i : Nat) (v : Int) (w : World) (h : w.cell? ⟨b, i, none⟩ = some (.int .i64 v)) :
    Calls Tryz.prog 71 #[.pointer (some ⟨b, i, none⟩)] w fun e w' => e = .returned (.int .i64 v) ∧ w = w' := by
  have hl := run_call_load (P := Tryz.prog) Tryz.func139 (by kernel_rfl) (by kernel_rfl) (by kernel_rfl) .i64 (by kernel_rfl) h
  go_enter Tryz.func71, Tryz.ntmps71
  go_wp2
  go_ret
  exact ⟨rfl, rfl⟩
theorem store_any (b i : Nat) (v y : Int) (w : World) (h : w.cell? ⟨b, i, none⟩ = some (.int .i64 v)) (hf : w.frozen? ⟨b, i, none⟩ = false) :
    Calls Tryz.prog 58 #[.pointer (some ⟨b, i, none⟩), .int .i64 y] w fun e w' => e = .returned (.tuple #[]) ∧ w' = w.setCell ⟨b, i, none⟩ (.int .i64 y) := by
  have hl := run_call_store (P := Tryz.prog) Tryz.func120 (by kernel_rfl) (by kernel_rfl) (by kernel_rfl) (by kernel_rfl) (k := .i64) (y := y) h hf
  go_enter Tryz.func58, Tryz.ntmps58
  go_wp2
  go_end0
  exact ⟨rfl, rfl⟩
theorem cas_hit (b i : Nat) (v y : Int) (w : World) (h : w.cell? ⟨b, i, none⟩ = some (.int .i64 v)) (hf : w.frozen? ⟨b, i, none⟩ = false) :
    Calls Tryz.prog 138 #[.pointer (some ⟨b, i, none⟩), .int .i64 v, .int .i64 y] w fun e w' => e = .returned (.bool true) ∧ w' = w.setCell ⟨b, i, none⟩ (.int .i64 y) := by
  have hl := run_call_cas_hit (P := Tryz.prog) Tryz.func207 (by kernel_rfl) (by kernel_rfl) (by kernel_rfl) .i64 (by kernel_rfl) (y := y) h hf
  go_enter Tryz.func138, Tryz.ntmps138
  go_wp2
  go_ret
  exact ⟨rfl, rfl⟩
theorem in_any (x most : Int) (w : World) :
    Calls Tryz.prog 97 #[.int .i64 x, .int .i64 most] w fun e w' => e = .returned (.bool (fitB 0 most x)) ∧ w = w' := by
  by_cases h : 0 ≤ x
  · by_cases h2 : x ≤ most
    · rw [fitB_mk h h2]
      go_enter Tryz.func97, Tryz.ntmps97
      go_wp2
      go_ret
      exact ⟨ret_bool (by simp), rfl⟩
    · rw [fitB_no (by omega)]
      go_enter Tryz.func97, Tryz.ntmps97
      go_wp2
      go_ret
      exact ⟨ret_bool (by simp), rfl⟩
  · rw [fitB_no (by omega)]
    go_enter Tryz.func97, Tryz.ntmps97
    go_wp2
    go_ret
    exact ⟨rfl, rfl⟩
theorem epoch_any (b : Nat) (ep nx : Int) (w : World) (h : w.heap[b]? = some (SqB ep nx)) :
    Calls Tryz.prog 98 #[.pointer (some ⟨b, 0, none⟩)] w fun e w' => e = .returned (.int .i64 ep) ∧ w = w' := by
  have h0 := sq0 h
  clear h
  go_enter Tryz.func98, Tryz.ntmps98
  go_wp2_with (go_at_call 71; go_must (refine (load_any b 0 ep _ h0).mono ?_); rintro e w' ⟨rfl, rfl⟩)
  go_ret
  exact ⟨rfl, rfl⟩
theorem asks_any (b : Nat) (ep nx x : Int) (f : Bool) (w : World) (h : w.heap[b]? = some (SqB ep nx)) :
    Calls Tryz.prog 72 #[.pointer (some ⟨b, 0, none⟩), .int .i64 x, .bool f] w fun e w' => e = .returned (errv (asksE ep x f)) ∧ w = w' := by
  have H := Lib.hid h
  clear h
  cases f
  · go_enter Tryz.func72, Tryz.ntmps72
    go_wp2
    go_ret
    exact ⟨rfl, rfl⟩
  · by_cases h1 : x < ep
    · have e1 : asksE ep x true = 6 := by simp [asksE, askE, h1]
      rw [e1]
      clear e1
      go_enter Tryz.func72, Tryz.ntmps72
      go_wp2_with (go_at_call 98; go_must (refine (epoch_any b ep nx _ H.out).mono ?_); rintro e w' ⟨rfl, rfl⟩)
      go_ret
      exact ⟨rfl, rfl⟩
    · by_cases h2 : ep < x
      · have e1 : asksE ep x true = 7 := by simp [asksE, askE, h1, h2]
        rw [e1]
        clear e1
        go_enter Tryz.func72, Tryz.ntmps72
        go_wp2_with (go_at_call 98; go_must (refine (epoch_any b ep nx _ H.out).mono ?_); rintro e w' ⟨rfl, rfl⟩)
        go_ret
        exact ⟨rfl, rfl⟩
      · have e1 : asksE ep x true = 0 := by simp [asksE, askE, h1, h2]
        rw [e1]
        clear e1
        go_enter Tryz.func72, Tryz.ntmps72
        go_wp2_with (go_at_call 98; go_must (refine (epoch_any b ep nx _ H.out).mono ?_); rintro e w' ⟨rfl, rfl⟩)
        go_ret
        exact ⟨rfl, rfl⟩
theorem asks_zero (b : Nat) (ep nx x : Int) (f : Bool) (w : World) (h : w.heap[b]? = some (SqB ep nx)) (he : asksE ep x f = 0) :
    Calls Tryz.prog 72 #[.pointer (some ⟨b, 0, none⟩), .int .i64 x, .bool f] w fun e w' => e = .returned .nilIface ∧ w = w' := by
  have := asks_any b ep nx x f w h
  rw [he] at this
  exact this
theorem asks_some (b : Nat) (ep nx x : Int) (f : Bool) (w : World) (h : w.heap[b]? = some (SqB ep nx)) (he : asksE ep x f ≠ 0) :
    Calls Tryz.prog 72 #[.pointer (some ⟨b, 0, none⟩), .int .i64 x, .bool f] w fun e w' => e = .returned (.iface 84 (.int .i64 (asksE ep x f))) ∧ w = w' := by
  have := asks_any b ep nx x f w h
  rw [errv_of he] at this
  exact this
theorem new_raw (w : World) :
    Calls Tryz.prog 47 #[] w fun e w' => e = .returned (.pointer (some ⟨w.heap.size, 0, none⟩)) ∧ w' = w.alloc (SqB 0 0) := by
  go_enter Tryz.func47, Tryz.ntmps47
  go_wp2
  go_ret
  exact ⟨rfl, rfl⟩
theorem new_seq (w : World) :
    Calls Tryz.prog 47 #[] w fun e w' => ∃ b, e = .returned (.pointer (some ⟨b, 0, none⟩)) ∧ w.heap.size ≤ b ∧ Keep Non w w' ∧ w'.heap[b]? = some (SqB 0 0) := by
  refine (new_raw w).mono ?_
  rintro e w' ⟨rfl, rfl⟩
  exact ⟨_, rfl, Nat.le_refl _, (Keep.refl _ _).alloc _, blk_new _ _⟩
theorem tail_any (b : Nat) (ep nx x : Int) (w : World) (h : w.heap[b]? = some (SqB ep nx)) :
    Calls Tryz.prog 28 #[.pointer (some ⟨b, 0, none⟩), .int .i64 x] w fun e w' => e = .returned (.tuple #[.int .i64 (tailV ep nx x), errv (askE ep x)]) ∧ w = w' := by
  have H := Lib.hid h
  have h1 := sq1 h
  clear h
  by_cases ha : askE ep x = 0
  · have e2 : tailV ep nx x = nx := by simp [tailV, ha]
    rw [ha, e2]
    have AZ : Hid (asksE ep x true = 0) := ha
    clear e2 ha
    go_enter Tryz.func28, Tryz.ntmps28
    go_wp2_with (first | (go_at_call 72; go_must (refine (asks_zero b ep nx x true _ H.out AZ.out).mono ?_); rintro e w' ⟨rfl, rfl⟩) | (go_at_call 71; go_must (refine (load_any b 1 nx _ h1).mono ?_); rintro e w' ⟨rfl, rfl⟩))
    go_ret2
    exact ⟨rfl, rfl⟩
  · have e2 : tailV ep nx x = 0 := by simp [tailV, ha]
    rw [errv_of ha, e2]
    have AZ : Hid (asksE ep x true ≠ 0) := ha
    have hq : askE ep x = asksE ep x true := rfl
    rw [hq]
    clear e2 ha hq
    go_enter Tryz.func28, Tryz.ntmps28
    go_wp2_with (go_at_call 72; go_must (refine (asks_some b ep nx x true _ H.out AZ.out).mono ?_); rintro e w' ⟨rfl, rfl⟩)
    go_ret2
    exact ⟨rfl, rfl⟩
theorem in_yes (x most : Int) (w : World) (h : fitB 0 most x = true) : Calls Tryz.prog 97 #[.int .i64 x, .int .i64 most] w fun e w' => e = .returned (.bool true) ∧ w = w' := by
  have := in_any x most w
  rw [h] at this
  exact this
theorem in_no (x most : Int) (w : World) (h : fitB 0 most x = false) : Calls Tryz.prog 97 #[.int .i64 x, .int .i64 most] w fun e w' => e = .returned (.bool false) ∧ w = w' := by
  have := in_any x most w
  rw [h] at this
  exact this
theorem raise_any (b : Nat) (ep nx x n : Int) (w : World) (h : w.heap[b]? = some (SqB ep nx)) (hi : SqIn ep nx) :
    Calls Tryz.prog 186 #[.pointer (some ⟨b, 0, none⟩), .int .i64 x, .int .i64 n] w fun e w' => e = .returned (errv (raiseE ep x n)) ∧ Keep (One b) w w' ∧ w'.heap[b]? = some (SqB ep (raiseN ep nx x n)) := by
  have H := Lib.hid h
  have h1 := sq1 h
  have f1 := sqf h 1
  clear h
  obtain ⟨i0, i1, i2, i3⟩ := hi
  cases hf : fitB 0 1048576 n
  · have e1 : raiseE ep x n = 1 := by simp [raiseE, asksE, hf]
    have e3 : raiseN ep nx x n = nx := by simp [raiseN, e1]
    have AZ : Hid (asksE ep x false ≠ 0) := (by decide : (1 : Int) ≠ 0)
    rw [e1, e3]
    have HF := Lib.hid hf
    clear e1 e3 hf
    go_enter Tryz.func186, Tryz.ntmps186
    go_wp2_with fail
    refine (in_no _ _ _ HF.out).mono ?_
    rintro e w' ⟨rfl, rfl⟩
    go_wp2_with fail
    refine (asks_some b ep nx x false _ H.out AZ.out).mono ?_
    rintro e w' ⟨rfl, rfl⟩
    go_wp2_with fail
    go_ret
    exact ⟨rfl, Keep.refl _ _, H.out⟩
  · obtain ⟨n0, n1⟩ := fitB_true hf
    have HF := Lib.hid hf
    have hq : raiseE ep x n = asksE ep x true := by simp [raiseE, hf]
    by_cases ha : asksE ep x true = 0
    · have AZ := Lib.hid ha
      by_cases hr : nx < n
      · have e3 : raiseN ep nx x n = n := by simp [raiseN, hq, ha, hr]
        rw [hq, ha, e3]
        clear e3 ha hq hf
        go_enter Tryz.func186, Tryz.ntmps186
        go_wp2_with fail
        refine (in_yes _ _ _ HF.out).mono ?_
        rintro e w' ⟨rfl, rfl⟩
        go_wp2_with fail
        refine (asks_zero b ep nx x true _ H.out AZ.out).mono ?_
        rintro e w' ⟨rfl, rfl⟩
        go_wp2_with fail
        refine wp_loop_rounds 1 ?_
        rw [rounds_succ]
        go_wp2_with (first | (go_at_call 71; go_must (refine (load_any b 1 nx _ h1).mono ?_); rintro e w' ⟨rfl, rfl⟩) | (go_at_call 138; go_must (refine (cas_hit b 1 nx _ _ h1 f1).mono ?_); rintro e w' ⟨rfl, rfl⟩))
        go_ret
        exact ⟨rfl, (Keep.refl _ _).setOne _ _, blk_set H.out 1 _⟩
      · have e3 : raiseN ep nx x n = nx := by simp [raiseN, hq, ha, hr]
        rw [hq, ha, e3]
        clear e3 ha hq hf
        go_enter Tryz.func186, Tryz.ntmps186
        go_wp2_with fail
        refine (in_yes _ _ _ HF.out).mono ?_
        rintro e w' ⟨rfl, rfl⟩
        go_wp2_with fail
        refine (asks_zero b ep nx x true _ H.out AZ.out).mono ?_
        rintro e w' ⟨rfl, rfl⟩
        go_wp2_with fail
        refine wp_loop_rounds 1 ?_
        rw [rounds_succ]
        go_wp2_with (go_at_call 71; go_must (refine (load_any b 1 nx _ h1).mono ?_); rintro e w' ⟨rfl, rfl⟩)
        go_ret
        exact ⟨rfl, Keep.refl _ _, H.out⟩
    · have AZ := Lib.hid ha
      have e3 : raiseN ep nx x n = nx := by simp [raiseN, hq, ha]
      rw [hq, errv_of ha, e3]
      clear e3 ha hq hf
      go_enter Tryz.func186, Tryz.ntmps186
      go_wp2_with fail
      refine (in_yes _ _ _ HF.out).mono ?_
      rintro e w' ⟨rfl, rfl⟩
      go_wp2_with fail
      refine (asks_some b ep nx x true _ H.out AZ.out).mono ?_
      rintro e w' ⟨rfl, rfl⟩
      go_wp2_with fail
      go_ret
      exact ⟨rfl, Keep.refl _ _, H.out⟩
theorem set_any (b : Nat) (ep nx x n : Int) (w : World) (h : w.heap[b]? = some (SqB ep nx)) (hi : SqIn ep nx) :
    Calls Tryz.prog 49 #[.pointer (some ⟨b, 0, none⟩), .int .i64 x, .int .i64 n] w fun e w' => e = .returned (errv (setE ep x n)) ∧ Keep (One b) w w' ∧ w'.heap[b]? = some (SqB (setP ep x n) (setN ep nx x n)) := by
  have H := Lib.hid h
  have h0 := sq0 h
  have h1 := sq1 h
  have f0 := sqf h 0
  have f1 := sqf h 1
  clear h
  obtain ⟨i0, i1, i2, i3⟩ := hi
  cases hx : fitB 0 1099511627776 x
  · have e1 : setE ep x n = 1 := by simp [setE, hx]
    have e2 : setP ep x n = ep := by simp [setP, e1]
    have e3 : setN ep nx x n = nx := by simp [setN, e1]
    rw [e1, e2, e3]
    have HX := Lib.hid hx
    clear e1 e2 e3 hx
    go_enter Tryz.func49, Tryz.ntmps49
    go_wp2_with (go_at_call 97; go_must (refine (in_no _ _ _ HX.out).mono ?_); rintro e w' ⟨rfl, rfl⟩)
    go_ret
    exact ⟨rfl, Keep.refl _ _, H.out⟩
  · cases hn : fitB 0 1048576 n
    · have e1 : setE ep x n = 1 := by simp [setE, hn]
      have e2 : setP ep x n = ep := by simp [setP, e1]
      have e3 : setN ep nx x n = nx := by simp [setN, e1]
      rw [e1, e2, e3]
      have HX := Lib.hid hx
      have HN := Lib.hid hn
      clear e1 e2 e3 hx hn
      go_enter Tryz.func49, Tryz.ntmps49
      go_wp2_with fail
      refine (in_yes _ _ _ HX.out).mono ?_
      rintro e w' ⟨rfl, rfl⟩
      go_wp2_with fail
      refine (in_no _ _ _ HN.out).mono ?_
      rintro e w' ⟨rfl, rfl⟩
      go_wp2_with fail
      go_ret
      exact ⟨rfl, Keep.refl _ _, H.out⟩
    · have HX := Lib.hid hx
      have HN := Lib.hid hn
      by_cases hl : x ≤ ep
      · have e1 : setE ep x n = 6 := by simp [setE, hx, hn, hl]
        have e2 : setP ep x n = ep := by simp [setP, e1]
        have e3 : setN ep nx x n = nx := by simp [setN, e1]
        rw [e1, e2, e3]
        clear e1 e2 e3 hx hn
        go_enter Tryz.func49, Tryz.ntmps49
        go_wp2_with fail
        refine (in_yes _ _ _ HX.out).mono ?_
        rintro e w' ⟨rfl, rfl⟩
        go_wp2_with fail
        refine (in_yes _ _ _ HN.out).mono ?_
        rintro e w' ⟨rfl, rfl⟩
        go_wp2_with fail
        refine (epoch_any b ep nx _ H.out).mono ?_
        rintro e w' ⟨rfl, rfl⟩
        go_wp2_with fail
        go_ret
        exact ⟨rfl, Keep.refl _ _, H.out⟩
      · have e1 : setE ep x n = 0 := by simp [setE, hx, hn, hl]
        have e2 : setP ep x n = x := by simp [setP, e1]
        have e3 : setN ep nx x n = n := by simp [setN, e1]
        rw [e1, e2, e3]
        clear e1 e2 e3 hx hn
        go_enter Tryz.func49, Tryz.ntmps49
        go_wp2_with fail
        refine (in_yes _ _ _ HX.out).mono ?_
        rintro e w' ⟨rfl, rfl⟩
        go_wp2_with fail
        refine (in_yes _ _ _ HN.out).mono ?_
        rintro e w' ⟨rfl, rfl⟩
        go_wp2_with fail
        refine (epoch_any b ep nx _ H.out).mono ?_
        rintro e w' ⟨rfl, rfl⟩
        go_wp2_with fail
        refine (store_any b 0 ep x _ h0 f0).mono ?_
        rintro e w' ⟨rfl, rfl⟩
        have g := blk_set H.out 0 (.int .i64 x)
        have h1' := sq1 (ep := x) (nx := nx) (by exact g)
        have f1' := sqf (ep := x) (nx := nx) (by exact g) 1
        clear g
        go_wp2_with fail
        refine (store_any b 1 nx n _ h1' f1').mono ?_
        rintro e w' ⟨rfl, rfl⟩
        go_wp2_with fail
        go_ret
        exact ⟨rfl, ((Keep.refl _ _).setOne _ _).setOne _ _, blk_set (blk_set H.out 0 _) 1 _⟩
end Go.Proofs.YtdmckfkhkjkdnaaGreatDoor
