/- The sequencer's four calls that take, raise, set and tell, walked. -/
import Derived.Test.YtdgplmlpkphnaaaSeq
namespace Go.Proofs.Ytdgplmlpkphnaaa
open Go.RowKit

set_option maxHeartbeats 400000 in
theorem take_nil (x n : Int) (w : World) : Calls Try.prog 9 #[.pointer none, .int .i64 x, .int .i64 n] w fun e w' => e = .returned (.tuple #[.int .i64 0, .iface 40 (.int .i64 4)]) ∧ w = w' := by
  by_cases h1 : 1 ≤ n
  · go_enter Try.func9, Try.ntmps9
    go_wp2_with (go_at_call 21; go_must (refine (asks_nil _ _ _).mono ?_); rintro e w' ⟨rfl, rfl⟩)
    go_ret2
    exact ⟨rfl, rfl⟩
  · go_enter Try.func9, Try.ntmps9
    go_wp2_with (go_at_call 21; go_must (refine (asks_nil _ _ _).mono ?_); rintro e w' ⟨rfl, rfl⟩)
    go_ret2
    exact ⟨rfl, rfl⟩

set_option maxHeartbeats 800000 in
theorem take_any (b : Nat) (ep nx x n : Int) (w : World) (h : w.heap[b]? = some (SqB ep nx)) (hi : SqIn ep nx) :
    Calls Try.prog 9 #[.pointer (some ⟨b, 0, none⟩), .int .i64 x, .int .i64 n] w fun e w' => e = .returned (.tuple #[.int .i64 (takeV ep nx x n), errv (takeE ep nx x n)]) ∧ Keep (One b) w w' ∧ w'.heap[b]? = some (SqB ep (takeN ep nx x n)) := by
  have H := Lib.hid h
  have h1 := sq1 h
  have f1 := sqf h 1
  clear h
  obtain ⟨i0, i1, i2, i3⟩ := hi
  have bad : asksE ep x (fitB 1 64 n) ≠ 0 → Hid (takeE ep nx x n = asksE ep x (fitB 1 64 n)) := by
    intro hn
    unfold asksE at hn
    show takeE ep nx x n = _
    unfold takeE asksE
    cases hf : fitB 1 64 n
    · rfl
    · simp only [hf, if_true] at hn ⊢
      rw [if_neg hn]
  by_cases ha : asksE ep x (fitB 1 64 n) = 0
  · have hf : fitB 1 64 n = true := by
      cases hf : fitB 1 64 n
      · simp [asksE, hf] at ha
      · rfl
    have ha' : askE ep x = 0 := by simpa [asksE, hf] using ha
    obtain ⟨n1, n2⟩ := fitB_true hf
    clear bad
    have AZ : Hid (asksE ep x true = 0) := by rw [hf] at ha; exact ha
    by_cases hr : 1048576 < nx + n
    · have e1 : takeE ep nx x n = 5 := by simp [takeE, hf, ha', hr]
      have e2 : takeV ep nx x n = 0 := by simp [takeV, e1]
      have e3 : takeN ep nx x n = nx := by simp [takeN, e1]
      rw [e1, e2, e3]
      clear e1 e2 e3 ha ha' hf
      go_enter Try.func9, Try.ntmps9
      go_wp2_with fail
      refine (asks_zero b ep nx x true _ H.out AZ.out).mono ?_
      rintro e w' ⟨rfl, rfl⟩
      go_wp2_with fail
      refine wp_loop_rounds 1 ?_
      rw [rounds_succ]
      go_wp2_with (go_at_call 22; go_must (refine (load_any b 1 nx _ h1).mono ?_); rintro e w' ⟨rfl, rfl⟩)
      go_ret2
      exact ⟨rfl, Keep.refl _ _, H.out⟩
    · have e1 : takeE ep nx x n = 0 := by simp [takeE, hf, ha', hr]
      have e2 : takeV ep nx x n = nx := by simp [takeV, e1]
      have e3 : takeN ep nx x n = nx + n := by simp [takeN, e1]
      rw [e1, e2, e3]
      clear e1 e2 e3 ha ha' hf
      go_enter Try.func9, Try.ntmps9
      go_wp2_with fail
      refine (asks_zero b ep nx x true _ H.out AZ.out).mono ?_
      rintro e w' ⟨rfl, rfl⟩
      go_wp2_with fail
      refine wp_loop_rounds 1 ?_
      rw [rounds_succ]
      go_wp2_with (first | (go_at_call 22; go_must (refine (load_any b 1 nx _ h1).mono ?_); rintro e w' ⟨rfl, rfl⟩) | (go_at_call 23; go_must (refine (cas_hit b 1 nx _ _ h1 f1).mono ?_); rintro e w' ⟨rfl, rfl⟩))
      go_ret2
      exact ⟨rfl, (Keep.refl _ _).setOne _ _, blk_set H.out 1 _⟩
  · have EB := bad ha
    have HA := Lib.hid ha
    clear bad ha
    have e2 : takeV ep nx x n = 0 := by unfold takeV; rw [if_neg]; rw [EB.out]; exact HA.out
    have e3 : takeN ep nx x n = nx := by unfold takeN; rw [if_neg]; rw [EB.out]; exact HA.out
    rw [EB.out, e2, e3]
    clear e2 e3 EB
    by_cases hn : 1 ≤ n
    · have hf : fitB 1 64 n = decide (n ≤ 64) := by unfold fitB; simp [hn]
      have ha := HA.out
      rw [hf] at ha
      rw [hf, errv_of ha]
      have HB := Lib.hid ha
      clear ha hf HA
      go_enter Try.func9, Try.ntmps9
      go_wp2_with fail
      refine (asks_some b ep nx x (decide (n ≤ 64)) _ H.out HB.out).mono ?_
      rintro e w' ⟨rfl, rfl⟩
      go_wp2_with fail
      go_ret2
      exact ⟨rfl, Keep.refl _ _, H.out⟩
    · have hf : fitB 1 64 n = false := fitB_no (by omega)
      have ha := HA.out
      rw [hf] at ha
      rw [hf, errv_of ha]
      have HB := Lib.hid ha
      clear ha hf HA
      go_enter Try.func9, Try.ntmps9
      go_wp2_with fail
      refine (asks_some b ep nx x false _ H.out HB.out).mono ?_
      rintro e w' ⟨rfl, rfl⟩
      go_wp2_with fail
      go_ret2
      exact ⟨rfl, Keep.refl _ _, H.out⟩

set_option maxHeartbeats 400000 in
theorem tail_nil (x : Int) (w : World) : Calls Try.prog 10 #[.pointer none, .int .i64 x] w fun e w' => e = .returned (.tuple #[.int .i64 0, .iface 40 (.int .i64 4)]) ∧ w = w' := by
  go_enter Try.func10, Try.ntmps10
  go_wp2_with (go_at_call 21; go_must (refine (asks_nil _ _ _).mono ?_); rintro e w' ⟨rfl, rfl⟩)
  go_ret2
  exact ⟨rfl, rfl⟩

set_option maxHeartbeats 400000 in
theorem tail_any (b : Nat) (ep nx x : Int) (w : World) (h : w.heap[b]? = some (SqB ep nx)) :
    Calls Try.prog 10 #[.pointer (some ⟨b, 0, none⟩), .int .i64 x] w fun e w' => e = .returned (.tuple #[.int .i64 (tailV ep nx x), errv (askE ep x)]) ∧ w = w' := by
  have H := Lib.hid h
  have h1 := sq1 h
  clear h
  by_cases ha : askE ep x = 0
  · have e2 : tailV ep nx x = nx := by simp [tailV, ha]
    rw [ha, e2]
    have AZ : Hid (asksE ep x true = 0) := ha
    clear e2 ha
    go_enter Try.func10, Try.ntmps10
    go_wp2_with (first | (go_at_call 21; go_must (refine (asks_zero b ep nx x true _ H.out AZ.out).mono ?_); rintro e w' ⟨rfl, rfl⟩) | (go_at_call 22; go_must (refine (load_any b 1 nx _ h1).mono ?_); rintro e w' ⟨rfl, rfl⟩))
    go_ret2
    exact ⟨rfl, rfl⟩
  · have e2 : tailV ep nx x = 0 := by simp [tailV, ha]
    rw [errv_of ha, e2]
    have AZ : Hid (asksE ep x true ≠ 0) := ha
    have hq : askE ep x = asksE ep x true := rfl
    rw [hq]
    clear e2 ha hq
    go_enter Try.func10, Try.ntmps10
    go_wp2_with (go_at_call 21; go_must (refine (asks_some b ep nx x true _ H.out AZ.out).mono ?_); rintro e w' ⟨rfl, rfl⟩)
    go_ret2
    exact ⟨rfl, rfl⟩

/-- 'in', decided. -/
theorem in_yes (x most : Int) (w : World) (h : fitB 0 most x = true) : Calls Try.prog 19 #[.int .i64 x, .int .i64 most] w fun e w' => e = .returned (.bool true) ∧ w = w' := by
  have := in_any x most w
  rw [h] at this
  exact this
theorem in_no (x most : Int) (w : World) (h : fitB 0 most x = false) : Calls Try.prog 19 #[.int .i64 x, .int .i64 most] w fun e w' => e = .returned (.bool false) ∧ w = w' := by
  have := in_any x most w
  rw [h] at this
  exact this

set_option maxHeartbeats 400000 in
theorem raise_nil (x n : Int) (w : World) : Calls Try.prog 12 #[.pointer none, .int .i64 x, .int .i64 n] w fun e w' => e = .returned (.iface 40 (.int .i64 4)) ∧ w = w' := by
  go_enter Try.func12, Try.ntmps12
  go_wp2_with (first | (go_at_call 19; go_must (refine (in_any _ _ _).mono ?_); rintro e w' ⟨rfl, rfl⟩) | (go_at_call 21; go_must (refine (asks_nil _ _ _).mono ?_); rintro e w' ⟨rfl, rfl⟩))
  go_ret
  exact ⟨rfl, rfl⟩

set_option maxHeartbeats 800000 in
theorem raise_any (b : Nat) (ep nx x n : Int) (w : World) (h : w.heap[b]? = some (SqB ep nx)) (hi : SqIn ep nx) :
    Calls Try.prog 12 #[.pointer (some ⟨b, 0, none⟩), .int .i64 x, .int .i64 n] w fun e w' => e = .returned (errv (raiseE ep x n)) ∧ Keep (One b) w w' ∧ w'.heap[b]? = some (SqB ep (raiseN ep nx x n)) := by
  have H := Lib.hid h
  have h1 := sq1 h
  have f1 := sqf h 1
  clear h
  obtain ⟨i0, i1, i2, i3⟩ := hi
  cases hf : fitB 0 1048576 n
  · have e1 : raiseE ep x n = 1 := by simp [raiseE, asksE, hf]
    have e3 : raiseN ep nx x n = nx := by simp [raiseN, e1]
    have AZ : Hid (asksE ep x false ≠ 0) := (by decide : (1 : Int) ≠ 0)
    rw [e1, e3]
    have HF := Lib.hid hf
    clear e1 e3 hf
    go_enter Try.func12, Try.ntmps12
    go_wp2_with fail
    refine (in_no _ _ _ HF.out).mono ?_
    rintro e w' ⟨rfl, rfl⟩
    go_wp2_with fail
    refine (asks_some b ep nx x false _ H.out AZ.out).mono ?_
    rintro e w' ⟨rfl, rfl⟩
    go_wp2_with fail
    go_ret
    exact ⟨rfl, Keep.refl _ _, H.out⟩
  · obtain ⟨n0, n1⟩ := fitB_true hf
    have HF := Lib.hid hf
    have hq : raiseE ep x n = asksE ep x true := by simp [raiseE, hf]
    by_cases ha : asksE ep x true = 0
    · have AZ := Lib.hid ha
      by_cases hr : nx < n
      · have e3 : raiseN ep nx x n = n := by simp [raiseN, hq, ha, hr]
        rw [hq, ha, e3]
        clear e3 ha hq hf
        go_enter Try.func12, Try.ntmps12
        go_wp2_with fail
        refine (in_yes _ _ _ HF.out).mono ?_
        rintro e w' ⟨rfl, rfl⟩
        go_wp2_with fail
        refine (asks_zero b ep nx x true _ H.out AZ.out).mono ?_
        rintro e w' ⟨rfl, rfl⟩
        go_wp2_with fail
        refine wp_loop_rounds 1 ?_
        rw [rounds_succ]
        go_wp2_with (first | (go_at_call 22; go_must (refine (load_any b 1 nx _ h1).mono ?_); rintro e w' ⟨rfl, rfl⟩) | (go_at_call 23; go_must (refine (cas_hit b 1 nx _ _ h1 f1).mono ?_); rintro e w' ⟨rfl, rfl⟩))
        go_ret
        exact ⟨rfl, (Keep.refl _ _).setOne _ _, blk_set H.out 1 _⟩
      · have e3 : raiseN ep nx x n = nx := by simp [raiseN, hq, ha, hr]
        rw [hq, ha, e3]
        clear e3 ha hq hf
        go_enter Try.func12, Try.ntmps12
        go_wp2_with fail
        refine (in_yes _ _ _ HF.out).mono ?_
        rintro e w' ⟨rfl, rfl⟩
        go_wp2_with fail
        refine (asks_zero b ep nx x true _ H.out AZ.out).mono ?_
        rintro e w' ⟨rfl, rfl⟩
        go_wp2_with fail
        refine wp_loop_rounds 1 ?_
        rw [rounds_succ]
        go_wp2_with (go_at_call 22; go_must (refine (load_any b 1 nx _ h1).mono ?_); rintro e w' ⟨rfl, rfl⟩)
        go_ret
        exact ⟨rfl, Keep.refl _ _, H.out⟩
    · have AZ := Lib.hid ha
      have e3 : raiseN ep nx x n = nx := by simp [raiseN, hq, ha]
      rw [hq, errv_of ha, e3]
      clear e3 ha hq hf
      go_enter Try.func12, Try.ntmps12
      go_wp2_with fail
      refine (in_yes _ _ _ HF.out).mono ?_
      rintro e w' ⟨rfl, rfl⟩
      go_wp2_with fail
      refine (asks_some b ep nx x true _ H.out AZ.out).mono ?_
      rintro e w' ⟨rfl, rfl⟩
      go_wp2_with fail
      go_ret
      exact ⟨rfl, Keep.refl _ _, H.out⟩

set_option maxHeartbeats 400000 in
theorem set_nil (x n : Int) (w : World) : Calls Try.prog 8 #[.pointer none, .int .i64 x, .int .i64 n] w fun e w' => e = .returned (.iface 40 (.int .i64 4)) ∧ w = w' := by
  go_enter Try.func8, Try.ntmps8
  go_wp2
  go_ret
  exact ⟨rfl, rfl⟩

set_option maxHeartbeats 800000 in
theorem set_any (b : Nat) (ep nx x n : Int) (w : World) (h : w.heap[b]? = some (SqB ep nx)) (hi : SqIn ep nx) :
    Calls Try.prog 8 #[.pointer (some ⟨b, 0, none⟩), .int .i64 x, .int .i64 n] w fun e w' => e = .returned (errv (setE ep x n)) ∧ Keep (One b) w w' ∧ w'.heap[b]? = some (SqB (setP ep x n) (setN ep nx x n)) := by
  have H := Lib.hid h
  have h0 := sq0 h
  have h1 := sq1 h
  have f0 := sqf h 0
  have f1 := sqf h 1
  clear h
  obtain ⟨i0, i1, i2, i3⟩ := hi
  cases hx : fitB 0 1099511627776 x
  · have e1 : setE ep x n = 1 := by simp [setE, hx]
    have e2 : setP ep x n = ep := by simp [setP, e1]
    have e3 : setN ep nx x n = nx := by simp [setN, e1]
    rw [e1, e2, e3]
    have HX := Lib.hid hx
    clear e1 e2 e3 hx
    go_enter Try.func8, Try.ntmps8
    go_wp2_with (go_at_call 19; go_must (refine (in_no _ _ _ HX.out).mono ?_); rintro e w' ⟨rfl, rfl⟩)
    go_ret
    exact ⟨rfl, Keep.refl _ _, H.out⟩
  · cases hn : fitB 0 1048576 n
    · have e1 : setE ep x n = 1 := by simp [setE, hn]
      have e2 : setP ep x n = ep := by simp [setP, e1]
      have e3 : setN ep nx x n = nx := by simp [setN, e1]
      rw [e1, e2, e3]
      have HX := Lib.hid hx
      have HN := Lib.hid hn
      clear e1 e2 e3 hx hn
      go_enter Try.func8, Try.ntmps8
      go_wp2_with fail
      refine (in_yes _ _ _ HX.out).mono ?_
      rintro e w' ⟨rfl, rfl⟩
      go_wp2_with fail
      refine (in_no _ _ _ HN.out).mono ?_
      rintro e w' ⟨rfl, rfl⟩
      go_wp2_with fail
      go_ret
      exact ⟨rfl, Keep.refl _ _, H.out⟩
    · have HX := Lib.hid hx
      have HN := Lib.hid hn
      by_cases hl : x ≤ ep
      · have e1 : setE ep x n = 6 := by simp [setE, hx, hn, hl]
        have e2 : setP ep x n = ep := by simp [setP, e1]
        have e3 : setN ep nx x n = nx := by simp [setN, e1]
        rw [e1, e2, e3]
        clear e1 e2 e3 hx hn
        go_enter Try.func8, Try.ntmps8
        go_wp2_with fail
        refine (in_yes _ _ _ HX.out).mono ?_
        rintro e w' ⟨rfl, rfl⟩
        go_wp2_with fail
        refine (in_yes _ _ _ HN.out).mono ?_
        rintro e w' ⟨rfl, rfl⟩
        go_wp2_with fail
        refine (epoch_any b ep nx _ H.out).mono ?_
        rintro e w' ⟨rfl, rfl⟩
        go_wp2_with fail
        go_ret
        exact ⟨rfl, Keep.refl _ _, H.out⟩
      · have e1 : setE ep x n = 0 := by simp [setE, hx, hn, hl]
        have e2 : setP ep x n = x := by simp [setP, e1]
        have e3 : setN ep nx x n = n := by simp [setN, e1]
        rw [e1, e2, e3]
        clear e1 e2 e3 hx hn
        go_enter Try.func8, Try.ntmps8
        go_wp2_with fail
        refine (in_yes _ _ _ HX.out).mono ?_
        rintro e w' ⟨rfl, rfl⟩
        go_wp2_with fail
        refine (in_yes _ _ _ HN.out).mono ?_
        rintro e w' ⟨rfl, rfl⟩
        go_wp2_with fail
        refine (epoch_any b ep nx _ H.out).mono ?_
        rintro e w' ⟨rfl, rfl⟩
        go_wp2_with fail
        refine (store_any b 0 ep x _ h0 f0).mono ?_
        rintro e w' ⟨rfl, rfl⟩
        have g := blk_set H.out 0 (.int .i64 x)
        have h1' := sq1 (ep := x) (nx := nx) (by exact g)
        have f1' := sqf (ep := x) (nx := nx) (by exact g) 1
        clear g
        go_wp2_with fail
        refine (store_any b 1 nx n _ h1' f1').mono ?_
        rintro e w' ⟨rfl, rfl⟩
        go_wp2_with fail
        go_ret
        exact ⟨rfl, ((Keep.refl _ _).setOne _ _).setOne _ _, blk_set (blk_set H.out 0 _) 1 _⟩

end Go.Proofs.Ytdgplmlpkphnaaa
