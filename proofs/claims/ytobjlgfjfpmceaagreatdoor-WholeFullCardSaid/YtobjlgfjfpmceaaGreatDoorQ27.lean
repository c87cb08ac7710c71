/- The helpers on errors: an error as its number; is it this one? · The sequencer's calls, walked: each answers a plain number and leaves a plain state.  -/
import Derived.Test.YtobjlgfjfpmceaaGreatDoorQ19
import Derived.Test.YtobjlgfjfpmceaaGreatDoorQ20
set_option linter.unusedVariables false
set_option maxRecDepth 100000
set_option maxHeartbeats 16000000
namespace Go.Proofs.YtobjlgfjfpmceaaGreatDoor
open Go.RowKit
theorem num_none (w : World) : Calls Tryz.prog 37 #[.nilIface] w fun e w' => e = .returned (.int .i64 0) ∧ w = w' := by
  go_enter Tryz.func37, Tryz.ntmps37
  go_wp2
  go_ret
  exact ⟨rfl, rfl⟩
theorem assert_errno (n : Int) (w : World) : (Instr.typeAssert (.iface 45 (.int .i64 n)) 31 45 true).run Tryz.prog w = .ok (.tuple #[.int .i64 n, .bool true]) w := by kernel_rfl
theorem num_some (n : Int) (hn : (n != 0) = true) (w : World) : Calls Tryz.prog 37 #[.iface 45 (.int .i64 n)] w fun e w' => e = .returned (.int .i64 n) ∧ w = w' := by
  have ht := assert_errno n
  go_enter Tryz.func37, Tryz.ntmps37
  go_wp2
  go_ret
  exact ⟨rfl, rfl⟩
theorem num_any (n : Int) (w : World) : Calls Tryz.prog 37 #[errv n] w fun e w' => e = .returned (.int .i64 n) ∧ w = w' := by
  by_cases h : n = 0
  · subst h
    exact num_none w
  · rw [errv_of h]
    exact num_some n (by simpa using h) w
theorem is_any (n k : Int) (w : World) : Calls Tryz.prog 14 #[errv n, .int .i64 k] w fun e w' => e = .returned (.bool (n == k)) ∧ w = w' := by
  go_enter Tryz.func14, Tryz.ntmps14
  go_wp2_with (go_at_call 37; go_must (refine (num_any n _).mono ?_); rintro e w' ⟨rfl, rfl⟩)
  go_ret
  exact ⟨rfl, rfl⟩
def SqB (ep nx : Int) : Obj := .cells #[.int .i64 ep, .int .i64 nx] 185 (0, 0)
section
variable {w : World} {b : Nat} {ep nx : Int}
theorem sq0 (h : w.heap[b]? = some (SqB ep nx)) : w.cell? ⟨b, 0, none⟩ = some (.int .i64 ep) := by simp [World.cell?, h, SqB]
theorem sq1 (h : w.heap[b]? = some (SqB ep nx)) : w.cell? ⟨b, 1, none⟩ = some (.int .i64 nx) := by simp [World.cell?, h, SqB]
theorem sqf (h : w.heap[b]? = some (SqB ep nx)) (i : Nat) : w.frozen? ⟨b, i, none⟩ = false := by simp [World.frozen?, h, SqB]
end
theorem load_any (b i : Nat) (v : Int) (w : World) (h : w.cell? ⟨b, i, none⟩ = some (.int .i64 v)) :
    Calls Tryz.prog 135 #[.pointer (some ⟨b, i, none⟩)] w fun e w' => e = .returned (.int .i64 v) ∧ w = w' := by
  have hl := run_call_load (P := Tryz.prog) Tryz.func190 (by kernel_rfl) (by kernel_rfl) (by kernel_rfl) .i64 (by kernel_rfl) h
  go_enter Tryz.func135, Tryz.ntmps135
  go_wp2
  go_ret
  exact ⟨rfl, rfl⟩
theorem store_any (b i : Nat) (v y : Int) (w : World) (h : w.cell? ⟨b, i, none⟩ = some (.int .i64 v)) (hf : w.frozen? ⟨b, i, none⟩ = false) :
    Calls Tryz.prog 107 #[.pointer (some ⟨b, i, none⟩), .int .i64 y] w fun e w' => e = .returned (.tuple #[]) ∧ w' = w.setCell ⟨b, i, none⟩ (.int .i64 y) := by
  have hl := run_call_store (P := Tryz.prog) Tryz.func170 (by kernel_rfl) (by kernel_rfl) (by kernel_rfl) (by kernel_rfl) (k := .i64) (y := y) h hf
  go_enter Tryz.func107, Tryz.ntmps107
  go_wp2
  go_end0
  exact ⟨rfl, rfl⟩
theorem cas_hit (b i : Nat) (v y : Int) (w : World) (h : w.cell? ⟨b, i, none⟩ = some (.int .i64 v)) (hf : w.frozen? ⟨b, i, none⟩ = false) :
    Calls Tryz.prog 238 #[.pointer (some ⟨b, i, none⟩), .int .i64 v, .int .i64 y] w fun e w' => e = .returned (.bool true) ∧ w' = w.setCell ⟨b, i, none⟩ (.int .i64 y) := by
  have hl := run_call_cas_hit (P := Tryz.prog) Tryz.func288 (by kernel_rfl) (by kernel_rfl) (by kernel_rfl) .i64 (by kernel_rfl) (y := y) h hf
  go_enter Tryz.func238, Tryz.ntmps238
  go_wp2
  go_ret
  exact ⟨rfl, rfl⟩
theorem in_any (x most : Int) (w : World) :
    Calls Tryz.prog 105 #[.int .i64 x, .int .i64 most] w fun e w' => e = .returned (.bool (fitB 0 most x)) ∧ w = w' := by
  by_cases h : 0 ≤ x
  · by_cases h2 : x ≤ most
    · rw [fitB_mk h h2]
      go_enter Tryz.func105, Tryz.ntmps105
      go_wp2
      go_ret
      exact ⟨ret_bool (by simp), rfl⟩
    · rw [fitB_no (by omega)]
      go_enter Tryz.func105, Tryz.ntmps105
      go_wp2
      go_ret
      exact ⟨ret_bool (by simp), rfl⟩
  · rw [fitB_no (by omega)]
    go_enter Tryz.func105, Tryz.ntmps105
    go_wp2
    go_ret
    exact ⟨rfl, rfl⟩
theorem epoch_any (b : Nat) (ep nx : Int) (w : World) (h : w.heap[b]? = some (SqB ep nx)) :
    Calls Tryz.prog 106 #[.pointer (some ⟨b, 0, none⟩)] w fun e w' => e = .returned (.int .i64 ep) ∧ w = w' := by
  have h0 := sq0 h
  clear h
  go_enter Tryz.func106, Tryz.ntmps106
  go_wp2_with (go_at_call 135; go_must (refine (load_any b 0 ep _ h0).mono ?_); rintro e w' ⟨rfl, rfl⟩)
  go_ret
  exact ⟨rfl, rfl⟩
theorem asks_any (b : Nat) (ep nx x : Int) (f : Bool) (w : World) (h : w.heap[b]? = some (SqB ep nx)) :
    Calls Tryz.prog 134 #[.pointer (some ⟨b, 0, none⟩), .int .i64 x, .bool f] w fun e w' => e = .returned (errv (asksE ep x f)) ∧ w = w' := by
  have H := Lib.hid h
  clear h
  cases f
  · go_enter Tryz.func134, Tryz.ntmps134
    go_wp2
    go_ret
    exact ⟨rfl, rfl⟩
  · by_cases h1 : x < ep
    · have e1 : asksE ep x true = 6 := by simp [asksE, askE, h1]
      rw [e1]
      clear e1
      go_enter Tryz.func134, Tryz.ntmps134
      go_wp2_with (go_at_call 106; go_must (refine (epoch_any b ep nx _ H.out).mono ?_); rintro e w' ⟨rfl, rfl⟩)
      go_ret
      exact ⟨rfl, rfl⟩
    · by_cases h2 : ep < x
      · have e1 : asksE ep x true = 7 := by simp [asksE, askE, h1, h2]
        rw [e1]
        clear e1
        go_enter Tryz.func134, Tryz.ntmps134
        go_wp2_with (go_at_call 106; go_must (refine (epoch_any b ep nx _ H.out).mono ?_); rintro e w' ⟨rfl, rfl⟩)
        go_ret
        exact ⟨rfl, rfl⟩
      · have e1 : asksE ep x true = 0 := by simp [asksE, askE, h1, h2]
        rw [e1]
        clear e1
        go_enter Tryz.func134, Tryz.ntmps134
        go_wp2_with (go_at_call 106; go_must (refine (epoch_any b ep nx _ H.out).mono ?_); rintro e w' ⟨rfl, rfl⟩)
        go_ret
        exact ⟨rfl, rfl⟩
theorem asks_zero (b : Nat) (ep nx x : Int) (f : Bool) (w : World) (h : w.heap[b]? = some (SqB ep nx)) (he : asksE ep x f = 0) :
    Calls Tryz.prog 134 #[.pointer (some ⟨b, 0, none⟩), .int .i64 x, .bool f] w fun e w' => e = .returned .nilIface ∧ w = w' := by
  have := asks_any b ep nx x f w h
  rw [he] at this
  exact this
theorem asks_some (b : Nat) (ep nx x : Int) (f : Bool) (w : World) (h : w.heap[b]? = some (SqB ep nx)) (he : asksE ep x f ≠ 0) :
    Calls Tryz.prog 134 #[.pointer (some ⟨b, 0, none⟩), .int .i64 x, .bool f] w fun e w' => e = .returned (.iface 45 (.int .i64 (asksE ep x f))) ∧ w = w' := by
  have := asks_any b ep nx x f w h
  rw [errv_of he] at this
  exact this
theorem new_raw (w : World) :
    Calls Tryz.prog 55 #[] w fun e w' => e = .returned (.pointer (some ⟨w.heap.size, 0, none⟩)) ∧ w' = w.alloc (SqB 0 0) := by
  go_enter Tryz.func55, Tryz.ntmps55
  go_wp2
  go_ret
  exact ⟨rfl, rfl⟩
theorem new_seq (w : World) :
    Calls Tryz.prog 55 #[] w fun e w' => ∃ b, e = .returned (.pointer (some ⟨b, 0, none⟩)) ∧ w.heap.size ≤ b ∧ Keep Non w w' ∧ w'.heap[b]? = some (SqB 0 0) := by
  refine (new_raw w).mono ?_
  rintro e w' ⟨rfl, rfl⟩
  exact ⟨_, rfl, Nat.le_refl _, (Keep.refl _ _).alloc _, blk_new _ _⟩
theorem z32_eq : (.agg z32 : Value) = arrV (List.replicate 32 0) := by kernel_rfl
theorem sz81 : (Tryz.prog.info? 81).map (·.size) = some 32 := by kernel_rfl
theorem store_z32 (w : World) : (holdW 81 ⟨w.heap.size, 0, none⟩ (.agg z32)).run Tryz.prog (w.alloc (.cells z32 81)) = .ok () (w.alloc (.cells z32 81)) := by
  have h := run_storeVar_row (P := Tryz.prog) (w.alloc (.cells z32 81)) w.heap.size 81 81 z32 z32 (blk_new _ _) sz81 rfl (by kernel_rfl)
  rw [setRow_new] at h
  exact h
theorem load_z32 (w : World) : (holdV 81 ⟨w.heap.size, 0, none⟩).run Tryz.prog (w.alloc (.cells z32 81)) = .ok (arrV (List.replicate 32 0)) (w.alloc (.cells z32 81)) :=
  load81 _ _ 0 (List.replicate 32 0) rfl (fun j v hv => by
    rw [Nat.zero_add, cell_of_row _ _ j _ _ _ (blk_new _ _)]
    have e : z32 = ((List.replicate 32 (0 : UInt8)).map bv).toArray := by kernel_rfl
    rw [e]
    simpa using hv)
section
attribute [local go_sem ↓] hV81 hV101 hV83 hW81 hW101 hW83 hB101 hB83
theorem chcheck_nil (a : Option Addr) (c : Nat) (w : World) :
    Calls Tryz.prog 27 #[.slice a 0 c] w fun e w' => e = .returned (.tuple #[.int .i64 0, .nilIface]) ∧ Keep Non w w' := by
  go_enter Tryz.func27, Tryz.ntmps27
  go_wp2_with fail
  go_loopw [9] (fun i wr => i = .int .i64 0 ∧ Keep Non w wr) (fun i _ => 0)
  case atStart => exact ⟨rfl, Keep.refl _ _⟩
  case round =>
    obtain ⟨rfl, hk⟩ := hrel
    go_wp2_with fail
    go_ret2
    exact ⟨rfl, hk⟩
theorem chcheck_one (T : Nat → Prop) (v : Value) (m : Mf) (w : World) (h : MsAt T w v [m]) (hokm : okMf m) (hnum : m.num = 0) :
    Calls Tryz.prog 27 #[v] w fun e w' => e = .returned (.tuple #[.int .i64 1, .nilIface]) ∧ Keep Non w w' := by
  obtain ⟨a, c, rfl, hc, ha, hx⟩ := h
  obtain ⟨h32, g, off, pa, pc, rfl, x1, x2, x3⟩ := hx 0 m rfl
  have X1 := Lib.hid x1
  have X3 := Lib.hid x3
  simp only [List.length_singleton] at hc ⊢
  clear hx ha x1 x2 x3
  go_enter Tryz.func27, Tryz.ntmps27
  go_wp2_with fail
  go_loopw [9] (fun i wr => ∃ j : Nat, j ≤ 1 ∧ i = .int .i64 j ∧ Keep Non w wr) (fun i _ => 1 - (intOf i).toNat)
  case atStart => exact ⟨0, by omega, rfl, Keep.refl _ _⟩
  case round =>
    obtain ⟨j, hj, rfl, hk⟩ := hrel
    have K := Lib.hid hk
    clear hk
    by_cases hlt : j < 1
    · have hlj : (j : Int) < 1 := by omega
      have hld := load83 wr g (off + j * 37) m (.slice pa m.parts.length pc) h32 (fun i u hu => by
        have h0 := X3.out i u hu
        rw [show j = 0 by omega]
        exact (World.cell?_of_block (K.out.block g (World.block_lt_of_cell? _ _ h0) (fun e => e))).trans h0)
      have hst := store_mf0 wr m pa m.parts.length pc h32
      have hlm := load_mf (blk_new wr (MfB m (.slice pa m.parts.length pc))) h32
      dsimp only [zMf, MfB] at hst
      dsimp only [MfB] at hlm
      have CK := Lib.hid (mcheck_ok m (.slice pa m.parts.length pc) (wr.alloc (MfB m (.slice pa m.parts.length pc))) hokm (X1.out.keepNon (K.out.trans1 ((Keep.refl Non wr).alloc _))))
      have FO := Lib.hid (fun W => cfollows_nil m (.slice pa m.parts.length pc) (some ⟨g, off, none⟩) c W hnum)
      dsimp only [MfB] at CK
      have hj0 : j = 0 := by omega
      have FJ : Hid (∀ W, Calls Tryz.prog 76 #[.slice (some ⟨g, off, none⟩) j c, mfV m (.slice pa m.parts.length pc)] W fun e w' => e = .returned (.bool true) ∧ Keep Non W w') := Lib.hid (by rw [hj0]; exact FO.out)
      have hjc : j ≤ c := by omega
      clear hj0
      go_wp2_with (go_at_call 75; refine CK.out.mono ?_; rintro e w2 ⟨rfl, k2⟩; have b2 : w2.heap[wr.heap.size]? = some (MfB m (.slice pa m.parts.length pc)) := nonAt k2 (blk_new wr (MfB m (.slice pa m.parts.length pc))); have hl2 := load_mf b2 h32; have hl2d := load_mf (w := w2.drew) b2 h32; have K2 := Lib.hid (((Keep.refl Non wr).alloc (MfB m (.slice pa m.parts.length pc))).trans1 k2); clear k2 b2)
      go_region_law (go_simp; go_at_call 76; refine (FJ.out _).mono ?_; rintro e w3 ⟨rfl, k3⟩; have K3 : Hid (Keep Non w2 w3) := Lib.hid (((Keep.refl Non w2).drew).trans1 k3); clear k3)
      all_goals go_wp2_with fail
      all_goals exact ⟨⟨j + 1, by omega, by first | rfl | go_num, (K.out.trans1 K2.out).trans1 K3.out⟩, by simp [intOf]; omega⟩
    · obtain rfl : j = 1 := by omega
      go_wp2_with fail
      go_ret2
      exact ⟨rfl, K.out⟩
theorem chhead_nil (a : Option Addr) (c : Nat) (w : World) :
    Calls Tryz.prog 132 #[.slice a 0 c] w fun e w' => e = .returned (.tuple #[arrV (List.replicate 32 0), .nilIface]) ∧ Keep Non w w' := by
  have hs := store_z32 w
  have hl := load_z32 w
  dsimp only [z32] at hs hl
  go_enter Tryz.func132, Tryz.ntmps132
  go_wp2_with fail
  have hlv := load_z32 w
  unfold holdV at hlv
  dsimp only [z32] at hlv
  refine bodyPost_ret (v := .tuple #[arrV (List.replicate 32 0), .nilIface]) (by simp [results, Tryz.results132, asAddr, hlv]) rfl ?_
  exact ⟨rfl, (Keep.refl _ _).alloc _⟩
end
theorem tail_any (b : Nat) (ep nx x : Int) (w : World) (h : w.heap[b]? = some (SqB ep nx)) :
    Calls Tryz.prog 78 #[.pointer (some ⟨b, 0, none⟩), .int .i64 x] w fun e w' => e = .returned (.tuple #[.int .i64 (tailV ep nx x), errv (askE ep x)]) ∧ w = w' := by
  have H := Lib.hid h
  have h1 := sq1 h
  clear h
  by_cases ha : askE ep x = 0
  · have e2 : tailV ep nx x = nx := by simp [tailV, ha]
    rw [ha, e2]
    have AZ : Hid (asksE ep x true = 0) := ha
    clear e2 ha
    go_enter Tryz.func78, Tryz.ntmps78
    go_wp2_with (first | (go_at_call 134; go_must (refine (asks_zero b ep nx x true _ H.out AZ.out).mono ?_); rintro e w' ⟨rfl, rfl⟩) | (go_at_call 135; go_must (refine (load_any b 1 nx _ h1).mono ?_); rintro e w' ⟨rfl, rfl⟩))
    go_ret2
    exact ⟨rfl, rfl⟩
  · have e2 : tailV ep nx x = 0 := by simp [tailV, ha]
    rw [errv_of ha, e2]
    have AZ : Hid (asksE ep x true ≠ 0) := ha
    have hq : askE ep x = asksE ep x true := rfl
    rw [hq]
    clear e2 ha hq
    go_enter Tryz.func78, Tryz.ntmps78
    go_wp2_with (go_at_call 134; go_must (refine (asks_some b ep nx x true _ H.out AZ.out).mono ?_); rintro e w' ⟨rfl, rfl⟩)
    go_ret2
    exact ⟨rfl, rfl⟩
theorem in_yes (x most : Int) (w : World) (h : fitB 0 most x = true) : Calls Tryz.prog 105 #[.int .i64 x, .int .i64 most] w fun e w' => e = .returned (.bool true) ∧ w = w' := by
  have := in_any x most w
  rw [h] at this
  exact this
theorem in_no (x most : Int) (w : World) (h : fitB 0 most x = false) : Calls Tryz.prog 105 #[.int .i64 x, .int .i64 most] w fun e w' => e = .returned (.bool false) ∧ w = w' := by
  have := in_any x most w
  rw [h] at this
  exact this
theorem raise_any (b : Nat) (ep nx x n : Int) (w : World) (h : w.heap[b]? = some (SqB ep nx)) (hi : SqIn ep nx) :
    Calls Tryz.prog 173 #[.pointer (some ⟨b, 0, none⟩), .int .i64 x, .int .i64 n] w fun e w' => e = .returned (errv (raiseE ep x n)) ∧ Keep (One b) w w' ∧ w'.heap[b]? = some (SqB ep (raiseN ep nx x n)) := by
  have H := Lib.hid h
  have h1 := sq1 h
  have f1 := sqf h 1
  clear h
  obtain ⟨i0, i1, i2, i3⟩ := hi
  cases hf : fitB 0 1048576 n
  · have e1 : raiseE ep x n = 1 := by simp [raiseE, asksE, hf]
    have e3 : raiseN ep nx x n = nx := by simp [raiseN, e1]
    have AZ : Hid (asksE ep x false ≠ 0) := (by decide : (1 : Int) ≠ 0)
    rw [e1, e3]
    have HF := Lib.hid hf
    clear e1 e3 hf
    go_enter Tryz.func173, Tryz.ntmps173
    go_wp2_with fail
    refine (in_no _ _ _ HF.out).mono ?_
    rintro e w' ⟨rfl, rfl⟩
    go_wp2_with fail
    refine (asks_some b ep nx x false _ H.out AZ.out).mono ?_
    rintro e w' ⟨rfl, rfl⟩
    go_wp2_with fail
    go_ret
    exact ⟨rfl, Keep.refl _ _, H.out⟩
  · obtain ⟨n0, n1⟩ := fitB_true hf
    have HF := Lib.hid hf
    have hq : raiseE ep x n = asksE ep x true := by simp [raiseE, hf]
    by_cases ha : asksE ep x true = 0
    · have AZ := Lib.hid ha
      by_cases hr : nx < n
      · have e3 : raiseN ep nx x n = n := by simp [raiseN, hq, ha, hr]
        rw [hq, ha, e3]
        clear e3 ha hq hf
        go_enter Tryz.func173, Tryz.ntmps173
        go_wp2_with fail
        refine (in_yes _ _ _ HF.out).mono ?_
        rintro e w' ⟨rfl, rfl⟩
        go_wp2_with fail
        refine (asks_zero b ep nx x true _ H.out AZ.out).mono ?_
        rintro e w' ⟨rfl, rfl⟩
        go_wp2_with fail
        refine wp_loop_rounds 1 ?_
        rw [rounds_succ]
        go_wp2_with (first | (go_at_call 135; go_must (refine (load_any b 1 nx _ h1).mono ?_); rintro e w' ⟨rfl, rfl⟩) | (go_at_call 238; go_must (refine (cas_hit b 1 nx _ _ h1 f1).mono ?_); rintro e w' ⟨rfl, rfl⟩))
        go_ret
        exact ⟨rfl, (Keep.refl _ _).setOne _ _, blk_set H.out 1 _⟩
      · have e3 : raiseN ep nx x n = nx := by simp [raiseN, hq, ha, hr]
        rw [hq, ha, e3]
        clear e3 ha hq hf
        go_enter Tryz.func173, Tryz.ntmps173
        go_wp2_with fail
        refine (in_yes _ _ _ HF.out).mono ?_
        rintro e w' ⟨rfl, rfl⟩
        go_wp2_with fail
        refine (asks_zero b ep nx x true _ H.out AZ.out).mono ?_
        rintro e w' ⟨rfl, rfl⟩
        go_wp2_with fail
        refine wp_loop_rounds 1 ?_
        rw [rounds_succ]
        go_wp2_with (go_at_call 135; go_must (refine (load_any b 1 nx _ h1).mono ?_); rintro e w' ⟨rfl, rfl⟩)
        go_ret
        exact ⟨rfl, Keep.refl _ _, H.out⟩
    · have AZ := Lib.hid ha
      have e3 : raiseN ep nx x n = nx := by simp [raiseN, hq, ha]
      rw [hq, errv_of ha, e3]
      clear e3 ha hq hf
      go_enter Tryz.func173, Tryz.ntmps173
      go_wp2_with fail
      refine (in_yes _ _ _ HF.out).mono ?_
      rintro e w' ⟨rfl, rfl⟩
      go_wp2_with fail
      refine (asks_some b ep nx x true _ H.out AZ.out).mono ?_
      rintro e w' ⟨rfl, rfl⟩
      go_wp2_with fail
      go_ret
      exact ⟨rfl, Keep.refl _ _, H.out⟩
theorem set_any (b : Nat) (ep nx x n : Int) (w : World) (h : w.heap[b]? = some (SqB ep nx)) (hi : SqIn ep nx) :
    Calls Tryz.prog 57 #[.pointer (some ⟨b, 0, none⟩), .int .i64 x, .int .i64 n] w fun e w' => e = .returned (errv (setE ep x n)) ∧ Keep (One b) w w' ∧ w'.heap[b]? = some (SqB (setP ep x n) (setN ep nx x n)) := by
  have H := Lib.hid h
  have h0 := sq0 h
  have h1 := sq1 h
  have f0 := sqf h 0
  have f1 := sqf h 1
  clear h
  obtain ⟨i0, i1, i2, i3⟩ := hi
  cases hx : fitB 0 1099511627776 x
  · have e1 : setE ep x n = 1 := by simp [setE, hx]
    have e2 : setP ep x n = ep := by simp [setP, e1]
    have e3 : setN ep nx x n = nx := by simp [setN, e1]
    rw [e1, e2, e3]
    have HX := Lib.hid hx
    clear e1 e2 e3 hx
    go_enter Tryz.func57, Tryz.ntmps57
    go_wp2_with (go_at_call 105; go_must (refine (in_no _ _ _ HX.out).mono ?_); rintro e w' ⟨rfl, rfl⟩)
    go_ret
    exact ⟨rfl, Keep.refl _ _, H.out⟩
  · cases hn : fitB 0 1048576 n
    · have e1 : setE ep x n = 1 := by simp [setE, hn]
      have e2 : setP ep x n = ep := by simp [setP, e1]
      have e3 : setN ep nx x n = nx := by simp [setN, e1]
      rw [e1, e2, e3]
      have HX := Lib.hid hx
      have HN := Lib.hid hn
      clear e1 e2 e3 hx hn
      go_enter Tryz.func57, Tryz.ntmps57
      go_wp2_with fail
      refine (in_yes _ _ _ HX.out).mono ?_
      rintro e w' ⟨rfl, rfl⟩
      go_wp2_with fail
      refine (in_no _ _ _ HN.out).mono ?_
      rintro e w' ⟨rfl, rfl⟩
      go_wp2_with fail
      go_ret
      exact ⟨rfl, Keep.refl _ _, H.out⟩
    · have HX := Lib.hid hx
      have HN := Lib.hid hn
      by_cases hl : x ≤ ep
      · have e1 : setE ep x n = 6 := by simp [setE, hx, hn, hl]
        have e2 : setP ep x n = ep := by simp [setP, e1]
        have e3 : setN ep nx x n = nx := by simp [setN, e1]
        rw [e1, e2, e3]
        clear e1 e2 e3 hx hn
        go_enter Tryz.func57, Tryz.ntmps57
        go_wp2_with fail
        refine (in_yes _ _ _ HX.out).mono ?_
        rintro e w' ⟨rfl, rfl⟩
        go_wp2_with fail
        refine (in_yes _ _ _ HN.out).mono ?_
        rintro e w' ⟨rfl, rfl⟩
        go_wp2_with fail
        refine (epoch_any b ep nx _ H.out).mono ?_
        rintro e w' ⟨rfl, rfl⟩
        go_wp2_with fail
        go_ret
        exact ⟨rfl, Keep.refl _ _, H.out⟩
      · have e1 : setE ep x n = 0 := by simp [setE, hx, hn, hl]
        have e2 : setP ep x n = x := by simp [setP, e1]
        have e3 : setN ep nx x n = n := by simp [setN, e1]
        rw [e1, e2, e3]
        clear e1 e2 e3 hx hn
        go_enter Tryz.func57, Tryz.ntmps57
        go_wp2_with fail
        refine (in_yes _ _ _ HX.out).mono ?_
        rintro e w' ⟨rfl, rfl⟩
        go_wp2_with fail
        refine (in_yes _ _ _ HN.out).mono ?_
        rintro e w' ⟨rfl, rfl⟩
        go_wp2_with fail
        refine (epoch_any b ep nx _ H.out).mono ?_
        rintro e w' ⟨rfl, rfl⟩
        go_wp2_with fail
        refine (store_any b 0 ep x _ h0 f0).mono ?_
        rintro e w' ⟨rfl, rfl⟩
        have g := blk_set H.out 0 (.int .i64 x)
        have h1' := sq1 (ep := x) (nx := nx) (by exact g)
        have f1' := sqf (ep := x) (nx := nx) (by exact g) 1
        clear g
        go_wp2_with fail
        refine (store_any b 1 nx n _ h1' f1').mono ?_
        rintro e w' ⟨rfl, rfl⟩
        go_wp2_with fail
        go_ret
        exact ⟨rfl, ((Keep.refl _ _).setOne _ _).setOne _ _, blk_set (blk_set H.out 0 _) 1 _⟩
end Go.Proofs.YtobjlgfjfpmceaaGreatDoor
