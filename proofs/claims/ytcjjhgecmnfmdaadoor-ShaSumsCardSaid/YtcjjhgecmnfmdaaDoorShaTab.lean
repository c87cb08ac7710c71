/- The document's Tables and turn, walked. -/
import Derived.Test.YtcjjhgecmnfmdaaDoorShaConst
namespace Go.Proofs.YtcjjhgecmnfmdaaDoor
open Go.RowKit
set_option linter.unusedVariables false

theorem or_swap (x y : Int) : bits .or .u32 x y = bits .or .u32 y x := by
  show IntKind.u32.wrap ((BitVec.ofInt 32 x ||| BitVec.ofInt 32 y).toNat : Int) = IntKind.u32.wrap ((BitVec.ofInt 32 y ||| BitVec.ofInt 32 x).toNat : Int)
  rw [BitVec.or_comm]

set_option maxHeartbeats 400000 in
theorem turn_2 (x : Int) (hx : U32 x) (w : World) : Calls Tryd.prog 28 #[.int .u32 x, .int .i64 2] w fun e w' => e = .returned (.int .u32 (rotI x 2)) ∧ w = w' := by
  have hs : Hid (rotI x 2 = bits .or .u32 (x / 4) (x * 1073741824 % 4294967296)) := Lib.hid (or_swap _ _)
  obtain ⟨h0, h1⟩ := hx
  go_enter Tryd.func28, Tryd.ntmps28
  go_wp2
  go_ret
  exact ⟨by rw [hs.out]; rfl, rfl⟩

set_option maxHeartbeats 400000 in
theorem turn_6 (x : Int) (hx : U32 x) (w : World) : Calls Tryd.prog 28 #[.int .u32 x, .int .i64 6] w fun e w' => e = .returned (.int .u32 (rotI x 6)) ∧ w = w' := by
  have hs : Hid (rotI x 6 = bits .or .u32 (x / 64) (x * 67108864 % 4294967296)) := Lib.hid (or_swap _ _)
  obtain ⟨h0, h1⟩ := hx
  go_enter Tryd.func28, Tryd.ntmps28
  go_wp2
  go_ret
  exact ⟨by rw [hs.out]; rfl, rfl⟩

set_option maxHeartbeats 400000 in
theorem turn_7 (x : Int) (hx : U32 x) (w : World) : Calls Tryd.prog 28 #[.int .u32 x, .int .i64 7] w fun e w' => e = .returned (.int .u32 (rotI x 7)) ∧ w = w' := by
  have hs : Hid (rotI x 7 = bits .or .u32 (x / 128) (x * 33554432 % 4294967296)) := Lib.hid (or_swap _ _)
  obtain ⟨h0, h1⟩ := hx
  go_enter Tryd.func28, Tryd.ntmps28
  go_wp2
  go_ret
  exact ⟨by rw [hs.out]; rfl, rfl⟩

set_option maxHeartbeats 400000 in
theorem turn_11 (x : Int) (hx : U32 x) (w : World) : Calls Tryd.prog 28 #[.int .u32 x, .int .i64 11] w fun e w' => e = .returned (.int .u32 (rotI x 11)) ∧ w = w' := by
  have hs : Hid (rotI x 11 = bits .or .u32 (x / 2048) (x * 2097152 % 4294967296)) := Lib.hid (or_swap _ _)
  obtain ⟨h0, h1⟩ := hx
  go_enter Tryd.func28, Tryd.ntmps28
  go_wp2
  go_ret
  exact ⟨by rw [hs.out]; rfl, rfl⟩

set_option maxHeartbeats 400000 in
theorem turn_13 (x : Int) (hx : U32 x) (w : World) : Calls Tryd.prog 28 #[.int .u32 x, .int .i64 13] w fun e w' => e = .returned (.int .u32 (rotI x 13)) ∧ w = w' := by
  have hs : Hid (rotI x 13 = bits .or .u32 (x / 8192) (x * 524288 % 4294967296)) := Lib.hid (or_swap _ _)
  obtain ⟨h0, h1⟩ := hx
  go_enter Tryd.func28, Tryd.ntmps28
  go_wp2
  go_ret
  exact ⟨by rw [hs.out]; rfl, rfl⟩

set_option maxHeartbeats 400000 in
theorem turn_17 (x : Int) (hx : U32 x) (w : World) : Calls Tryd.prog 28 #[.int .u32 x, .int .i64 17] w fun e w' => e = .returned (.int .u32 (rotI x 17)) ∧ w = w' := by
  have hs : Hid (rotI x 17 = bits .or .u32 (x / 131072) (x * 32768 % 4294967296)) := Lib.hid (or_swap _ _)
  obtain ⟨h0, h1⟩ := hx
  go_enter Tryd.func28, Tryd.ntmps28
  go_wp2
  go_ret
  exact ⟨by rw [hs.out]; rfl, rfl⟩

set_option maxHeartbeats 400000 in
theorem turn_18 (x : Int) (hx : U32 x) (w : World) : Calls Tryd.prog 28 #[.int .u32 x, .int .i64 18] w fun e w' => e = .returned (.int .u32 (rotI x 18)) ∧ w = w' := by
  have hs : Hid (rotI x 18 = bits .or .u32 (x / 262144) (x * 16384 % 4294967296)) := Lib.hid (or_swap _ _)
  obtain ⟨h0, h1⟩ := hx
  go_enter Tryd.func28, Tryd.ntmps28
  go_wp2
  go_ret
  exact ⟨by rw [hs.out]; rfl, rfl⟩

set_option maxHeartbeats 400000 in
theorem turn_19 (x : Int) (hx : U32 x) (w : World) : Calls Tryd.prog 28 #[.int .u32 x, .int .i64 19] w fun e w' => e = .returned (.int .u32 (rotI x 19)) ∧ w = w' := by
  have hs : Hid (rotI x 19 = bits .or .u32 (x / 524288) (x * 8192 % 4294967296)) := Lib.hid (or_swap _ _)
  obtain ⟨h0, h1⟩ := hx
  go_enter Tryd.func28, Tryd.ntmps28
  go_wp2
  go_ret
  exact ⟨by rw [hs.out]; rfl, rfl⟩

set_option maxHeartbeats 400000 in
theorem turn_22 (x : Int) (hx : U32 x) (w : World) : Calls Tryd.prog 28 #[.int .u32 x, .int .i64 22] w fun e w' => e = .returned (.int .u32 (rotI x 22)) ∧ w = w' := by
  have hs : Hid (rotI x 22 = bits .or .u32 (x / 4194304) (x * 1024 % 4294967296)) := Lib.hid (or_swap _ _)
  obtain ⟨h0, h1⟩ := hx
  go_enter Tryd.func28, Tryd.ntmps28
  go_wp2
  go_ret
  exact ⟨by rw [hs.out]; rfl, rfl⟩

set_option maxHeartbeats 400000 in
theorem turn_25 (x : Int) (hx : U32 x) (w : World) : Calls Tryd.prog 28 #[.int .u32 x, .int .i64 25] w fun e w' => e = .returned (.int .u32 (rotI x 25)) ∧ w = w' := by
  have hs : Hid (rotI x 25 = bits .or .u32 (x / 33554432) (x * 128 % 4294967296)) := Lib.hid (or_swap _ _)
  obtain ⟨h0, h1⟩ := hx
  go_enter Tryd.func28, Tryd.ntmps28
  go_wp2
  go_ret
  exact ⟨by rw [hs.out]; rfl, rfl⟩

/-- The words of a list of numbers. -/
def kv (t : Nat) : Value := .int .u32 (kI t)
def fv (t : Nat) : Value := .int .u32 (fI t)
theorem infoU32 : (Tryd.prog.info? 40).map (fun i => (i.zero, i.size, i.bytes)) = some (some (.int .u32 0), 1, 4) := by kernel_rfl

set_option maxRecDepth 100000 in
set_option maxHeartbeats 3200000 in
theorem tables_any (w : World) : Calls Tryd.prog 10 #[] w fun e w' => ∃ x c y d, e = .returned (.tuple #[.slice x 64 c, .slice y 8 d]) ∧ Keep Non w w' ∧ Rd w' (.slice x 64 c) ((List.range 64).map kv) ∧ Rd w' (.slice y 8 d) ((List.range 8).map fv) := by
  obtain ⟨i0, hi0, hz0, hz1, hz2⟩ := info_parts infoU32
  go_enter Tryd.func10, Tryd.ntmps10
  go_wp2_with fail
  go_loopw [2, 4] (fun v i wr => ∃ k : Nat, k ≤ 64 ∧ i = .int .i64 k ∧ Keep Non w wr ∧ wr.ownsRow w.heap.size 40 1 v k ((List.range k).map kv) ∧ (∀ q, v.ownBlock = some q → q ≠ w.heap.size + 1) ∧ wr.ownsRow w.heap.size 40 1 (.slice (some ⟨w.heap.size + 1, 0, none⟩) 0 0) 0 []) (fun _ i _ => 64 - (intOf i).toNat)
  case atStart =>
    refine ⟨0, by omega, rfl, ((Keep.refl _ _).alloc _).alloc _, ?_, fun q e => ?_, ?_⟩
    · exact (World.ownsRow_made (base := w.heap.size) (e := 40) (size := 1) w #[] 0 (Nat.le_refl _) (by decide) rfl).alloc _
    · simp [Value.ownBlock] at e
      omega
    · have := World.ownsRow_made (base := w.heap.size) (e := 40) (size := 1) (w.alloc (.cells #[] 40)) #[] 0 (by simp) (by decide) rfl
      rwa [World.size_alloc] at this
  case round =>
    obtain ⟨k, hk, rfl, kp, ho, hne, hof⟩ := hrel
    have KP := Lib.hid kp
    have HO := Lib.hid ho
    have NE := Lib.hid hne
    have HF := Lib.hid hof
    clear kp ho hne hof
    by_cases hlt : k < 64
    · have hlt' : (k : Int) < 64 := by omega
      have CC := Lib.hid (cube_const k hlt)
      go_wp2_with fail
      refine (prime_at k hlt _).mono ?_
      rintro e w' ⟨rfl, rfl⟩
      go_wp2_with fail
      refine (cube_any (prN (k + 1)) _ rfl _).mono ?_
      rintro e w' ⟨he, rfl⟩
      rw [CC.out] at he
      subst he
      go_wp2_with (at_builtin; refine wpList_append_rd rfl _ _ 31 rfl w.heap.size 40 i0 (.int .u32 0) 4 Tryd.underlying31 hi0 hz0 hz1 hz2 rfl _ k _ rfl (HO.out.alloc _) (.slice (some ⟨wr.heap.size, 0, none⟩) 1 1) rfl [.int .u32 (kI k)] (rd_one _ _ _) (by intro u hu; simp at hu; subst hu; rfl) (by unfold maxLen; simp; omega) (by simp; omega) (by have := KP.out.size; simp; omega) ?_; intro v' w' ho hg hp; have HO2 := Lib.hid ho; have HG := Lib.hid hg; have HP := Lib.hid hp; clear ho hp hg)
      have ho2 := HO2.out
      rw [show (List.range k).map kv ++ [Value.int .u32 (kI k)] = (List.range (k + 1)).map kv by rw [List.range_succ, List.map_append]; rfl] at ho2
      refine ⟨⟨k + 1, by omega, by go_num, (KP.out.alloc _).grown HG.out (fun q e => .inr (HO.out.lt q e).1), ho2, fun q e => ?_, ?_⟩, by simp [intOf]; omega⟩
      · rcases HP.out with h | h
        · rw [h] at e
          exact NE.out q e
        · rw [h] at e
          have := (HF.out.lt (w.heap.size + 1) rfl).2
          simp at e
          omega
      · refine ownsRow_keep (S := fun q => (_ : Value).ownBlock = some q) (HF.out.alloc _) ((Keep.refl _ _).grown HG.out (fun q e => .inl e)) (fun q e h => ?_)
        have e' : w.heap.size + 1 = q := by simpa [Value.ownBlock] using e
        exact NE.out q h e'.symm
    · have e : k = 64 := by omega
      subst e
      rw [show ((64 : Nat) : Int) = 64 from rfl]
      obtain ⟨w1, rfl⟩ : ∃ w1 : World, w1 = wr := ⟨_, rfl⟩
      obtain ⟨x, c, rfl, _, _⟩ := ownsRow_form HO.out
      have RC := Lib.hid (Rd.ofOwns HO.out)
      have LT := Lib.hid HO.out.lt
      go_wp2_with fail
      go_loopw [3, 5] (fun v i wr => ∃ k : Nat, k ≤ 8 ∧ i = .int .i64 k ∧ Keep (One (w.heap.size + 1)) w1 wr ∧ wr.ownsRow w.heap.size 40 1 v k ((List.range k).map fv) ∧ (∀ q, v.ownBlock = some q → q = w.heap.size + 1 ∨ w1.heap.size ≤ q)) (fun _ i _ => 8 - (intOf i).toNat)
      case atStart =>
        exact ⟨0, by omega, rfl, Keep.refl _ _, HF.out, fun q e => by
          have e' : w.heap.size + 1 = q := by simpa [Value.ownBlock] using e
          exact .inl e'.symm⟩
      case round =>
        clear HF
        obtain ⟨k, hk, rfl, kp2, ho, hne⟩ := hrel
        have K2 := Lib.hid kp2
        have HO2 := Lib.hid ho
        have NE2 := Lib.hid hne
        clear kp2 ho hne
        by_cases hlt : k < 8
        · have hlt' : (k : Int) < 8 := by omega
          have SC := Lib.hid (square_const k hlt)
          go_wp2_with fail
          refine (prime_at k (by omega) _).mono ?_
          rintro e w' ⟨rfl, rfl⟩
          go_wp2_with fail
          refine (square_any (prN (k + 1)) _ rfl _).mono ?_
          rintro e w' ⟨he, rfl⟩
          rw [SC.out] at he
          subst he
          go_wp2_with (at_builtin; refine wpList_append_rd rfl _ _ 31 rfl w.heap.size 40 i0 (.int .u32 0) 4 Tryd.underlying31 hi0 hz0 hz1 hz2 rfl _ k _ rfl (HO2.out.alloc _) (.slice (some ⟨wr.heap.size, 0, none⟩) 1 1) rfl [.int .u32 (fI k)] (rd_one _ _ _) (by intro u hu; simp at hu; subst hu; rfl) (by unfold maxLen; simp; omega) (by simp; omega) (by have := KP.out.size; have := K2.out.size; simp; omega) ?_; intro v' w' ho hg hp; have HO3 := Lib.hid ho; have HG := Lib.hid hg; have HP := Lib.hid hp; clear ho hp hg)
          have ho2 := HO3.out
          rw [show (List.range k).map fv ++ [Value.int .u32 (fI k)] = (List.range (k + 1)).map fv by rw [List.range_succ, List.map_append]; rfl] at ho2
          refine ⟨⟨k + 1, by omega, by go_num, (K2.out.alloc _).grown HG.out (fun q e => by rcases NE2.out q e with h | h; exact .inl h; exact .inr h), ho2, fun q e => ?_⟩, by simp [intOf]; omega⟩
          rcases HP.out with h | h
          · rw [h] at e
            exact NE2.out q e
          · rw [h] at e
            have := K2.out.size
            simp at e
            omega
        · have e : k = 8 := by omega
          subst e
          obtain ⟨y, d, rfl, _, _⟩ := ownsRow_form HO2.out
          have RD := Lib.hid (Rd.ofOwns HO2.out)
          have RC2 := Lib.hid (RC.out.keep K2.out (fun q e h => NE.out q e h))
          have K3 : Hid (Keep Non w wr) := Lib.hid (KP.out.trans K2.out (fun _ _ h => h) (fun i hi h => by unfold One at h; show False; omega))
          go_wp2_with fail
          go_ret2
          exact ⟨x, c, y, d, rfl, K3.out, RC2.out, RD.out⟩

end Go.Proofs.YtcjjhgecmnfmdaaDoor
