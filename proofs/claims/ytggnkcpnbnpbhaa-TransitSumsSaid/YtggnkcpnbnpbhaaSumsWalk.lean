/- TransitSums, walked: the round. -/
import Derived.Test.YtggnkcpnbnpbhaaSums
namespace Go.Proofs.Ytggnkcpnbnpbhaa
open Go.RowKit
set_option linter.unusedVariables false

set_option maxRecDepth 100000 in
set_option maxHeartbeats 3200000 in
theorem sums_some (b off len cap : Nat) (K I : Nat → Int) (T : Nat → List UInt8) (w : World) (ha : BActs w b off len K I T) (hl : len ≤ 100) :
    Calls Try.prog 4 #[.slice (some ⟨b, off, none⟩) len cap] w fun e w' => e = .returned (.bool true) ∧ Keep Non w w' := by
  have hlt := ha.lt
  have hmm := @run_makeMap Try.prog
  have HA := Lib.hid ha
  clear ha
  go_enter Try.func4, Try.ntmps4
  go_wp2_with fail
  refine (alive_true _).mono ?_
  rintro e w1 ⟨rfl, hk1⟩
  go_wp2_with fail
  refine (new_line _).mono ?_
  rintro e w2 ⟨p, rfl, hp, hk2, hl2⟩
  have L2 := Lib.hid hl2.tight
  clear hl2
  go_wp2_with fail
  go_loopw [23] (fun i wr => ∃ k : Nat, k ≤ len ∧ i = .int .i64 k ∧ ∃ c ms D, SumsAt w wr p w2.heap.size k c ms D) (fun i _ => len - (intOf i).toNat)
  case atStart =>
    have e1 := hk1.size
    have e2 := hk2.size
    refine ⟨0, by omega, rfl, fun _ => 0, [], .map [], (hk1.trans1 hk2).alloc _, ?_, by omega, World.ownsMap_made _ _ _ _, rfl, by simp, fun j => ⟨Int.le_refl 0, Int.le_refl 0⟩, fun m hm => by simp at hm⟩
    refine (L2.out.keep ((Keep.refl Non _).alloc _) (fun _ _ e => e)).mono (fun k hk => ⟨by have := hk.1; omega, by have := hk.2; simp; omega, by have := hk.2; omega⟩)
  case round =>
    obtain ⟨k, hk, rfl, c, ms, D, hs⟩ := hrel
    have HS := Lib.hid hs
    have hb0 := lt_of_block (hs.map.choose_spec.choose_spec.1)
    have ha2 := HA.out.keep hs.keep
    clear hs
    by_cases hlt2 : k < len
    · have c0 := ha2.kind k hlt2
      have c1 := ha2.ix k hlt2
      obtain ⟨ta, tc, c2, B2⟩ := ha2.by_ k hlt2
      have HB := Lib.hid B2
      have hbl := ha2.lt
      have hne : ¬ b = wr.heap.size := by omega
      clear ha2 B2
      by_cases h300 : 300 < (T k).length
      · go_wp2_with fail
        go_ret
        exact ⟨rfl, HS.out.keep.alloc _⟩
      · obtain ⟨ta', tc', c2', B0⟩ := HA.out.by_ k hlt2
        have B0' : Bs w (.slice ta (T k).length tc) (T k) := by
          have e := (World.cell?_of_block (a := ⟨b, off + k * 3 + 2, none⟩) (HS.out.keep.block b hlt (fun e => e))).symm.trans c2
          rw [c2'] at e
          injection e with e
          injection e with e1 e2 e3
          subst e1
          subst e3
          exact B0
        have HB0 := Lib.hid B0'
        have hT : (T k).length ≤ 300 := by omega
        have hm64 := HS.out.len
        have hc64 := fun j => (HS.out.bd j).2
        have HC := Lib.hid hc64
        have hkey : keyOf Try.prog 9 (.string ⟨(T k).toArray⟩) = some (.string (T k)) := by
          have := WideMaps.keyOf_string_mk (k := 9) Try.underlying9 (s := ⟨(T k).toArray⟩) (by show (T k).toArray.size ≤ maxLen; unfold maxLen; simp; omega)
          simpa using this
        have HK := Lib.hid hkey
        clear B0 B0' c2' hkey hc64
        go_upto_block 2 with fail
        go_cut [] (fun wx => ∃ c' ms' D', SumsAt w wx p w2.heap.size (k + 1) c' ms' D')
        case first =>
          go_wp2_with fail
          · by_cases hm : ms.length < 64
            · refine (send_ok _ p c ms _ (T k) _ (HS.out.line.keep ((Keep.refl Non _).alloc _) (fun _ _ e => e)) (HB.out.keep ((Keep.refl Non _).alloc _) (fun _ _ e => e)) (by omega) hm (HS.out.bd 0).1 (by have := HC.out 0; omega)).mono ?_
              rintro e w4 ⟨rfl, hk4, hl4⟩
              have K4 := Lib.hid hk4
              have L4 := Lib.hid hl4
              have x4 : w4.cell? ⟨wr.heap.size, 2, none⟩ = some (.slice ta (T k).length tc) := by rw [World.cell?_of_block (hk4.block wr.heap.size (by simp) (fun e => by have := e.2.1; omega))]; exact World.cell?_alloc_new _ _ _ _
              have c4 := conv_bs w4 _ (T k) (HB0.out.keep (HS.out.keepTo hk4) (fun _ _ e => e))
              have M4 := Lib.hid (HS.out.mapTo hk4)
              clear hk4 hl4 c0 c1 c2
              go_wp2_with (at_mapUpdate; refine wpList_mapUpdate_own _ rfl _ _ _ 38 rfl 9 4 strKeyed Try.underlying38 _ w2.heap.size k D rfl M4.out (by unfold maxLen; omega) _ _ _ rfl rfl HK.out _ [] (plainElem_bool Try.underlying4 true) ?_; intro w5 hown5 hgrow5; have M5 := Lib.hid hown5; have G5 := Lib.hid hgrow5; clear hown5 hgrow5)
              go_meet
              exact ⟨_, _, _, HS.out.putIn K4.out L4.out hT hm M5.out G5.out⟩
            · refine (send_full _ p c ms _ (T k) _ (HS.out.line.keep ((Keep.refl Non _).alloc _) (fun _ _ e => e)) (HB.out.keep ((Keep.refl Non _).alloc _) (fun _ _ e => e)) (by omega) (by omega)).mono ?_
              rintro e w4 ⟨rfl, hk4⟩
              have K4 := Lib.hid hk4
              clear hk4 c0 c1 c2
              go_wp2_with fail
              go_meet
              exact ⟨c, ms, D, HS.out.step K4.out.ofNon ((HS.out.line.keep ((Keep.refl Non _).alloc _) (fun _ _ e => e)).keep K4.out (fun _ _ e => e)) (fun k h => .inl h) HS.out.sum hm64 (fun j => ⟨(HS.out.bd j).1, by omega⟩) (fun _ h => h)⟩
          · rcases place_cases ms (I k) with hI | ⟨hI0, hI1, l, hl1, hl2⟩
            · refine (deliver_no _ p c ms (I k) _ (HS.out.line.keep ((Keep.refl Non _).alloc _) (fun _ _ e => e)) hI).mono ?_
              rintro e w4 ⟨rfl, rfl⟩
              go_wp2_with fail
              go_meet
              exact ⟨c, ms, D, HS.out.step (Keep.refl _ _) (HS.out.line.keep ((Keep.refl Non _).alloc _) (fun _ _ e => e)) (fun k h => .inl h) HS.out.sum hm64 (fun j => ⟨(HS.out.bd j).1, by omega⟩) (fun _ h => h)⟩
            · have hll := (HS.out.sent l hl2).1
              have hsl := (HS.out.sent l hl2).2
              refine (deliver_at _ p c ms (I k) l _ (HS.out.line.keep ((Keep.refl Non _).alloc _) (fun _ _ e => e)) hI0 hl1 (by omega) (HS.out.bd 1).1 (by have := HC.out 1; omega) hm64).mono ?_
              rintro e w4 ⟨v4, rfl, hk4, hl4, hb4, hf4⟩
              have K4 := Lib.hid hk4
              have L4 := Lib.hid hl4
              have S4 := Lib.hid hsl
              have c4 := conv_bs w4 v4 l hb4
              have M4 := Lib.hid (HS.out.mapTo hk4)
              have HL1 := Lib.hid hl1
              have hkey : keyOf Try.prog 9 (.string ⟨l.toArray⟩) = some (.string l) := by
                have := WideMaps.keyOf_string_mk (k := 9) Try.underlying9 (s := ⟨l.toArray⟩) (by show l.toArray.size ≤ maxLen; unfold maxLen; simp; omega)
                simpa using this
              have HKl := Lib.hid hkey
              clear hk4 hl4 hb4 hf4 hsl hl1 hkey c0 c1 c2
              have r4 := look_bool M4.out HKl.out S4.out
              go_wp2_with fail
              go_meet
              refine ⟨_, _, D, HS.out.step K4.out L4.out (fun k h => .inl h) ?_ (by rw [List.length_eraseIdx]; split <;> omega) (bump_le 1 fun j => (HS.out.bd j).1) (fun m h => List.mem_of_mem_eraseIdx h)⟩
              have := HS.out.sum
              rw [List.length_eraseIdx, if_pos (by omega)]
              simp [bump]
              omega
          · rcases place_cases ms (I k) with hI | ⟨hI0, hI1, l, hl1, hl2⟩
            · refine (lose_no _ p c ms (I k) _ (HS.out.line.keep ((Keep.refl Non _).alloc _) (fun _ _ e => e)) hI).mono ?_
              rintro e w4 ⟨rfl, rfl⟩
              go_wp2_with fail
              go_meet
              exact ⟨c, ms, D, HS.out.step (Keep.refl _ _) (HS.out.line.keep ((Keep.refl Non _).alloc _) (fun _ _ e => e)) (fun k h => .inl h) HS.out.sum hm64 (fun j => ⟨(HS.out.bd j).1, by omega⟩) (fun _ h => h)⟩
            · refine (lose_at _ p c ms (I k) l _ (HS.out.line.keep ((Keep.refl Non _).alloc _) (fun _ _ e => e)) hI0 hl1 (HS.out.bd 2).1 (by have := HC.out 2; omega) hm64).mono ?_
              rintro e w4 ⟨rfl, hk4, hl4⟩
              have K4 := Lib.hid hk4
              have L4 := Lib.hid hl4
              clear hk4 hl4 hl1 c0 c1 c2
              go_wp2_with fail
              go_meet
              refine ⟨_, _, D, HS.out.step K4.out L4.out (fun k h => .inl h) ?_ (by rw [List.length_eraseIdx]; split <;> omega) (bump_le 2 fun j => (HS.out.bd j).1) (fun m h => List.mem_of_mem_eraseIdx h)⟩
              have := HS.out.sum
              rw [List.length_eraseIdx, if_pos (by omega)]
              simp [bump]
              omega
          · rcases place_cases ms (I k) with hI | ⟨hI0, hI1, l, hl1, hl2⟩
            · refine (twice_no _ p c ms (I k) _ (HS.out.line.keep ((Keep.refl Non _).alloc _) (fun _ _ e => e)) hI).mono ?_
              rintro e w4 ⟨rfl, rfl⟩
              go_wp2_with fail
              go_meet
              exact ⟨c, ms, D, HS.out.step (Keep.refl _ _) (HS.out.line.keep ((Keep.refl Non _).alloc _) (fun _ _ e => e)) (fun k h => .inl h) HS.out.sum hm64 (fun j => ⟨(HS.out.bd j).1, by omega⟩) (fun _ h => h)⟩
            · by_cases hm : ms.length < 64
              · refine (twice_at _ p c ms (I k) l _ (HS.out.line.keep ((Keep.refl Non _).alloc _) (fun _ _ e => e)) hI0 hl1 (HS.out.bd 3).1 (by have := HC.out 3; omega) hm).mono ?_
                rintro e w4 ⟨rfl, hk4, hl4⟩
                have K4 := Lib.hid hk4
                have L4 := Lib.hid hl4
                clear hk4 hl4 hl1 c0 c1 c2
                go_wp2_with fail
                go_meet
                refine ⟨_, _, D, HS.out.step K4.out L4.out (fun k h => h) ?_ (by simp; omega) (bump_le 3 fun j => (HS.out.bd j).1) (fun m h => ?_)⟩
                · have := HS.out.sum
                  simp [bump]
                  omega
                · rcases List.mem_append.1 h with h | h
                  · exact h
                  · simp at h
                    subst h
                    exact hl2
              · refine (twice_fullAt _ p c ms (I k) _ (HS.out.line.keep ((Keep.refl Non _).alloc _) (fun _ _ e => e)) hI0 hI1 (by omega)).mono ?_
                rintro e w4 ⟨rfl, hk4⟩
                have K4 := Lib.hid hk4
                clear hk4 hl1 c0 c1 c2
                go_wp2_with fail
                go_meet
                exact ⟨c, ms, D, HS.out.step K4.out.ofNon ((HS.out.line.keep ((Keep.refl Non _).alloc _) (fun _ _ e => e)).keep K4.out (fun _ _ e => e)) (fun k h => .inl h) HS.out.sum hm64 (fun j => ⟨(HS.out.bd j).1, by omega⟩) (fun _ h => h)⟩
          · refine (clear_any _ p c ms _ (HS.out.line.keep ((Keep.refl Non _).alloc _) (fun _ _ e => e)) (HS.out.bd 2).1 (by have := HC.out 2; omega) hm64).mono ?_
            rintro e w4 ⟨rfl, hk4, hl4⟩
            have K4 := Lib.hid hk4
            have L4 := Lib.hid hl4
            clear hk4 hl4 c0 c1 c2
            go_wp2_with fail
            go_meet
            refine ⟨_, _, D, HS.out.step K4.out L4.out (fun k h => .inl h) ?_ (by simp) (fun j => ?_) (fun m h => by simp at h)⟩
            · have := HS.out.sum
              simp [addc]
              omega
            · have := (HS.out.bd j).1
              unfold addc
              split <;> omega
        case rest =>
          obtain ⟨c', ms', D', hs'⟩ := hcut
          have HX := Lib.hid hs'
          have b00 := (hs'.bd 0).1
          have b01 := (hs'.bd 0).2
          have b10 := (hs'.bd 1).1
          have b11 := (hs'.bd 1).2
          have b20 := (hs'.bd 2).1
          have b21 := (hs'.bd 2).2
          have b30 := (hs'.bd 3).1
          have b31 := (hs'.bd 3).2
          have hsum : (c' 0 + c' 3 != c' 1 + c' 2 + (ms'.length : Int)) = false := by have := hs'.sum; simpa using this
          have hlen := hs'.len
          clear hs' c0 c1 c2
          go_wp2_with fail
          refine (counts_any _ p c' ms' _ HX.out.line).mono ?_
          rintro e w6 ⟨rfl, hk6⟩
          have K6 := Lib.hid hk6
          have L6 := Lib.hid (HX.out.line.keep hk6 (fun _ _ e => e))
          clear hk6
          go_wp2_with fail
          refine (len_any _ p c' ms' _ L6.out).mono ?_
          rintro e w7 ⟨rfl, rfl⟩
          go_wp2_with fail
          refine (len_any _ p c' ms' _ L6.out).mono ?_
          rintro e w7 ⟨rfl, rfl⟩
          go_wp2_with fail
          go_roundw
          case rel => exact ⟨k + 1, by omega, by go_num, c', ms', D', HX.out.keep.trans1 K6.out, L6.out.mono (fun q h => ⟨h.1, K6.out.lt h.2.1, h.2.2⟩), HX.out.b0, ownsMap_keep HX.out.map K6.out (fun e => e), HX.out.sum, HX.out.len, HX.out.bd, HX.out.sent⟩
          case measure => simp [intOf]; omega
    · have e : k = len := by omega
      subst e
      go_wp2_with fail
      go_ret
      exact ⟨rfl, HS.out.keep⟩

set_option maxRecDepth 100000 in
set_option maxHeartbeats 800000 in
theorem sums_long (a : Option Addr) (len cap : Nat) (w : World) (hl : 100 < len) :
    Calls Try.prog 4 #[.slice a len cap] w fun e w' => e = .returned (.bool true) ∧ Keep Non w w' := by
  go_enter Try.func4, Try.ntmps4
  go_wp2_with fail
  refine (alive_true _).mono ?_
  rintro e w1 ⟨rfl, hk1⟩
  go_wp2_with fail
  go_ret
  exact ⟨rfl, hk1⟩

set_option maxRecDepth 100000 in
set_option maxHeartbeats 800000 in
theorem sums_nil (a : Option Addr) (cap : Nat) (w : World) :
    Calls Try.prog 4 #[.slice a 0 cap] w fun e w' => e = .returned (.bool true) ∧ Keep Non w w' := by
  have hmm := @run_makeMap Try.prog
  go_enter Try.func4, Try.ntmps4
  go_wp2_with fail
  refine (alive_true _).mono ?_
  rintro e w1 ⟨rfl, hk1⟩
  go_wp2_with fail
  refine (new_line _).mono ?_
  rintro e w2 ⟨p, rfl, hp, hk2, hl2⟩
  clear hl2
  go_wp2_with fail
  refine wp_loop_rounds 1 ?_
  rw [rounds_succ]
  go_wp2_with fail
  go_ret
  exact ⟨rfl, (hk1.trans1 hk2).alloc _⟩

end Go.Proofs.Ytggnkcpnbnpbhaa
