/- TransitFirst, walked. -/
import Derived.Test.YtggnkcpnbnpbhaaAlive24
namespace Go.Proofs.Ytggnkcpnbnpbhaa
open Go.RowKit

theorem is_some (n k : Int) (hn : (n != 0) = true) (w : World) : Calls Try.prog 11 #[.iface 34 (.int .i64 n), .int .i64 k] w fun e w' => e = .returned (.bool (n == k)) ∧ w = w' := by
  have := is_any n k w
  rw [errv_of (by simpa using hn)] at this
  exact this

/-- A row of texts that came in: each a slice of bytes. -/
structure Txts (w : World) (b off len : Nat) (T : Nat → List UInt8) : Prop where
  lt : b < w.heap.size
  at_ : ∀ i, i < len → ∃ a cap, w.cell? ⟨b, off + i, none⟩ = some (.slice a (T i).length cap) ∧ Bs w (.slice a (T i).length cap) (T i)

/-- The line in the laws' memory: what lies from the law's beginning on. -/
def Own (w wr : World) : Nat → Prop := fun k => w.heap.size ≤ k ∧ k < wr.heap.size

/-- What holds at the head of each round. -/
structure FirstAt (w wr : World) (p n : Nat) (ms : List (List UInt8)) : Prop where
  keep : Keep Non w wr
  line : ∃ c, Line (Own w wr) wr p c ms ∧ ∀ j, 0 ≤ c j ∧ c j ≤ (n : Int)

theorem bump_bd {c : Nat → Int} {n : Nat} (i : Nat) (h : ∀ j, 0 ≤ c j ∧ c j ≤ (n : Int)) : ∀ j, 0 ≤ bump c i j ∧ bump c i j ≤ ((n + 1 : Nat) : Int) := by
  intro j
  have := h j
  unfold bump
  split <;> omega

theorem range_snoc (T : Nat → List UInt8) (k : Nat) : (List.range (k + 1)).map T = (List.range k).map T ++ [T k] := by
  rw [List.range_succ, List.map_append]
  rfl

theorem drop_get (T : Nat → List UInt8) {k len : Nat} (h : k < len) : (((List.range len).map T).drop k)[0]? = some (T k) := by
  rw [List.getElem?_drop]
  simp [h]

theorem drop_next (T : Nat → List UInt8) (k len : Nat) : (((List.range len).map T).drop k).eraseIdx 0 = ((List.range len).map T).drop (k + 1) := by
  rw [List.eraseIdx_zero, List.tail_drop]

set_option maxRecDepth 100000 in
set_option maxHeartbeats 1600000 in
theorem first_some (b off len cap : Nat) (T : Nat → List UInt8) (w : World) (ha : Txts w b off len T) (hl : len ≤ 64) :
    Calls Try.prog 3 #[.slice (some ⟨b, off, none⟩) len cap] w fun e w' => e = .returned (.bool true) ∧ Keep Non w w' := by
  have hlt := ha.lt
  have HA := Lib.hid ha
  clear ha
  go_enter Try.func3, Try.ntmps3
  go_wp2_with fail
  refine (alive_true _).mono ?_
  rintro e w1 ⟨rfl, hk1⟩
  go_wp2_with fail
  refine (new_line _).mono ?_
  rintro e w2 ⟨p, rfl, hp, hk2, hl2⟩
  have L2 := Lib.hid hl2.tight
  clear hl2
  go_wp2_with fail
  go_loopw [20] (fun i wr => ∃ k : Nat, k ≤ len ∧ i = .int .i64 k ∧ FirstAt w wr p k ((List.range k).map T) ∧ ∀ i, i < k → (T i).length ≤ 300) (fun i _ => len - (intOf i).toNat)
  case atStart =>
    have e1 := hk1.size
    exact ⟨0, by omega, rfl, ⟨hk1.trans1 hk2, fun _ => 0, L2.out.mono (fun k hk => ⟨by have := hk.1; omega, hk.2⟩), fun j => ⟨Int.le_refl 0, Int.le_refl 0⟩⟩, fun i hi => by omega⟩
  case round =>
    obtain ⟨k, hk, rfl, ⟨KP, c, hline, hc⟩, hT⟩ := hrel
    have HL := Lib.hid hline
    have HC := Lib.hid hc
    have HT := Lib.hid hT
    clear hline hc hT
    by_cases hlt2 : k < len
    · obtain ⟨a, cp, t1, t2⟩ := HA.out.at_ k hlt2
      have c1 : wr.cell? ⟨b, off + k, none⟩ = some (.slice a (T k).length cp) := (World.cell?_of_block (KP.block b hlt (fun e => e))).trans t1
      have B1 := Lib.hid (t2.keep KP (fun _ _ e => e))
      clear t1 t2
      by_cases h300 : 300 < (T k).length
      · go_wp2_with fail
        go_ret
        exact ⟨rfl, KP⟩
      · go_wp2_with fail
        refine (send_ok _ p c _ _ (T k) _ HL.out B1.out (by omega) (by simp; omega) (HC.out 0).1 (by have := (HC.out 0).2; omega)).mono ?_
        rintro e w4 ⟨rfl, hk4, hl4⟩
        have L4 := Lib.hid hl4.tight
        clear hl4
        go_wp2_with fail
        have e4 := hk4.size
        have e5 := KP.size
        go_roundw
        case rel =>
          refine ⟨k + 1, by omega, by go_num, ⟨KP.trans hk4 (fun _ _ h => h) (fun i hi h => by have := h.1; show False; omega), bump c 0, ?_, bump_bd 0 HC.out⟩, ?_⟩
          · rw [range_snoc]
            exact L4.out.mono (fun q hq => by
              refine ⟨?_, hq.2⟩
              rcases hq.1 with hq | hq
              · exact hq.1
              · omega)
          · intro i hi
            by_cases e : i = k
            · subst e
              omega
            · exact HT.out i (by omega)
        case measure => simp [intOf]; omega
    · have e : k = len := by omega
      subst e
      obtain ⟨wo, rfl⟩ : ∃ wo : World, wo = wr := ⟨_, rfl⟩
      go_wp2_with fail
      go_loopw [34] (fun i ws => ∃ j : Nat, j ≤ k ∧ i = .int .i64 j ∧ FirstAt w ws p (k + j) (((List.range k).map T).drop j)) (fun i _ => k - (intOf i).toNat)
      case atStart =>
        exact ⟨0, by omega, rfl, ⟨KP, c, HL.out, fun j => by have := HC.out j; omega⟩⟩
      case round =>
        obtain ⟨j, hj, rfl, ⟨KS, d, hlined, hd⟩⟩ := hrel
        have DL := Lib.hid hlined
        have DC := Lib.hid hd
        clear hlined hd
        by_cases hjk : j < k
        · obtain ⟨a, cp, t1, t2⟩ := HA.out.at_ j hjk
          have c1 : wr.cell? ⟨b, off + j, none⟩ = some (.slice a (T j).length cp) := (World.cell?_of_block (KS.block b hlt (fun e => e))).trans t1
          have B1 := Lib.hid t2
          clear t1 t2
          go_wp2_with fail
          refine (deliver_yes _ p d _ 0 (T j) _ DL.out (drop_get T hjk) (by have := HT.out j hjk; omega) (DC.out 1).1 (by have := (DC.out 1).2; omega) (by simp; omega)).mono ?_
          rintro e w4 ⟨v4, rfl, hk4, hl4, hb4, hf4⟩
          have L4 := Lib.hid hl4
          have B4 := Lib.hid hb4
          have e4 := hk4.size
          have e5 := KS.size
          have KW : Keep Non w w4 := KS.trans hk4 (fun _ _ h => h) (fun i hi h => by have := h.1; show False; omega)
          clear hl4 hb4
          go_wp2_with fail
          refine (bytes_same v4 _ (T j) _ B4.out (B1.out.keep KW (fun _ _ e => e))).mono ?_
          rintro e w5 ⟨rfl, rfl⟩
          go_wp2_with fail
          go_roundw
          case rel =>
            refine ⟨j + 1, by omega, by go_num, ⟨KW, bump d 1, ?_, bump_bd 1 DC.out⟩⟩
            rw [← drop_next]
            exact L4.out.mono (fun q hq => ⟨hq.1, by have := hq.2; omega⟩)
          case measure => simp [intOf]; omega
        · have e : j = k := by omega
          subst e
          have hnil : ((List.range j).map T).drop j = [] := by rw [List.drop_eq_nil_iff]; simp
          have DL0 : Hid (Line (Own w wr) wr p d []) := by have := DL.out; rw [hnil] at this; exact this
          go_wp2_with fail
          refine (deliver_no _ p d [] 0 _ DL0.out (.inr ⟨by omega, by simp⟩)).mono ?_
          rintro e w5 ⟨rfl, rfl⟩
          go_wp2_with fail
          refine (is_some 1 1 rfl _).mono ?_
          rintro e w5 ⟨rfl, rfl⟩
          go_wp2_with fail
          refine (len_any _ p d [] _ DL0.out).mono ?_
          rintro e w5 ⟨rfl, rfl⟩
          go_wp2_with fail
          go_ret
          exact ⟨rfl, KS⟩

set_option maxRecDepth 100000 in
set_option maxHeartbeats 800000 in
theorem first_long (a : Option Addr) (len cap : Nat) (w : World) (hl : 64 < len) :
    Calls Try.prog 3 #[.slice a len cap] w fun e w' => e = .returned (.bool true) ∧ Keep Non w w' := by
  go_enter Try.func3, Try.ntmps3
  go_wp2_with fail
  refine (alive_true _).mono ?_
  rintro e w1 ⟨rfl, hk1⟩
  go_wp2_with fail
  go_ret
  exact ⟨rfl, hk1⟩

set_option maxRecDepth 100000 in
set_option maxHeartbeats 800000 in
theorem first_nil (a : Option Addr) (cap : Nat) (w : World) :
    Calls Try.prog 3 #[.slice a 0 cap] w fun e w' => e = .returned (.bool true) ∧ Keep Non w w' := by
  go_enter Try.func3, Try.ntmps3
  go_wp2_with fail
  refine (alive_true _).mono ?_
  rintro e w1 ⟨rfl, hk1⟩
  go_wp2_with fail
  refine (new_line _).mono ?_
  rintro e w2 ⟨p, rfl, hp, hk2, hl2⟩
  have L2 := Lib.hid hl2
  clear hl2
  go_wp2_with fail
  refine wp_loop_rounds 1 ?_
  rw [rounds_succ]
  go_wp2_with fail
  refine wp_loop_rounds 1 ?_
  rw [rounds_succ]
  go_wp2_with fail
  refine (deliver_no _ p _ [] 0 _ L2.out (.inr ⟨by omega, by simp⟩)).mono ?_
  rintro e w5 ⟨rfl, rfl⟩
  go_wp2_with fail
  refine (is_some 1 1 rfl _).mono ?_
  rintro e w5 ⟨rfl, rfl⟩
  go_wp2_with fail
  refine (len_any _ p _ [] _ L2.out).mono ?_
  rintro e w5 ⟨rfl, rfl⟩
  go_wp2_with fail
  go_ret
  exact ⟨rfl, hk1.trans1 hk2⟩

end Go.Proofs.Ytggnkcpnbnpbhaa
