/- A text's digest: Parse, walked. -/
import Derived.Test.YtcjjhgecmnfmdaaDoorShaHex
import Derived.Lib.Bytealg
import Derived.Lib.Strings
import Derived.Laws.Externs
import Derived.Laws.Tables
namespace Go.Proofs.YtcjjhgecmnfmdaaDoor
open Go.RowKit Go.Shelf
set_option linter.unusedVariables false

/-- Is it a sign; its number. -/
def isSg (c : UInt8) : Bool := (48 ≤ c && c ≤ 57) || (97 ≤ c && c ≤ 102)
def sgN (c : UInt8) : Nat := if c ≤ 57 then c.toNat - 48 else c.toNat - 87
/-- A digest's text? -/
def okL (l : List UInt8) : Bool := l.length == 64 && l.all isSg
/-- The number of the sign at a place. -/
def nvL (l : List UInt8) (i : Nat) : Nat := sgN (l.getD i 0)
/-- A byte, as far as so many signs are read. -/
def pcL (l : List UInt8) (i j : Nat) : Nat := if 2 * j + 1 < i then nvL l (2 * j) * 16 + nvL l (2 * j + 1) else if 2 * j < i then nvL l (2 * j) else 0
def parC (l : List UInt8) (i : Nat) : Array Value := ((List.range 32).map fun j => Value.int .u8 ((pcL l i j : Nat) : Int)).toArray
/-- The digest of a text; noughts where it is none; the error's number. -/
def prD (l : List UInt8) : List UInt8 := if okL l = true then (List.range 32).map fun j => UInt8.ofNat (pcL l 64 j) else List.replicate 32 0
def prE (l : List UInt8) : Int := if okL l = true then 0 else 2

theorem sg_ix : ∀ n : Nat, n < 256 → Lib.indexByte signsL (UInt8.ofNat n) = if isSg (UInt8.ofNat n) = true then (sgN (UInt8.ofNat n) : Int) else -1 := by decide +kernel
theorem sg_lt : ∀ n : Nat, n < 256 → isSg (UInt8.ofNat n) = true → sgN (UInt8.ofNat n) < 16 := by decide +kernel
theorem or_nib : ∀ a : Nat, a < 16 → ∀ b : Nat, b < 16 → bits .or .u8 ((a : Int) * 16) (b : Int) = (a : Int) * 16 + (b : Int) := by decide +kernel
theorem ofNat_toNat8 (c : UInt8) : UInt8.ofNat c.toNat = c := by simp
theorem sgN_lt {c : UInt8} (h : isSg c = true) : sgN c < 16 := by
  have := sg_lt c.toNat c.toNat_lt
  rw [ofNat_toNat8] at this
  exact this h
theorem sg_index (c : UInt8) : Lib.indexByte signsL c = if isSg c = true then (sgN c : Int) else -1 := by
  have := sg_ix c.toNat c.toNat_lt
  rw [ofNat_toNat8] at this
  exact this
theorem parC_size (l : List UInt8) (i : Nat) : (parC l i).size = 32 := by simp [parC]
theorem parC_one (l : List UInt8) (i : Nat) : (parC l i).all (·.oneCell') = true := by
  rw [Array.all_eq_true]
  intro j hj
  simp only [parC, List.getElem_toArray, List.getElem_map]
  rfl
theorem parC_get (l : List UInt8) (i j : Nat) (h : j < 32) : (parC l i)[j]? = some (.int .u8 ((pcL l i j : Nat) : Int)) := by simp [parC, h]
theorem pc_old (l : List UInt8) (i : Nat) (h : i < 64) : pcL l (i + 1) (i / 2) = pcL l i (i / 2) * 16 + nvL l i ∧ (pcL l i (i / 2) = 0 ∨ pcL l i (i / 2) = nvL l (2 * (i / 2)) ∧ 2 * (i / 2) < i) := by
  unfold pcL
  rcases Nat.mod_two_eq_zero_or_one i with e | e
  · have e2 : 2 * (i / 2) = i := by omega
    rw [e2, if_neg (by omega), if_pos (by omega), if_neg (by omega), if_neg (by omega)]
    simp
  · have e2 : 2 * (i / 2) + 1 = i := by omega
    have e3 : 2 * (i / 2) < i := by omega
    rw [if_pos (by omega), if_neg (by omega), if_pos (by omega)]
    refine ⟨?_, .inr ⟨rfl, e3⟩⟩
    rw [e2]
theorem pc_other (l : List UInt8) (i j : Nat) (h : j ≠ i / 2) : pcL l (i + 1) j = pcL l i j := by
  unfold pcL
  by_cases h1 : 2 * j + 1 < i
  · rw [if_pos h1, if_pos (by omega)]
  · rw [if_neg h1, if_neg (by omega)]
    by_cases h2 : 2 * j < i
    · rw [if_pos h2, if_pos (by omega)]
    · rw [if_neg h2, if_neg (by omega)]
theorem parC_set (l : List UInt8) (i : Nat) (h : i < 64) (x : Int) (hx : x = ((pcL l (i + 1) (i / 2) : Nat) : Int)) : (parC l i).setIfInBounds (i / 2) (.int .u8 x) = parC l (i + 1) := by
  subst hx
  apply Array.ext_getElem?
  intro j
  rw [Array.getElem?_setIfInBounds]
  by_cases e : i / 2 = j
  · subst e
    rw [if_pos rfl, if_pos (by rw [parC_size]; omega), parC_get _ _ _ (by omega)]
  · rw [if_neg e]
    by_cases hj : j < 32
    · rw [parC_get _ _ _ hj, parC_get _ _ _ hj, pc_other l i j (fun h => e h.symm)]
    · rw [Array.getElem?_eq_none (by rw [parC_size]; omega), Array.getElem?_eq_none (by rw [parC_size]; omega)]
theorem pc_lt {l : List UInt8} (h : okL l = true) (j : Nat) (hj : j < 32) : pcL l 64 j < 256 := by
  unfold okL at h
  simp only [Bool.and_eq_true, beq_iff_eq] at h
  have hs : ∀ i, i < 64 → nvL l i < 16 := fun i hi => by
    unfold nvL
    apply sgN_lt
    have := List.all_eq_true.1 h.2 (l.getD i 0) (by rw [List.getD_eq_getElem?_getD, List.getElem?_eq_getElem (by omega)]; simp)
    exact this
  unfold pcL
  rw [if_pos (by omega)]
  have := hs (2 * j) (by omega)
  have := hs (2 * j + 1) (by omega)
  omega
theorem parC_ok {l : List UInt8} (h : okL l = true) : Value.agg (parC l 64) = arrV (prD l) := by
  unfold arrV prD parC
  rw [if_pos h, List.map_map]
  congr 2
  apply List.map_congr_left
  intro j hj
  have := pc_lt h j (List.mem_range.1 hj)
  simp only [Function.comp, bv, UInt8.toNat_ofNat']
  congr 1
  omega
theorem prD_len (l : List UInt8) : (prD l).length = 32 := by
  unfold prD
  split <;> simp

theorem results_row_tmp {P : Program} {fn : Func} {p u : Tmp} {ty : TypeId} (h : fn.results = #[.cell p ty, .tmp u]) (tmps : Array Value) (w : World) (g : Nat) (t : TypeId) (cs : Array Value) (fr : Nat × Nat) (d : TypeDesc)
    (hp : tmps.getD p undef = .pointer (some ⟨g, 0, none⟩)) (hg : w.heap[g]? = some (.cells cs t fr))
    (hu : P.underlying ty = some d) (hd : (match d with | .struct _ | .array _ _ => true | _ => false) = true) (hi : (P.info? ty).map (·.size) = some cs.size) :
    (results fn tmps).run P w = .ok (.tuple #[.agg cs, tmps.getD u undef]) w := by
  have hp' : tmps[p]?.getD undef = .pointer (some ⟨g, 0, none⟩) := by simpa using hp
  simp [results, h, hp', asAddr, run_loadVar_row w g t ty cs fr d hg hu hd hi]
theorem index_str (l : List UInt8) (k : Nat) (h : k < l.length) (w : World) : (Instr.index 9 (.string ⟨l.toArray⟩) (.int .i64 (k : Int))).run Tryd.prog w = .ok (.int .u8 (((l.getD k 0).toNat : Nat) : Int)) w := by
  have h2 : k < (⟨l.toArray⟩ : ByteArray).size := by show k < l.toArray.size; simpa using h
  have e : (⟨l.toArray⟩ : ByteArray)[k]? = some (l.getD k 0) := by
    rw [getElem?_pos (⟨l.toArray⟩ : ByteArray) k h2]
    show some (l.toArray[k]'(by simpa using h)) = _
    simp [h]
  simp [Instr.index, go_sem, e]

set_option maxHeartbeats 1000000 in
theorem ixb_any (s : ByteArray) (c : Int) (w : World) :
    Calls Tryd.prog 34 #[.string s, .int .u8 c] w fun e w' => e = .returned (.int .i64 (Lib.indexByte s.data.toList c.toNat.toUInt8)) ∧ w = w' := by
  go_enter Tryd.func34, Tryd.ntmps34
  go_wp2
  rw [run_callFunc_extern Tryd.func36 (by kernel_rfl) (by kernel_rfl) (by kernel_rfl) (e := Extern.BytealgIndexByte.indexByte) (by kernel_rfl), Lib.run_indexByteString]
  simp only [Result.andThen]
  rw [Oper.upon_value]
  go_wp2
  go_ret
  exact ⟨rfl, rfl⟩
theorem ix_any (s : ByteArray) (c : Int) (w : World) :
    Calls Tryd.prog 30 #[.string s, .int .u8 c] w fun e w' => e = .returned (.int .i64 (Lib.indexByte s.data.toList c.toNat.toUInt8)) ∧ w = w' := by
  go_enter Tryd.func30, Tryd.ntmps30
  go_wp2_with fail
  refine (ixb_any s c _).mono ?_
  rintro e w' ⟨rfl, rfl⟩
  go_wp2_with fail
  go_ret
  exact ⟨rfl, rfl⟩
theorem ix_sign (c : UInt8) (w : World) :
    Calls Tryd.prog 30 #[.string ⟨#[48, 49, 50, 51, 52, 53, 54, 55, 56, 57, 97, 98, 99, 100, 101, 102]⟩, .int .u8 ((c.toNat : Nat) : Int)] w fun e w' => e = .returned (.int .i64 (if isSg c = true then (sgN c : Int) else -1)) ∧ w = w' := by
  refine (ix_any _ _ _).mono ?_
  rintro e w' ⟨rfl, rfl⟩
  refine ⟨?_, rfl⟩
  rw [← sg_index]
  congr 2
  show Lib.indexByte signsL _ = _
  congr 1
  simp

section
attribute [local simp high] hA27 hS27
set_option maxRecDepth 100000 in
set_option maxHeartbeats 1600000 in
theorem parse_any (l : List UInt8) (hl : l.length ≤ 1000) (w : World) :
    Calls Tryd.prog 21 #[.string ⟨l.toArray⟩] w fun e w' => e = .returned (.tuple #[arrV (prD l), errv (prE l)]) ∧ Keep Non w w' := by
  have hsz : (⟨l.toArray⟩ : ByteArray).size = l.length := by show l.toArray.size = _; simp
  by_cases h64 : l.length = 64
  · have hne : ((l.length : Int) != 64) = false := by simp [h64]
    go_enter Tryd.func21, Tryd.ntmps21
    go_wp2_with fail
    go_loopw [14] (fun i wr => ∃ k : Nat, k ≤ 64 ∧ i = .int .i64 k ∧ Keep Non w wr ∧ wr.heap[w.heap.size]? = some (.cells #[.int .u8 0, .int .u8 0, .int .u8 0, .int .u8 0, .int .u8 0, .int .u8 0, .int .u8 0, .int .u8 0, .int .u8 0, .int .u8 0, .int .u8 0, .int .u8 0, .int .u8 0, .int .u8 0, .int .u8 0, .int .u8 0, .int .u8 0, .int .u8 0, .int .u8 0, .int .u8 0, .int .u8 0, .int .u8 0, .int .u8 0, .int .u8 0, .int .u8 0, .int .u8 0, .int .u8 0, .int .u8 0, .int .u8 0, .int .u8 0, .int .u8 0, .int .u8 0] 27 (0, 0)) ∧ wr.heap[w.heap.size + 1]? = some (.cells (parC l k) 27 (0, 0)) ∧ ∀ j, j < k → isSg (l.getD j 0) = true) (fun i _ => 64 - (intOf i).toNat)
    case atStart =>
      refine ⟨0, by omega, rfl, ((Keep.refl _ _).alloc _).alloc _, blk_alloc (blk_new _ _) _, ?_, fun j hj => by omega⟩
      have := blk_new (w.alloc (.cells #[.int .u8 0, .int .u8 0, .int .u8 0, .int .u8 0, .int .u8 0, .int .u8 0, .int .u8 0, .int .u8 0, .int .u8 0, .int .u8 0, .int .u8 0, .int .u8 0, .int .u8 0, .int .u8 0, .int .u8 0, .int .u8 0, .int .u8 0, .int .u8 0, .int .u8 0, .int .u8 0, .int .u8 0, .int .u8 0, .int .u8 0, .int .u8 0, .int .u8 0, .int .u8 0, .int .u8 0, .int .u8 0, .int .u8 0, .int .u8 0, .int .u8 0, .int .u8 0] 27)) (.cells #[.int .u8 0, .int .u8 0, .int .u8 0, .int .u8 0, .int .u8 0, .int .u8 0, .int .u8 0, .int .u8 0, .int .u8 0, .int .u8 0, .int .u8 0, .int .u8 0, .int .u8 0, .int .u8 0, .int .u8 0, .int .u8 0, .int .u8 0, .int .u8 0, .int .u8 0, .int .u8 0, .int .u8 0, .int .u8 0, .int .u8 0, .int .u8 0, .int .u8 0, .int .u8 0, .int .u8 0, .int .u8 0, .int .u8 0, .int .u8 0, .int .u8 0, .int .u8 0] 27)
      rw [World.size_alloc] at this
      exact this
    case round =>
      obtain ⟨k, hk, rfl, kp, hz, hd, hs⟩ := hrel
      have KP := Lib.hid kp
      have HZ0 := Lib.hid hz
      have HD := Lib.hid hd
      have HS := Lib.hid hs
      clear kp hz hd hs
      by_cases hlt : k < 64
      · have hlt' : (k : Int) < 64 := by omega
        have hix := index_str l k (by omega) wr
        by_cases hg : isSg (l.getD k 0) = true
        · have HG := Lib.hid hg
          have HN := Lib.hid (sgN_lt hg)
          have PO := Lib.hid (pc_old l k hlt)
          have hold : Hid (pcL l k (k / 2) < 16) := Lib.hid (by
            rcases (pc_old l k hlt).2 with e | ⟨e, e2⟩
            · omega
            · rw [e]
              exact sgN_lt (HS.out _ e2))
          have hc := cell_of_row _ _ (k / 2) _ _ _ HD.out
          rw [parC_get _ _ _ (by omega)] at hc
          have hf := frozen_of_row wr (w.heap.size + 1) (k / 2) _ _ HD.out
          have PS := Lib.hid (parC_set l k hlt)
          have HGk := Lib.hid hg
          have hnv : nvL l k = sgN (l.getD k 0) := rfl
          rw [hnv] at PO
          clear hnv hg
          generalize l.getD k 0 = c at hix HG HN PO
          go_wp2_with fail
          refine (ix_sign _ _).mono ?_
          rintro e w' ⟨he, rfl⟩
          rw [if_pos HG.out] at he
          subst he
          clear hix
          generalize sgN c = b at HN PO ⊢
          generalize pcL l k (k / 2) = a at PO hold hc
          have hb := HN.out
          have ha := hold.out
          have p2 : ((k : Int) / 2).toNat = k / 2 := by omega
          have q2 : 0 ≤ (k : Int) / 2 ∧ (k : Int) / 2 < 32 := by omega
          have hor := or_nib a ha b hb
          go_wp2_with fail
          refine ⟨⟨k + 1, by omega, by go_num, KP.out.setNew (by omega) _ _, blk_skip HZ0.out (by omega) _ _, ?_, fun j hj => ?_⟩, by simp [intOf]; omega⟩
          · rw [← PS.out _ (by rw [PO.out.1])]
            exact blk_set HD.out _ _
          · by_cases e : j = k
            · subst e
              exact HGk.out
            · exact HS.out j (by omega)
        · have hbad : ¬ okL l = true := fun h => hg (by
            unfold okL at h
            simp only [Bool.and_eq_true, beq_iff_eq] at h
            exact List.all_eq_true.1 h.2 (l.getD k 0) (by rw [List.getD_eq_getElem?_getD, List.getElem?_eq_getElem (by omega)]; simp))
          have hp : Hid (prD l = List.replicate 32 0 ∧ prE l = 2) := Lib.hid ⟨by unfold prD; rw [if_neg hbad], by unfold prE; rw [if_neg hbad]⟩
          have HG := Lib.hid hg
          clear hbad hg
          generalize l.getD k 0 = c at hix HG
          go_wp2_with fail
          refine (ix_sign _ _).mono ?_
          rintro e w' ⟨he, rfl⟩
          rw [if_neg HG.out] at he
          subst he
          clear hix
          go_wp2_with (refine wpList_store_row (P := Tryd.prog) rfl 27 (.tmp 2) (.tmp 23) rfl w.heap.size #[.int .u8 0, .int .u8 0, .int .u8 0, .int .u8 0, .int .u8 0, .int .u8 0, .int .u8 0, .int .u8 0, .int .u8 0, .int .u8 0, .int .u8 0, .int .u8 0, .int .u8 0, .int .u8 0, .int .u8 0, .int .u8 0, .int .u8 0, .int .u8 0, .int .u8 0, .int .u8 0, .int .u8 0, .int .u8 0, .int .u8 0, .int .u8 0, .int .u8 0, .int .u8 0, .int .u8 0, .int .u8 0, .int .u8 0, .int .u8 0, .int .u8 0, .int .u8 0] rfl rfl 27 #[.int .u8 0, .int .u8 0, .int .u8 0, .int .u8 0, .int .u8 0, .int .u8 0, .int .u8 0, .int .u8 0, .int .u8 0, .int .u8 0, .int .u8 0, .int .u8 0, .int .u8 0, .int .u8 0, .int .u8 0, .int .u8 0, .int .u8 0, .int .u8 0, .int .u8 0, .int .u8 0, .int .u8 0, .int .u8 0, .int .u8 0, .int .u8 0, .int .u8 0, .int .u8 0, .int .u8 0, .int .u8 0, .int .u8 0, .int .u8 0, .int .u8 0, .int .u8 0] HZ0.out rfl rfl (digC_one first8 0) ?_)
          refine bodyPost_ret (v := .tuple #[.agg #[.int .u8 0, .int .u8 0, .int .u8 0, .int .u8 0, .int .u8 0, .int .u8 0, .int .u8 0, .int .u8 0, .int .u8 0, .int .u8 0, .int .u8 0, .int .u8 0, .int .u8 0, .int .u8 0, .int .u8 0, .int .u8 0, .int .u8 0, .int .u8 0, .int .u8 0, .int .u8 0, .int .u8 0, .int .u8 0, .int .u8 0, .int .u8 0, .int .u8 0, .int .u8 0, .int .u8 0, .int .u8 0, .int .u8 0, .int .u8 0, .int .u8 0, .int .u8 0], .iface 67 (.int .i64 2)]) (results_row_tmp (P := Tryd.prog) Tryd.results21 _ _ w.heap.size 27 #[.int .u8 0, .int .u8 0, .int .u8 0, .int .u8 0, .int .u8 0, .int .u8 0, .int .u8 0, .int .u8 0, .int .u8 0, .int .u8 0, .int .u8 0, .int .u8 0, .int .u8 0, .int .u8 0, .int .u8 0, .int .u8 0, .int .u8 0, .int .u8 0, .int .u8 0, .int .u8 0, .int .u8 0, .int .u8 0, .int .u8 0, .int .u8 0, .int .u8 0, .int .u8 0, .int .u8 0, .int .u8 0, .int .u8 0, .int .u8 0, .int .u8 0, .int .u8 0] (0, 0) _ rfl (setRow_heap _ _ _ _ _ _ HZ0.out) Tryd.underlying27 rfl rfl) rfl ?_
          exact ⟨by rw [hp.out.1, hp.out.2]; rfl, KP.out.setRow (.inr (Nat.le_refl _)) _⟩
      · have e : k = 64 := by omega
        subst e
        have hok : okL l = true := by
          unfold okL
          rw [Bool.and_eq_true]
          refine ⟨by simp [h64], List.all_eq_true.2 fun c hc => ?_⟩
          obtain ⟨j, hj, rfl⟩ := List.getElem_of_mem hc
          have := HS.out j (by omega)
          rwa [List.getD_eq_getElem?_getD, List.getElem?_eq_getElem hj] at this
        have hp : Hid (Value.agg (parC l 64) = arrV (prD l) ∧ prE l = 0) := Lib.hid ⟨parC_ok hok, by unfold prE; rw [if_pos hok]⟩
        clear hok
        go_wp2_with fail
        have hl := row_load (P := Tryd.prog) wr (w.heap.size + 1) 27 _ (0, 0) 32 HD.out (parC_size _ _)
        simp only [oA27, oS27, Result.andThen, ↓reduceIte, hl]
        rw [Oper.upon_value]
        clear hl
        go_wp2_with fail
        have hst := row_store (P := Tryd.prog) wr w.heap.size 27 _ (parC l 64) HZ0.out (by rw [parC_size]; rfl) (by rw [parC_size]; rfl) (parC_one _ _)
        simp only [oS27, Result.andThen, ↓reduceIte, hst, parC_size]
        rw [Oper.upon_skip]
        clear hst
        go_wp2_with fail
        refine bodyPost_ret (v := .tuple #[.agg (parC l 64), .nilIface]) (results_row_tmp (P := Tryd.prog) Tryd.results21 _ _ w.heap.size 27 (parC l 64) (0, 0) _ rfl (setRow_heap _ _ _ _ _ _ HZ0.out) Tryd.underlying27 rfl (by rw [parC_size]; rfl)) rfl ?_
        exact ⟨by rw [hp.out.1, hp.out.2]; rfl, KP.out.setRow (.inr (Nat.le_refl _)) _⟩
  · have hne : ((l.length : Int) != 64) = true := by simp; omega
    have hp : Hid (prD l = List.replicate 32 0 ∧ prE l = 2) := Lib.hid (by
      have : ¬ okL l = true := by simp [okL, h64]
      exact ⟨by unfold prD; rw [if_neg this], by unfold prE; rw [if_neg this]⟩)
    go_enter Tryd.func21, Tryd.ntmps21
    have hz : Hid (((w.alloc (.cells #[.int .u8 0, .int .u8 0, .int .u8 0, .int .u8 0, .int .u8 0, .int .u8 0, .int .u8 0, .int .u8 0, .int .u8 0, .int .u8 0, .int .u8 0, .int .u8 0, .int .u8 0, .int .u8 0, .int .u8 0, .int .u8 0, .int .u8 0, .int .u8 0, .int .u8 0, .int .u8 0, .int .u8 0, .int .u8 0, .int .u8 0, .int .u8 0, .int .u8 0, .int .u8 0, .int .u8 0, .int .u8 0, .int .u8 0, .int .u8 0, .int .u8 0, .int .u8 0] 27)).alloc (.cells #[.int .u8 0, .int .u8 0, .int .u8 0, .int .u8 0, .int .u8 0, .int .u8 0, .int .u8 0, .int .u8 0, .int .u8 0, .int .u8 0, .int .u8 0, .int .u8 0, .int .u8 0, .int .u8 0, .int .u8 0, .int .u8 0, .int .u8 0, .int .u8 0, .int .u8 0, .int .u8 0, .int .u8 0, .int .u8 0, .int .u8 0, .int .u8 0, .int .u8 0, .int .u8 0, .int .u8 0, .int .u8 0, .int .u8 0, .int .u8 0, .int .u8 0, .int .u8 0] 27)).heap[w.heap.size]? = some (.cells #[.int .u8 0, .int .u8 0, .int .u8 0, .int .u8 0, .int .u8 0, .int .u8 0, .int .u8 0, .int .u8 0, .int .u8 0, .int .u8 0, .int .u8 0, .int .u8 0, .int .u8 0, .int .u8 0, .int .u8 0, .int .u8 0, .int .u8 0, .int .u8 0, .int .u8 0, .int .u8 0, .int .u8 0, .int .u8 0, .int .u8 0, .int .u8 0, .int .u8 0, .int .u8 0, .int .u8 0, .int .u8 0, .int .u8 0, .int .u8 0, .int .u8 0, .int .u8 0] 27 (0, 0))) := Lib.hid (blk_alloc (blk_new _ _) _)
    go_wp2_with (refine wpList_store_row (P := Tryd.prog) rfl 27 (.tmp 2) (.tmp 10) rfl w.heap.size #[.int .u8 0, .int .u8 0, .int .u8 0, .int .u8 0, .int .u8 0, .int .u8 0, .int .u8 0, .int .u8 0, .int .u8 0, .int .u8 0, .int .u8 0, .int .u8 0, .int .u8 0, .int .u8 0, .int .u8 0, .int .u8 0, .int .u8 0, .int .u8 0, .int .u8 0, .int .u8 0, .int .u8 0, .int .u8 0, .int .u8 0, .int .u8 0, .int .u8 0, .int .u8 0, .int .u8 0, .int .u8 0, .int .u8 0, .int .u8 0, .int .u8 0, .int .u8 0] rfl rfl 27 #[.int .u8 0, .int .u8 0, .int .u8 0, .int .u8 0, .int .u8 0, .int .u8 0, .int .u8 0, .int .u8 0, .int .u8 0, .int .u8 0, .int .u8 0, .int .u8 0, .int .u8 0, .int .u8 0, .int .u8 0, .int .u8 0, .int .u8 0, .int .u8 0, .int .u8 0, .int .u8 0, .int .u8 0, .int .u8 0, .int .u8 0, .int .u8 0, .int .u8 0, .int .u8 0, .int .u8 0, .int .u8 0, .int .u8 0, .int .u8 0, .int .u8 0, .int .u8 0] hz.out rfl rfl (digC_one first8 0) ?_)
    refine bodyPost_ret (v := .tuple #[.agg #[.int .u8 0, .int .u8 0, .int .u8 0, .int .u8 0, .int .u8 0, .int .u8 0, .int .u8 0, .int .u8 0, .int .u8 0, .int .u8 0, .int .u8 0, .int .u8 0, .int .u8 0, .int .u8 0, .int .u8 0, .int .u8 0, .int .u8 0, .int .u8 0, .int .u8 0, .int .u8 0, .int .u8 0, .int .u8 0, .int .u8 0, .int .u8 0, .int .u8 0, .int .u8 0, .int .u8 0, .int .u8 0, .int .u8 0, .int .u8 0, .int .u8 0, .int .u8 0], .iface 67 (.int .i64 2)]) (results_row_tmp (P := Tryd.prog) Tryd.results21 _ _ w.heap.size 27 #[.int .u8 0, .int .u8 0, .int .u8 0, .int .u8 0, .int .u8 0, .int .u8 0, .int .u8 0, .int .u8 0, .int .u8 0, .int .u8 0, .int .u8 0, .int .u8 0, .int .u8 0, .int .u8 0, .int .u8 0, .int .u8 0, .int .u8 0, .int .u8 0, .int .u8 0, .int .u8 0, .int .u8 0, .int .u8 0, .int .u8 0, .int .u8 0, .int .u8 0, .int .u8 0, .int .u8 0, .int .u8 0, .int .u8 0, .int .u8 0, .int .u8 0, .int .u8 0] (0, 0) _ rfl (setRow_heap _ _ _ _ _ _ hz.out) Tryd.underlying27 rfl rfl) rfl ?_
    exact ⟨by rw [hp.out.1, hp.out.2]; rfl, (((Keep.refl _ _).alloc _).alloc _).setRow (.inr (Nat.le_refl _)) _⟩
end

end Go.Proofs.YtcjjhgecmnfmdaaDoor
