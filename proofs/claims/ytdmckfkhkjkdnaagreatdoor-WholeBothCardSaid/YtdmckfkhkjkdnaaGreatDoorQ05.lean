/- Sums of bytes: the table's step, the table. · sync.Once, whose function makes a maker's table: walked. · A maker's sum of bytes: walked. · slices.Conc -/
import Derived.Deep.RegionHeld3
import Derived.Deep.QuietTactic
import Derived.BigQuiet
import Derived.RegionTactic
import Derived.StillTailTactics
import Derived.Defers
import Derived.Laws.Pointers
import Derived.Laws.LoneSync
import Derived.RegionCalls
import Derived.ChangeAlike
import Derived.Test.YtdmckfkhkjkdnaaGreatDoorQ03
set_option linter.unusedVariables false
set_option maxRecDepth 100000
set_option maxHeartbeats 16000000
namespace Go.Proofs.YtdmckfkhkjkdnaaGreatDoor
open Go.RowKit
def fI (x : Int) : Int := if bits .and .u32 x 1 = 1 then bits .xor .u32 (x / 2) 2197175160 else x / 2
def fN : Nat → Int → Int
  | 0, x => x
  | k + 1, x => fI (fN k x)
def tabI (x : Int) : Int := fN 8 x
theorem wrap32 {n : Nat} (h : n < 2 ^ 32) : IntKind.u32.wrap (n : Int) = (n : Int) := by
  have e : (2 ^ IntKind.u32.bits : Int) = 4294967296 := rfl
  unfold IntKind.wrap
  simp only [e]
  rw [if_neg (by simp [IntKind.signed])]
  omega
theorem bits32 (op : BinOp) (x y : Int) : 0 ≤ bits op .u32 x y ∧ bits op .u32 x y < 4294967296 := by
  have h := wf_bits op .u32 x y
  simp [Lit.wf, IntKind.min, IntKind.max, IntKind.signed, IntKind.bits] at h
  omega
theorem fI_32 (x : Int) (h : 0 ≤ x ∧ x < 4294967296) : 0 ≤ fI x ∧ fI x < 4294967296 := by
  unfold fI
  split
  · exact bits32 _ _ _
  · omega
theorem fN_32 (x : Int) (h : 0 ≤ x ∧ x < 4294967296) : ∀ k, 0 ≤ fN k x ∧ fN k x < 4294967296
  | 0 => h
  | k + 1 => fI_32 _ (fN_32 x h k)
theorem cstep_any (x : Int) (h : 0 ≤ x ∧ x < 4294967296) (w : World) :
    Calls Tryz.prog 385 #[.int .u32 x] w fun e w' => e = .returned (.int .u32 (tabI x)) ∧ w' = w := by
  have h1 := h.1
  have h2 := h.2
  go_enter Tryz.func385, Tryz.ntmps385
  go_wp2_with fail
  go_loopw [0, 4] (fun o i wr => ∃ j : Nat, j ≤ 8 ∧ i = .int .i64 j ∧ o = .int .u32 (fN j x) ∧ wr = w) (fun _ i _ => 8 - (intOf i).toNat)
  case atStart => exact ⟨0, by omega, rfl, rfl, rfl⟩
  case round =>
    obtain ⟨j, hj, rfl, rfl, rfl⟩ := hrel
    by_cases hlt : j < 8
    · have hy := fN_32 x h j
      have HS : Hid (fN (j + 1) x = fI (fN j x)) := Lib.hid rfl
      generalize fN j x = y at hy HS
      have hy1 := hy.1
      have hy2 := hy.2
      by_cases hb : bits .and .u32 y 1 = 1
      · have e : fI y = bits .xor .u32 (y / 2) 2197175160 := by unfold fI; rw [if_pos hb]
        go_wp2_with fail
        exact ⟨⟨j + 1, by omega, by go_num, by rw [HS.out, e], by trivial⟩, by simp [intOf]; omega⟩
      · have e : fI y = y / 2 := by unfold fI; rw [if_neg hb]
        go_wp2_with fail
        exact ⟨⟨j + 1, by omega, by go_num, by rw [HS.out, e], by trivial⟩, by simp [intOf]; omega⟩
    · obtain rfl : j = 8 := by omega
      go_wp2_with fail
      go_ret
      exact ⟨rfl, rfl⟩
def MkAt (w : World) (b j : Nat) (o : Nat → Option Value) : Prop := ∃ cs : Array Value, w.heap[b]? = some (.cells cs 367 (0, 0)) ∧ cs.size = 260 ∧ (∀ k, k < j → cs[3 + k]? = some (.int .u32 (tabI k))) ∧ (∀ k, k < 3 ∨ 258 < k → cs[k]? = o k)
theorem MkAt.keep {S : Nat → Prop} {w w' : World} {b j : Nat} {o : Nat → Option Value} (h : MkAt w b j o) (k : Keep S w w') (hn : ¬ S b) : MkAt w' b j o := by
  obtain ⟨cs, h1, h2⟩ := h
  exact ⟨cs, k.at h1 hn, h2⟩
theorem MkAt.cell {w : World} {b j : Nat} {o : Nat → Option Value} (h : MkAt w b j o) (k : Nat) (hk : k < j) : w.cell? ⟨b, 3 + k, none⟩ = some (.int .u32 (tabI k)) := by
  obtain ⟨cs, h1, _, h3, _⟩ := h
  simp [World.cell?, h1, h3 k hk]
theorem MkAt.other {w : World} {b j : Nat} {o : Nat → Option Value} (h : MkAt w b j o) (k : Nat) (hk : k < 3 ∨ 258 < k) : w.cell? ⟨b, k, none⟩ = o k := by
  obtain ⟨cs, h1, _, _, h3⟩ := h
  simp [World.cell?, h1, h3 k hk]
theorem MkAt.free {w : World} {b j : Nat} {o : Nat → Option Value} (h : MkAt w b j o) (k : Nat) : w.frozen? ⟨b, k, none⟩ = false := by
  obtain ⟨cs, h1, _⟩ := h
  simp [World.frozen?, h1]
theorem MkAt.any {w : World} {b j : Nat} {o : Nat → Option Value} (h : MkAt w b j o) (k : Nat) (hk : k < 260) : ∃ u, w.cell? ⟨b, k, none⟩ = some u := by
  obtain ⟨cs, h1, h2, _⟩ := h
  exact ⟨cs[k]'(by omega), by simp [World.cell?, h1, h2, hk]⟩
theorem MkAt.put {w : World} {b j : Nat} {o : Nat → Option Value} (h : MkAt w b j o) (hj : j < 256) : MkAt (w.setCell ⟨b, 3 + j, none⟩ (.int .u32 (tabI j))) b (j + 1) o := by
  obtain ⟨cs, h1, h2, h3, h4⟩ := h
  refine ⟨_, blk_set h1 _ _, by simpa using h2, fun k hk => ?_, fun k hk => ?_⟩
  · rw [Array.getElem?_setIfInBounds]
    by_cases e : k = j
    · subst e
      rw [if_pos rfl, if_pos (by omega)]
    · rw [if_neg (by omega)]
      exact h3 k (by omega)
  · rw [Array.getElem?_setIfInBounds, if_neg (by omega)]
    exact h4 k hk
theorem MkAt.set {w : World} {b j : Nat} {o : Nat → Option Value} (h : MkAt w b j o) (k : Nat) (hk : k < 3 ∨ k = 259) (u : Value) (hj : j ≤ 256) : MkAt (w.setCell ⟨b, k, none⟩ u) b j (fun i => if i = k then some u else o i) := by
  obtain ⟨cs, h1, h2, h3, h4⟩ := h
  refine ⟨_, blk_set h1 _ _, by simpa using h2, fun i hi => ?_, fun i hi => ?_⟩
  · rw [Array.getElem?_setIfInBounds, if_neg (by omega)]
    exact h3 i hi
  · show _ = (if i = k then some u else o i)
    rw [Array.getElem?_setIfInBounds]
    by_cases e : k = i
    · subst e
      rw [if_pos rfl, if_pos (by omega), if_pos rfl]
    · rw [if_neg e, if_neg (fun e2 => e e2.symm)]
      exact h4 i hi
theorem fill_any (b : Nat) (o : Nat → Option Value) (w : World) (h : MkAt w b 0 o) :
    Calls Tryz.prog 372 #[.pointer (some ⟨b, 0, none⟩)] w fun e w' => e = .returned (.tuple #[]) ∧ Keep (One b) w w' ∧ MkAt w' b 256 o := by
  have H := Lib.hid h
  clear h
  go_enter Tryz.func372, Tryz.ntmps372
  go_wp2_with fail
  go_loopw [3] (fun i wr => ∃ j : Nat, j ≤ 256 ∧ i = .int .i64 j ∧ Keep (One b) w wr ∧ MkAt wr b j o) (fun i _ => 256 - (intOf i).toNat)
  case atStart => exact ⟨0, by omega, rfl, Keep.refl _ _, H.out⟩
  case round =>
    obtain ⟨j, hj, rfl, hk, hm⟩ := hrel
    have K := Lib.hid hk
    have M := Lib.hid hm
    clear hk hm
    by_cases hlt : j < 256
    · obtain ⟨u, hu⟩ := M.out.any (3 + j) (by omega)
      have hf := M.out.free (3 + j)
      have hw := wrap32 (n := j) (by omega)
      go_wp2_with fail
      go_region_with (go_at_call 385; refine (cstep_any _ (by omega) _).mono ?_; rintro e w' ⟨rfl, rfl⟩)
      all_goals
        go_wp2_with fail
        exact ⟨⟨j + 1, by omega, by go_num, (K.out.drew).setOne _ _, (M.out.keep ((Keep.refl Non _).drew) (fun e => e)).put hlt⟩, by simp [intOf]; omega⟩
    · obtain rfl : j = 256 := by omega
      go_wp2_with fail
      go_end0
      exact ⟨rfl, K.out, M.out⟩
theorem race_disable (w : World) : (callFunc 396 #[]).run Tryz.prog w = .ok (.value (.tuple #[])) w := run_call_mark0 Tryz.func396 (by kernel_rfl) (by kernel_rfl) (by kernel_rfl) .disable (by kernel_rfl) w
theorem race_enable (w : World) : (callFunc 398 #[]).run Tryz.prog w = .ok (.value (.tuple #[])) w := run_call_mark0 Tryz.func398 (by kernel_rfl) (by kernel_rfl) (by kernel_rfl) .enable (by kernel_rfl) w
theorem race_acquire (a : Addr) (w : World) : (callFunc 399 #[.pointer (some a)]).run Tryz.prog w = .ok (.value (.tuple #[])) w := run_call_marked Tryz.func399 (by kernel_rfl) (by kernel_rfl) (by kernel_rfl) .acquire (by kernel_rfl) a w
theorem race_release (a : Addr) (w : World) : (callFunc 401 #[.pointer (some a)]).run Tryz.prog w = .ok (.value (.tuple #[])) w := run_call_marked Tryz.func401 (by kernel_rfl) (by kernel_rfl) (by kernel_rfl) .releaseMerge (by kernel_rfl) a w
theorem store_deferred (a : Addr) (x : Value) (u : FrameMode) (w : World) (hc : w.cell? a = some x) (hz : w.frozen? a = false) :
    CallsD Tryz.prog 391 #[.pointer (some a), .bool true] u w fun e u' w' => u' = u ∧ (e = .returned (.tuple #[]) ∧ w' = w.drew.setCell a (.int .u32 1)) := by
  have hc' : w.drew.cell? a = some x := by go_simp
  have hz' : w.drew.frozen? a = false := by go_simp
  have hst := run_call_store (P := Tryz.prog) Tryz.func394 (by kernel_rfl) (by kernel_rfl) (by kernel_rfl) (by kernel_rfl) (k := .u32) (y := 1) hc' hz'
  go_enter_d Tryz.func391, Tryz.ntmps391
  go_wp2
  go_region_calls
  all_goals (go_end0; exact ⟨rfl, rfl⟩)
theorem unlock_deferred (a : Addr) (u : FrameMode) (w : World) (hc : w.cell? a = some (.int .i32 1)) (hz : w.frozen? a = false) :
    CallsD Tryz.prog 390 #[.pointer (some a)] u w fun e u' w' => u' = u ∧ (e = .returned (.tuple #[]) ∧ w' = w.setCell a (.int .i32 0)) := by
  have hd := race_disable
  have he := race_enable
  have hr := race_release
  have hadd := run_call_add (P := Tryz.prog) Tryz.func402 (by kernel_rfl) (by kernel_rfl) (by kernel_rfl) .i32 (by kernel_rfl) (y := -1) (s := 0) hc hz (by simp [go_sem]; rfl)
  have hcv := run_convert_to_unsafe (P := Tryz.prog) (src := 484) (dst := 439) Tryz.underlying484 Tryz.underlying439 (by kernel_rfl) hc
  go_enter_d Tryz.func390, Tryz.ntmps390
  go_wp2
  go_end0
  go_wp2
theorem lock_free (a : Addr) (w : World) (hc : w.cell? a = some (.int .i32 0)) (hz : w.frozen? a = false) :
    Calls Tryz.prog 389 #[.pointer (some a)] w fun e w' => e = .returned (.tuple #[]) ∧ w' = w.setCell a (.int .i32 1) := by
  have hd := race_disable
  have he := race_enable
  have ha := race_acquire
  have hcas := run_call_cas_hit (P := Tryz.prog) Tryz.func397 (by kernel_rfl) (by kernel_rfl) (by kernel_rfl) .i32 (by kernel_rfl) (y := 1) hc hz
  have hc' : (w.setCell a (.int .i32 1)).cell? a = some (.int .i32 1) := World.cell?_setCell_same w a _ hc
  have hcv := run_convert_to_unsafe (P := Tryz.prog) (src := 484) (dst := 439) Tryz.underlying484 Tryz.underlying439 (by kernel_rfl) hc'
  go_enter Tryz.func389, Tryz.ntmps389
  go_wp2
  first | go_end0 | (simp only [Exit.inBlock, Exit.then]; refine bodyPost_ret (results_none rfl _ _ _) rfl ?_) | refine bodyPost_ret (results_none rfl _ _ _) rfl ?_
  go_wp2
theorem bload_zero (a : Addr) (w : World) (h : w.cell? a = some (.int .u32 0)) :
    Calls Tryz.prog 383 #[.pointer (some a)] w fun e w' => e = .returned (.bool false) ∧ w' = w := by
  have hl := run_call_load (P := Tryz.prog) Tryz.func388 (by kernel_rfl) (by kernel_rfl) (by kernel_rfl) .u32 (by kernel_rfl) (w := w) (a := a) (x := 0) h
  go_enter Tryz.func383, Tryz.ntmps383
  go_wp2_with fail
  go_ret
  exact ⟨rfl, rfl⟩
theorem MkAt.drew {w : World} {b j : Nat} {o : Nat → Option Value} (h : MkAt w b j o) : MkAt w.drew b j o := h
theorem slow_fill (b : Nat) (o : Nat → Option Value) (w : World) (h : MkAt w b 0 o) (h0 : o 0 = some (.int .u32 0)) (h1 : o 1 = some (.int .i32 0)) :
    Calls Tryz.prog 384 #[.pointer (some ⟨b, 0, none⟩), .func (.func 372) #[.pointer (some ⟨b, 0, none⟩)] #[]] w fun e w' => e = .returned (.tuple #[]) ∧ Keep (One b) w w' ∧ ∃ o', MkAt w' b 256 o' := by
  have m1 := h.set 1 (by omega) (.int .i32 1) (by omega)
  have l0 : (w.setCell ⟨b, 1, none⟩ (.int .i32 1)).cell? ⟨b, 0, none⟩ = some (.int .u32 0) := by rw [m1.other 0 (by omega), if_neg (by omega)]; exact h0
  have hnot : ∀ (x : Bool) (w : World), (Op.unary .not (.bool x)).run Tryz.prog w = .ok (.bool (!x)) w := fun _ _ => rfl
  have c1 : w.cell? ⟨b, 1, none⟩ = some (.int .i32 0) := by rw [h.other 1 (by omega)]; exact h1
  have f1 := h.free 1
  have M1 := Lib.hid m1
  have H := Lib.hid h
  clear m1 h
  go_enter_defers Tryz.func384, Tryz.ntmps384
  go_wp2_with (first
    | (go_at_call 389; refine (lock_free ⟨b, 1, none⟩ _ c1 f1).mono ?_; rintro e w' ⟨rfl, rfl⟩)
    | (go_at_call 383; refine (bload_zero ⟨b, 0, none⟩ _ l0).mono ?_; rintro e w' ⟨rfl, rfl⟩)
    | (go_at_call 372; refine (fill_any b _ _ M1.out).mono ?_; rintro e w2 ⟨rfl, k2, m2⟩; have K2 := Lib.hid k2; have M2 := Lib.hid m2; clear k2 m2))
  -- the two deferred calls, the last laid first
  have m3 := M2.out.drew.set 0 (by omega) (.int .u32 1) (by omega)
  have M3 := Lib.hid m3
  have m4 := m3.set 1 (by omega) (.int .i32 0) (by omega)
  have M4 := Lib.hid m4
  clear m3 m4
  refine leaves_cons (f := 391) (args := #[.pointer (some ⟨b, 0, none⟩), .bool true]) (by simp) (by simp [go_sem]) ?_
  refine (store_deferred ⟨b, 0, none⟩ (.int .u32 0) .returning _ (by rw [M2.out.other 0 (by omega), if_neg (by omega)]; exact h0) (M2.out.free 0)).mono ?_
  rintro e u' w'' ⟨rfl, rfl, rfl⟩
  refine leaves_cons (f := 390) (args := #[.pointer (some ⟨b, 1, none⟩)]) (by simp [settle]) (by simp [go_sem]) ?_
  refine (unlock_deferred ⟨b, 1, none⟩ _ _ (by rw [M3.out.other 1 (by omega)]; rfl) (M3.out.free 1)).mono ?_
  rintro e u' w'' ⟨rfl, rfl, rfl⟩
  have hk : Keep (One b) w ((w2.drew.setCell ⟨b, 0, none⟩ (.int .u32 1)).setCell ⟨b, 1, none⟩ (.int .i32 0)) := ((((Keep.refl _ w).setOne 1 _).trans1 K2.out).drew.setOne 0 _).setOne 1 _
  have hm := M4.out
  simp [Leaves, settle, results, Tryz.results384]
  exact ⟨hk, _, hm⟩
theorem once_fill (b : Nat) (o : Nat → Option Value) (w : World) (h : MkAt w b 0 o) (h0 : o 0 = some (.int .u32 0)) (h1 : o 1 = some (.int .i32 0)) :
    Calls Tryz.prog 371 #[.pointer (some ⟨b, 0, none⟩), .func (.func 372) #[.pointer (some ⟨b, 0, none⟩)] #[]] w fun e w' => e = .returned (.tuple #[]) ∧ Keep (One b) w w' ∧ ∃ o', MkAt w' b 256 o' := by
  have l0 : w.cell? ⟨b, 0, none⟩ = some (.int .u32 0) := by rw [h.other 0 (by omega)]; exact h0
  have H := Lib.hid h
  clear h
  go_enter Tryz.func371, Tryz.ntmps371
  go_wp2_with (first
    | (go_at_call 383; refine (bload_zero ⟨b, 0, none⟩ _ l0).mono ?_; rintro e w' ⟨rfl, rfl⟩)
    | (go_at_call 384; refine (slow_fill b o _ H.out h0 h1).mono ?_; rintro e w2 ⟨rfl, k2, m2⟩; have K2 := Lib.hid k2; have M2 := Lib.hid m2; clear k2 m2))
  go_end0
  exact ⟨rfl, K2.out, M2.out⟩
theorem aadd_any (b i : Nat) (v : Int) (w : World) (h : w.cell? ⟨b, i, none⟩ = some (.int .i64 v)) (hf : w.frozen? ⟨b, i, none⟩ = false) (h0 : 0 ≤ v) (h1 : v ≤ 1000000) :
    Calls Tryz.prog 129 #[.pointer (some ⟨b, i, none⟩), .int .i64 1] w fun e w' => e = .returned (.int .i64 (v + 1)) ∧ w' = w.setCell ⟨b, i, none⟩ (.int .i64 (v + 1)) := by
  have hl := run_call_add (P := Tryz.prog) Tryz.func197 (by kernel_rfl) (by kernel_rfl) (by kernel_rfl) .i64 (by kernel_rfl) (y := 1) (s := v + 1) h hf (by simp [go_sem, IntWalk.i64_in _ (show -9223372036854775808 ≤ v + 1 ∧ v + 1 ≤ 9223372036854775807 by omega)])
  go_enter Tryz.func129, Tryz.ntmps129
  go_wp2
  go_ret
  exact ⟨rfl, rfl⟩
theorem ask_new (b : Nat) (o : Nat → Option Value) (w : World) (h : MkAt w b 0 o) (h2 : o 259 = some (.int .i64 0)) :
    Calls Tryz.prog 311 #[.pointer (some ⟨b, 0, none⟩)] w fun e w' => e = .returned (.tuple #[]) ∧ Keep (One b) w w' ∧ MkAt w' b 0 (fun i => if i = 259 then some (.int .i64 1) else o i) := by
  have c := h.other 259 (by omega)
  rw [h2] at c
  have f := h.free 259
  have H := Lib.hid (h.set 259 (by omega) (.int .i64 1) (by omega))
  clear h
  go_enter Tryz.func311, Tryz.ntmps311
  go_wp2_with (go_at_call 129; refine (aadd_any b 259 0 _ c f (by omega) (by omega)).mono ?_; rintro e w' ⟨rfl, rfl⟩)
  go_end0
  exact ⟨rfl, (Keep.refl _ _).setOne _ _, H.out⟩
def crcStep (x : Int) (c : UInt8) : Int := bits .xor .u32 (tabI (bits .xor .u8 (x % 256) c.toNat)) (x / 256)
def crcGo (x : Int) (l : List UInt8) : Int := l.foldl crcStep x
def not32 (x : Int) : Int := bits .xor .u32 IntKind.u32.max x
def crcI (l : List UInt8) : Int := not32 (crcGo (not32 0) l)
theorem crcGo_32' (x : Int) (hx : 0 ≤ x ∧ x < 4294967296) : ∀ l : List UInt8, 0 ≤ crcGo x l ∧ crcGo x l < 4294967296
  | [] => hx
  | c :: l => crcGo_32' (crcStep x c) (bits32 _ _ _) l
theorem crcGo_32 (l : List UInt8) : 0 ≤ crcGo (not32 0) l ∧ crcGo (not32 0) l < 4294967296 := crcGo_32' _ (bits32 _ _ _) l
theorem xor8 (x y : Int) : ∃ k : Nat, bits .xor .u8 x y = (k : Int) ∧ k < 256 := by
  have h := wf_bits .xor .u8 x y
  simp [Lit.wf, IntKind.min, IntKind.max, IntKind.signed, IntKind.bits] at h
  exact ⟨(bits .xor .u8 x y).toNat, by omega, by omega⟩
theorem extend_any (b : Nat) (o : Nat → Option Value) (v : Value) (l : List UInt8) (w : World) (h : MkAt w b 0 o) (h0 : o 0 = some (.int .u32 0)) (h1 : o 1 = some (.int .i32 0)) (hv : Bs w v l) (hll : l.length ≤ 100000000) (hb : ∀ g, v.ownBlock = some g → g ≠ b) :
    Calls Tryz.prog 347 #[.pointer (some ⟨b, 0, none⟩), .int .u32 0, v] w fun e w' => e = .returned (.int .u32 (crcI l)) ∧ Keep (One b) w w' := by
  have H := Lib.hid h
  have V := Lib.hid hv
  have VB := Lib.hid hb
  obtain ⟨a, c, rfl, _⟩ := hv
  rw [List.length_map] at V VB ⊢
  clear h hb
  go_enter Tryz.func347, Tryz.ntmps347
  go_wp2_with (go_at_call 371; refine (once_fill b o _ H.out h0 h1).mono ?_; rintro e w2 ⟨rfl, k2, o2, m2⟩; have K2 := Lib.hid k2; have M2 := Lib.hid m2; clear k2 m2)
  go_loopw [7, 26] (fun o i wr => ∃ j : Nat, j ≤ l.length ∧ i = .int .i64 j ∧ o = .int .u32 (crcGo (not32 0) (l.take j)) ∧ wr = w2) (fun _ i _ => l.length - (intOf i).toNat)
  case atStart => exact ⟨0, by omega, rfl, rfl, rfl⟩
  case round =>
    obtain ⟨j, hj, rfl, rfl, rfl⟩ := hrel
    by_cases hlt : j < l.length
    · have hx := crcGo_32 (l.take j)
      have HS : Hid (crcGo (not32 0) (l.take (j + 1)) = crcStep (crcGo (not32 0) (l.take j)) l[j]) := Lib.hid (by rw [List.take_succ_eq_append_getElem hlt, crcGo, List.foldl_append]; rfl)
      have hbs := V.out.keep K2.out (fun g e => VB.out g e)
      obtain ⟨g, off, rfl, hc⟩ : ∃ g off, a = some ⟨g, off, none⟩ ∧ ∀ j u, (l.map bv)[j]? = some u → wr.cell? ⟨g, off + j, none⟩ = some u := by
        obtain ⟨a', c', e, hx⟩ := hbs
        injection e with e1 e2 e3
        obtain ⟨g, off, e4, hc⟩ := hx (by intro e; have e' := List.map_eq_nil_iff.1 e; rw [e'] at hlt; exact absurd hlt (by simp))
        exact ⟨g, off, e1.trans e4, hc⟩
      have hcell : wr.cell? ⟨g, off + j, none⟩ = some (.int .u8 (l[j].toNat : Int)) := hc j _ (by simp [bv, hlt])
      have hl256 : l[j].toNat < 256 := UInt8.toNat_lt _
      have hlj : (j : Int) < (l.length : Int) := by omega
      clear hc hbs
      generalize crcGo (not32 0) (l.take j) = x at hx HS
      generalize l[j] = c8 at hcell hl256 HS
      obtain ⟨k, hk, hk2⟩ := xor8 (x % 256) c8.toNat
      have htab := M2.out.cell k hk2
      have HS2 : Hid (crcStep x c8 = bits .xor .u32 (tabI k) (x / 256)) := Lib.hid (by unfold crcStep; rw [hk])
      generalize c8.toNat = c' at hcell hl256 hk
      have hx1 := hx.1
      have hx2 := hx.2
      have hk3 : (k : Int) < 256 := by omega
      go_wp2_with fail
      exact ⟨⟨j + 1, by omega, by go_num, by rw [HS.out, HS2.out], trivial⟩, by simp [intOf]; omega⟩
    · obtain rfl : j = l.length := by omega
      rw [List.take_length]
      go_wp2_with fail
      go_ret
      exact ⟨rfl, K2.out⟩
theorem sumX_any (b : Nat) (o : Nat → Option Value) (v : Value) (l : List UInt8) (w : World) (h : MkAt w b 0 o) (h0 : o 0 = some (.int .u32 0)) (h1 : o 1 = some (.int .i32 0)) (h2 : o 259 = some (.int .i64 0)) (hv : Bs w v l) (hll : l.length ≤ 100000000) (hb : ∀ g, v.ownBlock = some g → g ≠ b) :
    Calls Tryz.prog 313 #[.pointer (some ⟨b, 0, none⟩), .int .u32 0, v] w fun e w' => e = .returned (.int .u32 (crcI l)) ∧ Keep (One b) w w' := by
  have H := Lib.hid h
  have V := Lib.hid hv
  have VB := Lib.hid hb
  clear h hb
  obtain ⟨a, c, rfl, _⟩ := hv
  rw [List.length_map] at V VB ⊢
  go_enter Tryz.func313, Tryz.ntmps313
  go_wp2_with (first
    | (go_at_call 311; refine (ask_new b o _ H.out h2).mono ?_; rintro e w1 ⟨rfl, k1, m1⟩; have K1 := Lib.hid k1; have M1 := Lib.hid m1; clear k1 m1)
    | (go_at_call 347; refine (extend_any b _ _ l _ M1.out (by rw [if_neg (by omega)]; exact h0) (by rw [if_neg (by omega)]; exact h1) (V.out.keep K1.out (fun g e => VB.out g e)) hll VB.out).mono ?_; rintro e w2 ⟨rfl, k2⟩; have K2 := Lib.hid k2; clear k2))
  go_ret
  exact ⟨rfl, K1.out.trans1 K2.out⟩
theorem msum_any (b : Nat) (o : Nat → Option Value) (v : Value) (l : List UInt8) (w : World) (h : MkAt w b 0 o) (h0 : o 0 = some (.int .u32 0)) (h1 : o 1 = some (.int .i32 0)) (h2 : o 259 = some (.int .i64 0)) (hv : Bs w v l) (hll : l.length ≤ 100000000) (hb : ∀ g, v.ownBlock = some g → g ≠ b) :
    Calls Tryz.prog 263 #[.pointer (some ⟨b, 0, none⟩), v] w fun e w' => e = .returned (.int .u32 (crcI l)) ∧ Keep (One b) w w' := by
  have H := Lib.hid h
  have V := Lib.hid hv
  have VB := Lib.hid hb
  clear h hb
  obtain ⟨a, c, rfl, _⟩ := hv
  rw [List.length_map] at V VB ⊢
  go_enter Tryz.func263, Tryz.ntmps263
  go_wp2_with (go_at_call 313; refine (sumX_any b _ _ l _ H.out h0 h1 h2 V.out hll VB.out).mono ?_; rintro e w2 ⟨rfl, k2⟩; have K2 := Lib.hid k2; clear k2)
  go_ret
  exact ⟨rfl, K2.out⟩
theorem maker_new (w : World) :
    Calls Tryz.prog 194 #[] w fun e w' => e = .returned (.pointer (some ⟨w.heap.size, 0, none⟩)) ∧ Keep Non w w' ∧ ∃ o, MkAt w' w.heap.size 0 o ∧ o 0 = some (.int .u32 0) ∧ o 1 = some (.int .i32 0) ∧ o 259 = some (.int .i64 0) := by
  go_enter Tryz.func194, Tryz.ntmps194
  go_wp2_with fail
  go_ret
  exact ⟨rfl, (Keep.refl _ _).alloc _, fun i => Tryz.zeroCells367[i]?, ⟨_, blk_new _ _, by kernel_rfl, fun k hk => by omega, fun k hk => rfl⟩, by kernel_rfl, by kernel_rfl, by kernel_rfl⟩
theorem grow_nil (n : Nat) (w : World) (hn : n ≤ 100000000) :
    Calls Tryz.prog 261 #[.slice none 0 0, .int .i64 n] w fun e w' => ∃ v, e = .returned v ∧ Keep Non w w' ∧ w'.ownsRow w.heap.size 5 1 v 0 [] := by
  have hb1 : Tryz.t5.bytes = 1 := rfl
  by_cases hn0 : n = 0
  · subst hn0
    go_enter Tryz.func261, Tryz.ntmps261
    go_wp2_with fail
    go_ret
    exact ⟨_, rfl, Keep.refl _ _, World.ownsRow_nil _ _ _ _⟩
  · have hns : Builtin.nextslicecap n 0 = n := by unfold Builtin.nextslicecap; rw [if_pos (by omega)]
    have hn1 : 0 < n := by omega
    have hcap : (Question.appendCap n 0 5).cut (w.tape w.drawn (Question.appendCap n 0 5)) = n + w.tape w.drawn (Question.appendCap n 0 5) % (2 ^ 63 - n) := rfl
    have hmod : w.tape w.drawn (Question.appendCap n 0 5) % (2 ^ 63 - n) < 2 ^ 63 - n := Nat.mod_lt _ (by omega)
    have HC := Lib.hid (And.intro hcap hmod)
    clear hcap hmod
    go_enter Tryz.func261, Tryz.ntmps261
    go_wp2_with fail
    · go_ret
      obtain ⟨q1, q2⟩ := HC.out
      have z0 : ∀ k, (Builtin.zeroCells #[Value.int .u8 0] k).size = k := fun k => by simp [Builtin.zeroCells]
      refine ⟨_, rfl, ((Keep.refl _ _).alloc _).drew, rfl, .inr ⟨w.heap.size, _, _, rfl, Nat.le_refl _, blk_new _ _, Nat.zero_le _, ?_, ?_, rfl⟩⟩
      · unfold maxLen; omega
      · rw [Array.size_append, z0, z0]; omega
def Bss (w : World) (vs : List Value) (ls : List (List UInt8)) : Prop := vs.length = ls.length ∧ ∀ (i : Nat) u l, vs[i]? = some u → ls[i]? = some l → Bs w u l
theorem concat_any (g : Nat) (vs : List Value) (ls : List (List UInt8)) (c : Nat) (w : World) (h : Rd w (.slice (some ⟨g, 0, none⟩) vs.length c) vs) (hb : Bss w vs ls) (hl : ls.flatten.length ≤ 100000000) (hvl : vs.length ≤ 1000) :
    Calls Tryz.prog 193 #[.slice (some ⟨g, 0, none⟩) vs.length c] w (NewB w ls.flatten) := by
  have H := Lib.hid h
  have HB := Lib.hid hb
  clear h hb
  obtain ⟨i0, hi0, hz0, hz1, hz2⟩ := info_parts infoU8
  go_enter Tryz.func193, Tryz.ntmps193
  go_wp2_with fail
  go_loopw [3, 11] (fun o i wr => ∃ j : Nat, j ≤ vs.length ∧ i = .int .i64 j ∧ o = .int .i64 (ls.take j).flatten.length ∧ wr = w) (fun _ i _ => vs.length - (intOf i).toNat)
  case atStart => exact ⟨0, by omega, rfl, rfl, rfl⟩
  case round =>
    obtain ⟨j, hj, rfl, rfl, rfl⟩ := hrel
    by_cases hlt : j < vs.length
    · have hjl : j < ls.length := by rw [← HB.out.1]; exact hlt
      have hu := (HB.out.2 j vs[j] ls[j] (by simp [hlt]) (by simp [hjl]))
      obtain ⟨g', off, e, hc⟩ : ∃ g' off, some (⟨g, 0, none⟩ : Addr) = some ⟨g', off, none⟩ ∧ ∀ j u, vs[j]? = some u → wr.cell? ⟨g', off + j, none⟩ = some u := by
        obtain ⟨a', c', e, hx⟩ := H.out
        injection e with e1 e2 e3
        obtain ⟨g, off, e4, hc⟩ := hx (by intro e; rw [e] at hlt; exact absurd hlt (by simp))
        exact ⟨g, off, e1.trans e4, hc⟩
      injection e with e
      injection e with e1 e2
      subst e1
      subst e2
      have hcell := hc j _ (List.getElem?_eq_getElem hlt)
      rw [Nat.zero_add] at hcell
      obtain ⟨a1, c1, e, _⟩ := hu
      rw [e, List.length_map] at hcell
      have HS : Hid ((ls.take (j + 1)).flatten.length = (ls.take j).flatten.length + ls[j].length) := Lib.hid (by rw [List.take_succ_eq_append_getElem hjl, List.flatten_append, List.length_append, List.flatten_cons, List.flatten_nil, List.append_nil])
      have hle : (ls.take j).flatten.length + ls[j].length ≤ 100000000 := by
        rw [← HS.out]
        refine Nat.le_trans ?_ hl
        conv => rhs; rw [← List.take_append_drop (j + 1) ls, List.flatten_append, List.length_append]
        omega
      clear hc e
      generalize (ls.take j).flatten.length = s0 at HS hle
      generalize ls[j].length = s1 at HS hle hcell
      go_wp2_with fail
      exact ⟨⟨j + 1, by omega, by go_num, by rw [HS.out]; go_num, trivial⟩, by simp [intOf]; omega⟩
    · obtain rfl : j = vs.length := by omega
      rw [HB.out.1, List.take_length]
      generalize hL : ls.flatten.length = L at hl
      go_wp2_with (go_at_call 261; refine (grow_nil L _ hl).mono ?_; rintro e w1 ⟨v1, rfl, k1, o1⟩; have K1 := Lib.hid k1; have O1 := Lib.hid o1; clear k1 o1)
      have HL := Lib.hid hL
      clear hL
      obtain ⟨w0, hw0⟩ : ∃ w0, w0 = wr := ⟨_, rfl⟩
      subst hw0
      go_loopw [6, 27] (fun o i wr2 =>  ∃ j : Nat, j ≤ ls.length ∧ i = .int .i64 j ∧ Keep Non w0 wr2 ∧ wr2.ownsRow w0.heap.size 5 1 o (ls.take j).flatten.length ((ls.take j).flatten.map bv)) (fun _ i _ => ls.length - (intOf i).toNat)
      case atStart => exact ⟨0, by omega, rfl, K1.out, O1.out⟩
      case round =>
        obtain ⟨j, hj, rfl, k2, o2⟩ := hrel
        have K2 := Lib.hid k2
        have O2 := Lib.hid o2
        clear k2 o2
        by_cases hlt : j < ls.length
        · have hlv : j < vs.length := by rw [HB.out.1]; exact hlt
          have hu := (HB.out.2 j vs[j] ls[j] (by simp [hlv]) (by simp [hlt])).keepNon K2.out
          obtain ⟨g', off, e, hc⟩ : ∃ g' off, some (⟨g, 0, none⟩ : Addr) = some ⟨g', off, none⟩ ∧ ∀ j u, vs[j]? = some u → wr.cell? ⟨g', off + j, none⟩ = some u := by
            obtain ⟨a', c', e, hx⟩ := H.out.keepNon K2.out
            injection e with e1 e2 e3
            obtain ⟨g, off, e4, hc⟩ := hx (by intro e; rw [e] at hlv; exact absurd hlv (by simp))
            exact ⟨g, off, e1.trans e4, hc⟩
          injection e with e
          injection e with e1 e2
          subst e1
          subst e2
          have hcell := hc j _ (List.getElem?_eq_getElem hlv)
          rw [Nat.zero_add] at hcell
          have HU := Lib.hid hu
          obtain ⟨a1, c1, e, _⟩ := hu
          rw [e, List.length_map] at hcell HU
          have HS : Hid ((ls.take (j + 1)).flatten = (ls.take j).flatten ++ ls[j]) := Lib.hid (by rw [List.take_succ_eq_append_getElem hlt, List.flatten_append, List.flatten_cons, List.flatten_nil, List.append_nil])
          have hle : (ls.take j).flatten.length + ls[j].length ≤ 100000000 := by
            rw [← List.length_append, ← HS.out]
            refine Nat.le_trans ?_ hl
            rw [← HL.out]
            conv => rhs; rw [← List.take_append_drop (j + 1) ls, List.flatten_append, List.length_append]
            omega
          clear hc e
          generalize (ls.take j).flatten = s0 at HS hle O2
          generalize ls[j] = s1 at HS hle hcell HU
          obtain ⟨va, vc, rfl, _, _⟩ := ownsRow_form O2.out
          go_wp2_with (refine wpList_append_rd rfl _ _ 48 rfl w0.heap.size 5 i0 (.int .u8 0) 1 Tryz.underlying48 hi0 hz0 hz1 hz2 rfl _ _ _ rfl O2.out _ rfl (s1.map bv) HU.out (oneCell_bytes s1) (by unfold maxLen; simp; omega) (by simp; omega) K2.out.size ?_; intro v' w' ho hg hpp; have HO3 := Lib.hid ho; have HG := Lib.hid hg; clear ho hg hpp)
          have h3 := HO3.out
          rw [← List.map_append, ← HS.out] at h3
          refine ⟨⟨j + 1, by omega, by go_num, K2.out.grown HG.out (fun q e => .inr ((O2.out.lt q e).1)), ?_⟩, by simp [intOf]; omega⟩
          rw [show (ls.take (j + 1)).flatten.length = s0.length + (s1.map bv).length by rw [HS.out]; simp]
          exact h3
        · obtain rfl : j = ls.length := by omega
          have o2 := O2.out
          rw [List.take_length] at o2
          have O3 := Lib.hid o2
          clear o2
          go_wp2_with fail
          go_ret
          exact ⟨_, rfl, K2.out, O3.out⟩
def b8 (y : Int) : UInt8 := UInt8.ofNat y.toNat
theorem bv_b8 {y : Int} (h : 0 ≤ y ∧ y < 256) : Value.int .u8 y = bv (b8 y) := by
  unfold bv b8
  rw [UInt8.toNat_ofNat', Nat.mod_eq_of_lt (by omega)]
  congr 1
  omega
def fourB (x : Int) : List UInt8 := [b8 (x / 16777216), b8 (x / 65536 % 256), b8 (x / 256 % 256), b8 (x % 256)]
theorem four_any (x : Int) (h : 0 ≤ x ∧ x < 4294967296) (w : World) : Calls Tryz.prog 262 #[.int .u32 x] w (NewB w (fourB x)) := by
  have h1 := h.1
  have h2 := h.2
  go_enter Tryz.func262, Tryz.ntmps262
  go_wp2_with fail
  go_ret
  refine ⟨_, rfl, (Keep.refl _ _).alloc _, rfl, .inr ⟨w.heap.size, 4, _, rfl, Nat.le_refl _, blk_new _ _, Nat.le_refl _, by unfold maxLen; omega, rfl, ?_⟩⟩
  rw [bv_b8 (show 0 ≤ x / 16777216 ∧ x / 16777216 < 256 by omega), bv_b8 (show 0 ≤ x / 65536 % 256 ∧ x / 65536 % 256 < 256 by omega), bv_b8 (show 0 ≤ x / 256 % 256 ∧ x / 256 % 256 < 256 by omega), bv_b8 (show 0 ≤ x % 256 ∧ x % 256 < 256 by omega)]
  rfl
theorem bs_cell {w : World} {v : Value} {l : List UInt8} (h : Bs w v l) : ∃ a c, v = .slice a l.length c ∧ (∀ j (hj : j < l.length), ∃ g off, a = some ⟨g, off, none⟩ ∧ w.cell? ⟨g, off + j, none⟩ = some (.int .u8 ((l[j].toNat : Nat) : Int))) := by
  obtain ⟨a, c, rfl, hx⟩ := h
  refine ⟨a, c, by rw [List.length_map], fun j hj => ?_⟩
  obtain ⟨g, off, rfl, hc⟩ := hx (by intro e; have e' := List.map_eq_nil_iff.1 e; rw [e'] at hj; exact absurd hj (by simp))
  exact ⟨g, off, rfl, hc j _ (by simp [bv, hj])⟩
theorem take_next {l m : List UInt8} {j : Nat} (hl : j < l.length) (hm : j < m.length) (he : l.take j = m.take j) : l[j].toNat = m[j].toNat ↔ l.take (j + 1) = m.take (j + 1) := by
  rw [List.take_succ_eq_append_getElem hl, List.take_succ_eq_append_getElem hm, he, UInt8.toNat_inj]
  constructor
  · intro e; rw [e]
  · intro e
    have := List.append_cancel_left e
    injection this
theorem eqb_any (v v' : Value) (l m : List UInt8) (w : World) (h : Bs w v l) (h' : Bs w v' m) (hl : l.length ≤ 100000000) (hm : m.length ≤ 100000000) :
    Calls Tryz.prog 312 #[v, v'] w fun e w' => e = .returned (.bool (l == m)) ∧ Keep Non w w' := by
  have H := Lib.hid h
  have H' := Lib.hid h'
  obtain ⟨a, c, rfl, q0⟩ := bs_cell h
  obtain ⟨a', c', rfl, q1⟩ := bs_cell h'
  clear h h' q0 q1
  by_cases hlen : l.length = m.length
  · rw [← hlen] at H' ⊢
    have HLEN := Lib.hid hlen
    clear hlen
    go_enter Tryz.func312, Tryz.ntmps312
    go_wp2_with fail
    go_loopw [13] (fun i wr => ∃ j : Nat, j ≤ l.length ∧ i = .int .i64 j ∧ l.take j = m.take j ∧ Keep Non w wr) (fun i _ => l.length - (intOf i).toNat)
    case atStart => exact ⟨0, by omega, rfl, rfl, Keep.refl _ _⟩
    case round =>
      obtain ⟨j, hj, rfl, he, hk⟩ := hrel
      have HE := Lib.hid he
      have K := Lib.hid hk
      clear he hk
      by_cases hlt : j < l.length
      · have hlt' : j < m.length := by have := HLEN.out; omega
        obtain ⟨a1, c1, e1, q⟩ := bs_cell (H.out.keepNon K.out)
        obtain ⟨g, off, rfl, hcell⟩ := q j hlt
        injection e1 with e1 e5 e3
        subst e1
        subst e3
        clear e5
        obtain ⟨a2, c2, e2, q'⟩ := bs_cell (H'.out.keepNon K.out)
        obtain ⟨g2, off2, rfl, hcell2⟩ := q' j hlt'
        injection e2 with e2 e6 e4
        subst e2
        subst e4
        clear e6
        have hlj : (j : Int) < (l.length : Int) := by omega
        have HQ : Hid (l[j].toNat = m[j].toNat ↔ l.take (j + 1) = m.take (j + 1)) := Lib.hid (take_next hlt hlt' HE.out)
        clear q q'
        generalize l[j].toNat = x at hcell HQ
        generalize m[j].toNat = y at hcell2 HQ
        clear hlt'
        by_cases hxy : x = y
        · subst hxy
          have HQ2 := Lib.hid (HQ.out.1 rfl)
          clear HQ
          go_wp2_with fail
          go_region
          all_goals
            go_wp2_with fail
            exact ⟨⟨j + 1, by omega, by go_num, HQ2.out, K.out.drew⟩, by simp [intOf]; omega⟩
        · have hne : ((x : Nat) : Int) ≠ (y : Int) := by omega
          have hf : (l == m) = false := by
            rw [beq_eq_false_iff_ne]
            intro e
            exact hxy (HQ.out.2 (by rw [e]))
          go_wp2_with fail
          go_region
          all_goals
            go_wp2_with fail
            go_ret
            exact ⟨by rw [hf]; rfl, K.out.drew⟩
      · obtain rfl : j = l.length := by omega
        have hf : (l == m) = true := by
          have := HE.out
          rw [List.take_length, HLEN.out, List.take_length] at this
          rw [this]
          exact beq_self_eq_true _
        go_wp2_with fail
        go_ret
        exact ⟨by rw [hf]; rfl, K.out⟩
  · have hf : (l == m) = false := by
      rw [beq_eq_false_iff_ne]
      intro e
      exact hlen (by rw [e])
    have hne : ((l.length : Nat) : Int) ≠ (m.length : Int) := by omega
    go_enter Tryz.func312, Tryz.ntmps312
    go_wp2_with fail
    go_ret
    exact ⟨by rw [hf]; rfl, Keep.refl _ _⟩
def MkNew (w : World) (b : Nat) : Prop := ∃ o, MkAt w b 0 o ∧ o 0 = some (.int .u32 0) ∧ o 1 = some (.int .i32 0) ∧ o 259 = some (.int .i64 0)
theorem MkNew.keep {S : Nat → Prop} {w w' : World} {b : Nat} (h : MkNew w b) (k : Keep S w w') (hn : ¬ S b) : MkNew w' b := by
  obtain ⟨o, h1, h2⟩ := h
  exact ⟨o, h1.keep k hn, h2⟩
theorem MkNew.lt {w : World} {b : Nat} (h : MkNew w b) : b < w.heap.size := by
  obtain ⟨o, ⟨cs, h1, _⟩, _⟩ := h
  exact lt_of_block h1
theorem msum_new (b : Nat) (v : Value) (l : List UInt8) (w : World) (h : MkNew w b) (hv : Bs w v l) (hll : l.length ≤ 100000000) (hb : ∀ g, v.ownBlock = some g → g ≠ b) :
    Calls Tryz.prog 263 #[.pointer (some ⟨b, 0, none⟩), v] w fun e w' => e = .returned (.int .u32 (crcI l)) ∧ Keep (One b) w w' := by
  obtain ⟨o, h1, h2, h3, h4⟩ := h
  exact msum_any b o v l w h1 h2 h3 h4 hv hll hb
theorem crcI_32 (l : List UInt8) : 0 ≤ crcI l ∧ crcI l < 4294967296 := by unfold crcI not32; exact bits32 _ _ _
theorem fourB_len (x : Int) : (fourB x).length = 4 := rfl
def sealB (l : List UInt8) : List UInt8 := l ++ fourB (crcI l)
theorem sealB_len (l : List UInt8) : (sealB l).length = l.length + 4 := by simp [sealB, fourB_len]
theorem two_rd {w : World} {t : TypeId} (u v : Value) : Rd (w.alloc (.cells #[u, v] t)) (.slice (some ⟨w.heap.size, 0, none⟩) 2 2) [u, v] := by
  refine ⟨_, 2, rfl, fun _ => ⟨w.heap.size, 0, rfl, fun j x hx => ?_⟩⟩
  match j with
  | 0 => simp at hx; subst hx; exact World.cell?_alloc_new _ _ _ 0
  | 1 => simp at hx; subst hx; exact World.cell?_alloc_new _ _ _ 1
  | j + 2 => simp at hx
theorem two_bss {w : World} {u v : Value} {l m : List UInt8} (h : Bs w u l) (h' : Bs w v m) : Bss w [u, v] [l, m] := by
  refine ⟨rfl, fun i x y hx hy => ?_⟩
  match i with
  | 0 => simp at hx hy; subst hx; subst hy; exact h
  | 1 => simp at hx hy; subst hx; subst hy; exact h'
  | i + 2 => simp at hx
theorem sealed_new (b : Nat) (v : Value) (l : List UInt8) (w : World) (h : MkNew w b) (hv : Bs w v l) (hll : l.length ≤ 1000000) (hb : ∀ g, v.ownBlock = some g → g ≠ b) :
    Calls Tryz.prog 195 #[.pointer (some ⟨b, 0, none⟩), v] w fun e w' => ∃ v', e = .returned v' ∧ Keep (One b) w w' ∧ w'.ownsRow w.heap.size 5 1 v' (sealB l).length ((sealB l).map bv) := by
  have H := Lib.hid h
  have V := Lib.hid hv
  have VB := Lib.hid hb
  have hlt := h.lt
  clear h hb
  obtain ⟨a, c, rfl, _⟩ := hv
  rw [List.length_map] at V VB ⊢
  go_enter Tryz.func195, Tryz.ntmps195
  go_wp2_with (first
    | (go_at_call 263; refine (msum_new b _ l _ H.out V.out (by omega) VB.out).mono ?_; rintro e w1 ⟨rfl, k1⟩; have K1 := Lib.hid k1; clear k1)
    | (go_at_call 262; refine (four_any _ (crcI_32 l) _).mono ?_; rintro e w2 ⟨v2, rfl, k2, o2⟩; obtain ⟨a2, c2, rfl, _, _⟩ := ownsRow_form o2; have K2 := Lib.hid k2; have O2 := Lib.hid o2; clear k2 o2)
    | (go_at_call 193; have hb2 : Bss (w2.alloc (.cells #[Value.slice a l.length c, Value.slice a2 (fourB (crcI l)).length c2] 48)) [Value.slice a l.length c, Value.slice a2 (fourB (crcI l)).length c2] [l, fourB (crcI l)] := two_bss ((V.out.keep K1.out (fun g e => VB.out g e)).keepNon (K2.out.alloc _)) (Rd.keepNon (Rd.ofOwns O2.out) ((Keep.refl _ _).alloc _)); refine (concat_any _ [Value.slice a l.length c, Value.slice a2 (fourB (crcI l)).length c2] [l, fourB (crcI l)] 2 _ (two_rd _ _) hb2 (by simp [fourB_len]; omega) (by simp)).mono ?_; rintro e w3 ⟨v3, rfl, k3, o3⟩; have K3 := Lib.hid k3; have O3 := Lib.hid o3; clear k3 o3))
  go_ret
  have ho := O3.out
  have e : [l, fourB (crcI l)].flatten = sealB l := by simp [sealB]
  rw [e] at ho
  exact ⟨_, rfl, (((K1.out.trans1 K2.out.ofNon).alloc _).trans1 K3.out.ofNon), ownsRow_low ho (by have h1 := K1.out.size; have h2 := K2.out.size; simp; omega)⟩
theorem keep_undrew {S : Nat → Prop} {w w' : World} (h : Keep S w.drew w') : Keep S w w' := ⟨h.os, h.tape, h.output, h.size, h.block⟩
theorem opened_new (b : Nat) (v : Value) (t s : List UInt8) (w : World) (h : MkNew w b) (hv : Bs w v (t ++ s)) (hc : okc v) (hs : s.length = 4) (hll : t.length ≤ 1000000) (hb : ∀ g, v.ownBlock = some g → g ≠ b) :
    Calls Tryz.prog 259 #[.pointer (some ⟨b, 0, none⟩), v] w fun e w' => Keep (One b) w w' ∧ ((fourB (crcI t) = s ∧ ∃ v', e = .returned (.tuple #[v', .nilIface]) ∧ w'.ownsRow w.heap.size 5 1 v' t.length (t.map bv)) ∨ (fourB (crcI t) ≠ s ∧ e = .returned (.tuple #[.slice none 0 0, errv 11]))) := by
  have H := Lib.hid h
  have V := Lib.hid hv
  have VB := Lib.hid hb
  have hlt := h.lt
  have hlen : (t ++ s).length = t.length + 4 := by rw [List.length_append, hs]
  clear h hb
  obtain ⟨a, c, rfl, hx⟩ := hv
  obtain ⟨g, off, rfl, _⟩ := hx (by intro e; rw [List.map_eq_nil_iff] at e; rw [e] at hlen; simp at hlen)
  have hc1 := hc.1
  rw [List.length_map, hlen] at V VB hc1 ⊢
  clear hx hc
  have VH := Lib.hid (head_rd V.out)
  have VR : Hid (Bs w (.slice (some ⟨g, off + t.length, none⟩) 4 (c - t.length)) s) := Lib.hid (by have := rest_rd V.out; rw [show t.length + 4 - t.length = 4 by omega] at this; exact this)
  have VB2 : Hid (∀ q, g = q → q ≠ b) := Lib.hid (fun q e => VB.out q (by rw [← e]; rfl))
  clear V VB
  have hcq : ¬ c = t.length := by omega
  go_enter Tryz.func259, Tryz.ntmps259
  by_cases hq : fourB (crcI t) = s
  · have hq2 : (fourB (crcI t) == s) = true := by rw [hq]; exact beq_self_eq_true _
    go_wp2_with fail
    go_region_with (first
      | (go_at_call 263; refine (msum_new b _ t _ (by exact H.out) (by exact VH.out) (by omega) (fun q e => VB2.out q (by injection e))).mono ?_; rintro e w1 ⟨rfl, k1⟩; have K1 := Lib.hid (keep_undrew (w := w) (by exact k1)); clear k1)
      | (go_at_call 262; refine (four_any _ (crcI_32 t) _).mono ?_; rintro e w2 ⟨v2, rfl, k2, o2⟩; obtain ⟨a2, c2, rfl, _, _⟩ := ownsRow_form o2; have K2 := Lib.hid k2; have O2 := Lib.hid o2; clear k2 o2)
      | (go_at_call 312; refine (eqb_any _ _ _ s _ (Rd.ofOwns O2.out) ((VR.out.keep K1.out (fun q e => VB2.out q (by injection e))).keepNon K2.out) (by rw [fourB_len]; omega) (by omega)).mono ?_; rw [hq2]; rintro e w3 ⟨rfl, k3⟩; have K3 := Lib.hid k3; clear k3))
    all_goals
     go_wp2_with (go_at_call 63; refine (clone_new _ t _ (((VH.out.keep K1.out (fun q e => VB2.out q (by injection e))).keepNon K2.out).keepNon K3.out) (by omega)).mono ?_; rintro e w4 ⟨v4, rfl, k4, o4⟩; have K4 := Lib.hid k4; have O4 := Lib.hid o4; clear k4 o4)
     go_ret2
     exact ⟨((K1.out.trans1 K2.out.ofNon).trans1 K3.out.ofNon).trans1 K4.out.ofNon, .inl ⟨hq, _, rfl, ownsRow_low O4.out (by have h1 := K1.out.size; have h2 := K2.out.size; have h3 := K3.out.size; omega)⟩⟩
  · have hq2 : (fourB (crcI t) == s) = false := beq_eq_false_iff_ne.2 hq
    go_wp2_with fail
    go_region_with (first
      | (go_at_call 263; refine (msum_new b _ t _ (by exact H.out) (by exact VH.out) (by omega) (fun q e => VB2.out q (by injection e))).mono ?_; rintro e w1 ⟨rfl, k1⟩; have K1 := Lib.hid (keep_undrew (w := w) (by exact k1)); clear k1)
      | (go_at_call 262; refine (four_any _ (crcI_32 t) _).mono ?_; rintro e w2 ⟨v2, rfl, k2, o2⟩; obtain ⟨a2, c2, rfl, _, _⟩ := ownsRow_form o2; have K2 := Lib.hid k2; have O2 := Lib.hid o2; clear k2 o2)
      | (go_at_call 312; refine (eqb_any _ _ _ s _ (Rd.ofOwns O2.out) ((VR.out.keep K1.out (fun q e => VB2.out q (by injection e))).keepNon K2.out) (by rw [fourB_len]; omega) (by omega)).mono ?_; rw [hq2]; rintro e w3 ⟨rfl, k3⟩; have K3 := Lib.hid k3; clear k3))
    all_goals
     go_wp2_with fail
     go_ret2
     exact ⟨(K1.out.trans1 K2.out.ofNon).trans1 K3.out.ofNon, .inr ⟨hq, rfl⟩⟩
end Go.Proofs.YtdmckfkhkjkdnaaGreatDoor
