/- A whole array by value, out of and into a block of any world, as the walk leaves it: the cells. · Words of 32 bits: the model's operations on them; a  -/
import Derived.Deep.WholeRow
import Derived.Test.YtdmckfkhkjkdnaaGreatDoorQ05
set_option linter.unusedVariables false
set_option maxRecDepth 100000
set_option maxHeartbeats 16000000
namespace Go.Proofs.YtdmckfkhkjkdnaaGreatDoor
open Go.RowKit
variable {P : Program}
theorem row_load (w : World) (g : Nat) (t : TypeId) (cs : Array Value) (fr : Nat × Nat) (n : Nat) (hg : w.heap[g]? = some (.cells cs t fr)) (hn : cs.size = n) :
    (loadCellsFrom ⟨g, 0, none⟩ 0 n #[]).run P w = .ok cs w := by
  subst hn
  have := run_loadCells_list (P := P) w ⟨g, 0, none⟩ cs.toList (fun j v hv => by
    have hadd : (⟨g, 0, none⟩ : Addr).add j = ⟨g, j, none⟩ := by unfold Addr.add; split <;> simp_all
    rw [hadd, cell_of_row _ _ j cs t fr hg]
    simpa using hv)
  simpa [loadCells] using this
theorem row_store (w : World) (g : Nat) (t : TypeId) (old cs : Array Value) (hg : w.heap[g]? = some (.cells old t (0, 0))) (hi : (P.info? t).map (·.size) = some cs.size) (ho : old.size = cs.size) (h1 : cs.all (·.oneCell') = true) :
    (storeCells ⟨g, 0, none⟩ cs.toList 0).run P w = .ok () (w.setRow g cs) := by
  have := run_storeVar_row (P := P) w g t t old cs hg hi ho h1
  cases hq : P.info? t with
  | none => simp [hq] at hi
  | some i =>
    have hs : cs.size = i.size := by simp [hq] at hi; omega
    simpa [storeVar, sizeOf, typeInfo, hq, Value.cells, hs] using this
theorem Keep.setRow {S : Nat → Prop} {a w : World} (h : Keep S a w) {g : Nat} (hg : S g ∨ a.heap.size ≤ g) (cs : Array Value) : Keep S a (w.setRow g cs) :=
  ⟨h.os, h.tape, h.output, by rw [setRow_size]; exact h.size, fun k hk hn => by
    rw [setRow_other _ _ _ _ (fun e => by subst e; rcases hg with hg | hg; exact hn hg; omega)]
    exact h.block k hk hn⟩
theorem all_one {cs : Array Value} {k : IntKind} {n : Nat} (hn : cs.size = n) (h : ∀ i, i < n → ∃ x, cs[i]? = some (.int k x)) : cs.all (·.oneCell') = true := by
  rw [Array.all_eq_true]
  intro i hi
  obtain ⟨x, hx⟩ := h i (by omega)
  rw [Array.getElem?_eq_getElem hi] at hx
  rw [Option.some.inj hx]
  rfl
def holdA (t : TypeId) : Sem Bool := isAgg t
def holdS (t : TypeId) : Sem Nat := sizeOf t
theorem hA379 (w : World) : (isAgg 379).run Tryz.prog w = (holdA 379).run Tryz.prog w := rfl
theorem hS379 (w : World) : (sizeOf 379).run Tryz.prog w = (holdS 379).run Tryz.prog w := rfl
theorem oA379 (w : World) : (holdA 379).run Tryz.prog w = .ok true w := Tryz.isAgg379 w
theorem oS379 (w : World) : (holdS 379).run Tryz.prog w = .ok 64 w := Tryz.sizeOf379 w
theorem hA317 (w : World) : (isAgg 317).run Tryz.prog w = (holdA 317).run Tryz.prog w := rfl
theorem hS317 (w : World) : (sizeOf 317).run Tryz.prog w = (holdS 317).run Tryz.prog w := rfl
theorem oA317 (w : World) : (holdA 317).run Tryz.prog w = .ok true w := Tryz.isAgg317 w
theorem oS317 (w : World) : (holdS 317).run Tryz.prog w = .ok 8 w := Tryz.sizeOf317 w
theorem hA41 (w : World) : (isAgg 41).run Tryz.prog w = (holdA 41).run Tryz.prog w := rfl
theorem hS41 (w : World) : (sizeOf 41).run Tryz.prog w = (holdS 41).run Tryz.prog w := rfl
theorem oA41 (w : World) : (holdA 41).run Tryz.prog w = .ok true w := Tryz.isAgg41 w
theorem oS41 (w : World) : (holdS 41).run Tryz.prog w = .ok 32 w := Tryz.sizeOf41 w
def U32 (x : Int) : Prop := 0 ≤ x ∧ x < 4294967296
def w32 (x : Int) : Int := x % 4294967296
def xorI (x y : Int) : Int := bits .xor .u32 x y
def andI (x y : Int) : Int := bits .and .u32 x y
def orI (x y : Int) : Int := bits .or .u32 x y
def rotI (x : Int) (k : Nat) : Int := orI (w32 (x * 2 ^ (32 - k))) (x / 2 ^ k)
theorem u32_w (x : Int) : U32 (w32 x) := by
  unfold U32 w32
  omega
theorem u32_bits (op : BinOp) (x y : Int) : U32 (bits op .u32 x y) := by
  unfold U32
  have h : ∀ z : Int, 0 ≤ IntKind.u32.wrap z ∧ IntKind.u32.wrap z < 4294967296 := fun z => by
    rw [IntKind.wrap_u32']
    omega
  exact h _
theorem u32_or (x y : Int) : U32 (orI x y) := u32_bits _ _ _
theorem rotl_2 (x : Int) (hx : U32 x) (w : World) : Calls Tryz.prog 317 #[.int .u32 x, .int .i64 (-2)] w fun e w' => e = .returned (.int .u32 (rotI x 2)) ∧ w = w' := by
  obtain ⟨h0, h1⟩ := hx
  have hb : bits .and .u64 (IntKind.u64.wrap (-2)) 31 = 30 := by decide
  go_enter Tryz.func317, Tryz.ntmps317
  go_wp2
  go_ret
  exact ⟨by simp [rotI, orI, w32], rfl⟩
theorem right_2 (x : Int) (hx : U32 x) (w : World) : Calls Tryz.prog 275 #[.int .u32 x, .int .i64 2] w fun e w' => e = .returned (.int .u32 (rotI x 2)) ∧ w = w' := by
  go_enter Tryz.func275, Tryz.ntmps275
  go_wp2_with fail
  refine (rotl_2 x hx _).mono ?_
  rintro e w' ⟨rfl, rfl⟩
  go_wp2_with fail
  go_ret
  exact ⟨rfl, rfl⟩
theorem rotl_6 (x : Int) (hx : U32 x) (w : World) : Calls Tryz.prog 317 #[.int .u32 x, .int .i64 (-6)] w fun e w' => e = .returned (.int .u32 (rotI x 6)) ∧ w = w' := by
  obtain ⟨h0, h1⟩ := hx
  have hb : bits .and .u64 (IntKind.u64.wrap (-6)) 31 = 26 := by decide
  go_enter Tryz.func317, Tryz.ntmps317
  go_wp2
  go_ret
  exact ⟨by simp [rotI, orI, w32], rfl⟩
theorem right_6 (x : Int) (hx : U32 x) (w : World) : Calls Tryz.prog 275 #[.int .u32 x, .int .i64 6] w fun e w' => e = .returned (.int .u32 (rotI x 6)) ∧ w = w' := by
  go_enter Tryz.func275, Tryz.ntmps275
  go_wp2_with fail
  refine (rotl_6 x hx _).mono ?_
  rintro e w' ⟨rfl, rfl⟩
  go_wp2_with fail
  go_ret
  exact ⟨rfl, rfl⟩
theorem rotl_7 (x : Int) (hx : U32 x) (w : World) : Calls Tryz.prog 317 #[.int .u32 x, .int .i64 (-7)] w fun e w' => e = .returned (.int .u32 (rotI x 7)) ∧ w = w' := by
  obtain ⟨h0, h1⟩ := hx
  have hb : bits .and .u64 (IntKind.u64.wrap (-7)) 31 = 25 := by decide
  go_enter Tryz.func317, Tryz.ntmps317
  go_wp2
  go_ret
  exact ⟨by simp [rotI, orI, w32], rfl⟩
theorem right_7 (x : Int) (hx : U32 x) (w : World) : Calls Tryz.prog 275 #[.int .u32 x, .int .i64 7] w fun e w' => e = .returned (.int .u32 (rotI x 7)) ∧ w = w' := by
  go_enter Tryz.func275, Tryz.ntmps275
  go_wp2_with fail
  refine (rotl_7 x hx _).mono ?_
  rintro e w' ⟨rfl, rfl⟩
  go_wp2_with fail
  go_ret
  exact ⟨rfl, rfl⟩
theorem rotl_11 (x : Int) (hx : U32 x) (w : World) : Calls Tryz.prog 317 #[.int .u32 x, .int .i64 (-11)] w fun e w' => e = .returned (.int .u32 (rotI x 11)) ∧ w = w' := by
  obtain ⟨h0, h1⟩ := hx
  have hb : bits .and .u64 (IntKind.u64.wrap (-11)) 31 = 21 := by decide
  go_enter Tryz.func317, Tryz.ntmps317
  go_wp2
  go_ret
  exact ⟨by simp [rotI, orI, w32], rfl⟩
theorem right_11 (x : Int) (hx : U32 x) (w : World) : Calls Tryz.prog 275 #[.int .u32 x, .int .i64 11] w fun e w' => e = .returned (.int .u32 (rotI x 11)) ∧ w = w' := by
  go_enter Tryz.func275, Tryz.ntmps275
  go_wp2_with fail
  refine (rotl_11 x hx _).mono ?_
  rintro e w' ⟨rfl, rfl⟩
  go_wp2_with fail
  go_ret
  exact ⟨rfl, rfl⟩
theorem rotl_13 (x : Int) (hx : U32 x) (w : World) : Calls Tryz.prog 317 #[.int .u32 x, .int .i64 (-13)] w fun e w' => e = .returned (.int .u32 (rotI x 13)) ∧ w = w' := by
  obtain ⟨h0, h1⟩ := hx
  have hb : bits .and .u64 (IntKind.u64.wrap (-13)) 31 = 19 := by decide
  go_enter Tryz.func317, Tryz.ntmps317
  go_wp2
  go_ret
  exact ⟨by simp [rotI, orI, w32], rfl⟩
theorem right_13 (x : Int) (hx : U32 x) (w : World) : Calls Tryz.prog 275 #[.int .u32 x, .int .i64 13] w fun e w' => e = .returned (.int .u32 (rotI x 13)) ∧ w = w' := by
  go_enter Tryz.func275, Tryz.ntmps275
  go_wp2_with fail
  refine (rotl_13 x hx _).mono ?_
  rintro e w' ⟨rfl, rfl⟩
  go_wp2_with fail
  go_ret
  exact ⟨rfl, rfl⟩
theorem rotl_17 (x : Int) (hx : U32 x) (w : World) : Calls Tryz.prog 317 #[.int .u32 x, .int .i64 (-17)] w fun e w' => e = .returned (.int .u32 (rotI x 17)) ∧ w = w' := by
  obtain ⟨h0, h1⟩ := hx
  have hb : bits .and .u64 (IntKind.u64.wrap (-17)) 31 = 15 := by decide
  go_enter Tryz.func317, Tryz.ntmps317
  go_wp2
  go_ret
  exact ⟨by simp [rotI, orI, w32], rfl⟩
theorem right_17 (x : Int) (hx : U32 x) (w : World) : Calls Tryz.prog 275 #[.int .u32 x, .int .i64 17] w fun e w' => e = .returned (.int .u32 (rotI x 17)) ∧ w = w' := by
  go_enter Tryz.func275, Tryz.ntmps275
  go_wp2_with fail
  refine (rotl_17 x hx _).mono ?_
  rintro e w' ⟨rfl, rfl⟩
  go_wp2_with fail
  go_ret
  exact ⟨rfl, rfl⟩
theorem rotl_18 (x : Int) (hx : U32 x) (w : World) : Calls Tryz.prog 317 #[.int .u32 x, .int .i64 (-18)] w fun e w' => e = .returned (.int .u32 (rotI x 18)) ∧ w = w' := by
  obtain ⟨h0, h1⟩ := hx
  have hb : bits .and .u64 (IntKind.u64.wrap (-18)) 31 = 14 := by decide
  go_enter Tryz.func317, Tryz.ntmps317
  go_wp2
  go_ret
  exact ⟨by simp [rotI, orI, w32], rfl⟩
theorem right_18 (x : Int) (hx : U32 x) (w : World) : Calls Tryz.prog 275 #[.int .u32 x, .int .i64 18] w fun e w' => e = .returned (.int .u32 (rotI x 18)) ∧ w = w' := by
  go_enter Tryz.func275, Tryz.ntmps275
  go_wp2_with fail
  refine (rotl_18 x hx _).mono ?_
  rintro e w' ⟨rfl, rfl⟩
  go_wp2_with fail
  go_ret
  exact ⟨rfl, rfl⟩
theorem rotl_19 (x : Int) (hx : U32 x) (w : World) : Calls Tryz.prog 317 #[.int .u32 x, .int .i64 (-19)] w fun e w' => e = .returned (.int .u32 (rotI x 19)) ∧ w = w' := by
  obtain ⟨h0, h1⟩ := hx
  have hb : bits .and .u64 (IntKind.u64.wrap (-19)) 31 = 13 := by decide
  go_enter Tryz.func317, Tryz.ntmps317
  go_wp2
  go_ret
  exact ⟨by simp [rotI, orI, w32], rfl⟩
theorem right_19 (x : Int) (hx : U32 x) (w : World) : Calls Tryz.prog 275 #[.int .u32 x, .int .i64 19] w fun e w' => e = .returned (.int .u32 (rotI x 19)) ∧ w = w' := by
  go_enter Tryz.func275, Tryz.ntmps275
  go_wp2_with fail
  refine (rotl_19 x hx _).mono ?_
  rintro e w' ⟨rfl, rfl⟩
  go_wp2_with fail
  go_ret
  exact ⟨rfl, rfl⟩
theorem rotl_22 (x : Int) (hx : U32 x) (w : World) : Calls Tryz.prog 317 #[.int .u32 x, .int .i64 (-22)] w fun e w' => e = .returned (.int .u32 (rotI x 22)) ∧ w = w' := by
  obtain ⟨h0, h1⟩ := hx
  have hb : bits .and .u64 (IntKind.u64.wrap (-22)) 31 = 10 := by decide
  go_enter Tryz.func317, Tryz.ntmps317
  go_wp2
  go_ret
  exact ⟨by simp [rotI, orI, w32], rfl⟩
theorem right_22 (x : Int) (hx : U32 x) (w : World) : Calls Tryz.prog 275 #[.int .u32 x, .int .i64 22] w fun e w' => e = .returned (.int .u32 (rotI x 22)) ∧ w = w' := by
  go_enter Tryz.func275, Tryz.ntmps275
  go_wp2_with fail
  refine (rotl_22 x hx _).mono ?_
  rintro e w' ⟨rfl, rfl⟩
  go_wp2_with fail
  go_ret
  exact ⟨rfl, rfl⟩
theorem rotl_25 (x : Int) (hx : U32 x) (w : World) : Calls Tryz.prog 317 #[.int .u32 x, .int .i64 (-25)] w fun e w' => e = .returned (.int .u32 (rotI x 25)) ∧ w = w' := by
  obtain ⟨h0, h1⟩ := hx
  have hb : bits .and .u64 (IntKind.u64.wrap (-25)) 31 = 7 := by decide
  go_enter Tryz.func317, Tryz.ntmps317
  go_wp2
  go_ret
  exact ⟨by simp [rotI, orI, w32], rfl⟩
theorem right_25 (x : Int) (hx : U32 x) (w : World) : Calls Tryz.prog 275 #[.int .u32 x, .int .i64 25] w fun e w' => e = .returned (.int .u32 (rotI x 25)) ∧ w = w' := by
  go_enter Tryz.func275, Tryz.ntmps275
  go_wp2_with fail
  refine (rotl_25 x hx _).mono ?_
  rintro e w' ⟨rfl, rfl⟩
  go_wp2_with fail
  go_ret
  exact ⟨rfl, rfl⟩
def frameB (t : List UInt8) : List UInt8 := sealB (vtext t)
theorem vtext_len (t : List UInt8) : (vtext t).length = (vput t.length).length + t.length := by simp [vtext]
theorem frameB_len (t : List UInt8) : (frameB t).length = (vput t.length).length + t.length + 4 := by simp [frameB, sealB_len, vtext_len]
theorem fput_nil (v : Value) (t : List UInt8) (w : World) (h : Bs w v t) (hl : t.length ≤ 65536) :
    Calls Tryz.prog 128 #[.slice none 0 0, v] w fun e w' => ∃ v', e = .returned (.tuple #[v', .nilIface]) ∧ Keep Non w w' ∧ w'.ownsRow w.heap.size 5 1 v' (frameB t).length ((frameB t).map bv) := by
  have V := Lib.hid h
  have h3 : (vput t.length).length ≤ 3 := vput_three (by omega)
  obtain ⟨a, c, rfl, _⟩ := h
  rw [List.length_map] at V ⊢
  go_enter Tryz.func128, Tryz.ntmps128
  go_wp2_with (first
    | (go_at_call 194; refine (maker_new _).mono ?_; rintro e w1 ⟨rfl, k1, m1⟩; have K1 := Lib.hid k1; have M1 : Hid (MkNew w1 w.heap.size) := Lib.hid m1; clear k1 m1)
    | (go_at_call 196; refine (putText_any _ [] a c t _ (Rd.nil _) (by simp) (by exact V.out.keepNon K1.out) (by omega)).mono ?_; rintro e w2 ⟨v2, rfl, k2, o2⟩; rw [List.nil_append] at o2; have K2 := Lib.hid k2; have O2 := Lib.hid o2; clear k2 o2)
    | (go_at_call 195; refine (sealed_new w.heap.size _ (vtext t) _ (M1.out.keep K2.out (fun e => e)) (Rd.ofOwns O2.out) (by rw [vtext_len]; omega) (fun g e => by have := (O2.out.lt g e).1; have := K1.out.size; have := M1.out.lt; omega)).mono ?_; rintro e w3 ⟨v3, rfl, k3, o3⟩; obtain ⟨a3, c3, rfl, _, _⟩ := ownsRow_form o3; have K3 := Lib.hid k3; have O3 := Lib.hid o3; clear k3 o3)
    | (go_at_call 193; have hb2 : Bss (w3.alloc (.cells #[Value.slice none 0 0, Value.slice a3 (sealB (vtext t)).length c3] 48)) [Value.slice none 0 0, Value.slice a3 (sealB (vtext t)).length c3] [[], sealB (vtext t)] := two_bss (Rd.nil _) (Rd.keepNon (Rd.ofOwns O3.out) ((Keep.refl _ _).alloc _)); refine (concat_any _ [Value.slice none 0 0, Value.slice a3 (sealB (vtext t)).length c3] [[], sealB (vtext t)] 2 _ (two_rd _ _) hb2 (by simp [sealB_len, vtext_len]; omega) (by simp)).mono ?_; rintro e w4 ⟨v4, rfl, k4, o4⟩; have K4 := Lib.hid k4; have O4 := Lib.hid o4; clear k4 o4))
  go_ret2
  have ho := O4.out
  have e : [[], sealB (vtext t)].flatten = frameB t := by simp [frameB]
  rw [e] at ho
  have hk := ((K1.out.trans1 K2.out).trans K3.out (U := Non) (fun _ _ h => h) (fun i hi e => by unfold One at e; omega)).trans1 (((Keep.refl _ _).alloc _).trans1 K4.out)
  exact ⟨_, rfl, hk, ownsRow_low ho (by have h1 := K1.out.size; have h2 := K2.out.size; have h3 := K3.out.size; simp; omega)⟩
theorem own_some {w : World} {base : Nat} {e : TypeId} {size : Nat} {v : Value} {n : Nat} {xs : List Value} (h : w.ownsRow base e size v n xs) (hn : 0 < n) : ∃ g c, v = .slice (some ⟨g, 0, none⟩) n c ∧ n ≤ c ∧ base ≤ g ∧ g < w.heap.size := by
  rcases h.2 with ⟨_, h2⟩ | ⟨g, cap, cur, rfl, hb, hg, h1, _⟩
  · omega
  · exact ⟨g, cap, rfl, h1, hb, lt_of_block hg⟩
theorem opened_ok {x s : List UInt8} {e : Ending} {P : Value → Prop} (hq : fourB (crcI x) = s) (h : (fourB (crcI x) = s ∧ ∃ v', e = .returned (.tuple #[v', .nilIface]) ∧ P v') ∨ (fourB (crcI x) ≠ s ∧ e = .returned (.tuple #[.slice none 0 0, errv 11]))) : ∃ v', e = .returned (.tuple #[v', .nilIface]) ∧ P v' := by
  rcases h with ⟨_, h⟩ | ⟨q, _⟩
  · exact h
  · exact absurd hq q
theorem opened_no {x s : List UInt8} {e : Ending} {P : Value → Prop} (hq : ¬ fourB (crcI x) = s) (h : (fourB (crcI x) = s ∧ ∃ v', e = .returned (.tuple #[v', .nilIface]) ∧ P v') ∨ (fourB (crcI x) ≠ s ∧ e = .returned (.tuple #[.slice none 0 0, errv 11]))) : e = .returned (.tuple #[.slice none 0 0, .iface 84 (.int .i64 11)]) := by
  rcases h with ⟨q, _⟩ | ⟨_, h⟩
  · exact absurd q hq
  · exact h
theorem ftake_any (v : Value) (t s : List UInt8) (w : World) (h : Bs w v (vtext t ++ s)) (hc : okc v) (hs : s.length = 4) (hl : t.length ≤ 65536) (hv : ∀ g, v.ownBlock = some g → g < w.heap.size) :
    Calls Tryz.prog 175 #[v] w fun e w' => Keep Non w w' ∧ ((fourB (crcI (vtext t)) = s ∧ ∃ v', e = .returned (.tuple #[v', .int .i64 (vtext t ++ s).length, .nilIface]) ∧ Bs w' v' t ∧ okc v' ∧ (∀ g, v'.ownBlock = some g → w.heap.size ≤ g ∧ g < w'.heap.size)) ∨ (fourB (crcI (vtext t)) ≠ s ∧ e = .returned (.tuple #[.slice none 0 0, .int .i64 0, errv 11]))) := by
  have V := Lib.hid h
  have HC := Lib.hid hc
  have VB := Lib.hid hv
  have h3 : (vput t.length).length ≤ 3 := vput_three (by omega)
  have hlen : (vtext t ++ s).length = (vput t.length).length + t.length + 4 := by simp [vtext_len, hs]
  clear hv
  obtain ⟨a, c, rfl, hx⟩ := h
  obtain ⟨g, off, rfl, _⟩ := hx (by intro e; rw [List.map_eq_nil_iff] at e; rw [e] at hlen; simp at hlen)
  have hc1 := hc.1
  rw [List.length_map, hlen] at V VB HC hc1 ⊢
  clear hx hc
  have V2 : Hid (Bs w (.slice (some ⟨g, off, none⟩) ((vput t.length).length + t.length + 4) c) (vput t.length ++ (t ++ s))) := Lib.hid (by have := V.out; unfold vtext at this; rw [List.append_assoc] at this; exact this)
  generalize hhd : (vput t.length).length = hd at h3 hlen V VB HC hc1 V2 ⊢
  have HHD := Lib.hid hhd
  clear hhd hlen
  go_enter Tryz.func175, Tryz.ntmps175
  have hd1 : 1 ≤ hd := by rw [← HHD.out]; exact vput_pos _
  have HVL : Hid ((vtext t).length = hd + t.length) := Lib.hid (by rw [vtext_len, HHD.out])
  by_cases hq : fourB (crcI (vtext t)) = s
  · go_wp2_with (go_at_call 178; refine (take_ok _ t.length (t ++ s) _ V2.out HC.out (by omega)).mono ?_; rw [HHD.out]; rintro e w0 ⟨rfl, e1⟩; subst e1)
    go_region_with (first
      | (go_at_call 194; refine (maker_new _).mono ?_; rintro e w1 ⟨rfl, k1, m1⟩; have K1 := Lib.hid (keep_undrew (w := w0) (by exact k1)); have M1 : Hid (MkNew w1 w0.heap.size) := Lib.hid m1; clear k1 m1)
      | (go_at_call 259; refine (opened_new w0.heap.size _ (vtext t) s _ M1.out (V.out.keepNon K1.out) HC.out hs (by rw [vtext_len, HHD.out]; omega) (fun q e => by have := VB.out q e; omega)).mono ?_; rintro e w2 ⟨k2, h2⟩; obtain ⟨v2, rfl, o2⟩ := opened_ok hq h2; rw [HVL.out] at o2; obtain ⟨g2, c2, rfl, hc2, hg2, hg3⟩ := own_some o2 (by omega); have K2 := Lib.hid k2; have O2 := Lib.hid o2; clear k2 o2 h2))
    all_goals
      go_wp2_with fail
      all_goals go_ret3
      all_goals
        have hk := K1.out.trans K2.out (U := Non) (fun _ _ h => h) (fun i hi e => by unfold One at e; omega)
        have hbs : Bs w2 (.slice (some ⟨g2, 0, none⟩) (hd + t.length) c2) (vput t.length ++ t) := Rd.ofOwns O2.out
        have hs1 := K1.out.size
      · exact ⟨hk, _, rfl, by have := rest_nil 0 hbs hc2 (by rw [HHD.out]; assumption); rw [HHD.out, Nat.add_sub_cancel_left] at this; exact this, ⟨by omega, fun ad e => by injection e with e; exact ⟨_, _, e.symm⟩⟩, fun q e => by injection e with e; subst e; exact ⟨Nat.le_trans hs1 hg2, hg3⟩⟩
      · exact ⟨hk, _, rfl, by have := rest_rd hbs; rw [HHD.out, Nat.add_sub_cancel_left, Nat.zero_add] at this; exact this, ⟨by omega, fun ad e => by injection e with e; exact ⟨_, _, e.symm⟩⟩, fun q e => by injection e with e; subst e; exact ⟨Nat.le_trans hs1 hg2, hg3⟩⟩
  · go_wp2_with (go_at_call 178; refine (take_ok _ t.length (t ++ s) _ V2.out HC.out (by omega)).mono ?_; rw [HHD.out]; rintro e w0 ⟨rfl, e1⟩; subst e1)
    go_region_with (first
      | (go_at_call 194; refine (maker_new _).mono ?_; rintro e w1 ⟨rfl, k1, m1⟩; have K1 := Lib.hid (keep_undrew (w := w0) (by exact k1)); have M1 : Hid (MkNew w1 w0.heap.size) := Lib.hid m1; clear k1 m1)
      | (go_at_call 259; refine (opened_new w0.heap.size _ (vtext t) s _ M1.out (V.out.keepNon K1.out) HC.out hs (by rw [vtext_len, HHD.out]; omega) (fun q e => by have := VB.out q e; omega)).mono ?_; rintro e w2 ⟨k2, h2⟩; obtain rfl := opened_no hq h2; have K2 := Lib.hid k2; clear k2 h2))
    all_goals
      go_wp2_with fail
      go_ret3
      exact ⟨K1.out.trans K2.out (U := Non) (fun _ _ h => h) (fun i hi e => by unfold One at e; omega), .inr ⟨hq, rfl⟩⟩
def byI (b : List UInt8) (j : Nat) : Int := ((b.getD j 0).toNat : Int)
def beI (b : List UInt8) (t : Nat) : Int := orI (orI (orI (byI b (4 * t) * 16777216) (byI b (4 * t + 1) * 65536)) (byI b (4 * t + 2) * 256)) (byI b (4 * t + 3))
def sg0 (x : Int) : Int := xorI (xorI (rotI x 7) (rotI x 18)) (x / 8)
def sg1 (x : Int) : Int := xorI (xorI (rotI x 17) (rotI x 19)) (x / 1024)
def nextW (a b c d : Int) : Int := w32 (w32 (w32 (a + b) + sg0 c) + sg1 d)
def schedTo (b : List UInt8) : Nat → List Int
  | 0 => []
  | t + 1 => schedTo b t ++ [if t < 16 then beI b t else nextW ((schedTo b t).getD (t - 16) 0) ((schedTo b t).getD (t - 7) 0) ((schedTo b t).getD (t - 15) 0) ((schedTo b t).getD (t - 2) 0)]
def schedW (b : List UInt8) (i : Nat) : Int := (schedTo b (i + 1)).getD i 0
theorem sched_len (b : List UInt8) : ∀ t, (schedTo b t).length = t
  | 0 => rfl
  | t + 1 => by simp [schedTo, sched_len b t]
theorem sched_get (b : List UInt8) (i : Nat) : ∀ t, i < t → (schedTo b t).getD i 0 = schedW b i
  | 0, h => by omega
  | t + 1, h => by
    by_cases e : i = t
    · subst e
      rfl
    · have h' : i < t := by omega
      rw [← sched_get b i t h']
      simp only [schedTo, List.getD_eq_getElem?_getD]
      rw [List.getElem?_append_left (by rw [sched_len]; exact h')]
theorem schedW_lt {b : List UInt8} {t : Nat} (h : t < 16) : schedW b t = beI b t := by
  unfold schedW
  simp only [schedTo, if_pos h, List.getD_eq_getElem?_getD]
  rw [List.getElem?_append_right (by rw [sched_len]; omega), sched_len]
  simp
theorem schedW_ge {b : List UInt8} {t : Nat} (h : ¬ t < 16) : schedW b t = nextW (schedW b (t - 16)) (schedW b (t - 7)) (schedW b (t - 15)) (schedW b (t - 2)) := by
  rw [← sched_get b (t - 16) t (by omega), ← sched_get b (t - 7) t (by omega), ← sched_get b (t - 15) t (by omega), ← sched_get b (t - 2) t (by omega)]
  conv => lhs; unfold schedW
  simp only [schedTo, if_neg h, List.getD_eq_getElem?_getD]
  rw [List.getElem?_append_right (by rw [sched_len]; omega), sched_len]
  simp
theorem byI_bd (b : List UInt8) (j : Nat) : 0 ≤ byI b j ∧ byI b j ≤ 255 := by
  unfold byI
  have := (b.getD j 0).toNat_lt
  omega
theorem schedW_u32 (b : List UInt8) (t : Nat) : U32 (schedW b t) := by
  by_cases h : t < 16
  · rw [schedW_lt h]
    exact u32_or _ _
  · rw [schedW_ge h]
    exact u32_w _
def SchB (w : World) (g : Nat) (b : List UInt8) (t : Nat) : Prop := ∃ cs : Array Value, cs.size = 64 ∧ w.heap[g]? = some (.cells cs 379 (0, 0)) ∧ ∀ i, i < t → cs[i]? = some (.int .u32 (schedW b i))
def ShByt (w : World) (g off n : Nat) (b : List UInt8) : Prop := ∀ j, j < n → w.cell? ⟨g, off + j, none⟩ = some (.int .u8 (byI b j))
def Row64 (w : World) (g : Nat) : Prop := ∃ cs : Array Value, cs.size = 64 ∧ w.heap[g]? = some (.cells cs 379 (0, 0))
theorem SchB.cell {w : World} {g : Nat} {b : List UInt8} {t i : Nat} (h : SchB w g b t) (hi : i < t) : w.cell? ⟨g, i, none⟩ = some (.int .u32 (schedW b i)) := by
  obtain ⟨cs, _, h2, h3⟩ := h
  have := h3 i hi
  simp [World.cell?, h2, this]
theorem SchB.frozen {w : World} {g : Nat} {b : List UInt8} {t : Nat} (h : SchB w g b t) (i : Nat) : w.frozen? ⟨g, i, none⟩ = false := by
  obtain ⟨cs, _, h2, h3⟩ := h
  simp [World.frozen?, h2]
theorem SchB.has {w : World} {g : Nat} {b : List UInt8} {t i : Nat} (h : SchB w g b t) (hi : i < 64) : ∃ v, w.cell? ⟨g, i, none⟩ = some v := by
  obtain ⟨cs, h1, h2, h3⟩ := h
  exact ⟨cs[i], by simp [World.cell?, h2, show i < cs.size by omega]⟩
theorem SchB.set {w : World} {g : Nat} {b : List UInt8} {t : Nat} (h : SchB w g b t) (ht : t < 64) {x : Int} (hx : x = schedW b t) : SchB (w.setCell ⟨g, t, none⟩ (.int .u32 x)) g b (t + 1) := by
  obtain ⟨cs, h1, h2, h3⟩ := h
  subst hx
  refine ⟨cs.setIfInBounds t _, by simpa using h1, blk_set h2 t _, fun i hi => ?_⟩
  rw [Array.getElem?_setIfInBounds]
  by_cases e : t = i
  · subst e
    simp [show t < cs.size by omega]
  · rw [if_neg e]
    exact h3 i (by omega)
theorem SchB.keep {S : Nat → Prop} {w w' : World} {g : Nat} {b : List UInt8} {t : Nat} (h : SchB w g b t) (k : Keep S w w') (hn : ¬ S g) : SchB w' g b t := by
  obtain ⟨cs, h1, h2, h3⟩ := h
  exact ⟨cs, h1, k.at h2 hn, h3⟩
theorem Row64.keep {S : Nat → Prop} {w w' : World} {g : Nat} (h : Row64 w g) (k : Keep S w w') (hn : ¬ S g) : Row64 w' g := by
  obtain ⟨cs, h1, h2⟩ := h
  exact ⟨cs, h1, k.at h2 hn⟩
theorem SchB.start {w : World} {g : Nat} {cs : Array Value} (b : List UInt8) (h : w.heap[g]? = some (.cells cs 379 (0, 0))) (hs : cs.size = 64) : SchB w g b 0 := ⟨cs, hs, h, fun i hi => absurd hi (by omega)⟩
theorem Row64.start {w : World} {g : Nat} {cs : Array Value} (h : w.heap[g]? = some (.cells cs 379 (0, 0))) (hs : cs.size = 64) : Row64 w g := ⟨cs, hs, h⟩
section
attribute [local simp high] hA379 hS379
theorem sched_any (g off cap : Nat) (b : List UInt8) (w : World) (hb : ShByt w g off 64 b) (hcap : 64 ≤ cap) (hcm : cap ≤ 9223372036854775807) :
    Calls Tryz.prog 274 #[.slice (some ⟨g, off, none⟩) 64 cap] w fun e w' => ∃ ws : Array Value, e = .returned (.agg ws) ∧ ws.size = 64 ∧ (∀ i, i < 64 → ws[i]? = some (.int .u32 (schedW b i))) ∧ Keep Non w w' := by
  have HB := Lib.hid hb
  have hgl : g < w.heap.size := World.block_lt_of_cell? _ _ (hb 0 (by omega))
  clear hb
  go_enter Tryz.func274, Tryz.ntmps274
  go_wp2_with fail
  go_loopw [7] (fun i wr => ∃ t : Nat, t ≤ 64 ∧ i = .int .i64 t ∧ Keep Non w wr ∧ SchB wr (w.heap.size + 1) b t ∧ Row64 wr w.heap.size) (fun i _ => 64 - (intOf i).toNat)
  case atStart =>
    refine ⟨0, by omega, rfl, ((Keep.refl _ _).alloc _).alloc _, SchB.start b (World.size_alloc w _ ▸ blk_new _ _) rfl, Row64.start (blk_alloc (blk_new _ _) _) rfl⟩
  case round =>
    obtain ⟨t, ht, rfl, kp, hs, hr⟩ := hrel
    have KP := Lib.hid kp
    have HS := Lib.hid hs
    have HR := Lib.hid hr
    clear kp hs hr
    by_cases h64 : t < 64
    · obtain ⟨v0, hv0⟩ := HS.out.has h64
      have f0 := HS.out.frozen t
      by_cases h16 : t < 16
      · have hby : ∀ j, j < 64 → wr.cell? ⟨g, off + j, none⟩ = some (.int .u8 (byI b j)) := fun j hj => (World.cell?_of_block (KP.out.block g hgl (fun e => e))).trans (HB.out j hj)
        have b0 := hby (4 * t) (by omega)
        have b1 := hby (4 * t + 1) (by omega)
        have b2 := hby (4 * t + 2) (by omega)
        have b3 := hby (4 * t + 3) (by omega)
        obtain ⟨l0, u0⟩ := byI_bd b (4 * t)
        obtain ⟨l1, u1⟩ := byI_bd b (4 * t + 1)
        obtain ⟨l2, u2⟩ := byI_bd b (4 * t + 2)
        obtain ⟨l3, u3⟩ := byI_bd b (4 * t + 3)
        have w0 : IntKind.i64.wrap (4 * (t : Int)) = 4 * (t : Int) := by rw [IntKind.wrap_i64]; omega
        have w1 : IntKind.i64.wrap (4 * (t : Int) + 1) = 4 * (t : Int) + 1 := by rw [IntKind.wrap_i64]; omega
        have w2 : IntKind.i64.wrap (4 * (t : Int) + 2) = 4 * (t : Int) + 2 := by rw [IntKind.wrap_i64]; omega
        have w3 : IntKind.i64.wrap (4 * (t : Int) + 3) = 4 * (t : Int) + 3 := by rw [IntKind.wrap_i64]; omega
        have p0 : (4 * (t : Int)).toNat = 4 * t := by omega
        have p1 : (4 * (t : Int) + 1).toNat = 4 * t + 1 := by omega
        have p2 : (4 * (t : Int) + 2).toNat = 4 * t + 2 := by omega
        have p3 : (4 * (t : Int) + 3).toNat = 4 * t + 3 := by omega
        have q0 : 0 ≤ 4 * (t : Int) ∧ 4 * (t : Int) < 64 := by omega
        have q1 : 0 ≤ 4 * (t : Int) + 1 ∧ 4 * (t : Int) + 1 < 64 := by omega
        have q2 : 0 ≤ 4 * (t : Int) + 2 ∧ 4 * (t : Int) + 2 < 64 := by omega
        have q3 : 0 ≤ 4 * (t : Int) + 3 ∧ 4 * (t : Int) + 3 < 64 := by omega
        have ht16 : (t : Int) < 16 := by omega
        have ht64 : (t : Int) < 64 := by omega
        have hgn : g ≠ w.heap.size + 1 := by omega
        clear hby
        go_wp2_with fail
        have HV : Hid (∀ v : Value, (wr.setCell ⟨w.heap.size + 1, t, none⟩ v).drew.cell? ⟨g, off + 4 * t, none⟩ = some (.int .u8 (byI b (4 * t))) ∧ (wr.setCell ⟨w.heap.size + 1, t, none⟩ v).drew.cell? ⟨g, off + (4 * t + 1), none⟩ = some (.int .u8 (byI b (4 * t + 1))) ∧ (wr.setCell ⟨w.heap.size + 1, t, none⟩ v).drew.cell? ⟨g, off + (4 * t + 2), none⟩ = some (.int .u8 (byI b (4 * t + 2))) ∧ (wr.setCell ⟨w.heap.size + 1, t, none⟩ v).drew.cell? ⟨g, off + (4 * t + 3), none⟩ = some (.int .u8 (byI b (4 * t + 3)))) := Lib.hid (fun v => by
          refine ⟨(World.cell?_setCell_other _ _ _ _ ?_).trans b0, (World.cell?_setCell_other _ _ _ _ ?_).trans b1, (World.cell?_setCell_other _ _ _ _ ?_).trans b2, (World.cell?_setCell_other _ _ _ _ ?_).trans b3⟩ <;> (intro e; injection e; omega))
        go_region_held3 (fun W => W.cell? ⟨g, off + 4 * t, none⟩ = some (.int .u8 (byI b (4 * t))) ∧ W.cell? ⟨g, off + (4 * t + 1), none⟩ = some (.int .u8 (byI b (4 * t + 1))) ∧ W.cell? ⟨g, off + (4 * t + 2), none⟩ = some (.int .u8 (byI b (4 * t + 2))) ∧ W.cell? ⟨g, off + (4 * t + 3), none⟩ = some (.int .u8 (byI b (4 * t + 3))))
          (first | with_reducible exact ⟨b0, b1, b2, b3⟩ | with_reducible exact HV.out _ | go_keep)
          (first | fail)
        go_wp2_with fail
        go_roundw
        case rel =>
          refine ⟨t + 1, by omega, by go_num, (KP.out.setNew (by omega) _ _).drewN _, (HS.out.set h64 ?_).keep (Keep.drewN (Keep.refl (fun _ => False) _) _) (fun e => e), HR.out.keep ((Keep.setCell (S := One (w.heap.size + 1)) (Keep.refl _ _) (.inl (one_self _)) _).drewN _) (fun e => by unfold One at e; omega)⟩
          rw [schedW_lt h16]
          rfl
        case measure => simp [intOf]; omega
      · have ht16 : ¬ ((t : Int) < 16) := by omega
        have ht64 : (t : Int) < 64 := by omega
        have hn : Hid (∀ i, i < t → wr.cell? ⟨w.heap.size + 1, i, none⟩ = some (.int .u32 (schedW b i))) := Lib.hid (fun i hi => HS.out.cell hi)
        have c15 := hn.out (t - 15) (by omega)
        have c2 := hn.out (t - 2) (by omega)
        have c16 := hn.out (t - 16) (by omega)
        have c7 := hn.out (t - 7) (by omega)
        have w15 : IntKind.i64.wrap ((t : Int) - 15) = (t : Int) - 15 := by rw [IntKind.wrap_i64]; omega
        have w2 : IntKind.i64.wrap ((t : Int) - 2) = (t : Int) - 2 := by rw [IntKind.wrap_i64]; omega
        have w16 : IntKind.i64.wrap ((t : Int) - 16) = (t : Int) - 16 := by rw [IntKind.wrap_i64]; omega
        have w7 : IntKind.i64.wrap ((t : Int) - 7) = (t : Int) - 7 := by rw [IntKind.wrap_i64]; omega
        have p15 : ((t : Int) - 15).toNat = t - 15 := by omega
        have p2 : ((t : Int) - 2).toNat = t - 2 := by omega
        have p16 : ((t : Int) - 16).toNat = t - 16 := by omega
        have p7 : ((t : Int) - 7).toNat = t - 7 := by omega
        have q15 : 0 ≤ (t : Int) - 15 ∧ (t : Int) - 15 < 64 := by omega
        have q2 : 0 ≤ (t : Int) - 2 ∧ (t : Int) - 2 < 64 := by omega
        have q16 : 0 ≤ (t : Int) - 16 ∧ (t : Int) - 16 < 64 := by omega
        have q7 : 0 ≤ (t : Int) - 7 ∧ (t : Int) - 7 < 64 := by omega
        have r7 : (7 : Int) ≤ (t : Int) := by omega
        have r7' : (t : Int) - 7 < 64 := by omega
        have r16' : (t : Int) - 16 < 64 := by omega
        have s15 := schedW_u32 b (t - 15)
        have s2 := schedW_u32 b (t - 2)
        go_wp2_with fail
        go_quiet (fail)
        have kpq := KP.out.drewN nq
        have hsq : SchB (wr.drewN nq) (w.heap.size + 1) b t := HS.out.keep ((Keep.refl Non _).drewN nq) (fun e => e)
        have hrq : Row64 (wr.drewN nq) w.heap.size := HR.out.keep ((Keep.refl Non _).drewN nq) (fun e => e)
        revert kpq hsq hrq
        clear hn c15 c2 c16 c7 f0 hv0 HR HS KP
        clear v0
        generalize wr.drewN nq = wq
        intro kpq hsq hrq
        have KP := Lib.hid kpq
        have HS := Lib.hid hsq
        have HR := Lib.hid hrq
        clear kpq hsq hrq
        have ST : Hid (schedW b t = nextW (schedW b (t - 16)) (schedW b (t - 7)) (schedW b (t - 15)) (schedW b (t - 2))) := Lib.hid (schedW_ge h16)
        have s16 := schedW_u32 b (t - 16)
        have s7 := schedW_u32 b (t - 7)
        have c16 := HS.out.cell (i := t - 16) (by omega)
        have c7 := HS.out.cell (i := t - 7) (by omega)
        have f0 := HS.out.frozen t
        obtain ⟨v0, hv0⟩ := HS.out.has h64
        have HT : Hid (t < 64 ∧ 16 ≤ t ∧ g < w.heap.size) := Lib.hid ⟨h64, by omega, hgl⟩
        clear w15 w2 p15 p2 q15 q2 h16 hgl hcap hcm HB
        revert ST s16 s7 s15 s2 c16 c7
        generalize schedW b (t - 16) = x16
        generalize schedW b (t - 15) = x15
        generalize schedW b (t - 7) = x7
        generalize schedW b (t - 2) = x2
        intro s15 s2 ST s16 s7 c16 c7
        have SD : Hid (∀ v : Value, (wq.setCell ⟨w.heap.size + 1, t, none⟩ v).drew.cell? ⟨w.heap.size + 1, t - 16, none⟩ = some (.int .u32 x16) ∧ (wq.setCell ⟨w.heap.size + 1, t, none⟩ v).drew.cell? ⟨w.heap.size + 1, t - 7, none⟩ = some (.int .u32 x7)) := Lib.hid (fun v => by
          have := HT.out
          refine ⟨(World.cell?_setCell_other _ _ _ _ ?_).trans c16, (World.cell?_setCell_other _ _ _ _ ?_).trans c7⟩ <;> (intro e; injection e; omega))
        have SA : Hid (wq.drew.cell? ⟨w.heap.size + 1, t - 16, none⟩ = some (.int .u32 x16) ∧ wq.drew.cell? ⟨w.heap.size + 1, t - 7, none⟩ = some (.int .u32 x7)) := Lib.hid ⟨c16, c7⟩
        have S15 : Hid (U32 x15) := Lib.hid s15
        have S2 : Hid (U32 x2) := Lib.hid s2
        clear s16 s7 s15 s2
        go_wp2_with fail
        go_region_held3 (fun W => W.cell? ⟨w.heap.size + 1, t - 16, none⟩ = some (.int .u32 x16) ∧ W.cell? ⟨w.heap.size + 1, t - 7, none⟩ = some (.int .u32 x7))
          (first | with_reducible exact SA.out | with_reducible exact SD.out _ | go_keep)
          (first
          | (go_at_call 275; refine (right_7 _ S15.out _).mono ?_; rintro e w' ⟨he, rfl⟩; obtain ⟨r7, e7⟩ : ∃ r, r = rotI x15 7 := ⟨_, rfl⟩; rw [← e7] at he; subst he; replace e7 := Lib.hid e7)
          | (go_at_call 275; refine (right_18 _ S15.out _).mono ?_; rintro e w' ⟨he, rfl⟩; obtain ⟨r18, e18⟩ : ∃ r, r = rotI x15 18 := ⟨_, rfl⟩; rw [← e18] at he; subst he; replace e18 := Lib.hid e18)
          | (go_at_call 275; refine (right_17 _ S2.out _).mono ?_; rintro e w' ⟨he, rfl⟩; obtain ⟨r17, e17⟩ : ∃ r, r = rotI x2 17 := ⟨_, rfl⟩; rw [← e17] at he; subst he; replace e17 := Lib.hid e17)
          | (go_at_call 275; refine (right_19 _ S2.out _).mono ?_; rintro e w' ⟨he, rfl⟩; obtain ⟨r19, e19⟩ : ∃ r, r = rotI x2 19 := ⟨_, rfl⟩; rw [← e19] at he; subst he; replace e19 := Lib.hid e19))
        go_wp2_with fail
        go_roundw
        case rel =>
          refine ⟨t + 1, by omega, by go_num, (KP.out.setNew (by omega) _ _).drewN _, (HS.out.set h64 ?_).keep (Keep.drewN (Keep.refl (fun _ => False) _) _) (fun e => e), HR.out.keep ((Keep.setCell (S := One (w.heap.size + 1)) (Keep.refl _ _) (.inl (one_self _)) _).drewN _) (fun e => by unfold One at e; omega)⟩
          rw [ST.out, e7.out, e18.out, e17.out, e19.out]
          simp only [nextW, sg0, sg1, w32, xorI]
        case measure => simp [intOf]; omega
    · have e : t = 64 := by omega
      subst e
      go_wp2_with fail
      obtain ⟨cs, hcs, hcb, hcv⟩ := HS.out
      obtain ⟨rs, hrs, hrb⟩ := HR.out
      have hl := row_load (P := Tryz.prog) wr (w.heap.size + 1) 379 cs (0, 0) 64 hcb hcs
      simp only [oA379, oS379, Result.andThen, ↓reduceIte, hl]
      rw [Oper.upon_value]
      go_wp2_with fail
      have hst := row_store (P := Tryz.prog) wr w.heap.size 379 rs cs hrb (by rw [hcs]; rfl) (by omega) (all_one hcs fun i hi => ⟨_, hcv i hi⟩)
      simp only [oS379, Result.andThen, ↓reduceIte, hst]
      rw [Oper.upon_skip]
      go_wp2_with fail
      refine bodyPost_ret (v := .agg cs) (results_cell_row (P := Tryz.prog) Tryz.results274 _ _ w.heap.size 379 cs (0, 0) _ rfl (setRow_heap _ _ _ _ _ _ hrb) Tryz.underlying379 rfl (by rw [hcs]; rfl)) rfl ?_
      exact ⟨cs, rfl, hcs, hcv, KP.out.setRow (.inr (Nat.le_refl _)) _⟩
end
theorem errv_no {c : Int} (h : c ≠ 0) : errv c = .iface 84 (.int .i64 c) := if_neg h
theorem errv_ok {c : Int} (h : c = 0) : errv c = .nilIface := if_pos h
def Sub (F' F : Nat → Prop) (w : World) : Prop := ∀ g, F' g → F g ∨ w.heap.size ≤ g
theorem Sub.refl (F : Nat → Prop) (w : World) : Sub F F w := fun _ h => .inl h
theorem Sub.trans {F F' F'' : Nat → Prop} {w w' : World} (h : Sub F' F w) (k : Sub F'' F' w') (hw : w.heap.size ≤ w'.heap.size) : Sub F'' F w := fun g e => by
  rcases k g e with e | e
  · exact h g e
  · exact .inr (by omega)
theorem keep_sub {F F' : Nat → Prop} {w w' w'' : World} (h : Keep F w w') (s : Sub F' F w) (k : Keep F' w' w'') : Keep F w w'' :=
  h.trans k (fun _ _ e => e) (fun i hi e => by rcases s i e with e | e; exact e; omega)
def cellE (k : Int) (n : Nat) : Int := if k < 0 ∨ 3 < k then 1 else if 64 < n then 3 else if 0 < n ∧ k ≠ 1 then 2 else 0
theorem ccheck_any (k : Int) (a : Option Addr) (n c : Nat) (w : World) :
    Calls Tryz.prog 55 #[.agg #[.int .i64 k, .slice a n c]] w fun e w' => e = .returned (errv (cellE k n)) ∧ Keep Non w w' := by
  by_cases h1 : k < 0 ∨ 3 < k
  · have e : errv (cellE k n) = .iface 84 (.int .i64 1) := by unfold cellE; rw [if_pos h1]; rfl
    rw [e]
    rcases h1 with h1 | h1
    all_goals
      go_enter Tryz.func55, Tryz.ntmps55
      go_wp2_with fail
      go_ret
      exact ⟨rfl, (Keep.refl _ _).alloc _⟩
  · have h1a : 0 ≤ k := by omega
    have h1b : k ≤ 3 := by omega
    by_cases h2 : 64 < n
    · have e : errv (cellE k n) = .iface 84 (.int .i64 3) := by unfold cellE; rw [if_neg h1, if_pos h2]; rfl
      rw [e]
      clear h1
      go_enter Tryz.func55, Tryz.ntmps55
      go_wp2_with fail
      go_ret
      exact ⟨rfl, (Keep.refl _ _).alloc _⟩
    · have h2a : n ≤ 64 := by omega
      by_cases h3 : 0 < n ∧ k ≠ 1
      · have e : errv (cellE k n) = .iface 84 (.int .i64 2) := by unfold cellE; rw [if_neg h1, if_neg h2, if_pos h3]; rfl
        rw [e]
        obtain ⟨h3a, h3b⟩ := h3
        clear h1 h2
        go_enter Tryz.func55, Tryz.ntmps55
        go_wp2_with fail
        go_ret
        exact ⟨rfl, (Keep.refl _ _).alloc _⟩
      · have e : errv (cellE k n) = .nilIface := by unfold cellE; rw [if_neg h1, if_neg h2, if_neg h3]; rfl
        rw [e]
        clear h1 h2
        by_cases h4 : 0 < n
        · obtain rfl : k = 1 := by rcases Classical.em (k = 1) with h | h; exact h; exact absurd ⟨h4, h⟩ h3
          clear h3
          go_enter Tryz.func55, Tryz.ntmps55
          go_wp2_with fail
          go_ret
          exact ⟨rfl, (Keep.refl _ _).alloc _⟩
        · obtain rfl : n = 0 := by omega
          clear h3
          go_enter Tryz.func55, Tryz.ntmps55
          go_wp2_with fail
          go_ret
          exact ⟨rfl, (Keep.refl _ _).alloc _⟩
def ClB (k : Int) (v : Value) : Obj := .cells #[.int .i64 k, v] 50 (0, 0)
section
variable {w : World} {p : Nat} {k : Int} {v : Value}
theorem cl0 (h : w.heap[p]? = some (ClB k v)) : w.cell? ⟨p, 0, none⟩ = some (.int .i64 k) := by simp [World.cell?, h, ClB]
theorem cl1 (h : w.heap[p]? = some (ClB k v)) : w.cell? ⟨p, 1, none⟩ = some v := by simp [World.cell?, h, ClB]
theorem clf (h : w.heap[p]? = some (ClB k v)) (i : Nat) : w.frozen? ⟨p, i, none⟩ = false := by simp [World.frozen?, h, ClB]
theorem cl_set0 (h : w.heap[p]? = some (ClB k v)) (j : Int) : (w.setCell ⟨p, 0, none⟩ (.int .i64 j)).heap[p]? = some (ClB j v) := blk_set h 0 _
theorem cl_set1 (h : w.heap[p]? = some (ClB k v)) (u : Value) : (w.setCell ⟨p, 1, none⟩ u).heap[p]? = some (ClB k u) := blk_set h 1 _
end
theorem ccopy_any (k : Int) (v : Value) (l : List UInt8) (w : World) (h : Bs w v l) (hl : l.length ≤ 100000000) :
    Calls Tryz.prog 223 #[.agg #[.int .i64 k, v]] w fun e w' => ∃ v', e = .returned (.agg #[.int .i64 k, v']) ∧ Keep Non w w' ∧ w'.ownsRow w.heap.size 5 1 v' l.length (l.map bv) := by
  have H := Lib.hid h
  obtain ⟨a, c, rfl, _⟩ := bs_cell h
  clear h
  have B1 : Hid (((w.alloc (ClB k (.slice a l.length c))).alloc (ClB 0 (.slice none 0 0))).heap[w.heap.size]? = some (ClB k (.slice a l.length c))) := Lib.hid (blk_alloc (blk_new _ _) _)
  have B2 : Hid (((w.alloc (ClB k (.slice a l.length c))).alloc (ClB 0 (.slice none 0 0))).heap[w.heap.size + 1]? = some (ClB 0 (.slice none 0 0))) := Lib.hid (by have := blk_new (w.alloc (ClB k (.slice a l.length c))) (ClB 0 (.slice none 0 0)); rw [World.size_alloc] at this; exact this)
  go_enter Tryz.func223, Tryz.ntmps223
  go_wp2_with fail
  go_region_with (go_at_call 63; refine (clone_new _ l ((w.alloc (ClB k (.slice a l.length c))).alloc (ClB 0 (.slice none 0 0))).drew (by exact Rd.keepNon H.out (((Keep.refl _ _).alloc _).alloc _).drew) (by omega)).mono ?_; rintro e w1 ⟨v1, rfl, k1, o1⟩; obtain ⟨a1, c1, rfl, _, _⟩ := ownsRow_form o1; have K1 := Lib.hid (keep_undrew k1); have O1 := Lib.hid o1; clear k1 o1; have b1 := K1.out.at B1.out (fun e => e); have b2 := K1.out.at B2.out (fun e => e); have BB2 := Lib.hid b2; have c0 := cl0 b1; have d0 := cl0 b2; have d1 := cl1 b2; have f0 := clf b2 0; have f1 := clf b2 1; have k0 := cl0 (cl_set0 b2 k); have k1 := cl1 (cl_set1 (cl_set0 b2 k) (.slice a1 l.length c1)); clear b1 b2)
  all_goals
    go_wp2_with fail
    refine bodyPost_ret (v := .agg #[.int .i64 k, .slice a1 l.length c1]) (by simp [results, Tryz.results223, go_sem, k0, k1]) rfl ?_
    refine ⟨_, rfl, ?_, ownsRow_low (ownsRow_keep (S := One (w.heap.size + 1)) O1.out (((Keep.refl _ _).setOne _ _).setOne _ _) (fun g e => by have := (O1.out.lt g e).1; simp at this; unfold One; omega)) (by simp; omega)⟩
    exact ((((Keep.refl Non w).alloc (ClB k (.slice a l.length c))).alloc (ClB 0 (.slice none 0 0))).trans1 K1.out).trans (T := One (w.heap.size + 1)) (((Keep.refl _ _).setOne _ _).setOne _ _) (fun _ _ h => h) (fun i hi h => by unfold One at h; omega)
end Go.Proofs.YtdmckfkhkjkdnaaGreatDoor
