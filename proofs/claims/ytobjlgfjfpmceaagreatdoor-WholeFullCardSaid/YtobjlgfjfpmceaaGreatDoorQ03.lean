/- A whole array by value, out of and into a block of any world, as the walk leaves it: the cells. · slices.Clone of bytes: a new row. · varint.Put: walk -/
import Derived.Deep.WholeRow
import Derived.Laws.BitsAllLaws
import Derived.Deep.RegionWith
import Derived.Maps.RangeWalk
import Derived.Maps.Ext
import Derived.Test.YtobjlgfjfpmceaaGreatDoorQ02
set_option linter.unusedVariables false
set_option maxRecDepth 100000
set_option maxHeartbeats 16000000
namespace Go.Proofs.YtobjlgfjfpmceaaGreatDoor
open Go.RowKit
variable {P : Program}
theorem row_load (w : World) (g : Nat) (t : TypeId) (cs : Array Value) (fr : Nat × Nat) (n : Nat) (hg : w.heap[g]? = some (.cells cs t fr)) (hn : cs.size = n) :
    (loadCellsFrom ⟨g, 0, none⟩ 0 n #[]).run P w = .ok cs w := by
  subst hn
  have := run_loadCells_list (P := P) w ⟨g, 0, none⟩ cs.toList (fun j v hv => by
    have hadd : (⟨g, 0, none⟩ : Addr).add j = ⟨g, j, none⟩ := by unfold Addr.add; split <;> simp_all
    rw [hadd, cell_of_row _ _ j cs t fr hg]
    simpa using hv)
  simpa [loadCells] using this
theorem row_store (w : World) (g : Nat) (t : TypeId) (old cs : Array Value) (hg : w.heap[g]? = some (.cells old t (0, 0))) (hi : (P.info? t).map (·.size) = some cs.size) (ho : old.size = cs.size) (h1 : cs.all (·.oneCell') = true) :
    (storeCells ⟨g, 0, none⟩ cs.toList 0).run P w = .ok () (w.setRow g cs) := by
  have := run_storeVar_row (P := P) w g t t old cs hg hi ho h1
  cases hq : P.info? t with
  | none => simp [hq] at hi
  | some i =>
    have hs : cs.size = i.size := by simp [hq] at hi; omega
    simpa [storeVar, sizeOf, typeInfo, hq, Value.cells, hs] using this
theorem Keep.setRow {S : Nat → Prop} {a w : World} (h : Keep S a w) {g : Nat} (hg : S g ∨ a.heap.size ≤ g) (cs : Array Value) : Keep S a (w.setRow g cs) :=
  ⟨h.os, h.tape, h.output, by rw [setRow_size]; exact h.size, fun k hk hn => by
    rw [setRow_other _ _ _ _ (fun e => by subst e; rcases hg with hg | hg; exact hn hg; omega)]
    exact h.block k hk hn⟩
theorem all_one {cs : Array Value} {k : IntKind} {n : Nat} (hn : cs.size = n) (h : ∀ i, i < n → ∃ x, cs[i]? = some (.int k x)) : cs.all (·.oneCell') = true := by
  rw [Array.all_eq_true]
  intro i hi
  obtain ⟨x, hx⟩ := h i (by omega)
  rw [Array.getElem?_eq_getElem hi] at hx
  rw [Option.some.inj hx]
  rfl
def holdA (t : TypeId) : Sem Bool := isAgg t
def holdS (t : TypeId) : Sem Nat := sizeOf t
theorem hA433 (w : World) : (isAgg 433).run Tryz.prog w = (holdA 433).run Tryz.prog w := rfl
theorem hS433 (w : World) : (sizeOf 433).run Tryz.prog w = (holdS 433).run Tryz.prog w := rfl
theorem oA433 (w : World) : (holdA 433).run Tryz.prog w = .ok true w := Tryz.isAgg433 w
theorem oS433 (w : World) : (holdS 433).run Tryz.prog w = .ok 64 w := Tryz.sizeOf433 w
theorem hA407 (w : World) : (isAgg 407).run Tryz.prog w = (holdA 407).run Tryz.prog w := rfl
theorem hS407 (w : World) : (sizeOf 407).run Tryz.prog w = (holdS 407).run Tryz.prog w := rfl
theorem oA407 (w : World) : (holdA 407).run Tryz.prog w = .ok true w := Tryz.isAgg407 w
theorem oS407 (w : World) : (holdS 407).run Tryz.prog w = .ok 8 w := Tryz.sizeOf407 w
theorem hA81 (w : World) : (isAgg 81).run Tryz.prog w = (holdA 81).run Tryz.prog w := rfl
theorem hS81 (w : World) : (sizeOf 81).run Tryz.prog w = (holdS 81).run Tryz.prog w := rfl
theorem oA81 (w : World) : (holdA 81).run Tryz.prog w = .ok true w := Tryz.isAgg81 w
theorem oS81 (w : World) : (holdS 81).run Tryz.prog w = .ok 32 w := Tryz.sizeOf81 w
def NewB (w : World) (l : List UInt8) (e : Ending) (w' : World) : Prop := ∃ v', e = .returned v' ∧ Keep Non w w' ∧ w'.ownsRow w.heap.size 5 1 v' l.length (l.map bv)
theorem clone_new_some (a : Addr) (c : Nat) (l : List UInt8) (w : World) (h : Bs w (.slice (some a) l.length c) l) (hlen : l.length ≤ 140737488355328) :
    Calls Tryz.prog 120 #[.slice (some a) l.length c] w (NewB w l) := by
  have hq := fun (w : World) => Lib.run_eql_slice_nil (P := Tryz.prog) w 53 5 (some a) l.length c 0 0 Tryz.underlying53
  obtain ⟨i0, hi, hz0, hz1, hz2⟩ := info_parts infoU8
  have h' : Bs (w.alloc (.cells #[] 5)) (.slice (some a) l.length c) l := by
    obtain ⟨a', cap', e1, hx⟩ := h
    refine ⟨a', cap', e1, fun hne => ?_⟩
    obtain ⟨g, off, e2, hc⟩ := hx hne
    exact ⟨g, off, e2, fun j u hu => (World.cell?_alloc_lt _ _ _ (World.block_lt_of_cell? _ _ (hc j u hu))).trans (hc j u hu)⟩
  have hnews := (Rd.news h' rfl).2
  have HN := Lib.hid hnews
  have HL := Lib.hid hlen
  have hown : Hid ((w.alloc (.cells #[] 5)).ownsRow w.heap.size 5 1 (.slice (some ⟨w.heap.size, 0, none⟩) 0 0) 0 []) := World.ownsRow_made w #[] 0 (Nat.le_refl _) (by decide) rfl
  clear hnews h h' hlen
  go_enter Tryz.func120, Tryz.ntmps120
  go_wp2_with (at_builtin; refine wpList_append_prov rfl _ _ 53 rfl w.heap.size 5 i0 (.int .u8 0) 1 1 Tryz.underlying53 hi hz0 hz1 hz2 rfl (by decide) _ _ _ rfl hown.out a l.length c (l.map bv) rfl (by simp) HN.out (oneCell_bytes l) (by have := HL.out; unfold maxLen; omega) (by have := HL.out; omega) (by simp) ?_; intro v' w' ho hg hp; have HO := Lib.hid ho; have HP := Lib.hid hp; clear ho hp)
  go_ret
  have hk : Keep Non w w' := by
    have := ((Keep.refl Non w).alloc (.cells #[] 5)).trans ((Keep.refl (One w.heap.size) _).grown hg (row := some w.heap.size) (fun k e => .inl (by injection e with e; exact e.symm))) (U := Non) (fun _ _ h => h) (fun i hi h => by unfold One at h; omega)
    exact this
  have ho := HO.out
  rw [List.nil_append, show 0 + l.length = (l.map bv).length by simp] at ho
  exact ⟨v', rfl, hk, by simpa using ho⟩
theorem clone_new (v : Value) (l : List UInt8) (w : World) (h : Bs w v l) (hlen : l.length ≤ 140737488355328) : Calls Tryz.prog 120 #[v] w (NewB w l) := by
  have h0 := h
  obtain ⟨a, cap, rfl, hx⟩ := h
  rw [List.length_map] at h0 ⊢
  cases a with
  | none =>
    have hl : l = [] := by
      cases l with
      | nil => rfl
      | cons c l =>
        obtain ⟨g, off, e, _⟩ := hx (by simp)
        cases e
    subst hl
    refine (clone_nil cap w).mono ?_
    rintro e w' ⟨rfl, rfl⟩
    exact ⟨_, rfl, Keep.refl _ _, rfl, .inl ⟨rfl, rfl⟩⟩
  | some a => exact clone_new_some a cap l w h0 hlen
def nv (n : Nat) : Value := .int .u64 n
theorem vputs_len : ∀ (ns : List Nat), (∀ n ∈ ns, n < 2 ^ 63) → (vputs ns).length ≤ 9 * ns.length
  | [], _ => by simp [vputs]
  | n :: r, h => by
    have h1 := vput_nine (h n (by simp))
    have h2 := vputs_len r (fun m hm => h m (by simp [hm]))
    rw [vputs_cons, List.length_append, List.length_cons]
    omega
theorem puts_any (b : Value) (l : List UInt8) (a : Option Addr) (c : Nat) (ns : List Nat) (w : World) (hb : Bs w b l) (hl : l.length ≤ 100000000000) (hr : Rd w (.slice a ns.length c) (ns.map nv)) (hn : ∀ n ∈ ns, n < 2 ^ 63) (hlen : ns.length ≤ 1000) :
    Calls Tryz.prog 139 #[b, .slice a ns.length c] w (NewB w (l ++ vputs ns)) := by
  have HB := Lib.hid hb
  have HR := Lib.hid hr
  clear hb hr
  go_enter Tryz.func139, Tryz.ntmps139
  go_wp2_with fail
  refine (clone_new b l w HB.out (by omega)).mono ?_
  rintro e w1 ⟨v1, rfl, k1, o1⟩
  go_wp2_with fail
  have O1 := Lib.hid o1
  have K1 := Lib.hid k1
  clear o1 k1
  go_loopw [5, 12] (fun o i wr => ∃ j : Nat, j ≤ ns.length ∧ i = .int .i64 j ∧ Keep Non w wr ∧ wr.ownsRow w.heap.size 5 1 o (l ++ vputs (ns.take j)).length ((l ++ vputs (ns.take j)).map bv)) (fun _ i _ => ns.length - (intOf i).toNat)
  case atStart => exact ⟨0, by omega, rfl, K1.out, by simpa [vputs] using O1.out⟩
  case round =>
    obtain ⟨j, hj, rfl, kp, ho⟩ := hrel
    have KP := Lib.hid kp
    have HO := Lib.hid ho
    clear kp ho
    by_cases h : j < ns.length
    · have hlt : (j : Int) < (ns.length : Int) := by omega
      have hr2 := HR.out.keepNon KP.out
      obtain ⟨g, off, rfl, hc⟩ : ∃ g off, a = some ⟨g, off, none⟩ ∧ ∀ j u, (ns.map nv)[j]? = some u → wr.cell? ⟨g, off + j, none⟩ = some u := by
        obtain ⟨a', c', e, hx⟩ := hr2
        injection e with e1 e2 e3
        obtain ⟨g, off, e4, hc⟩ := hx (by intro e; have e' := List.map_eq_nil_iff.1 e; rw [e'] at h; exact absurd h (by simp))
        exact ⟨g, off, e1.trans e4, hc⟩
      have hcell : wr.cell? ⟨g, off + j, none⟩ = some (.int .u64 ((ns.getD j 0 : Nat) : Int)) := hc j _ (by simp [nv, h])
      have hnj : ns.getD j 0 < 2 ^ 63 := hn _ (by simp [h])
      have HT : Hid (vputs (ns.take (j + 1)) = vputs (ns.take j) ++ vput (ns.getD j 0)) := Lib.hid (by rw [List.take_succ_eq_append_getElem h, vputs_snoc]; simp [h])
      have HL : Hid ((l ++ vputs (ns.take j)).length ≤ 1000000000000) := Lib.hid (by
        have := vputs_len (ns.take j) (fun m hm => hn m (List.mem_of_mem_take hm))
        rw [List.length_append]
        rw [List.length_take] at this
        omega)
      have HN := Lib.hid hnj
      clear hc hr2 hnj
      generalize ns.getD j 0 = m at hcell HT HN
      go_wp2_with fail
      refine (put_own _ _ m w.heap.size _ wr HN.out HO.out KP.out.size HL.out).mono ?_
      rintro e w2 ⟨v2, rfl, o2, k2⟩
      have K2 := Lib.hid (KP.out.trans k2 (fun _ _ h => h) (fun i hi e => by have := (HO.out.lt i e).1; omega) : Keep Non w w2)
      rw [← List.map_append, List.append_assoc, ← HT.out, show (l ++ vputs (ns.take j)).length + (vput m).length = (l ++ vputs (ns.take (j + 1))).length by rw [HT.out]; simp; omega] at o2
      have O2 := Lib.hid o2
      clear o2 k2
      go_wp2_with fail
      exact ⟨⟨j + 1, by omega, by go_num, K2.out, O2.out⟩, by simp [intOf]; omega⟩
    · have e : j = ns.length := by omega
      subst e
      have ho := HO.out
      rw [List.take_length] at ho
      have HO2 := Lib.hid ho
      clear ho
      go_wp2_with fail
      go_ret
      exact ⟨_, rfl, KP.out, HO2.out⟩
theorem ownsRow_low {w : World} {B base : Nat} {e : TypeId} {s : Nat} {v : Value} {n : Nat} {xs : List Value} (h : w.ownsRow B e s v n xs) (hb : base ≤ B) : w.ownsRow base e s v n xs := by
  obtain ⟨h1, h2⟩ := h
  refine ⟨h1, ?_⟩
  rcases h2 with h2 | ⟨g, cap, cur, rfl, hb2, rest⟩
  · exact .inl h2
  · exact .inr ⟨g, cap, cur, rfl, by omega, rest⟩
def vtext (t : List UInt8) : List UInt8 := vput t.length ++ t
theorem putText_any (b : Value) (l : List UInt8) (a : Option Addr) (c : Nat) (t : List UInt8) (w : World) (hb : Bs w b l) (hl : l.length ≤ 100000000000) (ht : Bs w (.slice a t.length c) t) (htl : t.length ≤ 100000000000) :
    Calls Tryz.prog 194 #[b, .slice a t.length c] w (NewB w (l ++ vtext t)) := by
  have HB := Lib.hid hb
  have HT := Lib.hid ht
  obtain ⟨i0, hi0, hz0, hz1, hz2⟩ := info_parts infoU8
  clear hb ht
  go_enter Tryz.func194, Tryz.ntmps194
  go_wp2_with fail
  have hp := puts_any b l (some ⟨w.heap.size, 0, none⟩) 1 [t.length] (w.alloc (.cells #[.int .u64 t.length] 141)) (HB.out.keepNon ((Keep.refl Non w).alloc _)) hl (rd_one _ _ _) (by intro n hn; simp at hn; omega) (by simp)
  refine hp.mono ?_
  rintro e w1 ⟨v1, rfl, k1, o1⟩
  have K1 := Lib.hid (((Keep.refl Non w).alloc _).trans1 k1)
  have O1 := Lib.hid o1
  have hln : Hid ((l ++ vputs [t.length]).length ≤ 100000000009) := Lib.hid (by have := vputs_len [t.length] (by intro n hn; simp at hn; omega); rw [List.length_append]; simp at this; omega)
  have HT1 := Lib.hid (HT.out.keepNon K1.out)
  clear hp k1 o1
  generalize hm : l ++ vputs [t.length] = m at O1 hln
  have HM := Lib.hid hm
  clear hm
  go_wp2_with (refine wpList_append_rd rfl _ _ 53 rfl w.heap.size 5 i0 (.int .u8 0) 1 Tryz.underlying53 hi0 hz0 hz1 hz2 rfl _ _ _ rfl (ownsRow_low O1.out (by simp)) (.slice a t.length c) rfl (t.map bv) HT1.out (oneCell_bytes t) (by have := hln.out; unfold maxLen; simp; omega) (by have := hln.out; simp; omega) (by have := K1.out.size; omega) ?_; intro v' w' ho hg hpp; have HO3 := Lib.hid ho; have HG := Lib.hid hg; clear ho hg hpp)
  go_ret
  have h3 := HO3.out
  rw [← List.map_append, ← HM.out, List.append_assoc, show vputs [t.length] ++ t = vtext t by simp [vputs, vtext]] at h3
  refine ⟨_, rfl, K1.out.grown HG.out (fun q e => .inr (by have := (O1.out.lt q e).1; simp at this; omega)), ?_⟩
  simpa [vputs, vtext, Nat.add_assoc] using h3
def okc : Value → Prop
  | .slice a n c => n ≤ c ∧ ∀ ad, a = some ad → ∃ g off, ad = ⟨g, off, none⟩
  | _ => True
theorem okc_own {w : World} {base : Nat} {e : TypeId} {size : Nat} {v : Value} {n : Nat} {xs : List Value} (h : w.ownsRow base e size v n xs) : okc v := by
  rcases h.2 with ⟨rfl, rfl⟩ | ⟨g, cap, cur, rfl, _, _, h1, _⟩
  · exact ⟨Nat.zero_le _, fun ad e => by cases e⟩
  · exact ⟨h1, fun ad e => by injection e with e; subst e; exact ⟨_, _, rfl⟩⟩
theorem andNot128 (m : Nat) (h : m < 128) : bits .andNot .u8 ((m : Nat) : Int) 128 = ((m : Nat) : Int) := by
  have h1 : ∀ x : Fin 128, bits .andNot .u8 ((x.val : Nat) : Int) 128 = ((x.val : Nat) : Int) := by decide +kernel
  exact h1 ⟨m, h⟩
theorem andNot128' (m : Nat) (h : m < 128) : bits .andNot .u8 (((m : Nat) : Int) + 128) 128 = ((m : Nat) : Int) := by
  have h1 : ∀ x : Fin 128, bits .andNot .u8 (((x.val : Nat) : Int) + 128) 128 = ((x.val : Nat) : Int) := by decide +kernel
  exact h1 ⟨m, h⟩
theorem wrap64 {n : Nat} (h : n < 2 ^ 64) : IntKind.u64.wrap (n : Int) = (n : Int) := by
  have e : (2 ^ IntKind.u64.bits : Int) = 18446744073709551616 := rfl
  unfold IntKind.wrap
  simp only [e]
  rw [if_neg (by simp [IntKind.signed])]
  omega
theorem or_wrap {acc m k n : Nat} (hn : n < 2 ^ 63) (hv : acc + m * 128 ^ k ≤ n) (ha : acc < 128 ^ k) : bits .or .u64 (acc : Int) (IntKind.u64.wrap ((m : Int) * 2 ^ (7 * k))) = ((acc + m * 128 ^ k : Nat) : Int) := by
  have e : (m : Int) * 2 ^ (7 * k) = ((m * 128 ^ k : Nat) : Int) := by
    rw [show (128 : Nat) ^ k = 2 ^ (7 * k) by rw [Nat.pow_mul]]
    simp
  have e2 : m * 128 ^ k = m <<< (7 * k) := by rw [Nat.shiftLeft_eq, Nat.pow_mul]
  generalize hq : m * 128 ^ k = q at hv e e2
  rw [e, wrap64 (by omega), u64_or_nat acc q (by omega) (by omega), e2, or_add (by rw [Nat.pow_mul]; exact ha), ← e2]
  rw [← hq]
theorem take_ok (v : Value) (n : Nat) (r : List UInt8) (w : World) (h : Bs w v (vput n ++ r)) (hc : okc v) (hn : n < 2 ^ 63) :
    Calls Tryz.prog 126 #[v] w fun e w' => e = .returned (.tuple #[.int .u64 n, .int .i64 (vput n).length, .nilIface]) ∧ w' = w := by
  obtain ⟨a, c, rfl, hx⟩ := h
  obtain ⟨g, off, rfl, hcell⟩ := hx (by intro e; have h0 := vput_pos n; rw [List.map_eq_nil_iff, List.append_eq_nil_iff] at e; rw [e.1] at h0; exact absurd h0 (by simp))
  rw [List.length_map]
  replace hc := hc.1
  simp only [List.length_map] at hc
  have h9 := vput_nine hn
  have HL := Lib.hid hcell
  generalize hq : (vput n ++ r).length = q at hc ⊢
  have hq1 : (vput n).length ≤ q := by rw [← hq]; simp
  clear hcell hx
  go_enter Tryz.func126, Tryz.ntmps126
  go_wp2_with fail
  all_goals
    go_loopw [5, 15] (fun o i wr => ∃ (m acc : Nat) (pre : List UInt8), i = .int .i64 pre.length ∧ o = .int .u64 acc ∧ wr = w ∧ pre ++ vput m = vput n ∧ n = acc + m * 128 ^ pre.length ∧ acc < 128 ^ pre.length ∧ (pre.length = 0 ∨ 0 < m)) (fun _ i _ => q - (intOf i).toNat)
    case atStart => exact ⟨n, 0, [], rfl, rfl, rfl, rfl, by simp, by simp, .inl rfl⟩
    case round =>
      obtain ⟨m, acc, pre, rfl, rfl, rfl, he, hv, ha, hz⟩ := hrel
      have hl : pre.length < (vput n).length := by rw [← he]; have := vput_pos m; simp; omega
      have hle : (vput n ++ r) = pre ++ (vput m ++ r) := by rw [← he]; simp
      by_cases hm : m < 128
      · have hcc : wr.cell? ⟨g, off + pre.length, none⟩ = some (.int .u8 (m : Int)) := HL.out _ _ (by rw [hle, vput_small hm]; simp [bv, Nat.mod_eq_of_lt (show m < 256 by omega)])
        have h1 := andNot128 m hm
        have HN : Hid (pre.length + 1 = (vput n).length) := Lib.hid (by rw [← he, vput_small hm]; simp)
        have HV := Lib.hid hv
        have ho := or_wrap hn (by omega : acc + m * 128 ^ pre.length ≤ n) ha
        rw [← hv] at ho
        clear hv
        go_wp2_with fail
        · go_ret3
          refine ⟨?_, rfl⟩
          show Ending.returned (.tuple #[.int .u64 (n : Int), .int .i64 ((pre.length : Int) + 1), .nilIface]) = _
          rw [← HN.out]
          rfl
        · go_ret3
          refine ⟨?_, rfl⟩
          show Ending.returned (.tuple #[.int .u64 (n : Int), .int .i64 ((pre.length : Int) + 1), .nilIface]) = _
          rw [← HN.out]
          rfl
      · have hr128 : 128 ≤ m := by omega
        have hcc : wr.cell? ⟨g, off + pre.length, none⟩ = some (.int .u8 ((m % 128 + 128 : Nat) : Int)) := HL.out _ _ (by rw [hle, vput_great hr128]; simp [bv, Nat.mod_eq_of_lt (show m % 128 + 128 < 256 by omega)])
        have hms : m % 128 < 128 := Nat.mod_lt _ (by decide)
        have h1 := andNot128' (m % 128) hms
        have hp : (m % 128) * 128 ^ pre.length + (m / 128) * 128 ^ (pre.length + 1) = m * 128 ^ pre.length := by
          have hd := Nat.div_add_mod m 128
          rw [Nat.pow_succ]
          generalize 128 ^ pre.length = z
          conv => rhs; rw [← hd]
          rw [Nat.add_mul, Nat.add_comm, Nat.mul_comm z 128, ← Nat.mul_assoc, Nat.mul_comm 128 (m / 128)]
        have ho := or_wrap (m := m % 128) hn (by omega : acc + m % 128 * 128 ^ pre.length ≤ n) ha
        have hl9 : pre.length < 9 := by omega
        have hnx : acc + m % 128 * 128 ^ pre.length < 128 ^ (pre.length + 1) := by
          rw [Nat.pow_succ]
          have := Nat.mul_le_mul_right (128 ^ pre.length) (show m % 128 ≤ 127 by omega)
          omega
        have he2 : pre ++ [UInt8.ofNat (m % 128 + 128)] ++ vput (m / 128) = vput n := by rw [List.append_assoc, List.singleton_append, ← vput_great hr128, he]
        have hv2 : n = acc + m % 128 * 128 ^ pre.length + m / 128 * 128 ^ (pre.length + 1) := by omega
        have hz2 : 0 < m / 128 := by omega
        have H2 := Lib.hid (And.intro hnx (And.intro he2 (And.intro hv2 hz2)))
        clear hnx he2 hv2 hz2 hp hv he hle hz
        generalize hw : acc + m % 128 * 128 ^ pre.length = acc2 at ho H2
        generalize hy : m % 128 = y at hcc h1 ho hms
        go_wp2_with fail
        obtain ⟨k1, k2, k3, k4⟩ := H2.out
        exact ⟨⟨m / 128, acc2, pre ++ [UInt8.ofNat (y + 128)], by simp, by simp, by first | trivial | rfl, by rw [← hy]; exact k2, by simpa using k3, by simpa using k1, .inr k4⟩, by simp [intOf]; omega⟩
def RdrB (v : Value) : Obj := .cells #[v, .nilIface] 205 (0, 0)
def RdAt (F : Nat → Prop) (w : World) (p : Nat) (l : List UInt8) : Prop := ∃ v, w.heap[p]? = some (RdrB v) ∧ Bs w v l ∧ okc v ∧ F p ∧ ∀ g, v.ownBlock = some g → g ≠ p ∧ F g
section
variable {F S : Nat → Prop} {w w' : World} {p : Nat} {l : List UInt8} {v : Value}
theorem rd0 (h : w.heap[p]? = some (RdrB v)) : w.cell? ⟨p, 0, none⟩ = some v := by simp [World.cell?, h, RdrB]
theorem rd1 (h : w.heap[p]? = some (RdrB v)) : w.cell? ⟨p, 1, none⟩ = some .nilIface := by simp [World.cell?, h, RdrB]
theorem rdf (h : w.heap[p]? = some (RdrB v)) (i : Nat) : w.frozen? ⟨p, i, none⟩ = false := by simp [World.frozen?, h, RdrB]
theorem RdAt.keep (h : RdAt F w p l) (k : Keep S w w') (hn : ∀ g, F g → ¬ S g) : RdAt F w' p l := by
  obtain ⟨v, h1, h2, h3, h4, h5⟩ := h
  exact ⟨v, k.at h1 (hn p h4), h2.keep k (fun g e => hn g (h5 g e).2), h3, h4, h5⟩
theorem RdAt.mono {G : Nat → Prop} (h : RdAt F w p l) (hs : ∀ g, F g → G g) : RdAt G w p l := by
  obtain ⟨v, h1, h2, h3, h4, h5⟩ := h
  exact ⟨v, h1, h2, h3, hs p h4, fun g e => ⟨(h5 g e).1, hs g (h5 g e).2⟩⟩
end
theorem rnew_ok (F : Nat → Prop) (v : Value) (l : List UInt8) (w : World) (h : Bs w v l) (hc : okc v) (hF : ∀ g, v.ownBlock = some g → g < w.heap.size ∧ F g) :
    Calls Tryz.prog 68 #[v] w fun e w' => e = .returned (.pointer (some ⟨w.heap.size, 0, none⟩)) ∧ Keep Non w w' ∧ RdAt (fun g => F g ∨ g = w.heap.size) w' w.heap.size l := by
  have H := Lib.hid h
  have HF := Lib.hid hF
  have HC := Lib.hid hc
  obtain ⟨a, c, rfl, _⟩ := h
  rw [List.length_map] at H HF HC ⊢
  clear hF hc
  go_enter Tryz.func68, Tryz.ntmps68
  go_wp2_with fail
  go_ret
  have k : Keep Non w (w.alloc (RdrB (.slice a l.length c))) := (Keep.refl _ _).alloc _
  exact ⟨rfl, k, _, blk_new _ _, H.out.keepNon k, HC.out, .inr rfl, fun g e => ⟨by have := (HF.out g e).1; omega, .inl (HF.out g e).2⟩⟩
theorem going_ok (F : Nat → Prop) (p : Nat) (l : List UInt8) (w : World) (h : RdAt F w p l) :
    Calls Tryz.prog 125 #[.pointer (some ⟨p, 0, none⟩)] w fun e w' => e = .returned (.bool true) ∧ w' = w := by
  obtain ⟨v, h1, _⟩ := h
  have c1 := rd1 h1
  clear h1
  go_enter Tryz.func125, Tryz.ntmps125
  go_wp2_with fail
  go_ret
  exact ⟨rfl, rfl⟩
theorem rerr_ok (F : Nat → Prop) (p : Nat) (l : List UInt8) (w : World) (h : RdAt F w p l) :
    Calls Tryz.prog 127 #[.pointer (some ⟨p, 0, none⟩)] w fun e w' => e = .returned .nilIface ∧ w' = w := by
  obtain ⟨v, h1, _⟩ := h
  have c1 := rd1 h1
  clear h1
  go_enter Tryz.func127, Tryz.ntmps127
  go_wp2_with fail
  go_ret
  exact ⟨rfl, rfl⟩
theorem rest_rd {w : World} {g off : Nat} {n c : Nat} {t r : List UInt8} (h : Bs w (.slice (some ⟨g, off, none⟩) n c) (t ++ r)) : Bs w (.slice (some ⟨g, off + t.length, none⟩) (n - t.length) (c - t.length)) r := by
  obtain ⟨a, cap, e, hx⟩ := h
  injection e with e1 e2 e3
  subst e2
  refine ⟨_, c - t.length, by congr 1; simp, fun hne => ⟨g, off + t.length, rfl, fun j u hu => ?_⟩⟩
  obtain ⟨g', off', e4, hc⟩ := hx (by intro e; apply hne; simp at e; simp [e.2])
  rw [← e1] at e4
  injection e4 with e4
  injection e4 with e4 e5
  subst e4
  subst e5
  rw [Nat.add_assoc]
  exact hc (t.length + j) u (by rw [List.map_append, List.getElem?_append_right (by simp)]; simpa using hu)
theorem rest_nil {w : World} {g off : Nat} {n c : Nat} (c' : Nat) {t r : List UInt8} (h : Bs w (.slice (some ⟨g, off, none⟩) n c) (t ++ r)) (hn : n ≤ c) (hc : c = t.length) : Bs w (.slice (some ⟨g, off, none⟩) (n - t.length) c') r := by
  obtain ⟨a, cap, e, hx⟩ := h
  injection e with e1 e2 e3
  have hr : r = [] := by
    rw [List.length_map, List.length_append] at e2
    cases r with
    | nil => rfl
    | cons x r => simp at e2; omega
  subst hr
  exact ⟨_, c', by congr 1; simp at e2 ⊢; omega, fun hne => (hne rfl).elim⟩
theorem rd_set {F : Nat → Prop} {w : World} {p g off n c n' c' off' : Nat} {r : List UInt8} (h1 : w.heap[p]? = some (RdrB (.slice (some ⟨g, off, none⟩) n c))) (hF : F p ∧ ∀ k, (Value.slice (some ⟨g, off, none⟩) n c).ownBlock = some k → k ≠ p ∧ F k)
    (h2 : Bs w (.slice (some ⟨g, off', none⟩) n' c') r) (h3 : n' ≤ c') : Keep (One p) w (w.setCell ⟨p, 0, none⟩ (.slice (some ⟨g, off', none⟩) n' c')) ∧ RdAt F (w.setCell ⟨p, 0, none⟩ (.slice (some ⟨g, off', none⟩) n' c')) p r := by
  have k := (Keep.refl (One p) w).setOne 0 (.slice (some ⟨g, off', none⟩) n' c')
  exact ⟨k, _, blk_set h1 0 _, h2.keep k (fun q e e2 => (hF.2 q e).1 e2), ⟨h3, fun ad e => by injection e with e; subst e; exact ⟨_, _, rfl⟩⟩, hF.1, fun q e => hF.2 q e⟩
theorem num_ok (F : Nat → Prop) (p n : Nat) (r : List UInt8) (w : World) (h : RdAt F w p (vput n ++ r)) (hn : n < 2 ^ 63) :
    Calls Tryz.prog 71 #[.pointer (some ⟨p, 0, none⟩)] w fun e w' => e = .returned (.int .u64 n) ∧ Keep (One p) w w' ∧ RdAt F w' p r := by
  have H := Lib.hid h
  obtain ⟨v, h1, h2, h3, h4, h5⟩ := h
  have HB := Lib.hid h2
  have c0 := rd0 h1
  have c1 := rd1 h1
  have f0 := rdf h1 0
  have H1 := Lib.hid h1
  have H3 := Lib.hid h3
  have H45 := Lib.hid (And.intro h4 h5)
  obtain ⟨a, c, rfl, hx⟩ := h2
  obtain ⟨g, off, rfl, _⟩ := hx (by intro e; have h0 := vput_pos n; rw [List.map_eq_nil_iff, List.append_eq_nil_iff] at e; rw [e.1] at h0; exact absurd h0 (by simp))
  replace h3 := h3.1
  simp only [List.length_map] at h3
  have hl : (vput n).length ≤ (vput n ++ r).length := by simp
  rw [List.length_map] at HB c0 H1 H3 H45
  generalize (vput n ++ r).length = q at hl h3 HB c0 H1 H3 H45
  clear h1 h4 h5 hx
  go_enter Tryz.func71, Tryz.ntmps71
  go_wp2_with (first
    | (go_at_call 125; refine (going_ok F p _ _ H.out).mono ?_; rintro e w' ⟨rfl, rfl⟩)
    | (go_at_call 126; refine (take_ok _ n r _ HB.out H3.out hn).mono ?_; rintro e w' ⟨rfl, rfl⟩))
  · go_ret
    exact ⟨rfl, rd_set H1.out H45.out (rest_nil _ HB.out H3.out.1 ‹_›) (by omega)⟩
  · go_ret
    exact ⟨rfl, rd_set H1.out H45.out (rest_rd HB.out) (by omega)⟩
theorem within_ok (F : Nat → Prop) (p n most : Nat) (r : List UInt8) (w : World) (h : RdAt F w p (vput n ++ r)) (hm : n ≤ most) (hmost : most < 4611686018427387904) :
    Calls Tryz.prog 69 #[.pointer (some ⟨p, 0, none⟩), .int .u64 most] w fun e w' => e = .returned (.int .i64 n) ∧ Keep (One p) w w' ∧ RdAt F w' p r := by
  have H := Lib.hid h
  clear h
  go_enter Tryz.func69, Tryz.ntmps69
  go_wp2_with (go_at_call 71; refine (num_ok F p n r _ H.out (by omega)).mono ?_; rintro e w1 ⟨rfl, k1, r1⟩; have K1 := Lib.hid k1; have R1 := Lib.hid r1; clear k1 r1)
  go_ret
  exact ⟨rfl, K1.out, R1.out⟩
theorem left_ok (F : Nat → Prop) (p : Nat) (l : List UInt8) (w : World) (h : RdAt F w p l) :
    Calls Tryz.prog 128 #[.pointer (some ⟨p, 0, none⟩)] w fun e w' => e = .returned (.int .i64 l.length) ∧ w' = w := by
  have H := Lib.hid h
  obtain ⟨v, h1, h2, _⟩ := h
  have c0 := rd0 h1
  obtain ⟨a, c, rfl, _⟩ := h2
  rw [List.length_map] at c0
  clear h1
  go_enter Tryz.func128, Tryz.ntmps128
  go_wp2_with (go_at_call 125; refine (going_ok F p _ _ H.out).mono ?_; rintro e w' ⟨rfl, rfl⟩)
  go_ret
  exact ⟨rfl, rfl⟩
theorem end_ok (F : Nat → Prop) (p : Nat) (w : World) (h : RdAt F w p []) :
    Calls Tryz.prog 74 #[.pointer (some ⟨p, 0, none⟩)] w fun e w' => e = .returned .nilIface ∧ w' = w := by
  have H := Lib.hid h
  clear h
  go_enter Tryz.func74, Tryz.ntmps74
  go_wp2_with (first
    | (go_at_call 127; refine (rerr_ok F p _ _ H.out).mono ?_; rintro e w' ⟨rfl, rfl⟩)
    | (go_at_call 128; refine (left_ok F p _ _ H.out).mono ?_; rintro e w' ⟨rfl, rfl⟩))
  go_ret
  exact ⟨rfl, rfl⟩
theorem head_rd {w : World} {g off : Nat} {n c : Nat} {t r : List UInt8} (h : Bs w (.slice (some ⟨g, off, none⟩) n c) (t ++ r)) : Bs w (.slice (some ⟨g, off, none⟩) t.length c) t := by
  obtain ⟨a, cap, e, hx⟩ := h
  injection e with e1 e2 e3
  refine ⟨_, c, by congr 1; simp, fun hne => ⟨g, off, rfl, fun j u hu => ?_⟩⟩
  obtain ⟨g', off', e4, hc⟩ := hx (by intro e; apply hne; simp at e; simp [e.1])
  rw [← e1] at e4
  injection e4 with e4
  injection e4 with e4 e5
  subst e4
  subst e5
  have hj : j < t.length := by
    rcases Nat.lt_or_ge j t.length with h | h
    · exact h
    · rw [List.getElem?_eq_none (by simpa using h)] at hu; cases hu
  exact hc j u (by rw [List.map_append, List.getElem?_append_left (by simpa using hj)]; exact hu)
theorem fixed_ok (F : Nat → Prop) (p : Nat) (t r : List UInt8) (w : World) (h : RdAt F w p (t ++ r)) (htl : t.length ≤ 1000000) :
    Calls Tryz.prog 124 #[.pointer (some ⟨p, 0, none⟩), .int .i64 t.length] w fun e w' => ∃ v', e = .returned v' ∧ Keep (One p) w w' ∧ RdAt F w' p r ∧ w'.ownsRow w.heap.size 5 1 v' t.length (t.map bv) := by
  have H := Lib.hid h
  obtain ⟨v, h1, h2, h3, h4, h5⟩ := h
  have HB := Lib.hid h2
  have c0 := rd0 h1
  have c1 := rd1 h1
  have f0 := rdf h1 0
  have hlt := lt_of_block h1
  have H1 := Lib.hid h1
  have H3 := Lib.hid h3
  have H45 := Lib.hid (And.intro h4 h5)
  obtain ⟨a, c, rfl, hx⟩ := h2
  have h3a := h3.2
  replace h3 := h3.1
  simp only [List.length_map] at h3
  have hl : t.length ≤ (t ++ r).length := by simp
  rw [List.length_map] at HB c0 H1 H3 H45
  generalize (t ++ r).length = q at hl h3 HB c0 H1 H3 H45
  generalize hk : t.length = k at htl hl ⊢
  have HK := Lib.hid hk
  clear h1 h4 h5
  cases a with
  | none =>
    have ht0 : t ++ r = [] := by
      rcases Classical.em (t ++ r = []) with e | e
      · exact e
      · obtain ⟨g, off, e2, _⟩ := hx (by simpa using e)
        cases e2
    obtain ⟨rfl, rfl⟩ := List.append_eq_nil_iff.1 ht0
    obtain rfl : k = 0 := by rw [← hk]; rfl
    have hq0 : q = 0 := by obtain ⟨a, c', e, _⟩ := HB.out; injection e
    subst hq0
    clear hx hk
    go_enter Tryz.func124, Tryz.ntmps124
    go_wp2_with (first
      | (go_at_call 125; refine (going_ok F p _ _ H.out).mono ?_; rintro e w' ⟨rfl, rfl⟩)
      | (go_at_call 120; refine (clone_nil _ _).mono ?_; rintro e w1 ⟨rfl, rfl⟩))
    go_ret
    have k := (Keep.refl (One p) w').setOne 0 (.slice none 0 c)
    exact ⟨_, rfl, k, ⟨_, blk_set H1.out 0 _, ⟨none, c, rfl, fun h => (h rfl).elim⟩, H3.out, H45.out.1, fun g e => H45.out.2 g e⟩, World.ownsRow_nil _ _ _ _⟩
  | some ad =>
  obtain ⟨g, off, rfl⟩ := h3a ad rfl
  clear hx hk
  go_enter Tryz.func124, Tryz.ntmps124
  go_wp2_with (first
    | (go_at_call 125; refine (going_ok F p _ _ H.out).mono ?_; rintro e w' ⟨rfl, rfl⟩)
    | (go_at_call 120; have hb := head_rd HB.out; rw [HK.out] at hb; refine (clone_new _ t _ hb (by have := HK.out; omega)).mono ?_; rintro e w1 ⟨v1, rfl, k1, o1⟩; have hh1 := k1.at H1.out (fun e => e); have d0 := rd0 hh1; have d1 := rd1 hh1; have e0 := rdf hh1 0; have HH1 := Lib.hid hh1; have K1 := Lib.hid k1; have O1 := Lib.hid o1; clear hb hh1 k1 o1))
  all_goals go_ret
  all_goals
    refine ⟨_, rfl, ?_⟩
    have hb1 := HB.out.keepNon K1.out
  · have hs := rd_set HH1.out H45.out (rest_nil (off := off) (n := q) 0 hb1 H3.out.1 (by rw [HK.out]; assumption)) (by have := HK.out; omega)
    rw [HK.out] at hs
    have ho := O1.out
    rw [HK.out] at ho
    exact ⟨(K1.out.ofNon).trans1 hs.1, hs.2, ownsRow_keep ho hs.1 (fun g e => by have := (ho.lt g e).1; unfold One; omega)⟩
  · have hs := rd_set HH1.out H45.out (rest_rd hb1) (by omega)
    rw [HK.out] at hs
    have ho := O1.out
    rw [HK.out] at ho
    exact ⟨(K1.out.ofNon).trans1 hs.1, hs.2, ownsRow_keep ho hs.1 (fun g e => by have := (ho.lt g e).1; unfold One; omega)⟩
end Go.Proofs.YtobjlgfjfpmceaaGreatDoor
namespace Go.Proofs.YtobjlgfjfpmceaaGreatDoor
open Go.RowKit Go.Maps
def DkB (room : Int) (s h : Nat) (pv : Value) (fuse : Int) (down : Bool) : Obj := .cells #[.int .i64 room, .map (some s), .map (some h), pv, .int .i64 fuse, .bool down] 71 (0, 0)
section
variable {w : World} {p s h : Nat} {room fuse : Int} {pv : Value} {down : Bool}
theorem dk_0 (e : w.heap[p]? = some (DkB room s h pv fuse down)) : w.cell? ⟨p, 0, none⟩ = some (.int .i64 room) := by simp [World.cell?, e, DkB]
theorem dk_1 (e : w.heap[p]? = some (DkB room s h pv fuse down)) : w.cell? ⟨p, 1, none⟩ = some (.map (some s)) := by simp [World.cell?, e, DkB]
theorem dk_2 (e : w.heap[p]? = some (DkB room s h pv fuse down)) : w.cell? ⟨p, 2, none⟩ = some (.map (some h)) := by simp [World.cell?, e, DkB]
theorem dk_3 (e : w.heap[p]? = some (DkB room s h pv fuse down)) : w.cell? ⟨p, 3, none⟩ = some pv := by simp [World.cell?, e, DkB]
theorem dk_4 (e : w.heap[p]? = some (DkB room s h pv fuse down)) : w.cell? ⟨p, 4, none⟩ = some (.int .i64 fuse) := by simp [World.cell?, e, DkB]
theorem dk_5 (e : w.heap[p]? = some (DkB room s h pv fuse down)) : w.cell? ⟨p, 5, none⟩ = some (.bool down) := by simp [World.cell?, e, DkB]
theorem dk_f (e : w.heap[p]? = some (DkB room s h pv fuse down)) (i : Nat) : w.frozen? ⟨p, i, none⟩ = false := by simp [World.frozen?, e, DkB]
theorem dk_set1 (e : w.heap[p]? = some (DkB room s h pv fuse down)) (k : Nat) : (w.setCell ⟨p, 1, none⟩ (.map (some k))).heap[p]? = some (DkB room k h pv fuse down) := blk_set e 1 _
theorem dk_set3 (e : w.heap[p]? = some (DkB room s h pv fuse down)) (v : Value) : (w.setCell ⟨p, 3, none⟩ v).heap[p]? = some (DkB room s h v fuse down) := blk_set e 3 _
theorem dk_set4 (e : w.heap[p]? = some (DkB room s h pv fuse down)) (k : Int) : (w.setCell ⟨p, 4, none⟩ (.int .i64 k)).heap[p]? = some (DkB room s h pv k down) := blk_set e 4 _
theorem dk_set5 (e : w.heap[p]? = some (DkB room s h pv fuse down)) (k : Bool) : (w.setCell ⟨p, 5, none⟩ (.bool k)).heap[p]? = some (DkB room s h pv fuse k) := blk_set e 5 _
end
def sv (n : Byt) : Value := .string ⟨n.toArray⟩
def ChgV (w : World) (T : Nat → Prop) : Chg → List Value → Prop
  | .write n b, l => ∃ v, l = [.int .i64 0, sv n, sv [], v] ∧ BsIn w T v b
  | .rename n m, l => l = [.int .i64 1, sv n, sv m, .slice none 0 0]
  | .remove n, l => l = [.int .i64 2, sv n, sv [], .slice none 0 0]
def PendAt (w : World) (T : Nat → Prop) (pv : Value) (cs : List Chg) : Prop :=
  ∃ xs : List (List Value), w.ownsRow 0 160 4 pv cs.length xs.flatten ∧ xs.length = cs.length ∧ ∀ (i : Nat) c l, cs[i]? = some c → xs[i]? = some l → ChgV w T c l
abbrev FlAt (w : World) (T : Nat → Prop) (b : Nat) (D : Fl) : Prop := MapAt w 9 (BsIn w T) b D
structure DiskIn (F T : Nat → Prop) (w : World) (p s h : Nat) (pv : Value) (X : Dk) : Prop where
  blk : w.heap[p]? = some (DkB X.room s h pv X.fuse X.down)
  sure : FlAt w T s X.sure
  shown : FlAt w T h X.shown
  pend : PendAt w T pv X.pend
  inF : F p ∧ F s ∧ F h ∧ (∀ g, pv.ownBlock = some g → F g) ∧ ∀ g, T g → F g
  apart : s ≠ h ∧ p ≠ s ∧ p ≠ h ∧ ∀ g, pv.ownBlock = some g → g ≠ p ∧ g ≠ s ∧ g ≠ h
  outT : ¬ T p ∧ ¬ T s ∧ ¬ T h ∧ (∀ g, pv.ownBlock = some g → ¬ T g) ∧ ∀ g, T g → g < w.heap.size
  room : X.room ≤ 1073741824
def DiskAt (F : Nat → Prop) (w : World) (p : Nat) (X : Dk) : Prop := ∃ T s h pv, DiskIn F T w p s h pv X
theorem ChgV.keep {w w' : World} {S T U : Nat → Prop} {c : Chg} {l : List Value} (h : ChgV w T c l) (k : Keep S w w') (hn : ∀ g, T g → ¬ S g) (hu : ∀ g, T g → U g) : ChgV w' U c l := by
  cases c with
  | write n b =>
    obtain ⟨v, e, hb⟩ := h
    exact ⟨v, e, hb.keep k hn hu⟩
  | rename n m => exact h
  | remove n => exact h
theorem PendAt.keep {w w' : World} {S T U : Nat → Prop} {pv : Value} {cs : List Chg} (h : PendAt w T pv cs) (k : Keep S w w') (hn : ∀ g, T g → ¬ S g) (hp : ∀ g, pv.ownBlock = some g → ¬ S g) (hu : ∀ g, T g → U g) : PendAt w' U pv cs := by
  obtain ⟨xs, h1, h2, h3⟩ := h
  exact ⟨xs, ownsRow_keep h1 k hp, h2, fun i c l hc hl => (h3 i c l hc hl).keep k hn hu⟩
theorem FlAt.keep {w w' : World} {S T U : Nat → Prop} {b : Nat} {D : Fl} (h : FlAt w T b D) (k : Keep S w w') (hb : ¬ S b) (hn : ∀ g, T g → ¬ S g) (hu : ∀ g, T g → U g) : FlAt w' U b D :=
  MapAt.keep h k hb (BsIn.fun1 _ _) (fun v x hx => hx.keep k hn hu)
theorem DiskIn.keep {F T S : Nat → Prop} {w w' : World} {p s h : Nat} {pv : Value} {X : Dk} (d : DiskIn F T w p s h pv X) (k : Keep S w w') (hn : ∀ g, F g → ¬ S g) : DiskIn F T w' p s h pv X := by
  obtain ⟨i1, i2, i3, i4, i5⟩ := d.inF
  exact ⟨k.at d.blk (hn _ i1), d.sure.keep k (hn _ i2) (fun g e => hn _ (i5 g e)) (fun _ e => e), d.shown.keep k (hn _ i3) (fun g e => hn _ (i5 g e)) (fun _ e => e), d.pend.keep k (fun g e => hn _ (i5 g e)) (fun g e => hn _ (i4 g e)) (fun _ e => e), d.inF, d.apart,
    ⟨d.outT.1, d.outT.2.1, d.outT.2.2.1, d.outT.2.2.2.1, fun g e => k.lt (d.outT.2.2.2.2 g e)⟩, d.room⟩
theorem DiskAt.keep {F S : Nat → Prop} {w w' : World} {p : Nat} {X : Dk} (d : DiskAt F w p X) (k : Keep S w w') (hn : ∀ g, F g → ¬ S g) : DiskAt F w' p X := by
  obtain ⟨T, s, h, pv, d⟩ := d
  exact ⟨T, s, h, pv, d.keep k hn⟩
theorem dlooks_any (F : Nat → Prop) (p : Nat) (X : Dk) (w : World) (d : DiskAt F w p X) :
    Calls Tryz.prog 112 #[.pointer (some ⟨p, 0, none⟩)] w fun e w' => e = .returned (errv X.looks) ∧ w' = w := by
  obtain ⟨T, s, h, pv, d⟩ := d
  have c5 := dk_5 d.blk
  clear d
  obtain ⟨room, sure, shown, pend, fuse, down⟩ := X
  simp only at c5
  cases down
  all_goals
    go_enter Tryz.func112, Tryz.ntmps112
    go_wp2_with fail
    go_ret
    exact ⟨rfl, rfl⟩
theorem One.notT {T : Nat → Prop} {p : Nat} (h : ¬ T p) : ∀ g, T g → ¬ One p g := fun g e e2 => h (by rw [← e2]; exact e)
theorem DiskIn.turn {F T : Nat → Prop} {w : World} {p s h i : Nat} {pv u : Value} {X Y : Dk} (d : DiskIn F T w p s h pv X) (hb : (w.setCell ⟨p, i, none⟩ u).heap[p]? = some (DkB Y.room s h pv Y.fuse Y.down))
    (h1 : Y.sure = X.sure) (h2 : Y.shown = X.shown) (h3 : Y.pend = X.pend) (h4 : Y.room = X.room) : Keep (One p) w (w.setCell ⟨p, i, none⟩ u) ∧ DiskIn F T (w.setCell ⟨p, i, none⟩ u) p s h pv Y := by
  have k : Keep (One p) w (w.setCell ⟨p, i, none⟩ u) := (Keep.refl _ _).setOne i u
  have hT := One.notT d.outT.1
  refine ⟨k, hb, ?_, ?_, ?_, d.inF, d.apart, ⟨d.outT.1, d.outT.2.1, d.outT.2.2.1, d.outT.2.2.2.1, fun g e => k.lt (d.outT.2.2.2.2 g e)⟩, by rw [h4]; exact d.room⟩
  · rw [h1]; exact d.sure.keep k (fun e => d.apart.2.1 e.symm) hT (fun _ e => e)
  · rw [h2]; exact d.shown.keep k (fun e => d.apart.2.2.1 e.symm) hT (fun _ e => e)
  · rw [h3]; exact d.pend.keep k hT (fun g e e2 => (d.apart.2.2.2 g e).1 e2) (fun _ e => e)
theorem dworks_any (F T : Nat → Prop) (p s h : Nat) (pv : Value) (X : Dk) (w : World) (d : DiskIn F T w p s h pv X) (hf : X.fuse ≤ 1000000000) :
    Calls Tryz.prog 116 #[.pointer (some ⟨p, 0, none⟩)] w fun e w' => e = .returned (errv X.works.1) ∧ Keep (One p) w w' ∧ DiskIn F T w' p s h pv X.works.2 := by
  have D := Lib.hid d
  have LK := Lib.hid (dlooks_any F p X w ⟨T, s, h, pv, d⟩)
  have c4 := dk_4 d.blk
  have c5 := dk_5 d.blk
  have f4 := dk_f d.blk 4
  have f5 := dk_f d.blk 5
  have B := Lib.hid d.blk
  clear d
  obtain ⟨room, sure, shown, pend, fuse, down⟩ := X
  simp only at c4 c5 hf
  cases down with
  | true =>
    have e1 : (Dk.mk room sure shown pend fuse true).works = (14, Dk.mk room sure shown pend fuse true) := rfl
    rw [e1]
    have LK2 : Hid (Calls Tryz.prog 112 #[.pointer (some ⟨p, 0, none⟩)] w fun e w' => e = .returned (.iface 45 (.int .i64 14)) ∧ w' = w) := LK
    go_enter Tryz.func116, Tryz.ntmps116
    go_wp2_with (go_at_call 112; refine LK2.out.mono ?_; rintro e w1 ⟨rfl, rfl⟩)
    go_ret
    exact ⟨rfl, Keep.refl _ _, D.out⟩
  | false =>
    have LK2 : Hid (Calls Tryz.prog 112 #[.pointer (some ⟨p, 0, none⟩)] w fun e w' => e = .returned .nilIface ∧ w' = w) := LK
    by_cases h0 : fuse = 0
    · subst h0
      have e1 : (Dk.mk room sure shown pend 0 false).works = (14, Dk.mk room sure shown pend 0 true) := rfl
      rw [e1]
      have HT := Lib.hid (D.out.turn (i := 5) (u := .bool true) (Y := Dk.mk room sure shown pend 0 true) (dk_set5 B.out true) rfl rfl rfl rfl)
      go_enter Tryz.func116, Tryz.ntmps116
      go_wp2_with (go_at_call 112; refine LK2.out.mono ?_; rintro e w1 ⟨rfl, e1⟩; subst e1)
      go_ret
      exact ⟨rfl, HT.out⟩
    · have hb0 : (fuse == 0) = false := by simpa using h0
      by_cases h1 : 0 < fuse
      · have e1 : (Dk.mk room sure shown pend fuse false).works = (0, Dk.mk room sure shown pend (fuse - 1) false) := by unfold Dk.works; simp [h0, h1]
        rw [e1]
        have HT := Lib.hid (D.out.turn (i := 4) (u := .int .i64 (fuse - 1)) (Y := Dk.mk room sure shown pend (fuse - 1) false) (dk_set4 B.out (fuse - 1)) rfl rfl rfl rfl)
        go_enter Tryz.func116, Tryz.ntmps116
        go_wp2_with (go_at_call 112; refine LK2.out.mono ?_; rintro e w1 ⟨rfl, e1⟩; subst e1)
        go_ret
        exact ⟨rfl, HT.out⟩
      · have e1 : (Dk.mk room sure shown pend fuse false).works = (0, Dk.mk room sure shown pend fuse false) := by unfold Dk.works; simp [h0, h1]
        rw [e1]
        have h2 : fuse ≤ 0 := by omega
        go_enter Tryz.func116, Tryz.ntmps116
        go_wp2_with (go_at_call 112; refine LK2.out.mono ?_; rintro e w1 ⟨rfl, e1⟩; subst e1)
        go_ret
        exact ⟨rfl, Keep.refl _ _, D.out⟩
def leftSum (left : Lit → Bool) (es : List (Lit × DataW Byt)) : Nat := (es.map (fun p => if left p.1 then (heldB p.2).length else 0)).sum
theorem leftSum_cut (left : Lit → Bool) (kl : Lit) (d : DataW Byt) : ∀ es : List (Lit × DataW Byt), es.Pairwise (fun p q => p.1 ≠ q.1) → (∀ zd, (DataW.map es).atKey kl zd = d) → left kl = true →
    leftSum left es = (heldB d).length + leftSum (fun z => left z && !z.sameKey kl) es
  | [], _, h, _ => by
    have h1 := h .nil
    have h2 := h (.held [])
    have e : (DataW.nil : DataW Byt) = .held [] := h1.trans h2.symm
    cases e
  | y :: r, hp, h, hl => by
    obtain ⟨hp1, hp2⟩ := List.pairwise_cons.1 hp
    unfold leftSum
    rw [List.map_cons, List.map_cons, List.sum_cons, List.sum_cons]
    cases hy : y.1.sameKey kl with
    | true =>
      have e : y.1 = kl := WideAt.sameKey_eq hy
      have hd : y.2 = d := by
        have := h .nil
        simpa [DataW.atKey, hy] using this
      have hr : (r.map (fun p => if (left p.1 && !p.1.sameKey kl) then (heldB p.2).length else 0)) = r.map (fun p => if left p.1 then (heldB p.2).length else 0) := by
        apply List.map_congr_left
        intro p hpm
        have hne : p.1.sameKey kl = false := by
          cases hs : p.1.sameKey kl
          · rfl
          · exact absurd (e.trans (WideAt.sameKey_eq hs).symm) (hp1 p hpm)
        simp [hne]
      rw [hr, hd, e, hl]
      simp
      cases hk : kl.sameKey kl
      · rw [e, hk] at hy; cases hy
      · simp
    | false =>
      have ih := leftSum_cut left kl d r hp2 (fun zd => by have := h zd; simpa [DataW.atKey, hy] using this) hl
      unfold leftSum at ih
      rw [ih]
      simp only [hy, Bool.not_false, Bool.and_true]
      omega
theorem leftSum_none (left : Lit → Bool) (h : ∀ k, left k = false) (es : List (Lit × DataW Byt)) : leftSum left es = 0 := by
  induction es with
  | nil => rfl
  | cons y r ih => simp [leftSum, h] at ih ⊢; exact ih
theorem leftSum_all (es : List (Lit × DataW Byt)) (hk : ∀ p ∈ es, WideAt.IsKeyLit p.1) : leftSum (has (.map es)) es = fused (.map es) := by
  unfold leftSum fused
  congr 1
  apply List.map_congr_left
  intro p hp
  have : has (.map es) p.1 = true := List.any_eq_true.2 ⟨p, hp, WideAt.sameKey_self (hk p hp)⟩
  rw [if_pos this]
theorem key_str {key : Value} {kl : Lit} (h : keyOf Tryz.prog 9 key = some kl) : ∃ x : ByteArray, key = .string x := by
  have hk := Tryz.underlying9
  cases key <;> simp [keyOf, hk, mapKey] at h
  exact ⟨_, rfl⟩
theorem el_slice {w : World} {T : Nat → Prop} {v : Value} {y : DataW Byt × List MemPlace} (h : readAs (BsIn w T) v = some y) : ∃ c : Option Addr × Nat × Nat, v = .slice c.1 c.2.1 c.2.2 := by
  obtain ⟨y1, y2⟩ := y
  obtain ⟨_, l, _, hb, _⟩ := readAs_inv h
  obtain ⟨a, c, rfl, _⟩ := hb
  exact ⟨(a, _, c), rfl⟩
theorem used_any (T : Nat → Prop) (h : Nat) (D : Fl) (w : World) (hm : FlAt w T h D) (hb : fused D ≤ 1000000000) :
    Calls Tryz.prog 195 #[.map (some h)] w fun e w' => e = .returned (.int .i64 (fused D)) ∧ Keep Non w w' := by
  have law := string_keyed Tryz.underlying9
  have M := Lib.hid hm
  obtain ⟨es, rfl, hpw, hkeys⟩ := World.ownsMap.canon hm law
  clear hm
  go_enter Tryz.func195, Tryz.ntmps195
  go_wp2_with (at_range; refine wpList_range_own _ rfl _ 68 rfl 9 53 law Tryz.underlying68 _ h _ _ rfl M.out ?_; intro w0 hrg0 hg0 hs0)
  go_frame
  have LS := Lib.hid (leftSum_all es hkeys)
  have PW := Lib.hid (apart_of_rising hpw)
  have HR := Lib.hid hrg0
  have K0 := Lib.hid ((Keep.refl Non w).grown hg0 (row := none) (fun k e => by cases e))
  clear hrg0 hg0 hkeys hpw
  go_loopw [3] (fun o wr => ∃ left cnt acc, wr.ranges Tryz.prog 9 (readAs (BsIn w T)) h w.heap.size (size (.map es)) (.map es) left cnt ∧ o = .int .i64 ((acc : Nat) : Int) ∧ acc + leftSum left es = fused (.map es) ∧ Keep Non w wr) (fun _ wr => wr.rangeLeft h w.heap.size)
  case atStart => exact ⟨_, _, 0, HR.out, rfl, by rw [LS.out, Nat.zero_add], K0.out⟩
  case round =>
    obtain ⟨left, cnt, acc, hrg, rfl, hacc, hk⟩ := hrel
    have RG := Lib.hid hrg
    have K := Lib.hid hk
    have ACC := Lib.hid hacc
    have hb2 : acc ≤ 1000000000 := by omega
    clear hrg hk
    go_wp2_with (at_next; refine wpList_next_ranges (α := ByteArray) (β := Option Addr × Nat × Nat) _ rfl _ rfl 9 law (readAs (BsIn w T)) (fun x => .string x) (fun c => .slice c.1 c.2.1 c.2.2) (fun _ _ h => key_str h) (fun _ _ h => el_slice h) h w.heap.size _ _ _ _ rfl RG.out ?_ ?_)
    · intro hc0 hl0
      have e0 : acc = fused (.map es) := by have := ACC.out; rw [leftSum_none _ hl0] at this; omega
      subst e0
      go_wp2_with fail
      go_ret
      exact ⟨rfl, K.out⟩
    · intro x c1 c2 c3 kl y1 y2 w1 cnt1 hkx hlx hR hat hrg1 hlt hg1 hs1 hen
      obtain ⟨_, l, rfl, hbs, _⟩ := readAs_inv hR
      have hl2 : c2 = l.length := by obtain ⟨a, c, e, _⟩ := hbs; injection e with _ e _; rw [e, List.length_map]
      subst hl2
      have A1 : Hid (acc + l.length + leftSum (fun z => left z && !z.sameKey kl) es = fused (.map es)) := Lib.hid (by rw [← ACC.out, leftSum_cut left kl _ es PW.out hat hlx]; simp [heldB]; omega)
      have hb3 : acc + l.length ≤ 1000000000 := by have := A1.out; omega
      have K1 := Lib.hid (K.out.grown hg1 (fun k e => by injection e with e; subst e; exact .inr (Nat.le_refl _)))
      have RG1 := Lib.hid hrg1
      have HLT : Hid (w1.rangeLeft h w.heap.size < wr.rangeLeft h w.heap.size) := Lib.hid (by rw [hrg1.left_eq, RG.out.left_eq]; exact hlt)
      clear hacc
      clear hkx hlx hR hat hrg1 hlt hg1 hs1 hbs ACC RG K
      go_wp2_with fail
      exact ⟨⟨_, _, acc + l.length, RG1.out, by go_num, A1.out, K1.out⟩, HLT.out⟩
end Go.Proofs.YtobjlgfjfpmceaaGreatDoor
