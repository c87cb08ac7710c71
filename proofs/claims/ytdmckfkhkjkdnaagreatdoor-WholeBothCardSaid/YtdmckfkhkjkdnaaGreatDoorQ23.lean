/- slog.all: walked, at closures of three captured places. · slices.Concat of ints: walked (turned from the text for bytes). · slices.Clone of ints: a ne -/
import Derived.Test.YtdmckfkhkjkdnaaGreatDoorQ19
import Derived.Test.YtdmckfkhkjkdnaaGreatDoorQ22
set_option linter.unusedVariables false
set_option maxRecDepth 100000
set_option maxHeartbeats 16000000
namespace Go.Proofs.YtdmckfkhkjkdnaaGreatDoor
open Go.RowKit
def iv (n : Nat) : Value := .int .i64 n
abbrev Is (w : World) (v : Value) (l : List Nat) : Prop := Rd w v (l.map iv)
def NewI (w : World) (l : List Nat) : Ending → World → Prop := fun e w' => ∃ v', e = .returned v' ∧ Keep Non w w' ∧ w'.ownsRow w.heap.size 3 1 v' l.length (l.map iv)
theorem infoInt : (Tryz.prog.info? 3).map (fun i => (i.zero, i.size, i.bytes)) = some (some (.int .i64 0), 1, 8) := by kernel_rfl
theorem oneCell_ints (l : List Nat) : ∀ u ∈ l.map iv, u.oneCell' = true := by
  intro u hu
  obtain ⟨x, _, rfl⟩ := List.mem_map.1 hu
  rfl
theorem growi_nil (n : Nat) (w : World) (hn : n ≤ 100000000) :
    Calls Tryz.prog 151 #[.slice none 0 0, .int .i64 n] w fun e w' => ∃ v, e = .returned v ∧ Keep Non w w' ∧ w'.ownsRow w.heap.size 3 1 v 0 [] := by
  have hb1 : Tryz.t3.bytes = 8 := rfl
  by_cases hn0 : n = 0
  · subst hn0
    go_enter Tryz.func151, Tryz.ntmps151
    go_wp2_with fail
    go_ret
    exact ⟨_, rfl, Keep.refl _ _, World.ownsRow_nil _ _ _ _⟩
  · have hns : Builtin.nextslicecap n 0 = n := by unfold Builtin.nextslicecap; rw [if_pos (by omega)]
    have hn1 : 0 < n := by omega
    have hcap : (Question.appendCap n 0 3).cut (w.tape w.drawn (Question.appendCap n 0 3)) = n + w.tape w.drawn (Question.appendCap n 0 3) % (2 ^ 63 - n) := rfl
    have hmod : w.tape w.drawn (Question.appendCap n 0 3) % (2 ^ 63 - n) < 2 ^ 63 - n := Nat.mod_lt _ (by omega)
    have HC := Lib.hid (And.intro hcap hmod)
    clear hcap hmod
    go_enter Tryz.func151, Tryz.ntmps151
    go_wp2_with fail
    · go_ret
      obtain ⟨q1, q2⟩ := HC.out
      have z0 : ∀ k, (Builtin.zeroCells #[Value.int .i64 0] k).size = k := fun k => by simp [Builtin.zeroCells]
      refine ⟨_, rfl, ((Keep.refl _ _).alloc _).drew, rfl, .inr ⟨w.heap.size, _, _, rfl, Nat.le_refl _, blk_new _ _, Nat.zero_le _, ?_, ?_, rfl⟩⟩
      · unfold maxLen; omega
      · rw [Array.size_append, z0, z0]; omega
def Iss (w : World) (vs : List Value) (ls : List (List Nat)) : Prop := vs.length = ls.length ∧ ∀ (i : Nat) u l, vs[i]? = some u → ls[i]? = some l → Is w u l
theorem concati_any (g : Nat) (vs : List Value) (ls : List (List Nat)) (c : Nat) (w : World) (h : Rd w (.slice (some ⟨g, 0, none⟩) vs.length c) vs) (hb : Iss w vs ls) (hl : ls.flatten.length ≤ 100000000) (hvl : vs.length ≤ 1000) :
    Calls Tryz.prog 88 #[.slice (some ⟨g, 0, none⟩) vs.length c] w (NewI w ls.flatten) := by
  have H := Lib.hid h
  have HB := Lib.hid hb
  clear h hb
  obtain ⟨i0, hi0, hz0, hz1, hz2⟩ := info_parts infoInt
  go_enter Tryz.func88, Tryz.ntmps88
  go_wp2_with fail
  go_loopw [3, 11] (fun o i wr => ∃ j : Nat, j ≤ vs.length ∧ i = .int .i64 j ∧ o = .int .i64 (ls.take j).flatten.length ∧ wr = w) (fun _ i _ => vs.length - (intOf i).toNat)
  case atStart => exact ⟨0, by omega, rfl, rfl, rfl⟩
  case round =>
    obtain ⟨j, hj, rfl, rfl, rfl⟩ := hrel
    by_cases hlt : j < vs.length
    · have hjl : j < ls.length := by rw [← HB.out.1]; exact hlt
      have hu := (HB.out.2 j vs[j] ls[j] (by simp [hlt]) (by simp [hjl]))
      obtain ⟨g', off, e, hc⟩ : ∃ g' off, some (⟨g, 0, none⟩ : Addr) = some ⟨g', off, none⟩ ∧ ∀ j u, vs[j]? = some u → wr.cell? ⟨g', off + j, none⟩ = some u := by
        obtain ⟨a', c', e, hx⟩ := H.out
        injection e with e1 e2 e3
        obtain ⟨g, off, e4, hc⟩ := hx (by intro e; rw [e] at hlt; exact absurd hlt (by simp))
        exact ⟨g, off, e1.trans e4, hc⟩
      injection e with e
      injection e with e1 e2
      subst e1
      subst e2
      have hcell := hc j _ (List.getElem?_eq_getElem hlt)
      rw [Nat.zero_add] at hcell
      obtain ⟨a1, c1, e, _⟩ := hu
      rw [e, List.length_map] at hcell
      have HS : Hid ((ls.take (j + 1)).flatten.length = (ls.take j).flatten.length + ls[j].length) := Lib.hid (by rw [List.take_succ_eq_append_getElem hjl, List.flatten_append, List.length_append, List.flatten_cons, List.flatten_nil, List.append_nil])
      have hle : (ls.take j).flatten.length + ls[j].length ≤ 100000000 := by
        rw [← HS.out]
        refine Nat.le_trans ?_ hl
        conv => rhs; rw [← List.take_append_drop (j + 1) ls, List.flatten_append, List.length_append]
        omega
      clear hc e
      generalize (ls.take j).flatten.length = s0 at HS hle
      generalize ls[j].length = s1 at HS hle hcell
      go_wp2_with fail
      exact ⟨⟨j + 1, by omega, by go_num, by rw [HS.out]; go_num, trivial⟩, by simp [intOf]; omega⟩
    · obtain rfl : j = vs.length := by omega
      rw [HB.out.1, List.take_length]
      generalize hL : ls.flatten.length = L at hl
      go_wp2_with (go_at_call 151; refine (growi_nil L _ hl).mono ?_; rintro e w1 ⟨v1, rfl, k1, o1⟩; have K1 := Lib.hid k1; have O1 := Lib.hid o1; clear k1 o1)
      have HL := Lib.hid hL
      clear hL
      obtain ⟨w0, hw0⟩ : ∃ w0, w0 = wr := ⟨_, rfl⟩
      subst hw0
      go_loopw [6, 27] (fun o i wr2 =>  ∃ j : Nat, j ≤ ls.length ∧ i = .int .i64 j ∧ Keep Non w0 wr2 ∧ wr2.ownsRow w0.heap.size 3 1 o (ls.take j).flatten.length ((ls.take j).flatten.map iv)) (fun _ i _ => ls.length - (intOf i).toNat)
      case atStart => exact ⟨0, by omega, rfl, K1.out, O1.out⟩
      case round =>
        obtain ⟨j, hj, rfl, k2, o2⟩ := hrel
        have K2 := Lib.hid k2
        have O2 := Lib.hid o2
        clear k2 o2
        by_cases hlt : j < ls.length
        · have hlv : j < vs.length := by rw [HB.out.1]; exact hlt
          have hu := (HB.out.2 j vs[j] ls[j] (by simp [hlv]) (by simp [hlt])).keepNon K2.out
          obtain ⟨g', off, e, hc⟩ : ∃ g' off, some (⟨g, 0, none⟩ : Addr) = some ⟨g', off, none⟩ ∧ ∀ j u, vs[j]? = some u → wr.cell? ⟨g', off + j, none⟩ = some u := by
            obtain ⟨a', c', e, hx⟩ := H.out.keepNon K2.out
            injection e with e1 e2 e3
            obtain ⟨g, off, e4, hc⟩ := hx (by intro e; rw [e] at hlv; exact absurd hlv (by simp))
            exact ⟨g, off, e1.trans e4, hc⟩
          injection e with e
          injection e with e1 e2
          subst e1
          subst e2
          have hcell := hc j _ (List.getElem?_eq_getElem hlv)
          rw [Nat.zero_add] at hcell
          have HU := Lib.hid hu
          obtain ⟨a1, c1, e, _⟩ := hu
          rw [e, List.length_map] at hcell HU
          have HS : Hid ((ls.take (j + 1)).flatten = (ls.take j).flatten ++ ls[j]) := Lib.hid (by rw [List.take_succ_eq_append_getElem hlt, List.flatten_append, List.flatten_cons, List.flatten_nil, List.append_nil])
          have hle : (ls.take j).flatten.length + ls[j].length ≤ 100000000 := by
            rw [← List.length_append, ← HS.out]
            refine Nat.le_trans ?_ hl
            rw [← HL.out]
            conv => rhs; rw [← List.take_append_drop (j + 1) ls, List.flatten_append, List.length_append]
            omega
          clear hc e
          generalize (ls.take j).flatten = s0 at HS hle O2
          generalize ls[j] = s1 at HS hle hcell HU
          obtain ⟨va, vc, rfl, _, _⟩ := ownsRow_form O2.out
          go_wp2_with (refine wpList_append_rd rfl _ _ 55 rfl w0.heap.size 3 i0 (.int .i64 0) 8 Tryz.underlying55 hi0 hz0 hz1 hz2 rfl _ _ _ rfl O2.out _ rfl (s1.map iv) HU.out (oneCell_ints s1) (by unfold maxLen; simp; omega) (by simp; omega) K2.out.size ?_; intro v' w' ho hg hpp; have HO3 := Lib.hid ho; have HG := Lib.hid hg; clear ho hg hpp)
          have h3 := HO3.out
          rw [← List.map_append, ← HS.out] at h3
          refine ⟨⟨j + 1, by omega, by go_num, K2.out.grown HG.out (fun q e => .inr ((O2.out.lt q e).1)), ?_⟩, by simp [intOf]; omega⟩
          rw [show (ls.take (j + 1)).flatten.length = s0.length + (s1.map iv).length by rw [HS.out]; simp]
          exact h3
        · obtain rfl : j = ls.length := by omega
          have o2 := O2.out
          rw [List.take_length] at o2
          have O3 := Lib.hid o2
          clear o2
          go_wp2_with fail
          go_ret
          exact ⟨_, rfl, K2.out, O3.out⟩
theorem clonei_new_some (a : Addr) (c : Nat) (l : List Nat) (w : World) (h : Is w (.slice (some a) l.length c) l) (hlen : l.length ≤ 1000000) :
    Calls Tryz.prog 94 #[.slice (some a) l.length c] w (NewI w l) := by
  have hq := fun (w : World) => Lib.run_eql_slice_nil (P := Tryz.prog) w 55 3 (some a) l.length c 0 0 Tryz.underlying55
  obtain ⟨i0, hi, hz0, hz1, hz2⟩ := info_parts infoInt
  have h' : Is (w.alloc (.cells #[] 3)) (.slice (some a) l.length c) l := by
    obtain ⟨a', cap', e1, hx⟩ := h
    refine ⟨a', cap', e1, fun hne => ?_⟩
    obtain ⟨g, off, e2, hc⟩ := hx hne
    exact ⟨g, off, e2, fun j u hu => (World.cell?_alloc_lt _ _ _ (World.block_lt_of_cell? _ _ (hc j u hu))).trans (hc j u hu)⟩
  have hnews := (Rd.news h' rfl).2
  have HN := Lib.hid hnews
  have HL := Lib.hid hlen
  have hown : Hid ((w.alloc (.cells #[] 3)).ownsRow w.heap.size 3 1 (.slice (some ⟨w.heap.size, 0, none⟩) 0 0) 0 []) := World.ownsRow_made w #[] 0 (Nat.le_refl _) (by decide) rfl
  clear hnews h h' hlen
  go_enter Tryz.func94, Tryz.ntmps94
  go_wp2_with (at_builtin; refine wpList_append_prov rfl _ _ 55 rfl w.heap.size 3 i0 (.int .i64 0) 1 8 Tryz.underlying55 hi hz0 hz1 hz2 rfl (by decide) _ _ _ rfl hown.out a l.length c (l.map iv) rfl (by simp) HN.out (oneCell_ints l) (by have := HL.out; unfold maxLen; omega) (by have := HL.out; omega) (by simp) ?_; intro v' w' ho hg hp; have HO := Lib.hid ho; have HP := Lib.hid hp; clear ho hp)
  go_ret
  have hk : Keep Non w w' := by
    have := ((Keep.refl Non w).alloc (.cells #[] 3)).trans ((Keep.refl (One w.heap.size) _).grown hg (row := some w.heap.size) (fun k e => .inl (by injection e with e; exact e.symm))) (U := Non) (fun _ _ h => h) (fun i hi h => by unfold One at h; omega)
    exact this
  have ho := HO.out
  rw [List.nil_append, show 0 + l.length = (l.map iv).length by simp] at ho
  exact ⟨v', rfl, hk, by simpa using ho⟩
end Go.Proofs.YtdmckfkhkjkdnaaGreatDoor
namespace Go.Proofs.YtdmckfkhkjkdnaaGreatDoor
open Go.RowKit Go.Sort
theorem sort1 : ([0] : List Int).mergeSort (fun x y => decide (x ≤ y)) = [0] := by simp
theorem sort2 : ([0, 1] : List Int).mergeSort (fun x y => decide (x ≤ y)) = [0, 1] := List.mergeSort_of_pairwise (by decide)
theorem sort3 : ([0, 1, 2] : List Int).mergeSort (fun x y => decide (x ≤ y)) = [0, 1, 2] := List.mergeSort_of_pairwise (by decide)
theorem comp3 : Lib.compact ([0, 1, 2] : List Int) = [0, 1, 2] := by decide
theorem comp1 : Lib.compact ([0] : List Int) = [0] := by decide
theorem comp2 : Lib.compact ([0, 1] : List Int) = [0, 1] := by decide
def rgI (n : Nat) : List Int := (List.range n).map (fun (i : Nat) => (i : Int))
theorem rg_sort (n : Nat) (h1 : 1 ≤ n) (h2 : n ≤ 3) : (rgI n).mergeSort (fun x y => decide (x ≤ y)) = rgI n := by
  obtain rfl | rfl | rfl : n = 1 ∨ n = 2 ∨ n = 3 := by omega
  · exact sort1
  · exact sort2
  · exact sort3
theorem rg_comp (n : Nat) (h1 : 1 ≤ n) (h2 : n ≤ 3) : Lib.compact (rgI n) = rgI n := by
  obtain rfl | rfl | rfl : n = 1 ∨ n = 2 ∨ n = 3 := by omega
  · exact comp1
  · exact comp2
  · exact comp3
theorem rg_len (n : Nat) : (rgI n).length = n := by simp [rgI]
theorem sort_same {w : World} {g off n c : Nat} (h1 : 1 ≤ n) (h2 : n ≤ 3) (hH : Holds (Value.int .i64) w g off (rgI n).toArray) (hg : g < w.heap.size) :
    Calls Tryz.prog 92 #[.slice (some ⟨g, off, none⟩) n c] w fun e w' => e = .returned (.tuple #[]) ∧ Keep Non w w' := by
  have h := Tryz.slices_Sort_int g off c (rgI n) w hH hg (by rw [rg_len]; omega)
  rw [rg_len] at h
  refine h.mono ?_
  rintro e w' ⟨rfl, k, os, rfl⟩
  rw [rg_sort n h1 h2, putRow_ahead, putRow_self _ _ _ _ _ hH]
  exact ⟨rfl, Keep.ofBelow (Lib.below_grow _ _ (Nat.le_refl _) k os)⟩
theorem comp_same {w : World} {g off n c : Nat} (h1 : 1 ≤ n) (h2 : n ≤ 3) (hc : n ≤ c) (hH : Holds (Value.int .i64) w g off (rgI n).toArray) :
    Calls Tryz.prog 93 #[.slice (some ⟨g, off, none⟩) n c] w fun e w' => e = .returned (.slice (some ⟨g, off, none⟩) n c) ∧ Keep Non w w' := by
  have h := Tryz.slices_Compact_int g off c (rgI n) w hH (by rw [rg_len]; omega) (by rw [rg_len]; omega)
  rw [rg_comp n h1 h2, rg_len] at h
  refine h.mono ?_
  rintro e w' ⟨rfl, k, rfl⟩
  rw [Nat.sub_self, List.replicate_zero, List.append_nil, putRow_ahead, putRow_self _ _ _ _ _ hH]
  exact ⟨rfl, (Keep.refl Non w).drewN k⟩
def chainsN (n : Nat) : List (List Nat) := if n = 3 then [[0], [1, 2]] else (List.range n).map (fun i => [i])
def chN (n : Nat) : Nat := if n = 3 then 2 else n
theorem chains_flat (n : Nat) : (chainsN n).flatten = List.range n := by
  unfold chainsN
  split
  · rename_i h
    subst h
    rfl
  · rename_i h
    clear h
    induction n with
    | zero => rfl
    | succ n ih => rw [List.range_succ, List.map_append, List.flatten_append, ih]; rfl
theorem chains_len (n : Nat) : (chainsN n).length = chN n := by
  unfold chainsN chN
  split <;> simp
theorem chN_le {n : Nat} (h : n ≤ 3) : chN n ≤ 2 := by
  unfold chN
  split <;> omega
theorem chN_pos {n : Nat} (h : 1 ≤ n) : 1 ≤ chN n := by
  unfold chN
  split <;> omega
def chnI (n i : Nat) : List Nat := (chainsN n).getD i []
theorem chI_get {n i : Nat} (h : i < chN n) : (chainsN n)[i]? = some (chnI n i) := by
  unfold chnI
  rw [List.getD_eq_getElem?_getD, List.getElem?_eq_getElem (by rw [chains_len]; exact h)]
  rfl
theorem chI_len {n i : Nat} (h : i < chN n) : 1 ≤ (chnI n i).length ∧ (chnI n i).length ≤ 2 := by
  unfold chnI chainsN chN at *
  split
  · rename_i e
    rw [if_pos e] at h
    obtain rfl | rfl : i = 0 ∨ i = 1 := by omega
    · exact ⟨by decide, by decide⟩
    · exact ⟨by decide, by decide⟩
  · rename_i e
    rw [if_neg e] at h
    simp [List.getD_eq_getElem?_getD, h]
def PrAt (T : Nat → Prop) (w : World) (cv : Value) (n : Nat) : Prop := ∃ g vs c, cv = .slice (some ⟨g, 0, none⟩) (chN n) c ∧ vs.length = chN n ∧ Rd w cv vs ∧ Iss w vs (chainsN n) ∧ T g ∧ ∀ v ∈ vs, ∀ k, v.ownBlock = some k → T k
theorem PrAt.keep {S T : Nat → Prop} {w w' : World} {cv : Value} {n : Nat} (h : PrAt T w cv n) (k : Keep S w w') (hn : ∀ g, T g → ¬ S g) : PrAt T w' cv n := by
  obtain ⟨g, vs, c, rfl, hl, hr, hi, hg, ht⟩ := h
  exact ⟨g, vs, c, rfl, hl, hr.keep k (fun j e => hn j (by injection e with e; rw [← e]; exact hg)), ⟨hi.1, fun i u l hu hl => (hi.2 i u l hu hl).keep k (fun j e => hn j (ht u (List.mem_of_getElem? hu) j e))⟩, hg, ht⟩
theorem PrAt.keepNon {T : Nat → Prop} {w w' : World} {cv : Value} {n : Nat} (h : PrAt T w cv n) (k : Keep Non w w') : PrAt T w' cv n := h.keep k (fun _ _ e => e)
theorem holds_of {w : World} {b n : Nat} {v : Value} {l : List Nat} (o : w.ownsRow b 3 1 v n (l.map iv)) (hl : l.length = n) (hn : 0 < n) : ∃ g c, v = .slice (some ⟨g, 0, none⟩) n c ∧ n ≤ c ∧ g < w.heap.size ∧ b ≤ g ∧ Holds (Value.int .i64) w g 0 (l.map (fun (i : Nat) => (i : Int))).toArray := by
  obtain ⟨g, c, rfl, hc, hb, hg⟩ := own_some o hn
  refine ⟨g, c, rfl, hc, hg, hb, ?_⟩
  rcases o.2 with ⟨h, _⟩ | ⟨g', cap, cur, e, _, hgb, _, _, _, htake⟩
  · cases h
  · injection e with e1 e2 e3
    injection e1 with e1
    injection e1 with e1
    subst e1
    intro j hj
    simp only [List.size_toArray, List.length_map] at hj
    have hx := congrArg (fun (x : List Value) => x[j]?) htake
    have hj1 : j < (l.map iv).length := by rw [List.length_map]; exact hj
    constructor
    · rw [Nat.zero_add, World.cell?, hgb]
      simp only [List.getElem?_take, List.getElem?_map] at hx
      split at hx
      · rw [Array.getElem?_toList] at hx
        simp only [hx]
        simp [hj, iv]
      · rw [List.getElem?_eq_getElem hj] at hx
        cases hx
    · simp [World.frozen?, hgb]
theorem holds_keep {w w' : World} {g off : Nat} {d : Array Int} (k : Keep Non w w') (h : Holds (Value.int .i64) w g off d) (hg : g < w.heap.size) : Holds (Value.int .i64) w' g off d := fun j hj => by
  obtain ⟨a, b⟩ := h j hj
  have e := k.block g hg (fun x => x)
  unfold World.cell? World.frozen? at *
  rw [e]
  exact ⟨a, b⟩
theorem punits_ok (T : Nat → Prop) (e n : Nat) (cv : Value) (w : World) (h : PrAt T w cv n) (h1 : 1 ≤ n) (h2 : n ≤ 3) :
    Calls Tryz.prog 45 #[.agg #[.int .i64 e, cv]] w fun r w' => ∃ g c, r = .returned (.slice (some ⟨g, 0, none⟩) n c) ∧ Keep Non w w' ∧ w.heap.size ≤ g ∧ Is w' (.slice (some ⟨g, 0, none⟩) n c) (List.range n) := by
  obtain ⟨g, vs, c, rfl, hl, hr, hi, hg, ht⟩ := h
  have CC := Lib.hid (fun W (k : Keep Non w W) => concati_any g vs (chainsN n) c W (by rw [hl]; exact hr.keepNon k) ⟨hi.1, fun i u l hu hl => (hi.2 i u l hu hl).keepNon k⟩ (by rw [chains_flat]; simp; omega) (by have := chN_le h2; omega))
  rw [hl, chains_flat] at CC
  clear hr hi hl
  go_enter Tryz.func45, Tryz.ntmps45
  go_wp2_with (first
    | (go_at_call 88; refine (CC.out _ ((Keep.refl _ _).alloc _)).mono ?_; rintro r w1 ⟨v1, rfl, k1, o1⟩; obtain ⟨g1, c1, rfl, hc1, hg1, hb1, H1⟩ := holds_of o1 rfl (by simp; omega); rw [List.length_range] at *; have K1 := Lib.hid (((Keep.refl Non w).alloc _).trans1 k1); have O1 := Lib.hid o1; have HH := Lib.hid H1; clear k1 o1 H1)
    | (go_at_call 92; refine (sort_same h1 h2 HH.out hg1).mono ?_; rintro r w2 ⟨rfl, k2⟩; have K2 := Lib.hid (K1.out.trans1 k2); have HH2 := Lib.hid (holds_keep k2 HH.out hg1); have I2 := Lib.hid ((Rd.ofOwns O1.out).keepNon k2); clear k2)
    | (go_at_call 93; refine (comp_same h1 h2 hc1 HH2.out).mono ?_; rintro r w3 ⟨rfl, k3⟩; have K3 := Lib.hid k3; clear k3))
  go_ret
  exact ⟨g1, c1, rfl, K2.out.trans1 K3.out, by simp at hb1; omega, I2.out.keepNon K3.out⟩
end Go.Proofs.YtdmckfkhkjkdnaaGreatDoor
namespace Go.Proofs.YtdmckfkhkjkdnaaGreatDoor
open Go.RowKit
def PrB (e : Nat) (cv : Value) : Obj := .cells #[.int .i64 e, cv] 88 (0, 0)
section
variable {w : World} {b e : Nat} {cv : Value}
theorem pr_0 (h : w.heap[b]? = some (PrB e cv)) : w.cell? ⟨b, 0, none⟩ = some (.int .i64 e) := by simp [World.cell?, h, PrB]
theorem pr_1 (h : w.heap[b]? = some (PrB e cv)) : w.cell? ⟨b, 1, none⟩ = some cv := by simp [World.cell?, h, PrB]
theorem pr_f (h : w.heap[b]? = some (PrB e cv)) (i : Nat) : w.frozen? ⟨b, i, none⟩ = false := by simp [World.frozen?, h, PrB]
theorem pr_set0 (h : w.heap[b]? = some (PrB e cv)) (k : Nat) : (w.setCell ⟨b, 0, none⟩ (.int .i64 k)).heap[b]? = some (PrB k cv) := blk_set h 0 _
theorem pr_set1 (h : w.heap[b]? = some (PrB e cv)) (v : Value) : (w.setCell ⟨b, 1, none⟩ v).heap[b]? = some (PrB e v) := blk_set h 1 _
end
theorem infoSlI : (Tryz.prog.info? 55).map (fun i => (i.zero, i.size, i.bytes)) = some (some (.slice none 0 0), 1, 24) := by kernel_rfl
def OutI (n B : Nat) (w : World) (ov : Value) (j : Nat) : Prop := ∃ us : List Value, w.ownsRow B 55 1 ov j us ∧ us.length = j ∧ (∀ u ∈ us, u.oneCell' = true) ∧ ∀ (i : Nat) u, us[i]? = some u → Is w u (chnI n i) ∧ ∀ k, u.ownBlock = some k → B ≤ k ∧ k < w.heap.size ∧ ov.ownBlock ≠ some k
theorem outi_add {n B j g2 c2 m : Nat} {wr w2 w3 : World} {oa : Option Addr} {oc : Nat} {v3 : Value} {us : List Value} (ho : wr.ownsRow B 55 1 (.slice oa j oc) j us) (hl : us.length = j) (h1 : ∀ u ∈ us, u.oneCell' = true) (hu : ∀ (i : Nat) u, us[i]? = some u → Is wr u (chnI n i) ∧ ∀ k, u.ownBlock = some k → B ≤ k ∧ k < wr.heap.size ∧ (Value.slice oa j oc).ownBlock ≠ some k)
    (k2 : Keep Non wr w2) (hm : m = (chnI n j).length) (o2 : w2.ownsRow wr.heap.size 3 1 (.slice (some ⟨g2, 0, none⟩) m c2) m ((chnI n j).map iv)) (hB : B ≤ wr.heap.size)
    (h3 : w3.ownsRow B 55 1 v3 (j + 1) (us ++ [.slice (some ⟨g2, 0, none⟩) m c2])) (hg : (w2.alloc (.cells #[.slice (some ⟨g2, 0, none⟩) m c2] 55)).grownBy w3 (Value.slice oa j oc).ownBlock) (hp : v3.ownBlock = (Value.slice oa j oc).ownBlock ∨ v3.ownBlock = some (w2.alloc (.cells #[.slice (some ⟨g2, 0, none⟩) m c2] 55)).heap.size) :
    OutI n B w3 v3 (j + 1) ∧ Keep (fun k => (Value.slice oa j oc).ownBlock = some k) wr w3 := by
  have kA : Keep Non wr (w2.alloc (.cells #[.slice (some ⟨g2, 0, none⟩) m c2] 55)) := k2.trans1 ((Keep.refl _ _).alloc _)
  have kg : Keep (fun k => (Value.slice oa j oc).ownBlock = some k) (w2.alloc (.cells #[.slice (some ⟨g2, 0, none⟩) m c2] 55)) w3 := (Keep.refl _ _).grown hg (fun k e => .inl e)
  have kk := kA.ofNon.trans1 kg
  have hlt2 := o2.lt g2 rfl
  have hsz : (w2.alloc (.cells #[.slice (some ⟨g2, 0, none⟩) m c2] 55)).heap.size = w2.heap.size + 1 := by simp
  have hol : ∀ k, (Value.slice oa j oc).ownBlock = some k → k < wr.heap.size := fun k e => (ho.lt k e).2
  have kgs := kg.size
  have k2s := k2.size
  refine ⟨⟨us ++ [.slice (some ⟨g2, 0, none⟩) m c2], h3, by simp [hl], ?_, ?_⟩, kk⟩
  · intro u hu'
    rcases List.mem_append.1 hu' with h | h
    · exact h1 u h
    · simp only [List.mem_singleton] at h; subst h; rfl
  · intro i u hi
    rcases Nat.lt_or_ge i us.length with hlt | hge
    · rw [List.getElem?_append_left hlt] at hi
      obtain ⟨a, b⟩ := hu i u hi
      refine ⟨a.keep kk (fun k e x => (b k e).2.2 x), fun k e => ?_⟩
      obtain ⟨b1, b2, b3⟩ := b k e
      refine ⟨b1, by omega, fun x => ?_⟩
      rcases hp with hp | hp
      · exact b3 (hp ▸ x)
      · rw [hp] at x; have x' := Option.some.inj x; omega
    · rw [List.getElem?_append_right hge] at hi
      have hi0 : i - us.length = 0 := by
        rcases Nat.eq_zero_or_pos (i - us.length) with e | e
        · exact e
        · rw [List.getElem?_eq_none (by simp; omega)] at hi; cases hi
      rw [hi0] at hi
      simp only [List.getElem?_cons_zero, Option.some.injEq] at hi
      subst hi
      obtain rfl : i = j := by omega
      have r2 : Is w2 (.slice (some ⟨g2, 0, none⟩) m c2) (chnI n i) := Rd.ofOwns o2
      refine ⟨(r2.keepNon ((Keep.refl _ _).alloc _)).keep kg (fun k e x => ?_), fun k e => ?_⟩
      · have e' : g2 = k := Option.some.inj e
        have := hol k x
        omega
      · have e' : g2 = k := Option.some.inj e
        refine ⟨by omega, by omega, fun x => ?_⟩
        rcases hp with hp | hp
        · rw [hp] at x; have := hol k x; omega
        · rw [hp] at x; have x' := Option.some.inj x; omega
theorem one_cells (w : World) (v : Value) (t : TypeId) : ∀ (j : Nat) u, [v][j]? = some u → (w.alloc (.cells #[v] t)).cell? ((⟨w.heap.size, 0, none⟩ : Addr).add j) = some u := by
  intro j u hu
  rw [add_off, Nat.zero_add, cell_of_row _ _ j _ _ _ (blk_new _ _)]
  simpa using hu
theorem OutI.keep {n B j : Nat} {w w' : World} {ov : Value} {S : Nat → Prop} (h : OutI n B w ov j) (k : Keep S w w') (hn : ∀ g, B ≤ g → ¬ S g) : OutI n B w' ov j := by
  obtain ⟨us, o, h1, h2, h3⟩ := h
  refine ⟨us, ownsRow_keep o k (fun g e => hn g (o.lt g e).1), h1, h2, fun i u hi => ?_⟩
  obtain ⟨a, b⟩ := h3 i u hi
  exact ⟨a.keep k (fun g e => hn g (b g e).1), fun g e => ⟨(b g e).1, k.lt (b g e).2.1, (b g e).2.2⟩⟩
theorem OutI.pr {B n : Nat} {w : World} {ov : Value} (h : OutI n B w ov (chN n)) (h1 : 1 ≤ n) : PrAt (fun g => B ≤ g ∧ g < w.heap.size) w ov n := by
  obtain ⟨us, o, hl, h2, h3⟩ := h
  obtain ⟨g, c, rfl, _⟩ := own_some o (chN_pos h1)
  refine ⟨g, us, c, rfl, hl, Rd.ofOwns o, ⟨by rw [hl, chains_len], fun i u l hu hc => ?_⟩, o.lt g rfl, fun v hv k e => ?_⟩
  · have e : l = chnI n i := by
      unfold chnI
      rw [List.getD_eq_getElem?_getD, hc]
      rfl
    rw [e]
    exact (h3 i u hu).1
  · obtain ⟨i, hi, rfl⟩ := List.getElem_of_mem hv
    obtain ⟨a, b⟩ := h3 i _ (List.getElem?_eq_getElem hi)
    exact ⟨(b k e).1, (b k e).2.1⟩
theorem setNew {w w' : World} (k : Keep Non w w') (b i : Nat) (v : Value) (hb : w.heap.size ≤ b) : Keep Non w (w'.setCell ⟨b, i, none⟩ v) :=
  k.trans ((Keep.refl (One b) w').setOne i v) (fun _ _ e => e) (fun g hg e => by have e' : g = b := e; omega)
theorem pcopy_ok (T : Nat → Prop) (e n : Nat) (cv : Value) (w : World) (h : PrAt T w cv n) (h1 : 1 ≤ n) (h2 : n ≤ 3) :
    Calls Tryz.prog 46 #[.agg #[.int .i64 e, cv]] w fun r w' => ∃ cv', r = .returned (.agg #[.int .i64 e, cv']) ∧ Keep Non w w' ∧ PrAt (fun g => w.heap.size ≤ g ∧ g < w'.heap.size) w' cv' n := by
  obtain ⟨g, vs, c, rfl, hl, hr, hi, hg, ht⟩ := h
  have hch := chN_le h2
  have HR := Lib.hid hr
  have HI := Lib.hid hi
  have e0 : ((w.alloc (PrB e (.slice (some ⟨g, 0, none⟩) (chN n) c))).alloc (PrB 0 (.slice none 0 0))).heap[w.heap.size]? = some (PrB e (.slice (some ⟨g, 0, none⟩) (chN n) c)) := blk_alloc (blk_new _ _) _
  have b2 : (((w.alloc (PrB e (.slice (some ⟨g, 0, none⟩) (chN n) c))).alloc (PrB 0 (.slice none 0 0))).alloc (PrB e (.slice none 0 0))).heap[w.heap.size + 1]? = some (PrB 0 (.slice none 0 0)) := blk_alloc (alloc2_at' _ _ _) _
  have b3 : (((w.alloc (PrB e (.slice (some ⟨g, 0, none⟩) (chN n) c))).alloc (PrB 0 (.slice none 0 0))).alloc (PrB e (.slice none 0 0))).heap[w.heap.size + 1 + 1]? = some (PrB e (.slice none 0 0)) := by
    have := alloc2_at' (w.alloc (PrB e (.slice (some ⟨g, 0, none⟩) (chN n) c))) (PrB 0 (.slice none 0 0)) (PrB e (.slice none 0 0))
    rwa [World.size_alloc] at this
  have kA : Keep Non w (((w.alloc (PrB e (.slice (some ⟨g, 0, none⟩) (chN n) c))).alloc (PrB 0 (.slice none 0 0))).alloc (PrB e (.slice none 0 0))) := (((Keep.refl _ _).alloc _).alloc _).alloc _
  have sA : w.heap.size + 3 ≤ (((w.alloc (PrB e (.slice (some ⟨g, 0, none⟩) (chN n) c))).alloc (PrB 0 (.slice none 0 0))).alloc (PrB e (.slice none 0 0))).heap.size := by simp
  have B2 := Lib.hid b2
  have B3 := Lib.hid b3
  have KA := Lib.hid kA
  have SA := Lib.hid sA
  obtain ⟨i0, hi0, hz0, hz1, hz2⟩ := info_parts infoSlI
  have I0 := Lib.hid (And.intro hi0 (And.intro hz0 (And.intro hz1 hz2)))
  clear hr hi e0 b2 b3 kA sA hi0 hz0 hz1 hz2
  go_enter Tryz.func46, Tryz.ntmps46
  go_wp2_with fail
  go_loopw [12] (fun i wr => ∃ j : Nat, j ≤ chN n ∧ i = .int .i64 j ∧ Keep Non w wr ∧ wr.heap[w.heap.size + 1]? = some (PrB 0 (.slice none 0 0)) ∧ ∃ ov, wr.heap[w.heap.size + 1 + 1]? = some (PrB e ov) ∧ OutI n (w.heap.size + 3) wr ov j ∧ w.heap.size + 3 ≤ wr.heap.size) (fun i _ => chN n - (intOf i).toNat)
  case atStart => exact ⟨0, by omega, rfl, KA.out, B2.out, _, B3.out, ⟨[], World.ownsRow_nil _ _ _ _, rfl, by simp, by simp⟩, SA.out⟩
  case round =>
    obtain ⟨j, hj, rfl, k, hb2, ov, hb3, ho, hs⟩ := hrel
    obtain ⟨us, ho, hul, hu1, hu⟩ := ho
    obtain ⟨oa, oc, rfl, _, _⟩ := ownsRow_form ho
    have K := Lib.hid k
    have P2 := Lib.hid hb2
    have P3 := Lib.hid hb3
    have OO := Lib.hid ho
    have UU := Lib.hid (And.intro hul (And.intro hu1 hu))
    have o1 := pr_1 hb3
    have S := Lib.hid hs
    clear k hb2 hul hu1 hu
    by_cases hlt : j < chN n
    · have hlj : (j : Int) < (chN n : Int) := by omega
      have hr2 := HR.out.keepNon K.out
      obtain ⟨x, hx⟩ : ∃ x, vs[j]? = some x := ⟨_, List.getElem?_eq_getElem (by omega)⟩
      have hxi : Is wr x (chnI n j) := (HI.out.2 j x (chnI n j) hx (chI_get hlt)).keepNon K.out
      have hcell : wr.cell? ⟨g, j, none⟩ = some x := by
        obtain ⟨a', c', e, hx'⟩ := hr2
        injection e with e1 e2 e3
        obtain ⟨g', off, e4, hc⟩ := hx' (by intro e; rw [e] at hl; simp at hl; omega)
        rw [← e1] at e4
        injection e4 with e4
        injection e4 with e4 e5
        subst e4
        subst e5
        have := hc j x hx
        rwa [Nat.zero_add] at this
      obtain ⟨xa, xc, rfl, hxx⟩ := id hxi
      obtain ⟨xg, xo, rfl, _⟩ := hxx (by intro e; have := (chI_len hlt).1; rw [List.map_eq_nil_iff] at e; rw [e] at this; simp at this)
      obtain ⟨m, hm⟩ : ∃ m, m = (chnI n j).length := ⟨_, rfl⟩
      have hm1 : 0 < m := by have := (chI_len hlt).1; omega
      have hm2 : m ≤ 2 := by have := (chI_len hlt).2; omega
      simp only [List.length_map] at hcell hxi
      rw [← hm] at hcell hxi
      have HM := Lib.hid hm
      have CL := Lib.hid (clonei_new_some ⟨xg, xo, none⟩ xc (chnI n j) wr.drew (by rw [← hm]; exact hxi) (by omega))
      have o1d : wr.drew.cell? ⟨w.heap.size + 1 + 1, 1, none⟩ = some (.slice oa j oc) := o1
      rw [← hm] at CL
      have CL2 : Hid (Calls Tryz.prog 94 #[.slice (some ⟨xg, xo, none⟩) m xc] wr.drew fun r w2 => ∃ g2 c2, r = .returned (.slice (some ⟨g2, 0, none⟩) m c2) ∧ Keep Non wr w2 ∧ w2.ownsRow wr.heap.size 3 1 (.slice (some ⟨g2, 0, none⟩) m c2) m ((chnI n j).map iv)) := Lib.hid (by
        refine CL.out.mono ?_
        rintro r w2 ⟨v2, rfl, k2, o2⟩
        rw [← hm] at o2
        obtain ⟨g2, c2, rfl, _⟩ := own_some o2 hm1
        exact ⟨g2, c2, rfl, (Keep.refl Non wr).drew.trans1 k2, o2⟩)
      clear hxx hxi hr2 hb3 ho hx CL hm
      go_wp2_with fail
      go_region_law (first
        | (go_simp; (go_at_call 94; refine CL2.out.mono ?_; rintro r w2 ⟨g2, c2, rfl, k2, o2⟩; have p3 := k2.at P3.out (fun e => e); have o2' := pr_1 p3; have o2a := pr_1 (blk_alloc p3 (.cells #[.slice (some ⟨g2, 0, none⟩) m c2] 55)); have K2 := Lib.hid k2; have O2 := Lib.hid o2; clear k2 o2 p3))
        | (refine step_append_prov (by rfl) (.tmp 17) (.tmp 20) 56 (by rfl) (w.heap.size + 3) 55 i0 (.slice none 0 0) 1 24 Tryz.underlying56 I0.out.1 I0.out.2.1 I0.out.2.2.1 I0.out.2.2.2 rfl (by decide) (.slice oa j oc) j us (by first | rfl | simp [Act.eval, Act.put]) (by exact ownsRow_keep OO.out (K2.out.trans1 ((Keep.refl Non w2).alloc _)) (fun _ _ e => e)) ⟨w2.heap.size, 0, none⟩ 1 1 [.slice (some ⟨g2, 0, none⟩) m c2] (by first | rfl | simp [Act.eval, Act.put]) (by rfl) (by exact one_cells w2 _ _) (by simp [Value.oneCell']) (by unfold maxLen; omega) (by omega) (by have := K2.out.size; simp; omega) ?_; intro v3 w3 ho hg hpp; obtain ⟨oj, kj⟩ := outi_add OO.out UU.out.1 UU.out.2.1 UU.out.2.2 K2.out HM.out O2.out S.out ho hg hpp; have hn3 : ∀ k, (Value.slice oa j oc).ownBlock = some k → w.heap.size + 3 ≤ k := (fun k e => (OO.out.lt k e).1); have p2 := kj.at P2.out (fun e => by have := hn3 _ e; omega); have p3 := kj.at P3.out (fun e => by have := hn3 _ e; omega); obtain ⟨oa3, oc3, rfl, _, _⟩ := ownsRow_form ho; have i3 := pr_1 p3; have f3 := pr_f p3 1; have P2' := Lib.hid p2; have P3' := Lib.hid p3; have SIZ := Lib.hid (Nat.le_trans S.out kj.size); have OJ := Lib.hid oj; have KJ := Lib.hid (K.out.trans kj (fun _ _ e => e) (fun k hk e => by have := hn3 k e; omega)); clear ho hg hpp oj kj hn3 p2 p3))
      all_goals go_wp2_with fail
      all_goals
        have k1 : Keep (One (w.heap.size + 1 + 1)) w3 (w3.setCell ⟨w.heap.size + 1 + 1, 1, none⟩ (.slice oa3 (j + 1) oc3)) := (Keep.refl _ _).setOne _ _
        exact ⟨⟨j + 1, by omega, by first | rfl | go_num, setNew KJ.out _ _ _ (by omega), k1.at P2'.out (fun e => by have e' : w.heap.size + 1 = w.heap.size + 1 + 1 := e; omega), _, pr_set1 P3'.out _, OJ.out.keep k1 (fun g hg e => by have e' : g = w.heap.size + 1 + 1 := e; omega), by have := k1.size; have := OJ.out; have := KJ.out.size; have := lt_of_block P3'.out; rcases OJ.out with ⟨us', o', l', _⟩; have := SIZ.out; omega⟩, by simp [intOf]; omega⟩
    · obtain hjn : j = chN n := by omega
      subst hjn
      have o0 := pr_0 hb3
      have r0 := pr_0 P2.out
      have r1 := pr_1 P2.out
      have rf0 := pr_f P2.out 0
      have rf1 := pr_f P2.out 1
      have q0 := pr_0 (pr_set1 (pr_set0 P2.out e) (.slice oa (chN n) oc))
      have q1 := pr_1 (pr_set1 (pr_set0 P2.out e) (.slice oa (chN n) oc))
      clear hb3 ho
      go_wp2_with fail
      refine bodyPost_ret (v := .agg #[.int .i64 e, .slice oa (chN n) oc]) (by simp [results, Tryz.results46, go_sem, q0, q1]) rfl ?_
      have k1 : Keep (One (w.heap.size + 1)) wr ((wr.setCell ⟨w.heap.size + 1, 0, none⟩ (.int .i64 e)).setCell ⟨w.heap.size + 1, 1, none⟩ (.slice oa (chN n) oc)) := ((Keep.refl _ _).setOne _ _).trans1 ((Keep.refl _ _).setOne _ _)
      have O := OutI.pr (OutI.keep (⟨us, OO.out, UU.out⟩ : OutI n (w.heap.size + 3) wr (.slice oa (chN n) oc) (chN n)) k1 (fun g hg e => by have e' : g = w.heap.size + 1 := e; omega)) h1
      obtain ⟨g', vs', c', e1, e2, e3, e4, e5, e6⟩ := O
      exact ⟨_, rfl, setNew (setNew K.out _ _ _ (by omega)) _ _ _ (by omega), g', vs', c', e1, e2, e3, e4, ⟨by omega, e5.2⟩, fun v hv k e => ⟨by have := (e6 v hv k e).1; omega, (e6 v hv k e).2⟩⟩
end Go.Proofs.YtdmckfkhkjkdnaaGreatDoor
