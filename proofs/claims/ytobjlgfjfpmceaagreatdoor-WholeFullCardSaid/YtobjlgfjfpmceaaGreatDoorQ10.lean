/- Frames: put, taken. · Cells: looked at, held against one another, copied. · Runs of cells: their bytes, in plain words; slices of cells. · Runs of cel -/
import Derived.Test.YtobjlgfjfpmceaaGreatDoorQ05
set_option linter.unusedVariables false
set_option maxRecDepth 100000
set_option maxHeartbeats 16000000
namespace Go.Proofs.YtobjlgfjfpmceaaGreatDoor
open Go.RowKit
def frameB (t : List UInt8) : List UInt8 := sealB (vtext t)
theorem vtext_len (t : List UInt8) : (vtext t).length = (vput t.length).length + t.length := by simp [vtext]
theorem frameB_len (t : List UInt8) : (frameB t).length = (vput t.length).length + t.length + 4 := by simp [frameB, sealB_len, vtext_len]
theorem fput_nil (v : Value) (t : List UInt8) (w : World) (h : Bs w v t) (hl : t.length ≤ 65536) :
    Calls Tryz.prog 140 #[.slice none 0 0, v] w fun e w' => ∃ v', e = .returned (.tuple #[v', .nilIface]) ∧ Keep Non w w' ∧ w'.ownsRow w.heap.size 5 1 v' (frameB t).length ((frameB t).map bv) := by
  have V := Lib.hid h
  have h3 : (vput t.length).length ≤ 3 := vput_three (by omega)
  obtain ⟨a, c, rfl, _⟩ := h
  rw [List.length_map] at V ⊢
  go_enter Tryz.func140, Tryz.ntmps140
  go_wp2_with (first
    | (go_at_call 185; refine (maker_new _).mono ?_; rintro e w1 ⟨rfl, k1, m1⟩; have K1 := Lib.hid k1; have M1 : Hid (MkNew w1 w.heap.size) := Lib.hid m1; clear k1 m1)
    | (go_at_call 194; refine (putText_any _ [] a c t _ (Rd.nil _) (by simp) (by exact V.out.keepNon K1.out) (by omega)).mono ?_; rintro e w2 ⟨v2, rfl, k2, o2⟩; rw [List.nil_append] at o2; have K2 := Lib.hid k2; have O2 := Lib.hid o2; clear k2 o2)
    | (go_at_call 193; refine (sealed_new w.heap.size _ (vtext t) _ (M1.out.keep K2.out (fun e => e)) (Rd.ofOwns O2.out) (by rw [vtext_len]; omega) (fun g e => by have := (O2.out.lt g e).1; have := K1.out.size; have := M1.out.lt; omega)).mono ?_; rintro e w3 ⟨v3, rfl, k3, o3⟩; obtain ⟨a3, c3, rfl, _, _⟩ := ownsRow_form o3; have K3 := Lib.hid k3; have O3 := Lib.hid o3; clear k3 o3)
    | (go_at_call 192; have hb2 : Bss (w3.alloc (.cells #[Value.slice none 0 0, Value.slice a3 (sealB (vtext t)).length c3] 53)) [Value.slice none 0 0, Value.slice a3 (sealB (vtext t)).length c3] [[], sealB (vtext t)] := two_bss (Rd.nil _) (Rd.keepNon (Rd.ofOwns O3.out) ((Keep.refl _ _).alloc _)); refine (concat_any _ [Value.slice none 0 0, Value.slice a3 (sealB (vtext t)).length c3] [[], sealB (vtext t)] 2 _ (two_rd _ _) hb2 (by simp [sealB_len, vtext_len]; omega) (by simp)).mono ?_; rintro e w4 ⟨v4, rfl, k4, o4⟩; have K4 := Lib.hid k4; have O4 := Lib.hid o4; clear k4 o4))
  go_ret2
  have ho := O4.out
  have e : [[], sealB (vtext t)].flatten = frameB t := by simp [frameB]
  rw [e] at ho
  have hk := ((K1.out.trans1 K2.out).trans K3.out (U := Non) (fun _ _ h => h) (fun i hi e => by unfold One at e; omega)).trans1 (((Keep.refl _ _).alloc _).trans1 K4.out)
  exact ⟨_, rfl, hk, ownsRow_low ho (by have h1 := K1.out.size; have h2 := K2.out.size; have h3 := K3.out.size; simp; omega)⟩
theorem own_some {w : World} {base : Nat} {e : TypeId} {size : Nat} {v : Value} {n : Nat} {xs : List Value} (h : w.ownsRow base e size v n xs) (hn : 0 < n) : ∃ g c, v = .slice (some ⟨g, 0, none⟩) n c ∧ n ≤ c ∧ base ≤ g ∧ g < w.heap.size := by
  rcases h.2 with ⟨_, h2⟩ | ⟨g, cap, cur, rfl, hb, hg, h1, _⟩
  · omega
  · exact ⟨g, cap, rfl, h1, hb, lt_of_block hg⟩
theorem opened_ok {x s : List UInt8} {e : Ending} {P : Value → Prop} (hq : fourB (crcI x) = s) (h : (fourB (crcI x) = s ∧ ∃ v', e = .returned (.tuple #[v', .nilIface]) ∧ P v') ∨ (fourB (crcI x) ≠ s ∧ e = .returned (.tuple #[.slice none 0 0, errv 11]))) : ∃ v', e = .returned (.tuple #[v', .nilIface]) ∧ P v' := by
  rcases h with ⟨_, h⟩ | ⟨q, _⟩
  · exact h
  · exact absurd hq q
theorem opened_no {x s : List UInt8} {e : Ending} {P : Value → Prop} (hq : ¬ fourB (crcI x) = s) (h : (fourB (crcI x) = s ∧ ∃ v', e = .returned (.tuple #[v', .nilIface]) ∧ P v') ∨ (fourB (crcI x) ≠ s ∧ e = .returned (.tuple #[.slice none 0 0, errv 11]))) : e = .returned (.tuple #[.slice none 0 0, .iface 45 (.int .i64 11)]) := by
  rcases h with ⟨q, _⟩ | ⟨_, h⟩
  · exact absurd q hq
  · exact h
theorem ftake_any (v : Value) (t s : List UInt8) (w : World) (h : Bs w v (vtext t ++ s)) (hc : okc v) (hs : s.length = 4) (hl : t.length ≤ 65536) (hv : ∀ g, v.ownBlock = some g → g < w.heap.size) :
    Calls Tryz.prog 123 #[v] w fun e w' => Keep Non w w' ∧ ((fourB (crcI (vtext t)) = s ∧ ∃ v', e = .returned (.tuple #[v', .int .i64 (vtext t ++ s).length, .nilIface]) ∧ Bs w' v' t ∧ okc v' ∧ (∀ g, v'.ownBlock = some g → w.heap.size ≤ g ∧ g < w'.heap.size)) ∨ (fourB (crcI (vtext t)) ≠ s ∧ e = .returned (.tuple #[.slice none 0 0, .int .i64 0, errv 11]))) := by
  have V := Lib.hid h
  have HC := Lib.hid hc
  have VB := Lib.hid hv
  have h3 : (vput t.length).length ≤ 3 := vput_three (by omega)
  have hlen : (vtext t ++ s).length = (vput t.length).length + t.length + 4 := by simp [vtext_len, hs]
  clear hv
  obtain ⟨a, c, rfl, hx⟩ := h
  obtain ⟨g, off, rfl, _⟩ := hx (by intro e; rw [List.map_eq_nil_iff] at e; rw [e] at hlen; simp at hlen)
  have hc1 := hc.1
  rw [List.length_map, hlen] at V VB HC hc1 ⊢
  clear hx hc
  have V2 : Hid (Bs w (.slice (some ⟨g, off, none⟩) ((vput t.length).length + t.length + 4) c) (vput t.length ++ (t ++ s))) := Lib.hid (by have := V.out; unfold vtext at this; rw [List.append_assoc] at this; exact this)
  generalize hhd : (vput t.length).length = hd at h3 hlen V VB HC hc1 V2 ⊢
  have HHD := Lib.hid hhd
  clear hhd hlen
  go_enter Tryz.func123, Tryz.ntmps123
  have hd1 : 1 ≤ hd := by rw [← HHD.out]; exact vput_pos _
  have HVL : Hid ((vtext t).length = hd + t.length) := Lib.hid (by rw [vtext_len, HHD.out])
  by_cases hq : fourB (crcI (vtext t)) = s
  · go_wp2_with (go_at_call 126; refine (take_ok _ t.length (t ++ s) _ V2.out HC.out (by omega)).mono ?_; rw [HHD.out]; rintro e w0 ⟨rfl, e1⟩; subst e1)
    go_region_with (first
      | (go_at_call 185; refine (maker_new _).mono ?_; rintro e w1 ⟨rfl, k1, m1⟩; have K1 := Lib.hid (keep_undrew (w := w0) (by exact k1)); have M1 : Hid (MkNew w1 w0.heap.size) := Lib.hid m1; clear k1 m1)
      | (go_at_call 186; refine (opened_new w0.heap.size _ (vtext t) s _ M1.out (V.out.keepNon K1.out) HC.out hs (by rw [vtext_len, HHD.out]; omega) (fun q e => by have := VB.out q e; omega)).mono ?_; rintro e w2 ⟨k2, h2⟩; obtain ⟨v2, rfl, o2⟩ := opened_ok hq h2; rw [HVL.out] at o2; obtain ⟨g2, c2, rfl, hc2, hg2, hg3⟩ := own_some o2 (by omega); have K2 := Lib.hid k2; have O2 := Lib.hid o2; clear k2 o2 h2))
    all_goals
      go_wp2_with fail
      all_goals go_ret3
      all_goals
        have hk := K1.out.trans K2.out (U := Non) (fun _ _ h => h) (fun i hi e => by unfold One at e; omega)
        have hbs : Bs w2 (.slice (some ⟨g2, 0, none⟩) (hd + t.length) c2) (vput t.length ++ t) := Rd.ofOwns O2.out
        have hs1 := K1.out.size
      · exact ⟨hk, _, rfl, by have := rest_nil 0 hbs hc2 (by rw [HHD.out]; assumption); rw [HHD.out, Nat.add_sub_cancel_left] at this; exact this, ⟨by omega, fun ad e => by injection e with e; exact ⟨_, _, e.symm⟩⟩, fun q e => by injection e with e; subst e; exact ⟨Nat.le_trans hs1 hg2, hg3⟩⟩
      · exact ⟨hk, _, rfl, by have := rest_rd hbs; rw [HHD.out, Nat.add_sub_cancel_left, Nat.zero_add] at this; exact this, ⟨by omega, fun ad e => by injection e with e; exact ⟨_, _, e.symm⟩⟩, fun q e => by injection e with e; subst e; exact ⟨Nat.le_trans hs1 hg2, hg3⟩⟩
  · go_wp2_with (go_at_call 126; refine (take_ok _ t.length (t ++ s) _ V2.out HC.out (by omega)).mono ?_; rw [HHD.out]; rintro e w0 ⟨rfl, e1⟩; subst e1)
    go_region_with (first
      | (go_at_call 185; refine (maker_new _).mono ?_; rintro e w1 ⟨rfl, k1, m1⟩; have K1 := Lib.hid (keep_undrew (w := w0) (by exact k1)); have M1 : Hid (MkNew w1 w0.heap.size) := Lib.hid m1; clear k1 m1)
      | (go_at_call 186; refine (opened_new w0.heap.size _ (vtext t) s _ M1.out (V.out.keepNon K1.out) HC.out hs (by rw [vtext_len, HHD.out]; omega) (fun q e => by have := VB.out q e; omega)).mono ?_; rintro e w2 ⟨k2, h2⟩; obtain rfl := opened_no hq h2; have K2 := Lib.hid k2; clear k2 h2))
    all_goals
      go_wp2_with fail
      go_ret3
      exact ⟨K1.out.trans K2.out (U := Non) (fun _ _ h => h) (fun i hi e => by unfold One at e; omega), .inr ⟨hq, rfl⟩⟩
def cellE (k : Int) (n : Nat) : Int := if k < 0 ∨ 3 < k then 1 else if 64 < n then 3 else if 0 < n ∧ k ≠ 1 then 2 else 0
theorem ccheck_any (k : Int) (a : Option Addr) (n c : Nat) (w : World) :
    Calls Tryz.prog 58 #[.agg #[.int .i64 k, .slice a n c]] w fun e w' => e = .returned (errv (cellE k n)) ∧ Keep Non w w' := by
  by_cases h1 : k < 0 ∨ 3 < k
  · have e : errv (cellE k n) = .iface 45 (.int .i64 1) := by unfold cellE; rw [if_pos h1]; rfl
    rw [e]
    rcases h1 with h1 | h1
    all_goals
      go_enter Tryz.func58, Tryz.ntmps58
      go_wp2_with fail
      go_ret
      exact ⟨rfl, (Keep.refl _ _).alloc _⟩
  · have h1a : 0 ≤ k := by omega
    have h1b : k ≤ 3 := by omega
    by_cases h2 : 64 < n
    · have e : errv (cellE k n) = .iface 45 (.int .i64 3) := by unfold cellE; rw [if_neg h1, if_pos h2]; rfl
      rw [e]
      clear h1
      go_enter Tryz.func58, Tryz.ntmps58
      go_wp2_with fail
      go_ret
      exact ⟨rfl, (Keep.refl _ _).alloc _⟩
    · have h2a : n ≤ 64 := by omega
      by_cases h3 : 0 < n ∧ k ≠ 1
      · have e : errv (cellE k n) = .iface 45 (.int .i64 2) := by unfold cellE; rw [if_neg h1, if_neg h2, if_pos h3]; rfl
        rw [e]
        obtain ⟨h3a, h3b⟩ := h3
        clear h1 h2
        go_enter Tryz.func58, Tryz.ntmps58
        go_wp2_with fail
        go_ret
        exact ⟨rfl, (Keep.refl _ _).alloc _⟩
      · have e : errv (cellE k n) = .nilIface := by unfold cellE; rw [if_neg h1, if_neg h2, if_neg h3]; rfl
        rw [e]
        clear h1 h2
        by_cases h4 : 0 < n
        · obtain rfl : k = 1 := by rcases Classical.em (k = 1) with h | h; exact h; exact absurd ⟨h4, h⟩ h3
          clear h3
          go_enter Tryz.func58, Tryz.ntmps58
          go_wp2_with fail
          go_ret
          exact ⟨rfl, (Keep.refl _ _).alloc _⟩
        · obtain rfl : n = 0 := by omega
          clear h3
          go_enter Tryz.func58, Tryz.ntmps58
          go_wp2_with fail
          go_ret
          exact ⟨rfl, (Keep.refl _ _).alloc _⟩
def ClB (k : Int) (v : Value) : Obj := .cells #[.int .i64 k, v] 55 (0, 0)
section
variable {w : World} {p : Nat} {k : Int} {v : Value}
theorem cl0 (h : w.heap[p]? = some (ClB k v)) : w.cell? ⟨p, 0, none⟩ = some (.int .i64 k) := by simp [World.cell?, h, ClB]
theorem cl1 (h : w.heap[p]? = some (ClB k v)) : w.cell? ⟨p, 1, none⟩ = some v := by simp [World.cell?, h, ClB]
theorem clf (h : w.heap[p]? = some (ClB k v)) (i : Nat) : w.frozen? ⟨p, i, none⟩ = false := by simp [World.frozen?, h, ClB]
theorem cl_set0 (h : w.heap[p]? = some (ClB k v)) (j : Int) : (w.setCell ⟨p, 0, none⟩ (.int .i64 j)).heap[p]? = some (ClB j v) := blk_set h 0 _
theorem cl_set1 (h : w.heap[p]? = some (ClB k v)) (u : Value) : (w.setCell ⟨p, 1, none⟩ u).heap[p]? = some (ClB k u) := blk_set h 1 _
end
theorem ccopy_any (k : Int) (v : Value) (l : List UInt8) (w : World) (h : Bs w v l) (hl : l.length ≤ 100000000) :
    Calls Tryz.prog 212 #[.agg #[.int .i64 k, v]] w fun e w' => ∃ v', e = .returned (.agg #[.int .i64 k, v']) ∧ Keep Non w w' ∧ w'.ownsRow w.heap.size 5 1 v' l.length (l.map bv) := by
  have H := Lib.hid h
  obtain ⟨a, c, rfl, _⟩ := bs_cell h
  clear h
  have B1 : Hid (((w.alloc (ClB k (.slice a l.length c))).alloc (ClB 0 (.slice none 0 0))).heap[w.heap.size]? = some (ClB k (.slice a l.length c))) := Lib.hid (blk_alloc (blk_new _ _) _)
  have B2 : Hid (((w.alloc (ClB k (.slice a l.length c))).alloc (ClB 0 (.slice none 0 0))).heap[w.heap.size + 1]? = some (ClB 0 (.slice none 0 0))) := Lib.hid (by have := blk_new (w.alloc (ClB k (.slice a l.length c))) (ClB 0 (.slice none 0 0)); rw [World.size_alloc] at this; exact this)
  go_enter Tryz.func212, Tryz.ntmps212
  go_wp2_with fail
  go_region_with (go_at_call 120; refine (clone_new _ l ((w.alloc (ClB k (.slice a l.length c))).alloc (ClB 0 (.slice none 0 0))).drew (by exact Rd.keepNon H.out (((Keep.refl _ _).alloc _).alloc _).drew) (by omega)).mono ?_; rintro e w1 ⟨v1, rfl, k1, o1⟩; obtain ⟨a1, c1, rfl, _, _⟩ := ownsRow_form o1; have K1 := Lib.hid (keep_undrew k1); have O1 := Lib.hid o1; clear k1 o1; have b1 := K1.out.at B1.out (fun e => e); have b2 := K1.out.at B2.out (fun e => e); have BB2 := Lib.hid b2; have c0 := cl0 b1; have d0 := cl0 b2; have d1 := cl1 b2; have f0 := clf b2 0; have f1 := clf b2 1; have k0 := cl0 (cl_set0 b2 k); have k1 := cl1 (cl_set1 (cl_set0 b2 k) (.slice a1 l.length c1)); clear b1 b2)
  all_goals
    go_wp2_with fail
    refine bodyPost_ret (v := .agg #[.int .i64 k, .slice a1 l.length c1]) (by simp [results, Tryz.results212, go_sem, k0, k1]) rfl ?_
    refine ⟨_, rfl, ?_, ownsRow_low (ownsRow_keep (S := One (w.heap.size + 1)) O1.out (((Keep.refl _ _).setOne _ _).setOne _ _) (fun g e => by have := (O1.out.lt g e).1; simp at this; unfold One; omega)) (by simp; omega)⟩
    exact ((((Keep.refl Non w).alloc (ClB k (.slice a l.length c))).alloc (ClB 0 (.slice none 0 0))).trans1 K1.out).trans (T := One (w.heap.size + 1)) (((Keep.refl _ _).setOne _ _).setOne _ _) (fun _ _ h => h) (fun i hi h => by unfold One at h; omega)
abbrev Cl := Int × List UInt8
def rowLen (k : Int) : List Cl → Nat
  | [] => 0
  | x :: r => if x.1 = k then rowLen k r + 1 else 0
def rowN : List Cl → Nat
  | [] => 0
  | x :: r => if x.1 = 1 then 0 else rowLen x.1 (x :: r)
theorem rowLen_le (k : Int) : ∀ cl : List Cl, rowLen k cl ≤ cl.length
  | [] => Nat.le_refl _
  | x :: r => by
    have := rowLen_le k r
    unfold rowLen
    split
    · simpa using this
    · exact Nat.zero_le _
theorem rowN_le : ∀ cl : List Cl, rowN cl ≤ cl.length
  | [] => Nat.le_refl _
  | x :: r => by
    show (if x.1 = 1 then 0 else rowLen x.1 (x :: r)) ≤ _
    split
    · exact Nat.zero_le _
    · exact rowLen_le _ _
def alikeN : List UInt8 → List UInt8 → Nat
  | x :: r, y :: s => if x = y then alikeN r s + 1 else 0
  | _, _ => 0
theorem alikeN_le : ∀ a b : List UInt8, alikeN a b ≤ a.length ∧ alikeN a b ≤ b.length
  | [], b => by simp [alikeN]
  | x :: r, [] => by simp [alikeN]
  | x :: r, y :: s => by
    have := alikeN_le r s
    unfold alikeN
    split
    · simp; omega
    · simp
theorem alikeN_take : ∀ a b : List UInt8, a.take (alikeN a b) = b.take (alikeN a b)
  | [], b => by simp [alikeN]
  | x :: r, [] => by simp [alikeN]
  | x :: r, y :: s => by
    unfold alikeN
    split
    · rename_i h
      subst h
      simp [alikeN_take r s]
    · simp
def encRun : Nat → List UInt8 → List Cl → List UInt8
  | 0, _, _ => []
  | _ + 1, _, [] => []
  | f + 1, last, x :: r =>
    if 0 < rowN (x :: r) then vput (rowN (x :: r)) ++ vput x.1.toNat ++ encRun f last ((x :: r).drop (rowN (x :: r)))
    else vput 0 ++ vput x.2.length ++ vput (alikeN last x.2) ++ x.2.drop (alikeN last x.2) ++ encRun f x.2 r
def runB (cl : List Cl) : List UInt8 := vput cl.length ++ encRun cl.length [] cl
theorem encRun_fuel : ∀ (f g : Nat) (last : List UInt8) (cl : List Cl), cl.length ≤ f → cl.length ≤ g → encRun f last cl = encRun g last cl
  | 0, 0, _, _, _, _ => rfl
  | 0, g + 1, _, [], _, _ => rfl
  | f + 1, 0, _, [], _, _ => rfl
  | f + 1, g + 1, _, [], _, _ => rfl
  | f + 1, g + 1, last, x :: r, hf, hg => by
    have h1 : r.length ≤ f := by simpa using hf
    have h2 : r.length ≤ g := by simpa using hg
    unfold encRun
    split
    · rename_i h
      rw [encRun_fuel f g last _ (by rw [List.length_drop]; simp; omega) (by rw [List.length_drop]; simp; omega)]
    · rw [encRun_fuel f g x.2 r h1 h2]
  | 0, _, _, x :: r, h, _ => by simp at h
  | f + 1, 0, _, x :: r, _, h => by simp at h
def CsAt (w : World) (v : Value) (cl : List Cl) : Prop := ∃ a c, v = .slice a cl.length c ∧ cl.length ≤ c ∧ (∀ ad, a = some ad → ∃ g off, ad = ⟨g, off, none⟩) ∧ ∀ j (hj : j < cl.length), ∃ g off s, a = some ⟨g, off, none⟩ ∧ w.cell? ⟨g, off + j * 2, none⟩ = some (.int .i64 cl[j].1) ∧ w.cell? ⟨g, off + j * 2 + 1, none⟩ = some s ∧ Bs w s cl[j].2 ∧ okc s
theorem CsAt.keepNon {w w' : World} {v : Value} {cl : List Cl} (h : CsAt w v cl) (k : Keep Non w w') : CsAt w' v cl := by
  obtain ⟨a, c, rfl, hc, ha, hx⟩ := h
  refine ⟨a, c, rfl, hc, ha, fun j hj => ?_⟩
  obtain ⟨g, off, s, rfl, h1, h2, h3, h4⟩ := hx j hj
  have hg := World.block_lt_of_cell? _ _ h1
  exact ⟨g, off, s, rfl, (World.cell?_of_block (k.block g hg (fun e => e))).trans h1, (World.cell?_of_block (k.block g hg (fun e => e))).trans h2, h3.keepNon k, h4⟩
theorem rowLen_drop (k : Int) : ∀ (cl : List Cl) (j : Nat), (∀ i (h : i < cl.length), i < j → cl[i].1 = k) → j ≤ cl.length → rowLen k cl = j + rowLen k (cl.drop j)
  | cl, 0, _, _ => by simp
  | [], j + 1, _, h => by simp at h
  | x :: r, j + 1, h, hj => by
    have h0 : x.1 = k := h 0 (by simp) (by omega)
    have := rowLen_drop k r j (fun i hi hij => h (i + 1) (by simpa using hi) (by omega)) (by simpa using hj)
    rw [List.drop_succ_cons]
    show (if x.1 = k then rowLen k r + 1 else 0) = _
    rw [if_pos h0, this]
    omega
theorem alikeN_drop : ∀ (a b : List UInt8) (j : Nat), a.take j = b.take j → j ≤ a.length → j ≤ b.length → alikeN a b = j + alikeN (a.drop j) (b.drop j)
  | a, b, 0, _, _, _ => by simp
  | [], b, j + 1, _, h, _ => by simp at h
  | x :: r, [], j + 1, _, _, h => by simp at h
  | x :: r, y :: s, j + 1, h, ha, hb => by
    rw [List.take_succ_cons, List.take_succ_cons] at h
    injection h with h1 h2
    have := alikeN_drop r s j h2 (by simpa using ha) (by simpa using hb)
    rw [List.drop_succ_cons, List.drop_succ_cons]
    show (if x = y then alikeN r s + 1 else 0) = _
    rw [if_pos h1, this]
    omega
theorem rowN_stop (cl : List Cl) (j : Nat) (hj : j ≤ cl.length) (R : ∀ i (h : i < cl.length), i < j → cl[i].1 ≠ 1 ∧ ∀ h0 : 0 < cl.length, cl[i].1 = cl[0].1) (hs : ∀ h : j < cl.length, cl[j].1 = 1 ∨ cl[j].1 ≠ cl[0].1) : rowN cl = j := by
  cases cl with
  | nil => have : j = 0 := by simpa using hj
           subst this; rfl
  | cons x r =>
    show (if x.1 = 1 then 0 else rowLen x.1 (x :: r)) = j
    by_cases h1 : x.1 = 1
    · rw [if_pos h1]
      cases j with
      | zero => rfl
      | succ j => exact absurd h1 (R 0 (by simp) (by omega)).1
    · rw [if_neg h1, rowLen_drop x.1 (x :: r) j (fun i h hi => (R i h hi).2 (by simp)) hj]
      rcases Nat.lt_or_ge j (x :: r).length with h | h
      · rw [List.drop_eq_getElem_cons h]
        show j + (if (x :: r)[j].1 = x.1 then _ else 0) = j
        rw [if_neg (fun e => by rcases hs h with q | q; exact h1 (e.symm.trans q); exact q e)]
        rfl
      · rw [List.drop_eq_nil_of_le h]
        rfl
theorem row_any (v : Value) (cl : List Cl) (w : World) (h : CsAt w v cl) (hl : cl.length ≤ 1000000) :
    Calls Tryz.prog 348 #[v] w fun e w' => e = .returned (.int .i64 (rowN cl)) ∧ Keep Non w w' := by
  have H := Lib.hid h
  obtain ⟨a, c, rfl, hc, ha, hx⟩ := h
  clear hx
  go_enter Tryz.func348, Tryz.ntmps348
  go_wp2_with fail
  go_loopw [3] (fun i wr => ∃ j : Nat, j ≤ cl.length ∧ i = .int .i64 j ∧ Keep Non w wr ∧ (∀ i (h : i < cl.length), i < j → cl[i].1 ≠ 1 ∧ ∀ h0 : 0 < cl.length, cl[i].1 = cl[0].1)) (fun i _ => cl.length - (intOf i).toNat)
  case atStart => exact ⟨0, by omega, rfl, Keep.refl _ _, fun i h hi => by omega⟩
  case round =>
    obtain ⟨j, hj, rfl, hk, hr⟩ := hrel
    have K := Lib.hid hk
    have R := Lib.hid hr
    clear hk hr
    by_cases hlt : j < cl.length
    · have hlj : (j : Int) < (cl.length : Int) := by omega
      obtain ⟨a1, c1, e1, q1, q2, hx⟩ := H.out.keepNon K.out
      obtain ⟨g, off, s, rfl, d1, _⟩ := hx j hlt
      obtain ⟨g', off', s', e2, d2, _⟩ := hx 0 (by omega)
      injection e1 with e1 e3 e4
      subst e1
      subst e4
      injection e2 with e2
      injection e2 with e2 e5
      subst e2
      subst e5
      clear hx q1 q2 e3
      rw [Nat.zero_mul, Nat.add_zero] at d2
      generalize hx1 : cl[j].1 = x at d1
      generalize hy1 : cl[0].1 = y at d2
      have HX := Lib.hid hx1
      have HY := Lib.hid hy1
      clear hx1 hy1
      by_cases h1 : x = 1
      · go_wp2_with fail
        go_quiet (fail)
        go_wp2_with fail
        go_ret
        exact ⟨by rw [rowN_stop cl j (by omega) R.out (fun h => .inl (HX.out.trans h1))]; rfl, K.out.drewN _⟩
      · have g1 : (x != 1) = true := by simpa using h1
        by_cases h2 : x = y
        · subst h2
          go_wp2_with fail
          go_quiet (fail)
          go_wp2_with fail
          exact ⟨⟨j + 1, by omega, by first | rfl | go_num, K.out.drewN _, fun i h hi => by
            rcases Nat.lt_or_ge i j with h3 | h3
            · exact R.out i h h3
            · obtain rfl : i = j := by omega
              exact ⟨fun e => h1 (HX.out.symm.trans e), fun h0 => HX.out.trans HY.out.symm⟩⟩, by simp [intOf]; omega⟩
        · have g2 : (x == y) = false := by simpa using h2
          go_wp2_with fail
          go_quiet (fail)
          go_wp2_with fail
          go_ret
          exact ⟨by rw [rowN_stop cl j (by omega) R.out (fun h => .inr (fun e => h2 (HX.out.symm.trans (e.trans HY.out))))]; rfl, K.out.drewN _⟩
    · obtain rfl : j = cl.length := by omega
      go_wp2_with fail
      go_quiet (fail)
      go_wp2_with fail
      go_ret
      exact ⟨by rw [rowN_stop cl cl.length (Nat.le_refl _) R.out (fun h => absurd h (Nat.lt_irrefl _))]; rfl, K.out.drewN _⟩
theorem alikeN_stop (a b : List UInt8) (j : Nat) (ha : j ≤ a.length) (hb : j ≤ b.length) (R : a.take j = b.take j) (hs : ∀ (h : j < a.length) (h' : j < b.length), a[j] ≠ b[j]) : alikeN a b = j := by
  rw [alikeN_drop a b j R ha hb]
  rcases Nat.lt_or_ge j a.length with h | h
  · rcases Nat.lt_or_ge j b.length with h' | h'
    · rw [List.drop_eq_getElem_cons h, List.drop_eq_getElem_cons h']
      show j + (if a[j] = b[j] then _ else 0) = j
      rw [if_neg (hs h h')]
      rfl
    · rw [List.drop_eq_nil_of_le h']
      cases a.drop j <;> rfl
  · rw [List.drop_eq_nil_of_le h]
    rfl
theorem alike_any (v v' : Value) (l m : List UInt8) (w : World) (h : Bs w v l) (h' : Bs w v' m) (hl : l.length ≤ 100000000) (hm : m.length ≤ 100000000) :
    Calls Tryz.prog 349 #[v, v'] w fun e w' => e = .returned (.int .i64 (alikeN l m)) ∧ Keep Non w w' := by
  have H := Lib.hid h
  have H' := Lib.hid h'
  obtain ⟨a, c, rfl, q0⟩ := bs_cell h
  obtain ⟨a', c', rfl, q1⟩ := bs_cell h'
  clear h h' q0 q1
  go_enter Tryz.func349, Tryz.ntmps349
  go_wp2_with fail
  go_loopw [5] (fun i wr => ∃ j : Nat, j ≤ l.length ∧ j ≤ m.length ∧ i = .int .i64 j ∧ l.take j = m.take j ∧ Keep Non w wr) (fun i _ => l.length - (intOf i).toNat)
  case atStart => exact ⟨0, by omega, by omega, rfl, rfl, Keep.refl _ _⟩
  case round =>
    obtain ⟨j, hj, hj2, rfl, he, hk⟩ := hrel
    have HE := Lib.hid he
    have K := Lib.hid hk
    clear he hk
    by_cases hlt : j < l.length ∧ j < m.length
    · obtain ⟨hlt, hlt'⟩ := hlt
      obtain ⟨a1, c1, e1, q⟩ := bs_cell (H.out.keepNon K.out)
      obtain ⟨g, off, rfl, hcell⟩ := q j hlt
      injection e1 with e1 e5 e3
      subst e1
      subst e3
      obtain ⟨a2, c2, e2, q'⟩ := bs_cell (H'.out.keepNon K.out)
      obtain ⟨g2, off2, rfl, hcell2⟩ := q' j hlt'
      injection e2 with e2 e6 e4
      subst e2
      subst e4
      clear e5 e6
      have hlj : (j : Int) < (l.length : Int) := by omega
      have hlj2 : (j : Int) < (m.length : Int) := by omega
      have HQ : Hid (l[j].toNat = m[j].toNat ↔ l.take (j + 1) = m.take (j + 1)) := Lib.hid (take_next hlt hlt' HE.out)
      have HN : Hid (l[j].toNat ≠ m[j].toNat → alikeN l m = j) := Lib.hid (fun hne => alikeN_stop l m j (by omega) (by omega) HE.out (fun _ _ e => hne (by rw [e])))
      have hmin : (j : Int) < min (l.length : Int) (m.length : Int) := by omega
      clear q q'
      generalize l[j].toNat = x at hcell HQ HN
      generalize m[j].toNat = y at hcell2 HQ HN
      by_cases hxy : x = y
      · subst hxy
        have HQ2 := Lib.hid (HQ.out.1 rfl)
        clear HQ HN
        rcases Int.lt_or_le (m.length : Int) (l.length : Int) with hml | hml
        all_goals
          go_wp2_with fail
          go_quiet (fail)
          go_wp2_with fail
          exact ⟨⟨j + 1, by omega, by omega, by first | rfl | go_num, HQ2.out, K.out.drewN _⟩, by simp [intOf]; omega⟩
      · have hne : (((x : Nat) : Int) == (y : Int)) = false := by simp; omega
        have HN2 := Lib.hid (HN.out hxy)
        clear HQ HN
        rcases Int.lt_or_le (m.length : Int) (l.length : Int) with hml | hml
        all_goals
          go_wp2_with fail
          go_quiet (fail)
          go_wp2_with fail
          go_ret
          exact ⟨by rw [HN2.out]; rfl, K.out.drewN _⟩
    · have HN : Hid (alikeN l m = j) := Lib.hid (alikeN_stop l m j hj hj2 HE.out (fun h h' => absurd ⟨h, h'⟩ hlt))
      have hmin : ¬ (j : Int) < min (l.length : Int) (m.length : Int) := by omega
      clear hlt
      rcases Int.lt_or_le (m.length : Int) (l.length : Int) with hml | hml
      · have hq : ¬ j < m.length := by omega
        clear hmin
        go_wp2_with fail
        go_quiet (fail)
        go_wp2_with fail
        go_ret
        exact ⟨by rw [HN.out]; rfl, K.out.drewN _⟩
      · have hq : ¬ j < l.length := by omega
        clear hmin
        go_wp2_with fail
        go_quiet (fail)
        go_wp2_with fail
        go_ret
        exact ⟨by rw [HN.out]; rfl, K.out.drewN _⟩
def NewR (w w' : World) (v' : Value) (t : List UInt8) : Prop := Bs w' v' t ∧ okc v' ∧ (∀ g, v'.ownBlock = some g → w.heap.size ≤ g ∧ g < w'.heap.size)
theorem fone_ok (v : Value) (t : List UInt8) (w : World) (h : Bs w v (frameB t)) (hc : okc v) (hl : t.length ≤ 65536) (hv : ∀ g, v.ownBlock = some g → g < w.heap.size) :
    Calls Tryz.prog 67 #[v] w fun e w' => Keep Non w w' ∧ ∃ v', e = .returned (.tuple #[v', .nilIface]) ∧ NewR w w' v' t := by
  have hlen : (vtext t ++ fourB (crcI (vtext t))).length = (frameB t).length := rfl
  have C : Calls Tryz.prog 123 #[v] w fun e w' => Keep Non w w' ∧ ∃ v', e = .returned (.tuple #[v', .int .i64 (frameB t).length, .nilIface]) ∧ NewR w w' v' t := by
    refine (ftake_any v t _ w h hc (fourB_len _) hl hv).mono ?_
    rw [hlen]
    rintro e w1 ⟨k1, h1⟩
    exact ⟨k1, (h1.resolve_right (fun q => q.1 rfl)).2⟩
  have HC := Lib.hid C
  obtain ⟨a, c, rfl, _⟩ := h
  rw [List.length_map] at HC ⊢
  have hl2 : (frameB t).length ≤ 100000 := by
    have h3 : (vput t.length).length ≤ 3 := vput_three (by omega)
    rw [frameB_len]; omega
  clear hc hv hlen C
  generalize (frameB t).length = q at HC hl2 ⊢
  go_enter Tryz.func67, Tryz.ntmps67
  go_wp2_with (go_at_call 123; refine HC.out.mono ?_; rintro e w1 ⟨k1, v1, rfl, r1⟩; have K1 := Lib.hid k1; have R1 := Lib.hid r1; clear k1 r1)
  go_ret2
  exact ⟨K1.out, _, rfl, R1.out⟩
end Go.Proofs.YtobjlgfjfpmceaaGreatDoor
namespace Go.Proofs.YtobjlgfjfpmceaaGreatDoor
open Go.RowKit Go.Maps
def ActB (k e a : Nat) (dv : Value) : Obj := .cells #[.int .i64 k, .int .i64 e, .int .i64 a, dv] 190 (0, 0)
section
variable {w : World} {b k e a : Nat} {dv : Value}
theorem ac_0 (h : w.heap[b]? = some (ActB k e a dv)) : w.cell? ⟨b, 0, none⟩ = some (.int .i64 k) := by simp [World.cell?, h, ActB]
theorem ac_1 (h : w.heap[b]? = some (ActB k e a dv)) : w.cell? ⟨b, 1, none⟩ = some (.int .i64 e) := by simp [World.cell?, h, ActB]
theorem ac_2 (h : w.heap[b]? = some (ActB k e a dv)) : w.cell? ⟨b, 2, none⟩ = some (.int .i64 a) := by simp [World.cell?, h, ActB]
theorem ac_3 (h : w.heap[b]? = some (ActB k e a dv)) : w.cell? ⟨b, 3, none⟩ = some dv := by simp [World.cell?, h, ActB]
end
def actT (k e a : Nat) (d : List UInt8) : List UInt8 := vputs [k, e] ++ (if k = 1 then [] else vputs [a]) ++ (if k = 2 then vtext d else [])
def actBy (k e a : Nat) (d : List UInt8) : List UInt8 := frameB (actT k e a d)
theorem recin_yes (x most : Int) (w : World) (h1 : 0 ≤ x) (h2 : x ≤ most) :
    Calls Tryz.prog 282 #[.int .i64 x, .int .i64 most] w fun e w' => e = .returned (.bool true) ∧ w' = w := by
  go_enter Tryz.func282, Tryz.ntmps282
  go_wp2_with fail
  go_ret
  exact ⟨rfl, rfl⟩
theorem rechigh_2 (w : World) : Calls Tryz.prog 283 #[.int .i64 2] w fun e w' => e = .returned (.int .i64 1048575) ∧ w' = w := by
  go_enter Tryz.func283, Tryz.ntmps283
  go_wp2_with fail
  go_ret
  exact ⟨rfl, rfl⟩
theorem rechigh_3 (w : World) : Calls Tryz.prog 283 #[.int .i64 3] w fun e w' => e = .returned (.int .i64 1048575) ∧ w' = w := by
  go_enter Tryz.func283, Tryz.ntmps283
  go_wp2_with fail
  go_ret
  exact ⟨rfl, rfl⟩
theorem rechigh_lo (k : Int) (w : World) (h2 : (k == 2) = false) (h3 : (k == 3) = false) : Calls Tryz.prog 283 #[.int .i64 k] w fun e w' => e = .returned (.int .i64 1048576) ∧ w' = w := by
  go_enter Tryz.func283, Tryz.ntmps283
  go_wp2_with fail
  go_ret
  exact ⟨rfl, rfl⟩
theorem reccheck_seal (e : Nat) (w : World) (he : e ≤ 1099511627776) :
    Calls Tryz.prog 231 #[.agg #[.int .i64 1, .int .i64 e, .int .i64 0, .slice none 0 0]] w fun r w' => r = .returned .nilIface ∧ Keep Non w w' := by
  go_enter Tryz.func231, Tryz.ntmps231
  go_wp2_with fail
  go_region_law (go_simp; first
    | (go_at_call 282; refine (recin_yes _ _ _ (by omega) (by omega)).mono ?_; rintro r w1 ⟨rfl, e1⟩; subst e1)
    | (go_at_call 283; refine (rechigh_lo _ _ (by decide) (by decide)).mono ?_; rintro r w1 ⟨rfl, e1⟩; subst e1))
  all_goals go_wp2_with fail
  all_goals
    go_ret
    first | exact ⟨rfl, (Keep.refl _ _).alloc _⟩ | exact ⟨rfl, ((Keep.refl _ _).alloc _).drew⟩ | exact ⟨rfl, ((Keep.refl _ _).alloc _).drew.drew⟩
theorem reccheck_write (e a n c : Nat) (pa : Option Addr) (w : World) (he : e ≤ 1099511627776) (ha : a ≤ 1048575) (hn : n ≤ 64) :
    Calls Tryz.prog 231 #[.agg #[.int .i64 2, .int .i64 e, .int .i64 a, .slice pa n c]] w fun r w' => r = .returned .nilIface ∧ Keep Non w w' := by
  go_enter Tryz.func231, Tryz.ntmps231
  go_wp2_with fail
  go_region_law (go_simp; first
    | (go_at_call 282; refine (recin_yes _ _ _ (by omega) (by omega)).mono ?_; rintro r w1 ⟨rfl, e1⟩; subst e1)
    | (go_at_call 283; refine (rechigh_2 _).mono ?_; rintro r w1 ⟨rfl, e1⟩; subst e1))
  all_goals go_wp2_with fail
  all_goals
    go_ret
    first | exact ⟨rfl, (Keep.refl _ _).alloc _⟩ | exact ⟨rfl, ((Keep.refl _ _).alloc _).drew⟩ | exact ⟨rfl, ((Keep.refl _ _).alloc _).drew.drew⟩
theorem reccheck_fill (e a : Nat) (w : World) (he : e ≤ 1099511627776) (ha : a ≤ 1048575) :
    Calls Tryz.prog 231 #[.agg #[.int .i64 3, .int .i64 e, .int .i64 a, .slice none 0 0]] w fun r w' => r = .returned .nilIface ∧ Keep Non w w' := by
  go_enter Tryz.func231, Tryz.ntmps231
  go_wp2_with fail
  go_region_law (go_simp; first
    | (go_at_call 282; refine (recin_yes _ _ _ (by omega) (by omega)).mono ?_; rintro r w1 ⟨rfl, e1⟩; subst e1)
    | (go_at_call 283; refine (rechigh_3 _).mono ?_; rintro r w1 ⟨rfl, e1⟩; subst e1))
  all_goals go_wp2_with fail
  all_goals
    go_ret
    first | exact ⟨rfl, (Keep.refl _ _).alloc _⟩ | exact ⟨rfl, ((Keep.refl _ _).alloc _).drew⟩ | exact ⟨rfl, ((Keep.refl _ _).alloc _).drew.drew⟩
theorem reccheck_trim (e a : Nat) (w : World) (he : e ≤ 1099511627776) (ha : a ≤ 1048576) :
    Calls Tryz.prog 231 #[.agg #[.int .i64 4, .int .i64 e, .int .i64 a, .slice none 0 0]] w fun r w' => r = .returned .nilIface ∧ Keep Non w w' := by
  go_enter Tryz.func231, Tryz.ntmps231
  go_wp2_with fail
  go_region_law (go_simp; first
    | (go_at_call 282; refine (recin_yes _ _ _ (by omega) (by omega)).mono ?_; rintro r w1 ⟨rfl, e1⟩; subst e1)
    | (go_at_call 283; refine (rechigh_lo _ _ (by decide) (by decide)).mono ?_; rintro r w1 ⟨rfl, e1⟩; subst e1))
  all_goals go_wp2_with fail
  all_goals
    go_ret
    first | exact ⟨rfl, (Keep.refl _ _).alloc _⟩ | exact ⟨rfl, ((Keep.refl _ _).alloc _).drew⟩ | exact ⟨rfl, ((Keep.refl _ _).alloc _).drew.drew⟩
theorem reccheck_cut (e a : Nat) (w : World) (he : e ≤ 1099511627776) (ha : a ≤ 1048576) :
    Calls Tryz.prog 231 #[.agg #[.int .i64 5, .int .i64 e, .int .i64 a, .slice none 0 0]] w fun r w' => r = .returned .nilIface ∧ Keep Non w w' := by
  go_enter Tryz.func231, Tryz.ntmps231
  go_wp2_with fail
  go_region_law (go_simp; first
    | (go_at_call 282; refine (recin_yes _ _ _ (by omega) (by omega)).mono ?_; rintro r w1 ⟨rfl, e1⟩; subst e1)
    | (go_at_call 283; refine (rechigh_lo _ _ (by decide) (by decide)).mono ?_; rintro r w1 ⟨rfl, e1⟩; subst e1))
  all_goals go_wp2_with fail
  all_goals
    go_ret
    first | exact ⟨rfl, (Keep.refl _ _).alloc _⟩ | exact ⟨rfl, ((Keep.refl _ _).alloc _).drew⟩ | exact ⟨rfl, ((Keep.refl _ _).alloc _).drew.drew⟩
end Go.Proofs.YtobjlgfjfpmceaaGreatDoor
