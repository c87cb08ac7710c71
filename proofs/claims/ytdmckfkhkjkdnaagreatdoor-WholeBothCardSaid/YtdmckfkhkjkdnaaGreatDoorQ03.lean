/- varint.Take, where the bytes begin with a number: walked. · A reader of bytes: its calls, where all goes well. -/
import Derived.Laws.BitsAllLaws
import Derived.Deep.RegionWith
import Derived.Test.YtdmckfkhkjkdnaaGreatDoorQ01
set_option linter.unusedVariables false
set_option maxRecDepth 100000
set_option maxHeartbeats 16000000
namespace Go.Proofs.YtdmckfkhkjkdnaaGreatDoor
open Go.RowKit
def okc : Value → Prop
  | .slice a n c => n ≤ c ∧ ∀ ad, a = some ad → ∃ g off, ad = ⟨g, off, none⟩
  | _ => True
theorem okc_own {w : World} {base : Nat} {e : TypeId} {size : Nat} {v : Value} {n : Nat} {xs : List Value} (h : w.ownsRow base e size v n xs) : okc v := by
  rcases h.2 with ⟨rfl, rfl⟩ | ⟨g, cap, cur, rfl, _, _, h1, _⟩
  · exact ⟨Nat.zero_le _, fun ad e => by cases e⟩
  · exact ⟨h1, fun ad e => by injection e with e; subst e; exact ⟨_, _, rfl⟩⟩
theorem andNot128 (m : Nat) (h : m < 128) : bits .andNot .u8 ((m : Nat) : Int) 128 = ((m : Nat) : Int) := by
  have h1 : ∀ x : Fin 128, bits .andNot .u8 ((x.val : Nat) : Int) 128 = ((x.val : Nat) : Int) := by decide +kernel
  exact h1 ⟨m, h⟩
theorem andNot128' (m : Nat) (h : m < 128) : bits .andNot .u8 (((m : Nat) : Int) + 128) 128 = ((m : Nat) : Int) := by
  have h1 : ∀ x : Fin 128, bits .andNot .u8 (((x.val : Nat) : Int) + 128) 128 = ((x.val : Nat) : Int) := by decide +kernel
  exact h1 ⟨m, h⟩
theorem wrap64 {n : Nat} (h : n < 2 ^ 64) : IntKind.u64.wrap (n : Int) = (n : Int) := by
  have e : (2 ^ IntKind.u64.bits : Int) = 18446744073709551616 := rfl
  unfold IntKind.wrap
  simp only [e]
  rw [if_neg (by simp [IntKind.signed])]
  omega
theorem or_wrap {acc m k n : Nat} (hn : n < 2 ^ 63) (hv : acc + m * 128 ^ k ≤ n) (ha : acc < 128 ^ k) : bits .or .u64 (acc : Int) (IntKind.u64.wrap ((m : Int) * 2 ^ (7 * k))) = ((acc + m * 128 ^ k : Nat) : Int) := by
  have e : (m : Int) * 2 ^ (7 * k) = ((m * 128 ^ k : Nat) : Int) := by
    rw [show (128 : Nat) ^ k = 2 ^ (7 * k) by rw [Nat.pow_mul]]
    simp
  have e2 : m * 128 ^ k = m <<< (7 * k) := by rw [Nat.shiftLeft_eq, Nat.pow_mul]
  generalize hq : m * 128 ^ k = q at hv e e2
  rw [e, wrap64 (by omega), u64_or_nat acc q (by omega) (by omega), e2, or_add (by rw [Nat.pow_mul]; exact ha), ← e2]
  rw [← hq]
theorem take_ok (v : Value) (n : Nat) (r : List UInt8) (w : World) (h : Bs w v (vput n ++ r)) (hc : okc v) (hn : n < 2 ^ 63) :
    Calls Tryz.prog 178 #[v] w fun e w' => e = .returned (.tuple #[.int .u64 n, .int .i64 (vput n).length, .nilIface]) ∧ w' = w := by
  obtain ⟨a, c, rfl, hx⟩ := h
  obtain ⟨g, off, rfl, hcell⟩ := hx (by intro e; have h0 := vput_pos n; rw [List.map_eq_nil_iff, List.append_eq_nil_iff] at e; rw [e.1] at h0; exact absurd h0 (by simp))
  rw [List.length_map]
  replace hc := hc.1
  simp only [List.length_map] at hc
  have h9 := vput_nine hn
  have HL := Lib.hid hcell
  generalize hq : (vput n ++ r).length = q at hc ⊢
  have hq1 : (vput n).length ≤ q := by rw [← hq]; simp
  clear hcell hx
  go_enter Tryz.func178, Tryz.ntmps178
  go_wp2_with fail
  all_goals
    go_loopw [5, 15] (fun o i wr => ∃ (m acc : Nat) (pre : List UInt8), i = .int .i64 pre.length ∧ o = .int .u64 acc ∧ wr = w ∧ pre ++ vput m = vput n ∧ n = acc + m * 128 ^ pre.length ∧ acc < 128 ^ pre.length ∧ (pre.length = 0 ∨ 0 < m)) (fun _ i _ => q - (intOf i).toNat)
    case atStart => exact ⟨n, 0, [], rfl, rfl, rfl, rfl, by simp, by simp, .inl rfl⟩
    case round =>
      obtain ⟨m, acc, pre, rfl, rfl, rfl, he, hv, ha, hz⟩ := hrel
      have hl : pre.length < (vput n).length := by rw [← he]; have := vput_pos m; simp; omega
      have hle : (vput n ++ r) = pre ++ (vput m ++ r) := by rw [← he]; simp
      by_cases hm : m < 128
      · have hcc : wr.cell? ⟨g, off + pre.length, none⟩ = some (.int .u8 (m : Int)) := HL.out _ _ (by rw [hle, vput_small hm]; simp [bv, Nat.mod_eq_of_lt (show m < 256 by omega)])
        have h1 := andNot128 m hm
        have HN : Hid (pre.length + 1 = (vput n).length) := Lib.hid (by rw [← he, vput_small hm]; simp)
        have HV := Lib.hid hv
        have ho := or_wrap hn (by omega : acc + m * 128 ^ pre.length ≤ n) ha
        rw [← hv] at ho
        clear hv
        go_wp2_with fail
        · go_ret3
          refine ⟨?_, rfl⟩
          show Ending.returned (.tuple #[.int .u64 (n : Int), .int .i64 ((pre.length : Int) + 1), .nilIface]) = _
          rw [← HN.out]
          rfl
        · go_ret3
          refine ⟨?_, rfl⟩
          show Ending.returned (.tuple #[.int .u64 (n : Int), .int .i64 ((pre.length : Int) + 1), .nilIface]) = _
          rw [← HN.out]
          rfl
      · have hr128 : 128 ≤ m := by omega
        have hcc : wr.cell? ⟨g, off + pre.length, none⟩ = some (.int .u8 ((m % 128 + 128 : Nat) : Int)) := HL.out _ _ (by rw [hle, vput_great hr128]; simp [bv, Nat.mod_eq_of_lt (show m % 128 + 128 < 256 by omega)])
        have hms : m % 128 < 128 := Nat.mod_lt _ (by decide)
        have h1 := andNot128' (m % 128) hms
        have hp : (m % 128) * 128 ^ pre.length + (m / 128) * 128 ^ (pre.length + 1) = m * 128 ^ pre.length := by
          have hd := Nat.div_add_mod m 128
          rw [Nat.pow_succ]
          generalize 128 ^ pre.length = z
          conv => rhs; rw [← hd]
          rw [Nat.add_mul, Nat.add_comm, Nat.mul_comm z 128, ← Nat.mul_assoc, Nat.mul_comm 128 (m / 128)]
        have ho := or_wrap (m := m % 128) hn (by omega : acc + m % 128 * 128 ^ pre.length ≤ n) ha
        have hl9 : pre.length < 9 := by omega
        have hnx : acc + m % 128 * 128 ^ pre.length < 128 ^ (pre.length + 1) := by
          rw [Nat.pow_succ]
          have := Nat.mul_le_mul_right (128 ^ pre.length) (show m % 128 ≤ 127 by omega)
          omega
        have he2 : pre ++ [UInt8.ofNat (m % 128 + 128)] ++ vput (m / 128) = vput n := by rw [List.append_assoc, List.singleton_append, ← vput_great hr128, he]
        have hv2 : n = acc + m % 128 * 128 ^ pre.length + m / 128 * 128 ^ (pre.length + 1) := by omega
        have hz2 : 0 < m / 128 := by omega
        have H2 := Lib.hid (And.intro hnx (And.intro he2 (And.intro hv2 hz2)))
        clear hnx he2 hv2 hz2 hp hv he hle hz
        generalize hw : acc + m % 128 * 128 ^ pre.length = acc2 at ho H2
        generalize hy : m % 128 = y at hcc h1 ho hms
        go_wp2_with fail
        obtain ⟨k1, k2, k3, k4⟩ := H2.out
        exact ⟨⟨m / 128, acc2, pre ++ [UInt8.ofNat (y + 128)], by simp, by simp, by first | trivial | rfl, by rw [← hy]; exact k2, by simpa using k3, by simpa using k1, .inr k4⟩, by simp [intOf]; omega⟩
def RdrB (v : Value) : Obj := .cells #[v, .nilIface] 277 (0, 0)
def RdAt (F : Nat → Prop) (w : World) (p : Nat) (l : List UInt8) : Prop := ∃ v, w.heap[p]? = some (RdrB v) ∧ Bs w v l ∧ okc v ∧ F p ∧ ∀ g, v.ownBlock = some g → g ≠ p ∧ F g
section
variable {F S : Nat → Prop} {w w' : World} {p : Nat} {l : List UInt8} {v : Value}
theorem rd0 (h : w.heap[p]? = some (RdrB v)) : w.cell? ⟨p, 0, none⟩ = some v := by simp [World.cell?, h, RdrB]
theorem rd1 (h : w.heap[p]? = some (RdrB v)) : w.cell? ⟨p, 1, none⟩ = some .nilIface := by simp [World.cell?, h, RdrB]
theorem rdf (h : w.heap[p]? = some (RdrB v)) (i : Nat) : w.frozen? ⟨p, i, none⟩ = false := by simp [World.frozen?, h, RdrB]
theorem RdAt.keep (h : RdAt F w p l) (k : Keep S w w') (hn : ∀ g, F g → ¬ S g) : RdAt F w' p l := by
  obtain ⟨v, h1, h2, h3, h4, h5⟩ := h
  exact ⟨v, k.at h1 (hn p h4), h2.keep k (fun g e => hn g (h5 g e).2), h3, h4, h5⟩
theorem RdAt.mono {G : Nat → Prop} (h : RdAt F w p l) (hs : ∀ g, F g → G g) : RdAt G w p l := by
  obtain ⟨v, h1, h2, h3, h4, h5⟩ := h
  exact ⟨v, h1, h2, h3, hs p h4, fun g e => ⟨(h5 g e).1, hs g (h5 g e).2⟩⟩
end
theorem rnew_ok (F : Nat → Prop) (v : Value) (l : List UInt8) (w : World) (h : Bs w v l) (hc : okc v) (hF : ∀ g, v.ownBlock = some g → g < w.heap.size ∧ F g) :
    Calls Tryz.prog 107 #[v] w fun e w' => e = .returned (.pointer (some ⟨w.heap.size, 0, none⟩)) ∧ Keep Non w w' ∧ RdAt (fun g => F g ∨ g = w.heap.size) w' w.heap.size l := by
  have H := Lib.hid h
  have HF := Lib.hid hF
  have HC := Lib.hid hc
  obtain ⟨a, c, rfl, _⟩ := h
  rw [List.length_map] at H HF HC ⊢
  clear hF hc
  go_enter Tryz.func107, Tryz.ntmps107
  go_wp2_with fail
  go_ret
  have k : Keep Non w (w.alloc (RdrB (.slice a l.length c))) := (Keep.refl _ _).alloc _
  exact ⟨rfl, k, _, blk_new _ _, H.out.keepNon k, HC.out, .inr rfl, fun g e => ⟨by have := (HF.out g e).1; omega, .inl (HF.out g e).2⟩⟩
theorem going_ok (F : Nat → Prop) (p : Nat) (l : List UInt8) (w : World) (h : RdAt F w p l) :
    Calls Tryz.prog 177 #[.pointer (some ⟨p, 0, none⟩)] w fun e w' => e = .returned (.bool true) ∧ w' = w := by
  obtain ⟨v, h1, _⟩ := h
  have c1 := rd1 h1
  clear h1
  go_enter Tryz.func177, Tryz.ntmps177
  go_wp2_with fail
  go_ret
  exact ⟨rfl, rfl⟩
theorem rerr_ok (F : Nat → Prop) (p : Nat) (l : List UInt8) (w : World) (h : RdAt F w p l) :
    Calls Tryz.prog 179 #[.pointer (some ⟨p, 0, none⟩)] w fun e w' => e = .returned .nilIface ∧ w' = w := by
  obtain ⟨v, h1, _⟩ := h
  have c1 := rd1 h1
  clear h1
  go_enter Tryz.func179, Tryz.ntmps179
  go_wp2_with fail
  go_ret
  exact ⟨rfl, rfl⟩
theorem rest_rd {w : World} {g off : Nat} {n c : Nat} {t r : List UInt8} (h : Bs w (.slice (some ⟨g, off, none⟩) n c) (t ++ r)) : Bs w (.slice (some ⟨g, off + t.length, none⟩) (n - t.length) (c - t.length)) r := by
  obtain ⟨a, cap, e, hx⟩ := h
  injection e with e1 e2 e3
  subst e2
  refine ⟨_, c - t.length, by congr 1; simp, fun hne => ⟨g, off + t.length, rfl, fun j u hu => ?_⟩⟩
  obtain ⟨g', off', e4, hc⟩ := hx (by intro e; apply hne; simp at e; simp [e.2])
  rw [← e1] at e4
  injection e4 with e4
  injection e4 with e4 e5
  subst e4
  subst e5
  rw [Nat.add_assoc]
  exact hc (t.length + j) u (by rw [List.map_append, List.getElem?_append_right (by simp)]; simpa using hu)
theorem rest_nil {w : World} {g off : Nat} {n c : Nat} (c' : Nat) {t r : List UInt8} (h : Bs w (.slice (some ⟨g, off, none⟩) n c) (t ++ r)) (hn : n ≤ c) (hc : c = t.length) : Bs w (.slice (some ⟨g, off, none⟩) (n - t.length) c') r := by
  obtain ⟨a, cap, e, hx⟩ := h
  injection e with e1 e2 e3
  have hr : r = [] := by
    rw [List.length_map, List.length_append] at e2
    cases r with
    | nil => rfl
    | cons x r => simp at e2; omega
  subst hr
  exact ⟨_, c', by congr 1; simp at e2 ⊢; omega, fun hne => (hne rfl).elim⟩
theorem rd_set {F : Nat → Prop} {w : World} {p g off n c n' c' off' : Nat} {r : List UInt8} (h1 : w.heap[p]? = some (RdrB (.slice (some ⟨g, off, none⟩) n c))) (hF : F p ∧ ∀ k, (Value.slice (some ⟨g, off, none⟩) n c).ownBlock = some k → k ≠ p ∧ F k)
    (h2 : Bs w (.slice (some ⟨g, off', none⟩) n' c') r) (h3 : n' ≤ c') : Keep (One p) w (w.setCell ⟨p, 0, none⟩ (.slice (some ⟨g, off', none⟩) n' c')) ∧ RdAt F (w.setCell ⟨p, 0, none⟩ (.slice (some ⟨g, off', none⟩) n' c')) p r := by
  have k := (Keep.refl (One p) w).setOne 0 (.slice (some ⟨g, off', none⟩) n' c')
  exact ⟨k, _, blk_set h1 0 _, h2.keep k (fun q e e2 => (hF.2 q e).1 e2), ⟨h3, fun ad e => by injection e with e; subst e; exact ⟨_, _, rfl⟩⟩, hF.1, fun q e => hF.2 q e⟩
theorem num_ok (F : Nat → Prop) (p n : Nat) (r : List UInt8) (w : World) (h : RdAt F w p (vput n ++ r)) (hn : n < 2 ^ 63) :
    Calls Tryz.prog 110 #[.pointer (some ⟨p, 0, none⟩)] w fun e w' => e = .returned (.int .u64 n) ∧ Keep (One p) w w' ∧ RdAt F w' p r := by
  have H := Lib.hid h
  obtain ⟨v, h1, h2, h3, h4, h5⟩ := h
  have HB := Lib.hid h2
  have c0 := rd0 h1
  have c1 := rd1 h1
  have f0 := rdf h1 0
  have H1 := Lib.hid h1
  have H3 := Lib.hid h3
  have H45 := Lib.hid (And.intro h4 h5)
  obtain ⟨a, c, rfl, hx⟩ := h2
  obtain ⟨g, off, rfl, _⟩ := hx (by intro e; have h0 := vput_pos n; rw [List.map_eq_nil_iff, List.append_eq_nil_iff] at e; rw [e.1] at h0; exact absurd h0 (by simp))
  replace h3 := h3.1
  simp only [List.length_map] at h3
  have hl : (vput n).length ≤ (vput n ++ r).length := by simp
  rw [List.length_map] at HB c0 H1 H3 H45
  generalize (vput n ++ r).length = q at hl h3 HB c0 H1 H3 H45
  clear h1 h4 h5 hx
  go_enter Tryz.func110, Tryz.ntmps110
  go_wp2_with (first
    | (go_at_call 177; refine (going_ok F p _ _ H.out).mono ?_; rintro e w' ⟨rfl, rfl⟩)
    | (go_at_call 178; refine (take_ok _ n r _ HB.out H3.out hn).mono ?_; rintro e w' ⟨rfl, rfl⟩))
  · go_ret
    exact ⟨rfl, rd_set H1.out H45.out (rest_nil _ HB.out H3.out.1 ‹_›) (by omega)⟩
  · go_ret
    exact ⟨rfl, rd_set H1.out H45.out (rest_rd HB.out) (by omega)⟩
theorem within_ok (F : Nat → Prop) (p n most : Nat) (r : List UInt8) (w : World) (h : RdAt F w p (vput n ++ r)) (hm : n ≤ most) (hmost : most < 4611686018427387904) :
    Calls Tryz.prog 108 #[.pointer (some ⟨p, 0, none⟩), .int .u64 most] w fun e w' => e = .returned (.int .i64 n) ∧ Keep (One p) w w' ∧ RdAt F w' p r := by
  have H := Lib.hid h
  clear h
  go_enter Tryz.func108, Tryz.ntmps108
  go_wp2_with (go_at_call 110; refine (num_ok F p n r _ H.out (by omega)).mono ?_; rintro e w1 ⟨rfl, k1, r1⟩; have K1 := Lib.hid k1; have R1 := Lib.hid r1; clear k1 r1)
  go_ret
  exact ⟨rfl, K1.out, R1.out⟩
theorem left_ok (F : Nat → Prop) (p : Nat) (l : List UInt8) (w : World) (h : RdAt F w p l) :
    Calls Tryz.prog 180 #[.pointer (some ⟨p, 0, none⟩)] w fun e w' => e = .returned (.int .i64 l.length) ∧ w' = w := by
  have H := Lib.hid h
  obtain ⟨v, h1, h2, _⟩ := h
  have c0 := rd0 h1
  obtain ⟨a, c, rfl, _⟩ := h2
  rw [List.length_map] at c0
  clear h1
  go_enter Tryz.func180, Tryz.ntmps180
  go_wp2_with (go_at_call 177; refine (going_ok F p _ _ H.out).mono ?_; rintro e w' ⟨rfl, rfl⟩)
  go_ret
  exact ⟨rfl, rfl⟩
theorem end_ok (F : Nat → Prop) (p : Nat) (w : World) (h : RdAt F w p []) :
    Calls Tryz.prog 113 #[.pointer (some ⟨p, 0, none⟩)] w fun e w' => e = .returned .nilIface ∧ w' = w := by
  have H := Lib.hid h
  clear h
  go_enter Tryz.func113, Tryz.ntmps113
  go_wp2_with (first
    | (go_at_call 179; refine (rerr_ok F p _ _ H.out).mono ?_; rintro e w' ⟨rfl, rfl⟩)
    | (go_at_call 180; refine (left_ok F p _ _ H.out).mono ?_; rintro e w' ⟨rfl, rfl⟩))
  go_ret
  exact ⟨rfl, rfl⟩
theorem head_rd {w : World} {g off : Nat} {n c : Nat} {t r : List UInt8} (h : Bs w (.slice (some ⟨g, off, none⟩) n c) (t ++ r)) : Bs w (.slice (some ⟨g, off, none⟩) t.length c) t := by
  obtain ⟨a, cap, e, hx⟩ := h
  injection e with e1 e2 e3
  refine ⟨_, c, by congr 1; simp, fun hne => ⟨g, off, rfl, fun j u hu => ?_⟩⟩
  obtain ⟨g', off', e4, hc⟩ := hx (by intro e; apply hne; simp at e; simp [e.1])
  rw [← e1] at e4
  injection e4 with e4
  injection e4 with e4 e5
  subst e4
  subst e5
  have hj : j < t.length := by
    rcases Nat.lt_or_ge j t.length with h | h
    · exact h
    · rw [List.getElem?_eq_none (by simpa using h)] at hu; cases hu
  exact hc j u (by rw [List.map_append, List.getElem?_append_left (by simpa using hj)]; exact hu)
theorem fixed_ok (F : Nat → Prop) (p : Nat) (t r : List UInt8) (w : World) (h : RdAt F w p (t ++ r)) (htl : t.length ≤ 1000000) :
    Calls Tryz.prog 176 #[.pointer (some ⟨p, 0, none⟩), .int .i64 t.length] w fun e w' => ∃ v', e = .returned v' ∧ Keep (One p) w w' ∧ RdAt F w' p r ∧ w'.ownsRow w.heap.size 5 1 v' t.length (t.map bv) := by
  have H := Lib.hid h
  obtain ⟨v, h1, h2, h3, h4, h5⟩ := h
  have HB := Lib.hid h2
  have c0 := rd0 h1
  have c1 := rd1 h1
  have f0 := rdf h1 0
  have hlt := lt_of_block h1
  have H1 := Lib.hid h1
  have H3 := Lib.hid h3
  have H45 := Lib.hid (And.intro h4 h5)
  obtain ⟨a, c, rfl, hx⟩ := h2
  have h3a := h3.2
  replace h3 := h3.1
  simp only [List.length_map] at h3
  have hl : t.length ≤ (t ++ r).length := by simp
  rw [List.length_map] at HB c0 H1 H3 H45
  generalize (t ++ r).length = q at hl h3 HB c0 H1 H3 H45
  generalize hk : t.length = k at htl hl ⊢
  have HK := Lib.hid hk
  clear h1 h4 h5
  cases a with
  | none =>
    have ht0 : t ++ r = [] := by
      rcases Classical.em (t ++ r = []) with e | e
      · exact e
      · obtain ⟨g, off, e2, _⟩ := hx (by simpa using e)
        cases e2
    obtain ⟨rfl, rfl⟩ := List.append_eq_nil_iff.1 ht0
    obtain rfl : k = 0 := by rw [← hk]; rfl
    have hq0 : q = 0 := by obtain ⟨a, c', e, _⟩ := HB.out; injection e
    subst hq0
    clear hx hk
    go_enter Tryz.func176, Tryz.ntmps176
    go_wp2_with (first
      | (go_at_call 177; refine (going_ok F p _ _ H.out).mono ?_; rintro e w' ⟨rfl, rfl⟩)
      | (go_at_call 63; refine (clone_nil _ _).mono ?_; rintro e w1 ⟨rfl, rfl⟩))
    go_ret
    have k := (Keep.refl (One p) w').setOne 0 (.slice none 0 c)
    exact ⟨_, rfl, k, ⟨_, blk_set H1.out 0 _, ⟨none, c, rfl, fun h => (h rfl).elim⟩, H3.out, H45.out.1, fun g e => H45.out.2 g e⟩, World.ownsRow_nil _ _ _ _⟩
  | some ad =>
  obtain ⟨g, off, rfl⟩ := h3a ad rfl
  clear hx hk
  go_enter Tryz.func176, Tryz.ntmps176
  go_wp2_with (first
    | (go_at_call 177; refine (going_ok F p _ _ H.out).mono ?_; rintro e w' ⟨rfl, rfl⟩)
    | (go_at_call 63; have hb := head_rd HB.out; rw [HK.out] at hb; refine (clone_new _ t _ hb (by have := HK.out; omega)).mono ?_; rintro e w1 ⟨v1, rfl, k1, o1⟩; have hh1 := k1.at H1.out (fun e => e); have d0 := rd0 hh1; have d1 := rd1 hh1; have e0 := rdf hh1 0; have HH1 := Lib.hid hh1; have K1 := Lib.hid k1; have O1 := Lib.hid o1; clear hb hh1 k1 o1))
  all_goals go_ret
  all_goals
    refine ⟨_, rfl, ?_⟩
    have hb1 := HB.out.keepNon K1.out
  · have hs := rd_set HH1.out H45.out (rest_nil (off := off) (n := q) 0 hb1 H3.out.1 (by rw [HK.out]; assumption)) (by have := HK.out; omega)
    rw [HK.out] at hs
    have ho := O1.out
    rw [HK.out] at ho
    exact ⟨(K1.out.ofNon).trans1 hs.1, hs.2, ownsRow_keep ho hs.1 (fun g e => by have := (ho.lt g e).1; unfold One; omega)⟩
  · have hs := rd_set HH1.out H45.out (rest_rd hb1) (by omega)
    rw [HK.out] at hs
    have ho := O1.out
    rw [HK.out] at ho
    exact ⟨(K1.out.ofNon).trans1 hs.1, hs.2, ownsRow_keep ho hs.1 (fun g e => by have := (ho.lt g e).1; unfold One; omega)⟩
end Go.Proofs.YtdmckfkhkjkdnaaGreatDoor
