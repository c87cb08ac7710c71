/- Acts on a unit: Check, Put: walked. · record.Put: walked. · record.Apply: walked. -/
import Derived.Test.YtdmckfkhkjkdnaaGreatDoorQ17
import Derived.Test.YtdmckfkhkjkdnaaGreatDoorQ19
set_option linter.unusedVariables false
set_option maxRecDepth 100000
set_option maxHeartbeats 16000000
namespace Go.Proofs.YtdmckfkhkjkdnaaGreatDoor
open Go.RowKit Go.Maps
def ActB (k e a : Nat) (dv : Value) : Obj := .cells #[.int .i64 k, .int .i64 e, .int .i64 a, dv] 203 (0, 0)
section
variable {w : World} {b k e a : Nat} {dv : Value}
theorem ac_0 (h : w.heap[b]? = some (ActB k e a dv)) : w.cell? ⟨b, 0, none⟩ = some (.int .i64 k) := by simp [World.cell?, h, ActB]
theorem ac_1 (h : w.heap[b]? = some (ActB k e a dv)) : w.cell? ⟨b, 1, none⟩ = some (.int .i64 e) := by simp [World.cell?, h, ActB]
theorem ac_2 (h : w.heap[b]? = some (ActB k e a dv)) : w.cell? ⟨b, 2, none⟩ = some (.int .i64 a) := by simp [World.cell?, h, ActB]
theorem ac_3 (h : w.heap[b]? = some (ActB k e a dv)) : w.cell? ⟨b, 3, none⟩ = some dv := by simp [World.cell?, h, ActB]
end
def actT (k e a : Nat) (d : List UInt8) : List UInt8 := vputs [k, e] ++ (if k = 1 then [] else vputs [a]) ++ (if k = 2 then vtext d else [])
def actBy (k e a : Nat) (d : List UInt8) : List UInt8 := frameB (actT k e a d)
theorem recin_yes (x most : Int) (w : World) (h1 : 0 ≤ x) (h2 : x ≤ most) :
    Calls Tryz.prog 290 #[.int .i64 x, .int .i64 most] w fun e w' => e = .returned (.bool true) ∧ w' = w := by
  go_enter Tryz.func290, Tryz.ntmps290
  go_wp2_with fail
  go_ret
  exact ⟨rfl, rfl⟩
theorem rechigh_2 (w : World) : Calls Tryz.prog 291 #[.int .i64 2] w fun e w' => e = .returned (.int .i64 1048575) ∧ w' = w := by
  go_enter Tryz.func291, Tryz.ntmps291
  go_wp2_with fail
  go_ret
  exact ⟨rfl, rfl⟩
theorem rechigh_3 (w : World) : Calls Tryz.prog 291 #[.int .i64 3] w fun e w' => e = .returned (.int .i64 1048575) ∧ w' = w := by
  go_enter Tryz.func291, Tryz.ntmps291
  go_wp2_with fail
  go_ret
  exact ⟨rfl, rfl⟩
theorem rechigh_lo (k : Int) (w : World) (h2 : (k == 2) = false) (h3 : (k == 3) = false) : Calls Tryz.prog 291 #[.int .i64 k] w fun e w' => e = .returned (.int .i64 1048576) ∧ w' = w := by
  go_enter Tryz.func291, Tryz.ntmps291
  go_wp2_with fail
  go_ret
  exact ⟨rfl, rfl⟩
theorem reccheck_seal (e : Nat) (w : World) (he : e ≤ 1099511627776) :
    Calls Tryz.prog 242 #[.agg #[.int .i64 1, .int .i64 e, .int .i64 0, .slice none 0 0]] w fun r w' => r = .returned .nilIface ∧ Keep Non w w' := by
  go_enter Tryz.func242, Tryz.ntmps242
  go_wp2_with fail
  go_region_law (go_simp; first
    | (go_at_call 290; refine (recin_yes _ _ _ (by omega) (by omega)).mono ?_; rintro r w1 ⟨rfl, e1⟩; subst e1)
    | (go_at_call 291; refine (rechigh_lo _ _ (by decide) (by decide)).mono ?_; rintro r w1 ⟨rfl, e1⟩; subst e1))
  all_goals go_wp2_with fail
  all_goals
    go_ret
    first | exact ⟨rfl, (Keep.refl _ _).alloc _⟩ | exact ⟨rfl, ((Keep.refl _ _).alloc _).drew⟩ | exact ⟨rfl, ((Keep.refl _ _).alloc _).drew.drew⟩
theorem reccheck_write (e a n c : Nat) (pa : Option Addr) (w : World) (he : e ≤ 1099511627776) (ha : a ≤ 1048575) (hn : n ≤ 64) :
    Calls Tryz.prog 242 #[.agg #[.int .i64 2, .int .i64 e, .int .i64 a, .slice pa n c]] w fun r w' => r = .returned .nilIface ∧ Keep Non w w' := by
  go_enter Tryz.func242, Tryz.ntmps242
  go_wp2_with fail
  go_region_law (go_simp; first
    | (go_at_call 290; refine (recin_yes _ _ _ (by omega) (by omega)).mono ?_; rintro r w1 ⟨rfl, e1⟩; subst e1)
    | (go_at_call 291; refine (rechigh_2 _).mono ?_; rintro r w1 ⟨rfl, e1⟩; subst e1))
  all_goals go_wp2_with fail
  all_goals
    go_ret
    first | exact ⟨rfl, (Keep.refl _ _).alloc _⟩ | exact ⟨rfl, ((Keep.refl _ _).alloc _).drew⟩ | exact ⟨rfl, ((Keep.refl _ _).alloc _).drew.drew⟩
theorem reccheck_fill (e a : Nat) (w : World) (he : e ≤ 1099511627776) (ha : a ≤ 1048575) :
    Calls Tryz.prog 242 #[.agg #[.int .i64 3, .int .i64 e, .int .i64 a, .slice none 0 0]] w fun r w' => r = .returned .nilIface ∧ Keep Non w w' := by
  go_enter Tryz.func242, Tryz.ntmps242
  go_wp2_with fail
  go_region_law (go_simp; first
    | (go_at_call 290; refine (recin_yes _ _ _ (by omega) (by omega)).mono ?_; rintro r w1 ⟨rfl, e1⟩; subst e1)
    | (go_at_call 291; refine (rechigh_3 _).mono ?_; rintro r w1 ⟨rfl, e1⟩; subst e1))
  all_goals go_wp2_with fail
  all_goals
    go_ret
    first | exact ⟨rfl, (Keep.refl _ _).alloc _⟩ | exact ⟨rfl, ((Keep.refl _ _).alloc _).drew⟩ | exact ⟨rfl, ((Keep.refl _ _).alloc _).drew.drew⟩
theorem vputs2_len {a b : Nat} (h1 : a < 2 ^ 63) (h2 : b < 2 ^ 63) : (vputs [a, b]).length ≤ 18 := by
  have := vputs_len [a, b] (by intro n hn; simp at hn; omega)
  simpa using this
theorem vputs1_len {a : Nat} (h1 : a < 2 ^ 63) : (vputs [a]).length ≤ 9 := by
  have := vputs_len [a] (by intro n hn; simp at hn; omega)
  simpa using this
theorem recput_seal (e : Nat) (w : World) (he : e ≤ 1099511627776) :
    Calls Tryz.prog 162 #[.agg #[.int .i64 1, .int .i64 e, .int .i64 0, .slice none 0 0]] w fun r w' => ∃ v, r = .returned (.tuple #[v, .nilIface]) ∧ Keep Non w w' ∧ w'.ownsRow w.heap.size 5 1 v (actBy 1 e 0 []).length ((actBy 1 e 0 []).map bv) := by
  have CK := Lib.hid (fun W => reccheck_seal e W he)
  have hw2 := wrap64 (n := e) (by omega)
  have hl := vputs2_len (a := 1) (b := e) (by decide) (by omega)
  have e0 : actT 1 e 0 [] = vputs [1, e] := by simp [actT]
  unfold actBy
  rw [e0]
  obtain ⟨T0, hT0⟩ : ∃ T0, T0 = vputs [1, e] := ⟨_, rfl⟩
  have PP : Hid (∀ W, Calls Tryz.prog 126 #[.slice none 0 0, .slice (some ⟨W.heap.size, 0, none⟩) 2 2] (W.alloc (.cells #[.int .u64 1, .int .u64 e] 217)) fun r w' => ∃ v, r = .returned v ∧ Keep Non W w' ∧ w'.ownsRow W.heap.size 5 1 v T0.length (T0.map bv)) := Lib.hid (fun W => by
    refine (puts_any (.slice none 0 0) [] (some ⟨W.heap.size, 0, none⟩) 2 [1, e] _ (Rd.nil _) (by simp) (by exact row_rd W 217 [nv 1, nv e]) (by intro n hn; simp at hn; omega) (by simp)).mono ?_
    rintro r w' ⟨v, rfl, k, o⟩
    rw [List.nil_append, ← hT0] at o
    exact ⟨v, rfl, ((Keep.refl Non W).alloc _).trans1 k, ownsRow_low o (by simp)⟩)
  rw [← hT0] at hl ⊢
  clear hT0 e0
  go_enter Tryz.func162, Tryz.ntmps162
  go_wp2_with (first
    | (go_at_call 242; refine (CK.out _).mono ?_; rintro r w1 ⟨rfl, k1⟩; have b1 := nonAt k1 (blk_new w (ActB 1 e 0 (.slice none 0 0))); have c0 := ac_0 b1; have c1 := ac_1 b1; have B1 := Lib.hid b1; have K1 := Lib.hid (((Keep.refl Non w).alloc (ActB 1 e 0 (.slice none 0 0))).trans1 k1); clear k1 b1)
    | (go_at_call 126; refine (PP.out _).mono ?_; rintro r w2 ⟨v2, rfl, k2, o2⟩; obtain ⟨a2, c2, rfl, _, _⟩ := ownsRow_form o2; have b2 := nonAt k2 B1.out; have d0 := ac_0 b2; have K2 := Lib.hid (K1.out.trans1 k2); have O2 := Lib.hid o2; clear k2 o2 b2)
    | (go_at_call 128; refine (fput_nil _ T0 _ (Rd.ofOwns O2.out) (by omega)).mono ?_; rintro r w3 ⟨v3, rfl, k3, o3⟩; have K3 := Lib.hid k3; have O3 := Lib.hid o3; clear k3 o3))
  go_ret2
  exact ⟨_, rfl, K2.out.trans1 K3.out, ownsRow_low O3.out K2.out.size⟩
theorem recput_fill (e a : Nat) (w : World) (he : e ≤ 1099511627776) (ha : a ≤ 1048575) :
    Calls Tryz.prog 162 #[.agg #[.int .i64 3, .int .i64 e, .int .i64 a, .slice none 0 0]] w fun r w' => ∃ v, r = .returned (.tuple #[v, .nilIface]) ∧ Keep Non w w' ∧ w'.ownsRow w.heap.size 5 1 v (actBy 3 e a []).length ((actBy 3 e a []).map bv) := by
  have CK := Lib.hid (fun W => reccheck_fill e a W he ha)
  have hw2 := wrap64 (n := e) (by omega)
  have hw3 := wrap64 (n := a) (by omega)
  have hl := vputs2_len (a := 3) (b := e) (by decide) (by omega)
  have hl1 := vputs1_len (a := a) (by omega)
  have e0 : actT 3 e a [] = vputs [3, e] ++ vputs [a] := by simp [actT]
  unfold actBy
  rw [e0]
  obtain ⟨T0, hT0⟩ : ∃ T0, T0 = vputs [3, e] := ⟨_, rfl⟩
  have PP : Hid (∀ W, Calls Tryz.prog 126 #[.slice none 0 0, .slice (some ⟨W.heap.size, 0, none⟩) 2 2] (W.alloc (.cells #[.int .u64 3, .int .u64 e] 217)) fun r w' => ∃ v, r = .returned v ∧ Keep Non W w' ∧ w'.ownsRow W.heap.size 5 1 v T0.length (T0.map bv)) := Lib.hid (fun W => by
    refine (puts_any (.slice none 0 0) [] (some ⟨W.heap.size, 0, none⟩) 2 [3, e] _ (Rd.nil _) (by simp) (by exact row_rd W 217 [nv 3, nv e]) (by intro n hn; simp at hn; omega) (by simp)).mono ?_
    rintro r w' ⟨v, rfl, k, o⟩
    rw [List.nil_append, ← hT0] at o
    exact ⟨v, rfl, ((Keep.refl Non W).alloc _).trans1 k, ownsRow_low o (by simp)⟩)
  rw [← hT0] at hl ⊢
  have PQ : Hid (∀ W v n, W.ownsRow n 5 1 v T0.length (T0.map bv) → Calls Tryz.prog 126 #[v, .slice (some ⟨W.heap.size, 0, none⟩) 1 1] (W.alloc (.cells #[.int .u64 a] 217)) fun r w' => ∃ v', r = .returned v' ∧ Keep Non W w' ∧ w'.ownsRow W.heap.size 5 1 v' (T0 ++ vputs [a]).length ((T0 ++ vputs [a]).map bv)) := Lib.hid (fun W v n o => by
    refine (puts_any v T0 (some ⟨W.heap.size, 0, none⟩) 1 [a] _ ((Rd.ofOwns o).keepNon ((Keep.refl Non W).alloc _)) (by omega) (rd_one _ _ _) (by intro n hn; simp at hn; omega) (by simp)).mono ?_
    rintro r w' ⟨v', rfl, k, o'⟩
    exact ⟨v', rfl, ((Keep.refl Non W).alloc _).trans1 k, ownsRow_low o' (by simp)⟩)
  have hl3 : (T0 ++ vputs [a]).length ≤ 30 := by rw [List.length_append]; omega
  generalize hT1 : T0 ++ vputs [a] = T1 at PQ hl3 ⊢
  clear hT0 e0 hT1
  go_enter Tryz.func162, Tryz.ntmps162
  go_wp2_with (first
    | (go_at_call 242; refine (CK.out _).mono ?_; rintro r w1 ⟨rfl, k1⟩; have b1 := nonAt k1 (blk_new w (ActB 3 e a (.slice none 0 0))); have c0 := ac_0 b1; have c1 := ac_1 b1; have B1 := Lib.hid b1; have K1 := Lib.hid (((Keep.refl Non w).alloc (ActB 3 e a (.slice none 0 0))).trans1 k1); clear k1 b1)
    | (go_at_call 126; (with_reducible refine (PP.out _).mono ?_); rintro r w2 ⟨v2, rfl, k2, o2⟩; obtain ⟨a2, c2, rfl, _, _⟩ := ownsRow_form o2; have b2 := nonAt k2 B1.out; have d0 := ac_0 b2; have d2 := ac_2 b2; have B2 := Lib.hid b2; have PQ2 := Lib.hid (PQ.out _ _ _ o2); have K2 := Lib.hid (K1.out.trans1 k2); clear k2 o2 b2)
    | (go_at_call 126; refine PQ2.out.mono ?_; rintro r w3 ⟨v3, rfl, k3, o3⟩; obtain ⟨a3, c3, rfl, _, _⟩ := ownsRow_form o3; have e0 := ac_0 (nonAt k3 B2.out); have K3 := Lib.hid (K2.out.trans1 k3); have O3 := Lib.hid o3; clear k3 o3)
    | (go_at_call 128; refine (fput_nil _ T1 _ (Rd.ofOwns O3.out) (by omega)).mono ?_; rintro r w4 ⟨v4, rfl, k4, o4⟩; have K4 := Lib.hid k4; have O4 := Lib.hid o4; clear k4 o4))
  go_ret2
  exact ⟨_, rfl, K3.out.trans1 K4.out, ownsRow_low O4.out K3.out.size⟩
theorem recput_write (e a : Nat) (pa : Option Addr) (d : List UInt8) (dc : Nat) (w : World) (hd : Bs w (.slice pa d.length dc) d) (hdl : d.length ≤ 64) (he : e ≤ 1099511627776) (ha : a ≤ 1048575) :
    Calls Tryz.prog 162 #[.agg #[.int .i64 2, .int .i64 e, .int .i64 a, .slice pa d.length dc]] w fun r w' => ∃ v, r = .returned (.tuple #[v, .nilIface]) ∧ Keep Non w w' ∧ w'.ownsRow w.heap.size 5 1 v (actBy 2 e a d).length ((actBy 2 e a d).map bv) := by
  have CK := Lib.hid (fun W => reccheck_write e a d.length dc pa W he ha hdl)
  have hw2 := wrap64 (n := e) (by omega)
  have hw3 := wrap64 (n := a) (by omega)
  have hl := vputs2_len (a := 2) (b := e) (by decide) (by omega)
  have hl1 := vputs1_len (a := a) (by omega)
  have e0 : actT 2 e a d = vputs [2, e] ++ vputs [a] ++ vtext d := by simp [actT]
  unfold actBy
  rw [e0]
  obtain ⟨T0, hT0⟩ : ∃ T0, T0 = vputs [2, e] := ⟨_, rfl⟩
  have PP : Hid (∀ W, Calls Tryz.prog 126 #[.slice none 0 0, .slice (some ⟨W.heap.size, 0, none⟩) 2 2] (W.alloc (.cells #[.int .u64 2, .int .u64 e] 217)) fun r w' => ∃ v, r = .returned v ∧ Keep Non W w' ∧ w'.ownsRow W.heap.size 5 1 v T0.length (T0.map bv)) := Lib.hid (fun W => by
    refine (puts_any (.slice none 0 0) [] (some ⟨W.heap.size, 0, none⟩) 2 [2, e] _ (Rd.nil _) (by simp) (by exact row_rd W 217 [nv 2, nv e]) (by intro n hn; simp at hn; omega) (by simp)).mono ?_
    rintro r w' ⟨v, rfl, k, o⟩
    rw [List.nil_append, ← hT0] at o
    exact ⟨v, rfl, ((Keep.refl Non W).alloc _).trans1 k, ownsRow_low o (by simp)⟩)
  rw [← hT0] at hl ⊢
  have PQ : Hid (∀ W v n, W.ownsRow n 5 1 v T0.length (T0.map bv) → Calls Tryz.prog 126 #[v, .slice (some ⟨W.heap.size, 0, none⟩) 1 1] (W.alloc (.cells #[.int .u64 a] 217)) fun r w' => ∃ v', r = .returned v' ∧ Keep Non W w' ∧ w'.ownsRow W.heap.size 5 1 v' (T0 ++ vputs [a]).length ((T0 ++ vputs [a]).map bv)) := Lib.hid (fun W v n o => by
    refine (puts_any v T0 (some ⟨W.heap.size, 0, none⟩) 1 [a] _ ((Rd.ofOwns o).keepNon ((Keep.refl Non W).alloc _)) (by omega) (rd_one _ _ _) (by intro n hn; simp at hn; omega) (by simp)).mono ?_
    rintro r w' ⟨v', rfl, k, o'⟩
    exact ⟨v', rfl, ((Keep.refl Non W).alloc _).trans1 k, ownsRow_low o' (by simp)⟩)
  have hl3 : (T0 ++ vputs [a]).length ≤ 30 := by rw [List.length_append]; omega
  generalize hT1 : T0 ++ vputs [a] = T1 at PQ hl3 ⊢
  have PT : Hid (∀ W v n, Keep Non w W → W.ownsRow n 5 1 v T1.length (T1.map bv) → Calls Tryz.prog 196 #[v, .slice pa d.length dc] W fun r w' => ∃ v', r = .returned v' ∧ Keep Non W w' ∧ w'.ownsRow W.heap.size 5 1 v' (T1 ++ vtext d).length ((T1 ++ vtext d).map bv)) := Lib.hid (fun W v n k o => by
    refine (putText_any v T1 pa dc d W (Rd.ofOwns o) (by omega) (hd.keepNon k) (by omega)).mono ?_
    rintro r w' ⟨v', rfl, k', o'⟩
    exact ⟨v', rfl, k', o'⟩)
  have hl4 : (T1 ++ vtext d).length ≤ 200 := by
    have h3 : (vput d.length).length ≤ 3 := vput_three (by omega)
    rw [List.length_append]
    unfold vtext
    rw [List.length_append]
    omega
  generalize hT2 : T1 ++ vtext d = T2 at PT hl4 ⊢
  clear hd hT2
  clear hT0 e0 hT1
  go_enter Tryz.func162, Tryz.ntmps162
  go_wp2_with (first
    | (go_at_call 242; refine (CK.out _).mono ?_; rintro r w1 ⟨rfl, k1⟩; have b1 := nonAt k1 (blk_new w (ActB 2 e a (.slice pa d.length dc))); have c0 := ac_0 b1; have c1 := ac_1 b1; have B1 := Lib.hid b1; have K1 := Lib.hid (((Keep.refl Non w).alloc (ActB 2 e a (.slice pa d.length dc))).trans1 k1); clear k1 b1)
    | (go_at_call 126; (with_reducible refine (PP.out _).mono ?_); rintro r w2 ⟨v2, rfl, k2, o2⟩; obtain ⟨a2, c2, rfl, _, _⟩ := ownsRow_form o2; have b2 := nonAt k2 B1.out; have d0 := ac_0 b2; have d2 := ac_2 b2; have B2 := Lib.hid b2; have PQ2 := Lib.hid (PQ.out _ _ _ o2); have K2 := Lib.hid (K1.out.trans1 k2); clear k2 o2 b2)
    | (go_at_call 126; refine PQ2.out.mono ?_; rintro r w3 ⟨v3, rfl, k3, o3⟩; obtain ⟨a3, c3, rfl, _, _⟩ := ownsRow_form o3; have b3 := nonAt k3 B2.out; have e0 := ac_0 b3; have e3 := ac_3 b3; have PTW := Lib.hid (PT.out _ _ _ (K2.out.trans1 k3) o3); have K3 := Lib.hid (K2.out.trans1 k3); clear k3 o3 b3)
    | (go_at_call 196; refine PTW.out.mono ?_; rintro r w5 ⟨v5, rfl, k5, o5⟩; obtain ⟨a5, c5, rfl, _, _⟩ := ownsRow_form o5; have K5 := Lib.hid (K3.out.trans1 k5); have O5 := Lib.hid o5; clear k5 o5)
    | (go_at_call 128; refine (fput_nil _ T2 _ (Rd.ofOwns O5.out) (by omega)).mono ?_; rintro r w4 ⟨v4, rfl, k4, o4⟩; have K4 := Lib.hid k4; have O4 := Lib.hid o4; clear k4 o4))
  go_ret2
  exact ⟨_, rfl, K5.out.trans1 K4.out, ownsRow_low O4.out K5.out.size⟩
theorem rapply_seal (F : Nat → Prop) (b e l : Nat) (D : Un) (e2 : Nat) (w : World) (h : UnAt F w b e l D) (he : e < e2) (he2 : e2 ≤ 1099511627776) :
    Calls Tryz.prog 161 #[.pointer (some ⟨b, 0, none⟩), .agg #[.int .i64 1, .int .i64 e2, .int .i64 0, .slice none 0 0]] w fun r w' => (∃ n : Int, r = .returned (.tuple #[.int .i64 n, .nilIface])) ∧ UnTo F w b e2 l D w' := by
  have CK := Lib.hid (fun W => reccheck_seal e2 W he2)
  have OP := Lib.hid (fun W (k : Keep Non w W) => unseal_ok F b e e2 l D W (h.keepNon k) he he2)
  clear h
  go_enter Tryz.func161, Tryz.ntmps161
  go_wp2_with (first
    | (go_at_call 242; refine (CK.out _).mono ?_; rintro r w1 ⟨rfl, k1⟩; have b1 := nonAt k1 (blk_new w (ActB 1 e2 0 (.slice none 0 0))); have c0 := ac_0 b1; have c1 := ac_1 b1; have c2 := ac_2 b1; have c3 := ac_3 b1; have K1' := ((Keep.refl Non w).alloc (ActB 1 e2 0 (.slice none 0 0))).trans1 k1; have OPW := Lib.hid (OP.out w1 K1'); have OPD := Lib.hid (OP.out w1.drew (K1'.trans1 (Keep.refl Non _).drew)); have K1 := Lib.hid K1'; clear k1 K1' b1)
    | (go_at_call 243; refine OPW.out.mono ?_; rintro r w2 ⟨⟨n, rfl⟩, t2⟩; have T2 := Lib.hid t2; clear t2))
  go_ret2
  obtain ⟨k2, F', s, u⟩ := T2.out
  refine ⟨⟨_, rfl⟩, K1.out.ofNon.trans1 k2, F', Sub.trans (Sub.refl _ _) s K1.out.size, u⟩
theorem rapply_write (F : Nat → Prop) (b e l : Nat) (D : Un) (a : Nat) (pa : Option Addr) (d : List UInt8) (dc : Nat) (w : World) (h : UnAt F w b e l D) (he : e ≤ 1099511627776) (ha : a ≤ 1048575) (hd : Bs w (.slice pa d.length dc) d) (hdl : d.length ≤ 64) (hs : size D ≤ 1000000) (h0 : (uat l D a).1 = 0) :
    Calls Tryz.prog 161 #[.pointer (some ⟨b, 0, none⟩), .agg #[.int .i64 2, .int .i64 e, .int .i64 a, .slice pa d.length dc]] w fun r w' => (∃ n : Int, r = .returned (.tuple #[.int .i64 n, .nilIface])) ∧ UnTo F w b e l (uput D a (1, d)) w' := by
  have CK := Lib.hid (fun W => reccheck_write e a d.length dc pa W he ha hdl)
  have OP := Lib.hid (fun W (k : Keep Non w W) => unwrite_yes F b e l a D d _ W (h.keepNon k) ha hs (hd.keepNon k) hdl h0)
  clear h
  go_enter Tryz.func161, Tryz.ntmps161
  go_wp2_with (first
    | (go_at_call 242; refine (CK.out _).mono ?_; rintro r w1 ⟨rfl, k1⟩; have b1 := nonAt k1 (blk_new w (ActB 2 e a (.slice pa d.length dc))); have c0 := ac_0 b1; have c1 := ac_1 b1; have c2 := ac_2 b1; have c3 := ac_3 b1; have K1' := ((Keep.refl Non w).alloc (ActB 2 e a (.slice pa d.length dc))).trans1 k1; have OPW := Lib.hid (OP.out w1 K1'); have OPD := Lib.hid (OP.out w1.drew (K1'.trans1 (Keep.refl Non _).drew)); have K1 := Lib.hid K1'; clear k1 K1' b1)
    | (go_at_call 244; refine OPW.out.mono ?_; rintro r w2 ⟨rfl, t2⟩; have T2 := Lib.hid t2; clear t2))
  go_ret2
  obtain ⟨k2, F', s, u⟩ := T2.out
  refine ⟨⟨_, rfl⟩, K1.out.ofNon.trans1 k2, F', Sub.trans (Sub.refl _ _) s K1.out.size, u⟩
theorem rapply_fill (F : Nat → Prop) (b e l : Nat) (D : Un) (a : Nat) (w : World) (h : UnAt F w b e l D) (he : e ≤ 1099511627776) (ha : a ≤ 1048575) (hs : size D ≤ 1000000) (h3 : (uat l D a).1 ≠ 3) (h1 : (uat l D a).1 ≠ 1) :
    Calls Tryz.prog 161 #[.pointer (some ⟨b, 0, none⟩), .agg #[.int .i64 3, .int .i64 e, .int .i64 a, .slice none 0 0]] w fun r w' => (∃ n : Int, r = .returned (.tuple #[.int .i64 n, .nilIface])) ∧ UnTo F w b e l (uput D a (2, [])) w' := by
  have CK := Lib.hid (fun W => reccheck_fill e a W he ha)
  have OP := Lib.hid (fun W (k : Keep Non w W) => unfill_yes F b e l a D W (h.keepNon k) ha hs h3 h1)
  clear h
  go_enter Tryz.func161, Tryz.ntmps161
  go_wp2_with (first
    | (go_at_call 242; refine (CK.out _).mono ?_; rintro r w1 ⟨rfl, k1⟩; have b1 := nonAt k1 (blk_new w (ActB 3 e a (.slice none 0 0))); have c0 := ac_0 b1; have c1 := ac_1 b1; have c2 := ac_2 b1; have c3 := ac_3 b1; have K1' := ((Keep.refl Non w).alloc (ActB 3 e a (.slice none 0 0))).trans1 k1; have OPW := Lib.hid (OP.out w1 K1'); have OPD := Lib.hid (OP.out w1.drew (K1'.trans1 (Keep.refl Non _).drew)); have K1 := Lib.hid K1'; clear k1 K1' b1)
    | (go_at_call 245; refine OPW.out.mono ?_; rintro r w2 ⟨rfl, t2⟩; have T2 := Lib.hid t2; clear t2))
  go_ret2
  obtain ⟨k2, F', s, u⟩ := T2.out
  refine ⟨⟨_, rfl⟩, K1.out.ofNon.trans1 k2, F', Sub.trans (Sub.refl _ _) s K1.out.size, u⟩
end Go.Proofs.YtdmckfkhkjkdnaaGreatDoor
