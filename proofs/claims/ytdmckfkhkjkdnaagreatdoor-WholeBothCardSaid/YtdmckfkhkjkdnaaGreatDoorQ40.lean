/- Parcels and receipts: their bytes; Check, Put, PutReceipt: walked. · parcel.open, Take, TakeReceipt: walked. · Shippers and appliers in memory: New, A -/
import Derived.Test.YtdmckfkhkjkdnaaGreatDoorQ34
import Derived.Test.YtdmckfkhkjkdnaaGreatDoorQ36
import Derived.Test.YtdmckfkhkjkdnaaGreatDoorQ39
set_option linter.unusedVariables false
set_option maxRecDepth 100000
set_option maxHeartbeats 16000000
namespace Go.Proofs.YtdmckfkhkjkdnaaGreatDoor
open Go.RowKit Go.Maps
def parT (e t f : Nat) (cl : List Cl) : List UInt8 := vputs [1, e, t, f] ++ runB cl
def parB (e t f : Nat) (cl : List Cl) : List UInt8 := frameB (parT e t f cl)
def rcpT (e n : Nat) : List UInt8 := vputs [2, e, n]
def rcpB (e n : Nat) : List UInt8 := frameB (rcpT e n)
def PaB (e t f : Nat) (v : Value) : Obj := .cells #[.int .i64 e, .int .i64 t, .int .i64 f, v] 149 (0, 0)
def RcB (e n : Nat) : Obj := .cells #[.int .i64 e, .int .i64 n] 159 (0, 0)
section
variable {w : World} {b e t f n : Nat} {v : Value}
theorem pa_0 (h : w.heap[b]? = some (PaB e t f v)) : w.cell? ⟨b, 0, none⟩ = some (.int .i64 e) := by simp [World.cell?, h, PaB]
theorem pa_1 (h : w.heap[b]? = some (PaB e t f v)) : w.cell? ⟨b, 1, none⟩ = some (.int .i64 t) := by simp [World.cell?, h, PaB]
theorem pa_2 (h : w.heap[b]? = some (PaB e t f v)) : w.cell? ⟨b, 2, none⟩ = some (.int .i64 f) := by simp [World.cell?, h, PaB]
theorem pa_3 (h : w.heap[b]? = some (PaB e t f v)) : w.cell? ⟨b, 3, none⟩ = some v := by simp [World.cell?, h, PaB]
theorem pa_f (h : w.heap[b]? = some (PaB e t f v)) (i : Nat) : w.frozen? ⟨b, i, none⟩ = false := by simp [World.frozen?, h, PaB]
theorem pa_set0 (h : w.heap[b]? = some (PaB e t f v)) (k : Nat) : (w.setCell ⟨b, 0, none⟩ (.int .i64 k)).heap[b]? = some (PaB k t f v) := blk_set h 0 _
theorem pa_set1 (h : w.heap[b]? = some (PaB e t f v)) (k : Nat) : (w.setCell ⟨b, 1, none⟩ (.int .i64 k)).heap[b]? = some (PaB e k f v) := blk_set h 1 _
theorem pa_set2 (h : w.heap[b]? = some (PaB e t f v)) (k : Nat) : (w.setCell ⟨b, 2, none⟩ (.int .i64 k)).heap[b]? = some (PaB e t k v) := blk_set h 2 _
theorem pa_set3 (h : w.heap[b]? = some (PaB e t f v)) (u : Value) : (w.setCell ⟨b, 3, none⟩ u).heap[b]? = some (PaB e t f u) := blk_set h 3 _
theorem rc_0 (h : w.heap[b]? = some (RcB e n)) : w.cell? ⟨b, 0, none⟩ = some (.int .i64 e) := by simp [World.cell?, h, RcB]
theorem rc_1 (h : w.heap[b]? = some (RcB e n)) : w.cell? ⟨b, 1, none⟩ = some (.int .i64 n) := by simp [World.cell?, h, RcB]
theorem rc_f (h : w.heap[b]? = some (RcB e n)) (i : Nat) : w.frozen? ⟨b, i, none⟩ = false := by simp [World.frozen?, h, RcB]
theorem rc_set0 (h : w.heap[b]? = some (RcB e n)) (k : Nat) : (w.setCell ⟨b, 0, none⟩ (.int .i64 k)).heap[b]? = some (RcB k n) := blk_set h 0 _
theorem rc_set1 (h : w.heap[b]? = some (RcB e n)) (k : Nat) : (w.setCell ⟨b, 1, none⟩ (.int .i64 k)).heap[b]? = some (RcB e k) := blk_set h 1 _
end
theorem pain_yes (x most : Int) (w : World) (h1 : 0 ≤ x) (h2 : x ≤ most) :
    Calls Tryz.prog 137 #[.int .i64 x, .int .i64 most] w fun e w' => e = .returned (.bool true) ∧ w' = w := by
  go_enter Tryz.func137, Tryz.ntmps137
  go_wp2_with fail
  go_ret
  exact ⟨rfl, rfl⟩
theorem pacheck_ok (e t f : Nat) (v : Value) (cl : List Cl) (w : World) (h : CsAt w v cl) (hl : cl.length ≤ 64) (hok : ∀ x ∈ cl, okCl x) (he : e ≤ 1099511627776) (ht : t ≤ 1048576) (hf : f + cl.length ≤ 1048576) :
    Calls Tryz.prog 125 #[.agg #[.int .i64 e, .int .i64 t, .int .i64 f, v]] w fun r w' => r = .returned .nilIface ∧ Keep Non w w' := by
  have CK := Lib.hid (fun w1 (k : Keep Non w w1) => sgcheck_ok f v cl w1 (h.keepNon k) hl hok hf)
  obtain ⟨a, c, rfl, hc, ha, hx⟩ := h
  have b0 := blk_new w (PaB e t f (.slice a cl.length c))
  have c0 := pa_0 b0
  have c1 := pa_1 b0
  have c2 := pa_2 b0
  have c3 := pa_3 b0
  dsimp only [PaB] at c0 c1 c2 c3
  clear hx ha b0
  go_enter Tryz.func125, Tryz.ntmps125
  go_wp2_with (first
    | (go_at_call 137; with_reducible refine (pain_yes _ _ _ (by omega) (by omega)).mono ?_; rintro r w1 ⟨rfl, rfl⟩)
    | (go_at_call 189; refine (CK.out _ ((Keep.refl _ _).alloc _)).mono ?_; rintro r w1 ⟨rfl, k1⟩; have K1 := Lib.hid (((Keep.refl Non w).alloc _).trans1 k1); clear k1))
  go_ret
  exact ⟨rfl, K1.out⟩
theorem four_rd {w : World} {t : TypeId} (u v z y : Value) : Rd (w.alloc (.cells #[u, v, z, y] t)) (.slice (some ⟨w.heap.size, 0, none⟩) 4 4) [u, v, z, y] := row_rd w t [u, v, z, y]
theorem rcpT_len {e n : Nat} (he : e ≤ 1099511627776) (hn : n ≤ 1048576) : (rcpT e n).length ≤ 100 := by
  have h1 := vputs2_len (a := 2) (b := e) (by omega) (by omega)
  have h2 := vputs1_len (a := n) (by omega)
  unfold rcpT
  have : vputs [2, e, n] = vputs [2, e] ++ vputs [n] := by simp [vputs]
  rw [this, List.length_append]
  omega
theorem rdAt_mono {F G : Nat → Prop} {w : World} {p : Nat} {l : List UInt8} (h : RdAt F w p l) (hFG : ∀ g, F g → G g) : RdAt G w p l := by
  obtain ⟨v, h1, h2, h3, h4, h5⟩ := h
  exact ⟨v, h1, h2, h3, hFG _ h4, fun g e => ⟨(h5 g e).1, hFG _ (h5 g e).2⟩⟩
theorem popen_ok (k : Nat) (v : Value) (t : List UInt8) (w : World) (h : Bs w v (frameB (vput k ++ t))) (hc : okc v) (hv : ∀ g, v.ownBlock = some g → g < w.heap.size) (hk : k < 1000) (hb : (vput k ++ t).length ≤ 65536) :
    Calls Tryz.prog 131 #[v, .int .u64 k] w fun r w' => ∃ p, r = .returned (.tuple #[.pointer (some ⟨p, 0, none⟩), .nilIface]) ∧ Keep Non w w' ∧ w.heap.size ≤ p ∧ p < w'.heap.size ∧ RdAt (fun g => w.heap.size ≤ g ∧ g < w'.heap.size) w' p t := by
  have FO := Lib.hid (fone_ok v (vput k ++ t) w h hc hb hv)
  obtain ⟨a, c, rfl, _⟩ := bs_cell h
  clear h hc hv
  go_enter Tryz.func131, Tryz.ntmps131
  go_wp2_with (first
    | (go_at_call 106; refine FO.out.mono ?_; rintro e w1 ⟨k1, v1, rfl, n1⟩; obtain ⟨b1, b2, b3⟩ := n1; have K1 := Lib.hid k1; have B1 := Lib.hid b1; have B2 := Lib.hid b2; have B3 := Lib.hid b3; clear k1 b1 b2 b3)
    | (go_at_call 107; refine (rnew_ok (fun g => w.heap.size ≤ g ∧ g < w1.heap.size) v1 (vput k ++ t) w1 B1.out B2.out (fun g e => ⟨(B3.out g e).2, B3.out g e⟩)).mono ?_; rintro e w2 ⟨rfl, k2, r2⟩; have K2 := Lib.hid (K1.out.trans1 k2); have Z2 : Hid (w1.heap.size < w2.heap.size) := Lib.hid (by obtain ⟨_, q, _⟩ := r2; exact lt_of_block q); have R2 := Lib.hid r2; clear k2 r2)
    | (go_at_call 110; refine (num_ok _ w1.heap.size k t w2 R2.out (by omega)).mono ?_; rintro e w3 ⟨rfl, k3, r3⟩; have K3 := Lib.hid k3; have R3 := Lib.hid r3; clear k3 r3))
  go_ret2
  have z1 := K1.out.size
  have z2 := Z2.out
  have z3 := K3.out.size
  refine ⟨_, rfl, K2.out.trans K3.out (fun _ _ e => e) (fun g hg e => by have e' : g = w1.heap.size := e; omega), z1, by omega, rdAt_mono R3.out (fun g e => ?_)⟩
  rcases e with e | e <;> omega
theorem rtake_ok (e n : Nat) (v : Value) (w : World) (h : Bs w v (rcpB e n)) (hc : okc v) (hv : ∀ g, v.ownBlock = some g → g < w.heap.size) (he : e ≤ 1099511627776) (hn : n ≤ 1048576) :
    Calls Tryz.prog 69 #[v] w fun r w' => r = .returned (.tuple #[.agg #[.int .i64 e, .int .i64 n], .nilIface]) ∧ Keep Non w w' := by
  have hb := rcpT_len he hn
  have et : rcpT e n = vput 2 ++ (vput e ++ (vput n ++ [])) := by simp [rcpT, vputs]
  have OP := Lib.hid (fun w1 (k : Keep Non w w1) => popen_ok 2 v (vput e ++ (vput n ++ [])) w1 (by rw [← et]; exact h.keepNon k) hc (fun g e => k.lt (hv g e)) (by decide) (by rw [← et]; omega))
  obtain ⟨a, c, rfl, _⟩ := bs_cell h
  clear h hc hv
  have B0 := Lib.hid (blk_new w (RcB 0 0))
  have K0 : Hid (Keep Non w (w.alloc (RcB 0 0))) := Lib.hid ((Keep.refl _ _).alloc _)
  go_enter Tryz.func69, Tryz.ntmps69
  go_wp2_with (first
    | (go_at_call 131; refine (OP.out _ K0.out).mono ?_; rintro r w1 ⟨p, rfl, k1, p1, p2, r1⟩; have K1 := Lib.hid (K0.out.trans1 k1); have G1 : Hid (w1.heap[w.heap.size]? = some (RcB 0 0)) := Lib.hid (nonAt k1 B0.out); have P1 : Hid (w.heap.size < p ∧ p < w1.heap.size) := Lib.hid (by simp [RcB] at p1; omega); have R1 := Lib.hid r1; clear k1 r1 p1 p2)
    | (go_at_call 108; first
        | (have r1 := R1.out; clear R1; refine (within_ok _ p e 1099511627776 _ w1 r1 (by omega) (by omega)).mono ?_; clear r1; rintro r w2 ⟨rfl, k2, r2⟩; have K2 := Lib.hid k2; have R2 := Lib.hid r2; clear k2 r2)
        | (refine (within_ok _ p n 1048576 _ w2 R2.out (by omega) (by omega)).mono ?_; rintro r w3 ⟨rfl, k3, r3⟩; have K3 := Lib.hid (K2.out.trans1 k3); have R3 := Lib.hid r3; have G3 := K3.out.at G1.out (by have := P1.out; unfold One; omega); have G4 := nonAt ((Keep.refl Non w3).alloc (RcB e n)) G3; have m0 := rc_0 G4; have m1 := rc_1 G4; have n0 := rc_f G4 0; have n1 := rc_f G4 1; have o0 := rc_0 (rc_set1 (rc_set0 G4 e) n); have o1 := rc_1 (rc_set1 (rc_set0 G4 e) n); dsimp only [RcB] at m0 m1 n0 n1 o0 o1; have GG := Lib.hid G3; clear k3 r3 G3 G4))
    | (go_at_call 113; refine (end_ok _ p _ (R3.out.keep ((Keep.refl Non w3).alloc _) (fun _ _ e => e))).mono ?_; rintro r w5 ⟨rfl, e2⟩; subst e2))
  refine bodyPost_ret (v := .tuple #[.agg #[.int .i64 e, .int .i64 n], .nilIface]) (by simp [results, Tryz.results69, go_sem, o0, o1]) rfl ?_
  have kf : Keep (One w.heap.size) w3 (((w3.alloc (RcB e n)).setCell ⟨w.heap.size, 0, none⟩ (.int .i64 e)).setCell ⟨w.heap.size, 1, none⟩ (.int .i64 n)) := ((((Keep.refl Non w3).alloc (RcB e n)).ofNon).setOne _ _).setOne _ _
  have k13 : Keep Non w w3 := K1.out.trans K3.out (fun _ _ e => e) (fun g hg e => by have e' : g = p := e; have := P1.out; omega)
  exact ⟨rfl, k13.trans kf (fun _ _ e => e) (fun g hg e => by have e' : g = w.heap.size := e; omega)⟩
theorem ptake_ok (e t f : Nat) (v : Value) (cl : List Cl) (w : World) (h : Bs w v (parB e t f cl)) (hc : okc v) (hv : ∀ g, v.ownBlock = some g → g < w.heap.size) (hl : cl.length ≤ 64) (hok : ∀ x ∈ cl, okCl x) (he : e ≤ 1099511627776) (ht : t ≤ 1048576) (hf : f + cl.length ≤ 1048576) (hb : (parT e t f cl).length ≤ 65536) :
    Calls Tryz.prog 66 #[v] w fun r w' => ∃ v', r = .returned (.tuple #[.agg #[.int .i64 e, .int .i64 t, .int .i64 f, v'], .nilIface]) ∧ Keep Non w w' ∧ ∃ xs, w'.ownsRow w.heap.size 50 2 v' cl.length xs ∧ CellsOf w.heap.size Non w' xs cl := by
  have et : parT e t f cl = vput 1 ++ (vput e ++ (vput t ++ (vput f ++ runB cl))) := by simp [parT, vputs]
  have OP := Lib.hid (fun w1 (k : Keep Non w w1) => popen_ok 1 v (vput e ++ (vput t ++ (vput f ++ runB cl))) w1 (by rw [← et]; exact h.keepNon k) hc (fun g e => k.lt (hv g e)) (by decide) (by rw [← et]; omega))
  obtain ⟨a, c, rfl, _⟩ := bs_cell h
  clear h hc hv
  have B0 := Lib.hid (blk_new w (PaB 0 0 0 (.slice none 0 0)))
  have K0 : Hid (Keep Non w (w.alloc (PaB 0 0 0 (.slice none 0 0)))) := Lib.hid ((Keep.refl _ _).alloc _)
  go_enter Tryz.func66, Tryz.ntmps66
  go_wp2_with (first
    | (go_at_call 131; refine (OP.out _ K0.out).mono ?_; rintro r w1 ⟨p, rfl, k1, p1, p2, r1⟩; have K1 := Lib.hid (K0.out.trans1 k1); have G1 : Hid (w1.heap[w.heap.size]? = some (PaB 0 0 0 (.slice none 0 0))) := Lib.hid (nonAt k1 B0.out); have P1 : Hid (w.heap.size < p ∧ p < w1.heap.size) := Lib.hid (by simp [PaB] at p1; omega); have R1 := Lib.hid (rdAt_mono (G := fun g => w.heap.size < g ∧ g < w1.heap.size) r1 (fun g e => by simp [PaB] at e; omega)); clear k1 r1 p1 p2)
    | (go_at_call 108; first
        | (have r1 := R1.out; clear R1; refine (within_ok _ p e 1099511627776 _ w1 r1 (by omega) (by omega)).mono ?_; clear r1; rintro r w2 ⟨rfl, k2, r2⟩; have K2 := Lib.hid k2; have R2 := Lib.hid r2; clear k2 r2)
        | (have r2 := R2.out; clear R2; refine (within_ok _ p t 1048576 _ w2 r2 (by omega) (by omega)).mono ?_; clear r2; rintro r w3 ⟨rfl, k3, r3⟩; have K3 := Lib.hid (K2.out.trans1 k3); have R3 := Lib.hid r3; clear k3 r3)
        | (have r3 := R3.out; clear R3; refine (within_ok _ p f 1048576 _ (w3.alloc (PaB e t 0 (.slice none 0 0))) (r3.keep ((Keep.refl Non w3).alloc _) (fun _ _ e => e)) (by omega) (by omega)).mono ?_; clear r3; rintro r w4 ⟨rfl, k4, r4⟩; have b4 := k4.at (blk_new w3 (PaB e t 0 (.slice none 0 0))) (by have h1 := K3.out.size; have h2 := P1.out; unfold One; omega); have K4 := Lib.hid (((Keep.refl Non w3).alloc (PaB e t 0 (.slice none 0 0))).ofNon.trans1 k4); have e2 := pa_2 b4; have f2 := pa_f b4 2; have B4 := Lib.hid (pa_set2 b4 f); have R4 := Lib.hid r4; clear k4 r4 b4))
    | (go_at_call 132; refine (takerun_ok _ p cl [] (w4.setCell ⟨w3.heap.size, 2, none⟩ (.int .i64 f)) (by rw [List.append_nil]; exact R4.out.keep ((Keep.refl (One w3.heap.size) w4).setOne _ _) (fun g e e2 => by have e3 : g = w3.heap.size := e2; have h1 := K3.out.size; have h2 := P1.out; rcases e with e | e <;> omega)) hl hok (fun g e => by have h1 := K3.out.size; have h4 := K4.out.size; simp; omega)).mono ?_; rintro r w5 ⟨v5, rfl, k5, r5, xs, o5, q5⟩; obtain ⟨a5, c5, rfl, _, _⟩ := ownsRow_form o5; have b5 := k5.at B4.out (by have h1 := K3.out.size; have h2 := P1.out; unfold One; omega); have f3 := pa_f b5 3; have g3 := pa_3 b5; have B5 := Lib.hid (pa_set3 b5 (.slice a5 cl.length c5)); have c0 := pa_0 B5.out; have c1 := pa_1 B5.out; have c2 := pa_2 B5.out; have c3 := pa_3 B5.out; have K5 := Lib.hid k5; have R5 := Lib.hid r5; have O5 := Lib.hid o5; have Q5 := Lib.hid q5; clear k5 r5 o5 q5 b5)
    | (go_at_call 113; refine (end_ok _ p _ (R5.out.keep ((Keep.refl (One w3.heap.size) w5).setOne _ _) (fun g e e2 => by have e3 : g = w3.heap.size := e2; have h1 := K3.out.size; have h2 := P1.out; rcases e with e | e <;> omega))).mono ?_; rintro r w6 ⟨rfl, e6⟩; subst e6)
    | (go_at_call 125; have k5 := (Keep.refl (One w3.heap.size) w5).setOne 3 (.slice a5 cl.length c5); have o5 := ownsRow_keep O5.out k5 (fun g e => by have := (O5.out.lt g e).1; have h4 := K4.out.size; have hb4 := lt_of_block B4.out; simp at this hb4; unfold One; omega); have q5 := Q5.out.keep (S' := Non) k5 (fun g h1 h2 => by have h3 : g = w3.heap.size := h2; have hb4 := lt_of_block B4.out; simp at h1 hb4; omega) (fun _ _ e => e); refine (pacheck_ok e t f _ cl _ (CsAt.of o5 q5) hl hok he ht hf).mono ?_; rintro r w7 ⟨rfl, k7⟩; clear c0 c1 c2 c3; have b7 := nonAt k7 B5.out; have G7 := nonAt k7 (k5.at (K5.out.at (((Keep.refl (One w3.heap.size) w4).setOne 2 (.int .i64 f)).at ((K4.out.at (K3.out.at G1.out (by have := P1.out; unfold One; omega)) (by have := P1.out; unfold One; omega))) (by have h1 := K3.out.size; have := P1.out; unfold One; omega)) (by have := P1.out; unfold One; omega)) (by have h1 := K3.out.size; have := P1.out; unfold One; omega)); have c0 := pa_0 b7; have c1 := pa_1 b7; have c2 := pa_2 b7; have c3 := pa_3 b7; have t0 := pa_0 G7; have t1 := pa_1 G7; have t2 := pa_2 G7; have t3 := pa_3 G7; have u0 := pa_f G7 0; have u1 := pa_f G7 1; have u2 := pa_f G7 2; have u3 := pa_f G7 3; have x0 := pa_0 (pa_set3 (pa_set2 (pa_set1 (pa_set0 G7 e) t) f) (.slice a5 cl.length c5)); have x1 := pa_1 (pa_set3 (pa_set2 (pa_set1 (pa_set0 G7 e) t) f) (.slice a5 cl.length c5)); have x2 := pa_2 (pa_set3 (pa_set2 (pa_set1 (pa_set0 G7 e) t) f) (.slice a5 cl.length c5)); have x3 := pa_3 (pa_set3 (pa_set2 (pa_set1 (pa_set0 G7 e) t) f) (.slice a5 cl.length c5)); have O7 := Lib.hid (ownsRow_keep o5 k7 (fun _ _ e => e)); have Q7 := Lib.hid (q5.keep (S' := Non) k7 (fun _ _ e => e) (fun _ _ e => e)); have K7 := Lib.hid (k5.trans1 k7.ofNon); clear k7 k5 o5 q5 b7 G7))
  refine bodyPost_ret (v := .tuple #[.agg #[.int .i64 e, .int .i64 t, .int .i64 f, .slice a5 cl.length c5], .nilIface]) (by simp [results, Tryz.results66, go_sem, x0, x1, x2, x3]) rfl ?_
  have z1 := P1.out
  have z3 := K3.out.size
  have z4 := lt_of_block B4.out
  simp at z4
  have z5 := K5.out.size
  simp at z5
  have kf : Keep (One w.heap.size) w7 ((((w7.setCell ⟨w.heap.size, 0, none⟩ (.int .i64 e)).setCell ⟨w.heap.size, 1, none⟩ (.int .i64 t)).setCell ⟨w.heap.size, 2, none⟩ (.int .i64 f)).setCell ⟨w.heap.size, 3, none⟩ (.slice a5 cl.length c5)) := ((((Keep.refl _ _).setOne _ _).setOne _ _).setOne _ _).setOne _ _
  refine ⟨_, rfl, ?_, xs, ownsRow_low (ownsRow_keep O7.out kf (fun g e => by have := (O7.out.lt g e).1; simp at this; unfold One; omega)) (by simp; omega), (Q7.out.keep (S' := Non) kf (fun g g1 e => by have e' : g = w.heap.size := e; simp at g1; omega) (fun _ _ e => e)).low (by simp; omega) (fun _ e => e)⟩
  have k13 : Keep Non w w3 := K1.out.trans K3.out (fun _ _ e => e) (fun g hg e => by have e' : g = p := e; omega)
  have k14 : Keep Non w w4 := k13.trans K4.out (fun _ _ e => e) (fun g hg e => by have e' : g = p := e; omega)
  have k14' : Keep Non w (w4.setCell ⟨w3.heap.size, 2, none⟩ (.int .i64 f)) := k14.trans ((Keep.refl (One w3.heap.size) w4).setOne _ _) (fun _ _ e => e) (fun g hg e => by have e' : g = w3.heap.size := e; omega)
  have k15 : Keep Non w w5 := k14'.trans K5.out (fun _ _ e => e) (fun g hg e => by have e' : g = p := e; omega)
  have k17 : Keep Non w w7 := k15.trans K7.out (fun _ _ e => e) (fun g hg e => by have e' : g = w3.heap.size := e; omega)
  exact k17.trans kf (fun _ _ e => e) (fun g hg e => by have e' : g = w.heap.size := e; omega)
def ShipB (e k : Nat) : Obj := .cells #[.int .i64 e, .int .i64 k] 137 (0, 0)
def ApB (e n : Nat) : Obj := .cells #[.int .i64 e, .int .i64 n] 140 (0, 0)
section
variable {w : World} {b e k n : Nat}
theorem sp_0 (h : w.heap[b]? = some (ShipB e k)) : w.cell? ⟨b, 0, none⟩ = some (.int .i64 e) := by simp [World.cell?, h, ShipB]
theorem sp_1 (h : w.heap[b]? = some (ShipB e k)) : w.cell? ⟨b, 1, none⟩ = some (.int .i64 k) := by simp [World.cell?, h, ShipB]
theorem sp_f (h : w.heap[b]? = some (ShipB e k)) (i : Nat) : w.frozen? ⟨b, i, none⟩ = false := by simp [World.frozen?, h, ShipB]
theorem sp_set1 (h : w.heap[b]? = some (ShipB e k)) (j : Nat) : (w.setCell ⟨b, 1, none⟩ (.int .i64 j)).heap[b]? = some (ShipB e j) := blk_set h 1 _
theorem ap_0 (h : w.heap[b]? = some (ApB e n)) : w.cell? ⟨b, 0, none⟩ = some (.int .i64 e) := by simp [World.cell?, h, ApB]
theorem ap_1 (h : w.heap[b]? = some (ApB e n)) : w.cell? ⟨b, 1, none⟩ = some (.int .i64 n) := by simp [World.cell?, h, ApB]
theorem ap_f (h : w.heap[b]? = some (ApB e n)) (i : Nat) : w.frozen? ⟨b, i, none⟩ = false := by simp [World.frozen?, h, ApB]
theorem ap_set1 (h : w.heap[b]? = some (ApB e n)) (j : Nat) : (w.setCell ⟨b, 1, none⟩ (.int .i64 j)).heap[b]? = some (ApB e j) := blk_set h 1 _
end
theorem sacked_ok (b e k : Nat) (w : World) (h : w.heap[b]? = some (ShipB e k)) :
    Calls Tryz.prog 27 #[.pointer (some ⟨b, 0, none⟩)] w fun r w' => r = .returned (.int .i64 k) ∧ w' = w := by
  have c1 := sp_1 h
  have LD := Lib.hid (Tr.aload_any b 1 k w c1)
  clear h
  go_enter Tryz.func27, Tryz.ntmps27
  go_wp2_with (go_at_call 71; refine LD.out.mono ?_; rintro r w1 ⟨rfl, rfl⟩)
  go_ret
  exact ⟨rfl, rfl⟩
theorem aepoch_ok (b e n : Nat) (w : World) (h : w.heap[b]? = some (ApB e n)) :
    Calls Tryz.prog 205 #[.pointer (some ⟨b, 0, none⟩)] w fun r w' => r = .returned (.int .i64 e) ∧ w' = w := by
  have c0 := ap_0 h
  clear h
  go_enter Tryz.func205, Tryz.ntmps205
  go_wp2_with fail
  go_ret
  exact ⟨rfl, rfl⟩
theorem aapplied_ok (b e n : Nat) (w : World) (h : w.heap[b]? = some (ApB e n)) :
    Calls Tryz.prog 206 #[.pointer (some ⟨b, 0, none⟩)] w fun r w' => r = .returned (.int .i64 n) ∧ w' = w := by
  have c1 := ap_1 h
  clear h
  go_enter Tryz.func206, Tryz.ntmps206
  go_wp2_with fail
  go_ret
  exact ⟨rfl, rfl⟩
theorem ain_yes (x most : Int) (w : World) (h1 : 0 ≤ x) (h2 : x ≤ most) :
    Calls Tryz.prog 59 #[.int .i64 x, .int .i64 most] w fun e w' => e = .returned (.bool true) ∧ w' = w := by
  go_enter Tryz.func59, Tryz.ntmps59
  go_wp2_with fail
  go_ret
  exact ⟨rfl, rfl⟩
theorem anew_ok (w : World) :
    Calls Tryz.prog 19 #[.int .i64 7, .int .i64 0] w fun r w' => ∃ b, r = .returned (.tuple #[.pointer (some ⟨b, 0, none⟩), .nilIface]) ∧ Keep Non w w' ∧ w.heap.size ≤ b ∧ w'.heap[b]? = some (ApB 7 0) := by
  go_enter Tryz.func19, Tryz.ntmps19
  go_wp2_with (go_at_call 59; with_reducible refine (ain_yes _ _ _ (by omega) (by omega)).mono ?_; rintro r w1 ⟨rfl, rfl⟩)
  go_ret2
  exact ⟨_, rfl, (Keep.refl _ _).alloc _, Nat.le_refl _, blk_new _ _⟩
theorem sin_yes (x most : Int) (w : World) (h1 : 0 ≤ x) (h2 : x ≤ most) :
    Calls Tryz.prog 57 #[.int .i64 x, .int .i64 most] w fun e w' => e = .returned (.bool true) ∧ w' = w := by
  go_enter Tryz.func57, Tryz.ntmps57
  go_wp2_with fail
  go_ret
  exact ⟨rfl, rfl⟩
theorem snew_ok (w : World) :
    Calls Tryz.prog 18 #[.int .i64 7, .int .i64 0] w fun r w' => ∃ b, r = .returned (.tuple #[.pointer (some ⟨b, 0, none⟩), .nilIface]) ∧ Keep Non w w' ∧ w.heap.size ≤ b ∧ w'.heap[b]? = some (ShipB 7 0) := by
  have b0 := blk_new w (ShipB 7 0)
  have c1 := sp_1 b0
  have f1 := sp_f b0 1
  have ST := Lib.hid (store_any w.heap.size 1 0 0 _ c1 f1)
  have B1 := Lib.hid (sp_set1 b0 0)
  have K1 : Hid (Keep Non w ((w.alloc (ShipB 7 0)).setCell ⟨w.heap.size, 1, none⟩ (.int .i64 (0 : Nat)))) := Lib.hid (((Keep.refl _ _).alloc _).setNew (Nat.le_refl _) _ _)
  clear c1 f1 b0
  go_enter Tryz.func18, Tryz.ntmps18
  go_wp2_with (first
    | (go_at_call 57; with_reducible refine (sin_yes _ _ _ (by omega) (by omega)).mono ?_; rintro r w1 ⟨rfl, rfl⟩)
    | (go_at_call 58; refine ST.out.mono ?_; rintro r w1 ⟨rfl, rfl⟩))
  go_ret2
  exact ⟨_, rfl, K1.out, Nat.le_refl _, B1.out⟩
theorem stail_ok {F : Nat → Prop} {b n : Nat} {L : Lg} (s : Nat) (w : World) (h : LgAt F w b n L) (hse : L.se = L.ep) :
    Calls Tryz.prog 121 #[.pointer (some ⟨s, 0, none⟩), .pointer (some ⟨b, 0, none⟩)] w fun r w' => r = .returned (.tuple #[.int .i64 L.next, .nilIface]) ∧ Keep Non w w' := by
  have TL := Lib.hid (lgtail_ok w h hse)
  clear h
  go_enter Tryz.func121, Tryz.ntmps121
  go_wp2_with (go_at_call 8; refine TL.out.mono ?_; rintro r w1 ⟨rfl, k1⟩; have K1 := Lib.hid k1; clear k1)
  go_ret2
  exact ⟨rfl, K1.out⟩
theorem stake_ok (b k n : Nat) (w : World) (h : w.heap[b]? = some (ShipB 7 k)) (hn : n ≤ 1048576) :
    Calls Tryz.prog 70 #[.pointer (some ⟨b, 0, none⟩), .agg #[.int .i64 (7 : Nat), .int .i64 n]] w fun r w' => r = .returned .nilIface ∧ Keep (One b) w w' ∧ w'.heap[b]? = some (ShipB 7 (max k n)) := by
  have kA := (Keep.refl Non w).alloc (RcB 7 n)
  have bA := nonAt kA h
  have b0 := blk_new w (RcB 7 n)
  have c0 : (w.alloc (.cells #[.int .i64 7, .int .i64 n] 159 (0, 0))).cell? ⟨b, 0, none⟩ = some (.int .i64 7) := sp_0 bA
  have c1 : (w.alloc (.cells #[.int .i64 7, .int .i64 n] 159 (0, 0))).cell? ⟨b, 1, none⟩ = some (.int .i64 k) := sp_1 bA
  have f1 : (w.alloc (.cells #[.int .i64 7, .int .i64 n] 159 (0, 0))).frozen? ⟨b, 1, none⟩ = false := sp_f bA 1
  have KA := Lib.hid kA
  have BA := Lib.hid bA
  clear kA bA b0 h
  by_cases hnk : (n : Int) ≤ k
  · have e : max k n = k := by omega
    rw [e]
    clear e
    go_enter Tryz.func70, Tryz.ntmps70
    go_wp2_with (go_at_call 57; with_reducible refine (sin_yes _ _ _ (by omega) (by omega)).mono ?_; rintro r w1 ⟨rfl, rfl⟩)
    go_region
    go_wp2_with fail
    refine wp_loop_rounds 1 ?_
    rw [rounds_succ]
    go_wp2_with (go_at_call 71; go_must (refine (load_any b 1 k _ (by exact c1)).mono ?_); rintro e w' ⟨rfl, rfl⟩)
    go_region
    go_wp2_with fail
    go_ret
    exact ⟨rfl, KA.out.ofNon.drew.drew, BA.out⟩
  · have e : max k n = n := by omega
    have hnk1 : ¬ n ≤ k := by omega
    have hnk2 : k < n := by omega
    have hnk3 : (k : Int) < n := by omega
    have hd1 : decide ((n : Int) ≤ k) = false := decide_eq_false hnk
    rw [e]
    clear e
    have B1 := Lib.hid (sp_set1 BA.out n)
    go_enter Tryz.func70, Tryz.ntmps70
    go_wp2_with (go_at_call 57; with_reducible refine (sin_yes _ _ _ (by omega) (by omega)).mono ?_; rintro r w1 ⟨rfl, rfl⟩)
    go_region
    go_wp2_with fail
    refine wp_loop_rounds 1 ?_
    rw [rounds_succ]
    go_wp2_with (go_at_call 71; go_must (refine (load_any b 1 k _ (by exact c1)).mono ?_); rintro e w' ⟨rfl, rfl⟩)
    go_region_law (go_simp; go_at_call 138; refine (cas_hit b 1 k n _ (by exact c1) (by exact f1)).mono ?_; rintro e w' ⟨rfl, rfl⟩)
    all_goals
      go_wp2_with fail
      go_ret
      exact ⟨rfl, KA.out.ofNon.drew.drew.setOne _ _, B1.out⟩
theorem shear_ok (b k n : Nat) (v : Value) (w : World) (h : w.heap[b]? = some (ShipB 7 k)) (hn : n ≤ 1048576) (hb : Bs w v (rcpB 7 n)) (hc : okc v) (hv : ∀ g, v.ownBlock = some g → g < w.heap.size) :
    Calls Tryz.prog 26 #[.pointer (some ⟨b, 0, none⟩), v] w fun r w' => r = .returned .nilIface ∧ Keep (One b) w w' ∧ w'.heap[b]? = some (ShipB 7 (max k n)) := by
  have RT := Lib.hid (rtake_ok 7 n v w hb hc hv (by omega) hn)
  have ST := Lib.hid (fun W (e : W.heap[b]? = some (ShipB 7 k)) => stake_ok b k n W e hn)
  have H := Lib.hid h
  obtain ⟨a, c, rfl, _⟩ := bs_cell hb
  clear h hb hc hv
  go_enter Tryz.func26, Tryz.ntmps26
  go_wp2_with (first
    | (go_at_call 69; refine RT.out.mono ?_; rintro r w1 ⟨rfl, k1⟩; have K1 := Lib.hid ((k1.alloc (RcB 7 n)) : Keep Non w _); have H1 := Lib.hid (nonAt K1.out H.out); clear k1)
    | (go_at_call 70; refine (ST.out _ H1.out).mono ?_; rintro r w2 ⟨rfl, k2, b2⟩; have K2 := Lib.hid (K1.out.ofNon.trans1 k2); have B2 := Lib.hid b2; clear k2 b2))
  go_ret
  exact ⟨rfl, K2.out, B2.out⟩
theorem areceipt_ok (b e n : Nat) (w : World) (h : w.heap[b]? = some (ApB e n)) :
    Calls Tryz.prog 136 #[.pointer (some ⟨b, 0, none⟩)] w fun r w' => r = .returned (.agg #[.int .i64 e, .int .i64 n]) ∧ Keep Non w w' := by
  have K0 : Hid (Keep Non w (w.alloc (RcB 0 0))) := Lib.hid ((Keep.refl _ _).alloc _)
  have i0 := rc_0 (blk_new w (RcB 0 0))
  have i1 := rc_1 (blk_new w (RcB 0 0))
  have j0 := rc_f (blk_new w (RcB 0 0)) 0
  have j1 := rc_f (blk_new w (RcB 0 0)) 1
  have EP := Lib.hid (aepoch_ok b e n _ (nonAt K0.out h))
  have AP := Lib.hid (aapplied_ok b e n _ (nonAt K0.out h))
  clear h
  go_enter Tryz.func136, Tryz.ntmps136
  go_wp2_with (first
    | (go_at_call 205; refine EP.out.mono ?_; rintro r w1 ⟨rfl, rfl⟩)
    | (go_at_call 206; refine AP.out.mono ?_; rintro r w1 ⟨rfl, rfl⟩))
  have b0 := rc_set1 (rc_set0 (blk_new w (RcB 0 0)) e) n
  have o0 := rc_0 b0
  have o1 := rc_1 b0
  refine bodyPost_ret (v := .agg #[.int .i64 e, .int .i64 n]) (by simp [results, Tryz.results136, go_sem, o0, o1]) rfl ?_
  exact ⟨rfl, (K0.out.setNew (Nat.le_refl _) _ _).setNew (Nat.le_refl _) _ _⟩
theorem lgReadL_ok {FL : Nat → Prop} {lb : Nat} {L : Lg} (w : World) (hl : LgAt FL w lb L.shs.length L) (h1 : Log1 L) (a : Nat) (ha : a ≤ 1048575) :
    Calls Tryz.prog 13 #[.pointer (some ⟨lb, 0, none⟩), .int .i64 a] w fun r w' => ∃ v, r = .returned (.tuple #[.agg #[.int .i64 (cellL L a).1, v], .nilIface]) ∧ Keep Non w w' ∧ w'.ownsRow w.heap.size 5 1 v (cellL L a).2.length ((cellL L a).2.map bv) := by
  have hpos : 0 < L.shs.length := by have := h1.kd; omega
  obtain ⟨he, hup⟩ := h1.unit a
  have hx0 : (uat (unitL L a).l (unitL L a).D a).2.length ≤ 100000000 := by have := (h1.cells a).2.2.1; unfold cellL at this; omega
  rcases h1.home a with ⟨u, hu, hs⟩ | ⟨v, u, hu, hs⟩
  · exact lgRead_ok w hl hpos hu hs he hup ha hx0
  · exact lgRead2_ok w hl hpos hu hs he hup ha hx0
structure NxLp (W0 : World) (sb e t f : Nat) (cl : List Cl) (j : Nat) (ov : Value) (W : World) : Prop where
  bx : W.heap[sb]? = some (PaB e t f ov)
  row : ∃ xs, W.ownsRow W0.heap.size 50 2 ov j xs ∧ CellsOf W0.heap.size (fun g => g = sb ∨ ov.ownBlock = some g) W xs (cl.take j)
  kp : Keep (One sb) W0 W
theorem nx_next {W0 wr w2 w5 : World} {sb e t f j n oc c2 : Nat} {oa a2 : Option Addr} {cl : List Cl} {x : Cl} {v5 : Value} {xs : List Value} {o1 o2 : Obj} (hb : wr.heap[sb]? = some (PaB e t f (.slice oa j oc))) (hrow : wr.ownsRow W0.heap.size 50 2 (.slice oa j oc) j xs) (hcs : CellsOf W0.heap.size (fun g => g = sb ∨ (Value.slice oa j oc).ownBlock = some g) wr xs (cl.take j)) (kp : Keep (One sb) W0 wr) (hsb : sb < W0.heap.size) (hx : cl[j]? = some x)
    (k2 : Keep Non wr w2) (r2 : w2.ownsRow wr.heap.size 5 1 (.slice a2 n c2) x.2.length (x.2.map bv)) (ho : w5.ownsRow W0.heap.size 50 2 v5 (j + 1) (xs ++ [.int .i64 x.1, .slice a2 n c2])) (hg : ((w2.alloc o1).alloc o2).grownBy w5 (Value.slice oa j oc).ownBlock) (hpp : v5.ownBlock = (Value.slice oa j oc).ownBlock ∨ v5.ownBlock = some ((w2.alloc o1).alloc o2).heap.size) :
    NxLp W0 sb e t f cl (j + 1) v5 (w5.setCell ⟨sb, 3, none⟩ v5) ∧ w5.heap[sb]? = some (PaB e t f (.slice oa j oc)) := by
  have ka : Keep Non w2 ((w2.alloc o1).alloc o2) := ((Keep.refl _ _).alloc _).alloc _
  have kg : Keep (fun g => (Value.slice oa j oc).ownBlock = some g) ((w2.alloc o1).alloc o2) w5 := (Keep.refl _ _).grown hg (fun k e => .inl e)
  have kb : Keep (One sb) w5 (w5.setCell ⟨sb, 3, none⟩ v5) := (Keep.refl _ _).setOne _ _
  have k4 := k2.trans1 ka
  have lo : ∀ g, (Value.slice oa j oc).ownBlock = some g → W0.heap.size ≤ g ∧ g < wr.heap.size := fun g e => hrow.lt g e
  have s0 := kp.size
  have s2 := k2.size
  have s4 := k4.size
  have sa : ((w2.alloc o1).alloc o2).heap.size = w2.heap.size + 2 := by simp
  have b5 : w5.heap[sb]? = some (PaB e t f (.slice oa j oc)) := kg.at (nonAt k4 hb) (fun e => by have := (lo sb e).1; omega)
  have vlo : ∀ g, v5.ownBlock = some g → W0.heap.size ≤ g := fun g e => (ho.lt g e).1
  refine ⟨⟨pa_set3 b5 v5, ⟨_, ownsRow_keep ho kb (fun g e e2 => by have e' : g = sb := e2; have := vlo g e; omega), ?_⟩, (kp.trans1 k4.ofNon).trans (kg.trans kb (U := fun g => (Value.slice oa j oc).ownBlock = some g ∨ g = sb) (fun _ _ x => .inl x) (fun _ _ x => .inr x)) (fun _ _ x => x) (fun g hg' x => by
    rcases x with x | x
    · have := (lo g x).1; omega
    · exact x)⟩, b5⟩
  have et : cl.take (j + 1) = cl.take j ++ [x] := by rw [List.take_add_one, hx]; rfl
  rw [et]
  refine CellsOf.keep (S := fun g => g = sb ∨ v5.ownBlock = some g) ?_ kb (fun g _ e => .inl e) (fun g _ e => e)
  refine CellsOf.append ?_ ?_
  · refine ((hcs.keep (S' := fun g => g = sb ∨ (Value.slice oa j oc).ownBlock = some g) k4 (fun _ _ e => e.elim) (fun _ _ e => e)).keep kg (fun g _ e => .inr e) ?_)
    rintro g hg' (e | e)
    · exact .inl e
    · rcases hpp with e3 | e3
      · exact .inr (by rw [← e3, e])
      · rw [e3] at e; injection e with e; omega
  · refine ⟨rfl, fun i y hy => ?_⟩
    cases i with
    | succ i => simp at hy
    | zero =>
      simp at hy
      subst hy
      have own2 : ∀ g, (Value.slice a2 n c2).ownBlock = some g → wr.heap.size ≤ g ∧ g < w2.heap.size := fun g e => r2.lt g e
      have nk : ∀ g, (Value.slice a2 n c2).ownBlock = some g → ¬ ((Value.slice oa j oc).ownBlock = some g) := fun g e e2 => by have := own2 g e; have := lo g e2; omega
      refine ⟨.slice a2 n c2, rfl, rfl, ((Rd.ofOwns r2).keepNon ka).keep kg (fun g e => nk g e), okc_own r2, fun g e => ?_⟩
      have h1 := own2 g e
      have h5 : g < w5.heap.size := kg.lt (ka.lt h1.2)
      refine ⟨by omega, h5, ?_⟩
      rintro (e2 | e2)
      · omega
      · rcases hpp with e3 | e3
        · rw [e3] at e2; exact nk g e e2
        · rw [e3] at e2; injection e2 with e2; omega
theorem snext_ok {FL : Nat → Prop} {sb lb k : Nat} {L : Lg} (w : World) (hs : w.heap[sb]? = some (ShipB 7 k)) (hl : LgAt FL w lb L.shs.length L) (h1 : Log1 L) (hlow : ∀ s ∈ L.shs, s.l = 0) (hk : k ≤ L.next) :
    Calls Tryz.prog 60 #[.pointer (some ⟨sb, 0, none⟩), .pointer (some ⟨lb, 0, none⟩)] w fun e w' => ∃ v', e = .returned (.tuple #[.agg #[.int .i64 (7 : Nat), .int .i64 (0 : Nat), .int .i64 k, v'], .nilIface]) ∧ Keep Non w w' ∧ ∃ xs, w'.ownsRow w.heap.size 50 2 v' (newsL L k).length xs ∧ CellsOf w.heap.size Non w' xs (newsL L k) := by
  have hnx := h1.next
  have RD : Hid (∀ W (a : Nat), Keep Non w W → a ≤ 1048575 → Calls Tryz.prog 13 #[.pointer (some ⟨lb, 0, none⟩), .int .i64 a] W fun r w' => ∃ v, r = .returned (.tuple #[.agg #[.int .i64 (cellL L a).1, v], .nilIface]) ∧ Keep Non W w' ∧ w'.ownsRow W.heap.size 5 1 v (cellL L a).2.length ((cellL L a).2.map bv)) := Lib.hid (fun W a k ha => lgReadL_ok W (hl.keepNon k) h1 a ha)
  have SB : Hid (∀ W, Keep Non w W → W.heap[sb]? = some (ShipB 7 k)) := Lib.hid (fun W k => nonAt k hs)
  have n1 : 1 ≤ L.shs.length := by have := h1.kd; omega
  have n3 : L.shs.length ≤ 3 := by have := h1.kd; omega
  have TL := Lib.hid (fun W (q : Keep Non w W) => stail_ok sb W (hl.keepNon q) h1.se)
  have PJ := Lib.hid (fun W (q : Keep Non w W) => lgProj_ok W (hl.keepNon q) n1)
  have UN := Lib.hid (fun W e cv T (hp : PrAt T W cv L.shs.length) => punits_ok T e L.shs.length cv W hp n1 n3)
  have UI : Hid (∀ W u, Keep Non w W → u < L.shs.length → Calls Tryz.prog 123 #[.pointer (some ⟨lb, 0, none⟩), .int .i64 u] W fun r w' => ∃ b' F' e D, r = .returned (.pointer (some ⟨b', 0, none⟩)) ∧ Keep Non W w' ∧ UnAt F' w' b' e 0 D) := Lib.hid (fun W u k hu => by
    have hs : L.shs[u]? = some L.shs[u] := List.getElem?_eq_getElem (by omega)
    refine (lgUnit_ok W (hl.keepNon k) hs).mono ?_
    rintro r w' ⟨b', F', e1, e2, e3⟩
    rw [hlow _ (List.getElem_mem _)] at e3
    exact ⟨b', F', _, _, e1, e2, e3⟩)
  have AK := Lib.hid (fun W (q : Keep Non w W) => sacked_ok sb 7 k W (nonAt q hs))
  have hn := news_len L k
  have hst : (newsL L k).length < min 64 (L.next - k) → (cellL L (k + (newsL L k).length)).1 = 0 := news_stop
  have hwb : sb < w.heap.size := lt_of_block hs
  have hkind : ∀ x ∈ newsL L k, x.1 ≠ 0 := news_kind
  have hget : ∀ j, j < (newsL L k).length → (newsL L k)[j]? = some (cellL L (k + j)) := fun j hj => news_get hj
  generalize hcl : newsL L k = cl at hn hst hkind hget ⊢
  have GT : Hid (∀ j, j < cl.length → cl[j]? = some (cellL L (k + j)) ∧ (cellL L (k + j)).1 ≠ 0) := Lib.hid (fun j hj => ⟨hget j hj, hkind _ (List.mem_of_getElem? (hget j hj))⟩)
  have ST := Lib.hid hst
  have HN := Lib.hid hn
  have HK := Lib.hid hk
  have HNX := Lib.hid hnx
  obtain ⟨i0, hi0, hz0, hz1, hz2⟩ := info_parts infoCell
  have I0 := Lib.hid (And.intro hi0 (And.intro hz0 (And.intro hz1 hz2)))
  have K1 : Hid (Keep Non w (w.alloc (PaB 0 0 0 (.slice none 0 0)))) := Lib.hid ((Keep.refl _ _).alloc _)
  have R1 := Lib.hid (blk_new w (PaB 0 0 0 (.slice none 0 0)))
  generalize hn3 : L.shs.length = nu at *
  clear hs hl h1 hi0 hz0 hz1 hz2 hcl hlow hn hst hkind hget hnx hk
  go_enter Tryz.func60, Tryz.ntmps60
  go_wp2_with (first
    | (go_at_call 121; refine (TL.out _ K1.out).mono ?_; rintro r w1 ⟨rfl, k1⟩; have e0 := sp_0 (SB.out _ (K1.out.trans1 k1)); have K2 := Lib.hid (((K1.out.trans1 k1).alloc (PaB 7 1048576 0 (.slice none 0 0))) : Keep Non w _); have R2 := Lib.hid (nonAt (k1.alloc (PaB 7 1048576 0 (.slice none 0 0))) R1.out); have P2 := Lib.hid (blk_new w1 (PaB 7 1048576 0 (.slice none 0 0))); have Z1 := Lib.hid k1.size; clear k1)
    | (go_at_call 122; refine (PJ.out _ K2.out).mono ?_; rintro r w3 ⟨cv', rfl, k3, p3⟩; obtain ⟨g3, vs3, c3', rfl, _⟩ := id p3; have K3 := Lib.hid k3; have UNW := Lib.hid (UN.out _ L.ep _ _ p3); clear k3 p3)
    | (go_at_call 45; refine UNW.out.mono ?_; rintro r w4 ⟨ug, uc, rfl, k4, hug, u4⟩; have K4 := Lib.hid (K3.out.trans1 k4); have U4 := Lib.hid u4; clear k4 u4))
  have S4 : Hid (w.heap.size < w1.heap.size) := Lib.hid (by have := Z1.out; simp at this; omega)
  have R4 := Lib.hid (nonAt K4.out R2.out)
  have P4 := Lib.hid (nonAt K4.out P2.out)
  have KW4 := Lib.hid (K2.out.trans1 K4.out)
  have NE : Hid (ug ≠ w1.heap.size) := Lib.hid (by have := K3.out.size; simp at this; omega)
  have L4 : Hid (w1.heap.size < w4.heap.size) := Lib.hid (lt_of_block P4.out)
  clear R2 P2 K2 K3 K4 UNW PJ TL UN R1 K1 Z1 hug
  go_loopw [34] (fun i wr => ∃ j : Nat, j ≤ nu ∧ i = .int .i64 j ∧ Keep (One w1.heap.size) w4 wr ∧ wr.heap[w1.heap.size]? = some (PaB 7 (if j = 0 then 1048576 else 0) 0 (.slice none 0 0))) (fun i _ => nu - (intOf i).toNat)
  case atStart => exact ⟨0, by omega, rfl, Keep.refl _ _, P4.out⟩
  case round =>
    obtain ⟨j, hj, rfl, hk, hp⟩ := hrel
    have hkw : Keep Non w wr := KW4.out.trans hk (fun _ _ e => e) (fun g hg e => by have e' : g = w1.heap.size := e; have := S4.out; omega)
    by_cases hlt : j < nu
    · have hlj : (j : Int) < (nu : Int) := by omega
      have hcell : wr.cell? ⟨ug, j, none⟩ = some (.int .i64 (j : Int)) := by
        obtain ⟨a', c', e, hx⟩ := Rd.keep U4.out hk (fun g e => fun e2 => NE.out (by
          have e' : ug = g := by simpa [Value.ownBlock] using e
          have e3 : g = w1.heap.size := e2
          rw [e', e3]))
        injection e with e1 e2 e3
        obtain ⟨g', off, e4, hc⟩ := hx (by intro e; have e' := List.map_eq_nil_iff.1 e; have e2 := congrArg List.length e'; simp at e2; omega)
        rw [← e1] at e4
        injection e4 with e4
        injection e4 with e4 e5
        subst e4
        subst e5
        have := hc j (iv j) (by rw [List.getElem?_map, List.getElem?_range hlt]; rfl)
        rwa [Nat.zero_add] at this
      have UIW := Lib.hid (UI.out wr.drew j hkw.drew hlt)
      generalize hm : (if j = 0 then 1048576 else 0) = tm at hp
      have b1 := pa_1 hp
      have f1 := pa_f hp 1
      have HK1 := Lib.hid hk
      have HP := Lib.hid hp
      have htm : min (tm : Int) 0 = 0 := by omega
      clear hp hk hkw hm
      go_wp2_with fail
      go_region_law (first
        | (go_simp; go_at_call 123; refine UIW.out.mono ?_; rintro r w5 ⟨b', F', e, D, rfl, k5, u5⟩; have p5 := nonAt k5 HP.out; have b5 := pa_1 p5; have f5 := pa_f p5 1; have P5 := Lib.hid p5; have K5 := Lib.hid k5; have LW := Lib.hid (unlow_ok F' b' e 0 D w5 u5); clear k5 u5 p5)
        | (go_simp; go_at_call 124; refine LW.out.mono ?_; rintro r w6 ⟨rfl, rfl⟩))
      all_goals
        go_wp2_with fail
        exact ⟨⟨j + 1, by omega, by first | rfl | go_num, ((HK1.out.drew).trans1 K5.out.ofNon).setOne _ _, by rw [if_neg (by omega)]; exact pa_set1 P5.out 0⟩, by simp [intOf]; omega⟩
    · obtain rfl : j = nu := by omega
      rw [if_neg (by omega)] at hp
      have HP := Lib.hid hp
      have HKW := Lib.hid hkw
      have AKW := Lib.hid (AK.out wr hkw)
      have f2 := pa_f hp 2
      have p2 := pa_2 hp
      have P5 := Lib.hid (pa_set2 hp k)
      have K5 : Hid (Keep (One w1.heap.size) w4 (wr.setCell ⟨w1.heap.size, 2, none⟩ (.int .i64 k))) := Lib.hid (hk.setOne _ _)
      clear hp hk HKW hkw
      go_wp2_with (go_at_call 27; refine AKW.out.mono ?_; rintro r w5 ⟨rfl, rfl⟩)
      obtain ⟨W0, hW0⟩ : ∃ W0, W0 = w5.setCell ⟨w1.heap.size, 2, none⟩ (.int .i64 k) := ⟨_, rfl⟩
      rw [← hW0] at P5 K5 ⊢
      clear hW0 f2 p2 HP AKW
      have KW0 : Hid (Keep Non w W0) := Lib.hid (KW4.out.trans K5.out (fun _ _ e => e) (fun g hg e => by have e' : g = w1.heap.size := e; have := S4.out; omega))
      have R5 : Hid (W0.heap[w.heap.size]? = some (PaB 0 0 0 (.slice none 0 0))) := Lib.hid (K5.out.at R4.out (fun e => by have e' : w.heap.size = w1.heap.size := e; have := S4.out; omega))
      go_loopw [12] (fun i wr => ∃ j : Nat, j ≤ cl.length ∧ i = .int .i64 (k + j : Nat) ∧ ∃ ov, NxLp W0 w1.heap.size 7 0 k cl j ov wr) (fun i _ => k + cl.length - (intOf i).toNat)
      case atStart => exact ⟨0, by omega, rfl, _, P5.out, ⟨[], World.ownsRow_nil _ _ _ _, by simpa using CellsOf.nil _ _ _⟩, Keep.refl _ _⟩
      case round =>
        obtain ⟨j, hj, rfl, ov, lp⟩ := hrel
        obtain ⟨bx, ⟨xs, row, cs⟩, kp⟩ := lp
        obtain ⟨oa, oc, rfl, _, _⟩ := ownsRow_form row
        have kw : Keep Non w wr := KW0.out.trans kp (fun _ _ e => e) (fun g hg e => by have e' : g = w1.heap.size := e; have := S4.out; omega)
        have hrb : wr.heap[w.heap.size]? = some (PaB 0 0 0 (.slice none 0 0)) := kp.at R5.out (fun e => by have e' : w.heap.size = w1.heap.size := e; have := S4.out; omega)
        have hnl := HN.out
        have hnx := HNX.out
        have hkk := HK.out
        have KW := Lib.hid kw
        have BX := Lib.hid bx
        have ROW := Lib.hid row
        have CS := Lib.hid cs
        have KP := Lib.hid kp
        have RB := Lib.hid hrb
        have hwr : IntKind.wrap .i64 ((k : Int) + 64) = (k : Int) + 64 := IntWalk.i64_in _ (by omega)
        have EV : Hid (∀ W', Keep Non wr W' → W'.heap[w1.heap.size]? = some (PaB 7 0 k (.slice oa j oc)) ∧ W'.heap[w.heap.size]? = some (PaB 0 0 0 (.slice none 0 0))) := Lib.hid (fun W' q => ⟨nonAt q bx, nonAt q hrb⟩)
        have FIN : Hid (j = cl.length → ∀ W', Keep Non wr W' → ∃ v', Ending.returned (.tuple #[.agg #[.int .i64 7, .int .i64 0, .int .i64 k, .slice oa j oc], .nilIface]) = Ending.returned (.tuple #[.agg #[.int .i64 7, .int .i64 0, .int .i64 k, v'], .nilIface]) ∧ Keep Non w (((((W'.setCell ⟨w.heap.size, 0, none⟩ (.int .i64 7)).setCell ⟨w.heap.size, 1, none⟩ (.int .i64 0)).setCell ⟨w.heap.size, 2, none⟩ (.int .i64 k)).setCell ⟨w.heap.size, 3, none⟩ (.slice oa j oc))) ∧ ∃ xs, (((((W'.setCell ⟨w.heap.size, 0, none⟩ (.int .i64 7)).setCell ⟨w.heap.size, 1, none⟩ (.int .i64 0)).setCell ⟨w.heap.size, 2, none⟩ (.int .i64 k)).setCell ⟨w.heap.size, 3, none⟩ (.slice oa j oc))).ownsRow w.heap.size 50 2 v' cl.length xs ∧ CellsOf w.heap.size Non (((((W'.setCell ⟨w.heap.size, 0, none⟩ (.int .i64 7)).setCell ⟨w.heap.size, 1, none⟩ (.int .i64 0)).setCell ⟨w.heap.size, 2, none⟩ (.int .i64 k)).setCell ⟨w.heap.size, 3, none⟩ (.slice oa j oc))) xs cl) := Lib.hid (by
          rintro rfl W' q
          have kf : Keep (One w.heap.size) W' ((((W'.setCell ⟨w.heap.size, 0, none⟩ (.int .i64 7)).setCell ⟨w.heap.size, 1, none⟩ (.int .i64 0)).setCell ⟨w.heap.size, 2, none⟩ (.int .i64 k)).setCell ⟨w.heap.size, 3, none⟩ (.slice oa cl.length oc)) := ((((Keep.refl _ _).setOne _ _).setOne _ _).setOne _ _).setOne _ _
          have z0 := KW0.out.size
          have z4 := L4.out
          have z5 := K5.out.size
          have z6 := S4.out
          rw [List.take_length] at cs
          refine ⟨_, rfl, (kw.trans1 q).trans kf (fun _ _ e => e) (fun g hg e => by have e' : g = w.heap.size := e; omega), xs, ownsRow_low (ownsRow_keep (ownsRow_keep row q (fun _ _ e => e)) kf (fun g e e2 => by have e' : g = w.heap.size := e2; have := (row.lt g e).1; omega)) z0, ((cs.keep (S' := Non) q (fun _ _ e => e.elim) (fun _ _ e => e.elim)).keep (S' := Non) kf (fun g hg e => by have e' : g = w.heap.size := e; omega) (fun _ _ e => e.elim)).low z0 (fun _ e => e)⟩)
        clear kw bx row cs kp hrb
        by_cases hlt2 : j < cl.length
        · have hj3 : (k : Int) + j < min ((k : Int) + 64) L.next := by omega
          obtain ⟨hcj, hk0⟩ := GT.out j hlt2
          have RDJ := Lib.hid (RD.out wr (k + j) KW.out (by omega))
          have HCJ := Lib.hid hcj
          generalize cellL L (k + j) = y at RDJ HCJ hk0
          rw [Int.natCast_add] at RDJ
          clear hcj
          go_wp2_with (first
            | (go_at_call 13; ((with_reducible refine RDJ.out.mono ?_); rintro e w2 ⟨v2, rfl, k2, o2⟩); obtain ⟨a2, c2, rfl, _, _⟩ := ownsRow_form o2; have b4 := (EV.out _ ((k2.alloc (.cells #[.int .i64 y.1, .slice a2 y.2.length c2] 50)).alloc (.cells #[.int .i64 y.1, .slice a2 y.2.length c2] 50))).1; have b3 := (EV.out _ (k2.alloc (.cells #[.int .i64 y.1, .slice a2 y.2.length c2] 50))).1; have d1 := pa_3 b4; have d1' := pa_3 b3; have K2 := Lib.hid k2; have O2 := Lib.hid o2; have N4 := Lib.hid (alloc2_at w2 (.cells #[.int .i64 y.1, .slice a2 y.2.length c2] 50 (0, 0)) (.cells #[.int .i64 y.1, .slice a2 y.2.length c2] 50 (0, 0))); clear k2 o2 b4 b3)
            | (at_builtin; refine wpList_append_prov rfl _ _ 22 rfl W0.heap.size 50 i0 _ 2 32 Tryz.underlying22 I0.out.1 I0.out.2.1 I0.out.2.2.1 I0.out.2.2.2 rfl (by decide) (.slice oa j oc) j xs rfl (ownsRow_keep ROW.out (K2.out.trans1 (((Keep.refl Non w2).alloc _).alloc _)) (fun _ _ e => e)) ⟨w2.heap.size + 1, 0, none⟩ 1 1 [.int .i64 y.1, .slice a2 y.2.length c2] rfl rfl (by exact two_cells N4.out) (by intro u hu; simp at hu; rcases hu with rfl | rfl <;> rfl) (by unfold maxLen; omega) (by omega) (by have := KP.out.size; have := K2.out.size; simp; omega) ?_; intro v5 w5 ho hg hpp; obtain ⟨a5, c5, rfl, _, _⟩ := ownsRow_form ho; obtain ⟨nx, b5⟩ := nx_next BX.out ROW.out CS.out KP.out (by have := L4.out; have := K5.out.size; omega) HCJ.out K2.out O2.out ho hg hpp; have f5 := pa_f b5 3; have g5 := pa_3 b5; have NX := Lib.hid nx; clear ho hg hpp nx b5))
          exact ⟨⟨j + 1, by omega, by first | rfl | go_num | (congr 1; omega), _, NX.out⟩, by simp [intOf]; omega⟩
        · obtain rfl : j = cl.length := by omega
          have FN := Lib.hid (FIN.out rfl)
          by_cases hlt3 : cl.length < min 64 (L.next - k)
          · have hj3 : (k : Int) + cl.length < min ((k : Int) + 64) L.next := by omega
            have hk0 := ST.out hlt3
            have RDJ := Lib.hid (RD.out wr (k + cl.length) KW.out (by omega))
            generalize cellL L (k + cl.length) = y at RDJ hk0
            rw [Int.natCast_add] at RDJ
            obtain ⟨yk, yd⟩ := y
            dsimp only at RDJ hk0
            subst hk0
            clear FIN
            go_wp2_with (go_at_call 13; ((with_reducible refine RDJ.out.mono ?_); rintro e w2 ⟨v2, rfl, k2, o2⟩); obtain ⟨a2, c2, rfl, _, _⟩ := ownsRow_form o2; have KA := Lib.hid (k2.alloc (.cells #[.int .i64 0, .slice a2 yd.length c2] 50)); have b3 := EV.out _ KA.out; have t0 := pa_0 b3.1; have t1 := pa_1 b3.1; have t2 := pa_2 b3.1; have t3 := pa_3 b3.1; have r0 := pa_0 b3.2; have r1 := pa_1 b3.2; have r2 := pa_2 b3.2; have r3 := pa_3 b3.2; have u0 := pa_f b3.2 0; have u1 := pa_f b3.2 1; have u2 := pa_f b3.2 2; have u3 := pa_f b3.2 3; have XX : Hid ((((((w2.alloc (.cells #[.int .i64 0, .slice a2 yd.length c2] 50)).setCell ⟨w.heap.size, 0, none⟩ (.int .i64 7)).setCell ⟨w.heap.size, 1, none⟩ (.int .i64 0)).setCell ⟨w.heap.size, 2, none⟩ (.int .i64 k)).setCell ⟨w.heap.size, 3, none⟩ (.slice oa cl.length oc)).heap[w.heap.size]? = some (PaB 7 0 k (.slice oa cl.length oc))) := Lib.hid (pa_set3 (pa_set2 (pa_set1 (pa_set0 b3.2 7) 0) k) (.slice oa cl.length oc)); clear k2 o2 b3)
            have x0 := pa_0 XX.out
            have x1 := pa_1 XX.out
            have x2 := pa_2 XX.out
            have x3 := pa_3 XX.out
            refine bodyPost_ret (v := .tuple #[.agg #[.int .i64 7, .int .i64 0, .int .i64 k, .slice oa cl.length oc], .nilIface]) (by simp [results, Tryz.results60, go_sem, x0, x1, x2, x3]) rfl ?_
            exact FN.out _ KA.out
          · have hj3 : ¬ (k : Int) + cl.length < min ((k : Int) + 64) L.next := by omega
            have b3 := EV.out _ (Keep.refl _ _)
            have t0 := pa_0 b3.1
            have t1 := pa_1 b3.1
            have t2 := pa_2 b3.1
            have t3 := pa_3 b3.1
            have r0 := pa_0 b3.2
            have r1 := pa_1 b3.2
            have r2 := pa_2 b3.2
            have r3 := pa_3 b3.2
            have u0 := pa_f b3.2 0
            have u1 := pa_f b3.2 1
            have u2 := pa_f b3.2 2
            have u3 := pa_f b3.2 3
            have XX : Hid (((((wr.setCell ⟨w.heap.size, 0, none⟩ (.int .i64 7)).setCell ⟨w.heap.size, 1, none⟩ (.int .i64 0)).setCell ⟨w.heap.size, 2, none⟩ (.int .i64 k)).setCell ⟨w.heap.size, 3, none⟩ (.slice oa cl.length oc)).heap[w.heap.size]? = some (PaB 7 0 k (.slice oa cl.length oc))) := Lib.hid (pa_set3 (pa_set2 (pa_set1 (pa_set0 b3.2 7) 0) k) (.slice oa cl.length oc))
            clear b3 FIN
            go_wp2_with fail
            have x0 := pa_0 XX.out
            have x1 := pa_1 XX.out
            have x2 := pa_2 XX.out
            have x3 := pa_3 XX.out
            refine bodyPost_ret (v := .tuple #[.agg #[.int .i64 7, .int .i64 0, .int .i64 k, .slice oa cl.length oc], .nilIface]) (by simp [results, Tryz.results60, go_sem, x0, x1, x2, x3]) rfl ?_
            exact FN.out _ (Keep.refl _ _)
end Go.Proofs.YtdmckfkhkjkdnaaGreatDoor
