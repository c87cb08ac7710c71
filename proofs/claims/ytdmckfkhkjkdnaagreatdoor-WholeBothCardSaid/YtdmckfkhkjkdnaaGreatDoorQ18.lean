/- manifest.Of, Holds, Copy: walked. · manifest.Holds, Copy: walked. · Rows of parts: their cells; slices.Clone of parts: walked. · manifest.Copy: walked -/
import Derived.Test.YtdmckfkhkjkdnaaGreatDoorQ17
set_option linter.unusedVariables false
set_option maxRecDepth 100000
set_option maxHeartbeats 16000000
namespace Go.Proofs.YtdmckfkhkjkdnaaGreatDoor
open Go.RowKit
theorem list32 : ∀ (l : List UInt8), l.length = 32 → ∃ d0 d1 d2 d3 d4 d5 d6 d7 d8 d9 d10 d11 d12 d13 d14 d15 d16 d17 d18 d19 d20 d21 d22 d23 d24 d25 d26 d27 d28 d29 d30 d31, l = [d0, d1, d2, d3, d4, d5, d6, d7, d8, d9, d10, d11, d12, d13, d14, d15, d16, d17, d18, d19, d20, d21, d22, d23, d24, d25, d26, d27, d28, d29, d30, d31]
  | l, h => ⟨l[0], l[1], l[2], l[3], l[4], l[5], l[6], l[7], l[8], l[9], l[10], l[11], l[12], l[13], l[14], l[15], l[16], l[17], l[18], l[19], l[20], l[21], l[22], l[23], l[24], l[25], l[26], l[27], l[28], l[29], l[30], l[31], by
    apply List.ext_getElem
    · exact h
    · intro i h1 h2
      simp only [List.length_cons, List.length_nil] at h2
      have h3 : i < 32 := by omega
      revert h1 h2
      match i, h3 with
      | 0, _ => intros; rfl
      | 1, _ => intros; rfl
      | 2, _ => intros; rfl
      | 3, _ => intros; rfl
      | 4, _ => intros; rfl
      | 5, _ => intros; rfl
      | 6, _ => intros; rfl
      | 7, _ => intros; rfl
      | 8, _ => intros; rfl
      | 9, _ => intros; rfl
      | 10, _ => intros; rfl
      | 11, _ => intros; rfl
      | 12, _ => intros; rfl
      | 13, _ => intros; rfl
      | 14, _ => intros; rfl
      | 15, _ => intros; rfl
      | 16, _ => intros; rfl
      | 17, _ => intros; rfl
      | 18, _ => intros; rfl
      | 19, _ => intros; rfl
      | 20, _ => intros; rfl
      | 21, _ => intros; rfl
      | 22, _ => intros; rfl
      | 23, _ => intros; rfl
      | 24, _ => intros; rfl
      | 25, _ => intros; rfl
      | 26, _ => intros; rfl
      | 27, _ => intros; rfl
      | 28, _ => intros; rfl
      | 29, _ => intros; rfl
      | 30, _ => intros; rfl
      | 31, _ => intros; rfl
      | i + 32, h3 => exact absurd h3 (by omega)
⟩
theorem build_pt (f m s : Int) (D : List UInt8) (h : D.length = 32) (w : World) : (Instr.build 190 #[(0, .int .i64 f), (1, .int .i64 m), (2, .int .i64 s), (3, arrV D)]).run Tryz.prog w = .ok (.agg (.int .i64 f :: .int .i64 m :: .int .i64 s :: D.map bv).toArray) w := by
  obtain ⟨d0, d1, d2, d3, d4, d5, d6, d7, d8, d9, d10, d11, d12, d13, d14, d15, d16, d17, d18, d19, d20, d21, d22, d23, d24, d25, d26, d27, d28, d29, d30, d31, rfl⟩ := list32 D h
  exact run_build w 190 _ _ (by kernel_rfl)
def holdB (t : TypeId) (parts : Array (Nat × Value)) : Sem Value := Instr.build t parts
theorem hB190 (parts : Array (Nat × Value)) : Instr.build 190 parts = holdB 190 parts := rfl
theorem hB102 (parts : Array (Nat × Value)) : Instr.build 102 parts = holdB 102 parts := rfl
def ptOf (f : Nat) (cl : List Cl) : Pt := ⟨f, cl.length, (segB f cl).length, digB (shaS (segB f cl))⟩
theorem build_of (f : Nat) (cl : List Cl) (w : World) : (holdB 190 #[(0, .int .i64 f), (1, .int .i64 cl.length), (2, .int .i64 (segB f cl).length), (3, arrV (digB (shaS (segB f cl))))]).run Tryz.prog w = .ok (ptV (ptOf f cl)) w :=
  build_pt _ _ _ _ (digB_len _) w
section
attribute [local go_sem ↓] hV41 hV190 hV102 hW41 hW190 hW102 hB190 hB102
theorem mof_ok (f : Nat) (v : Value) (cl : List Cl) (w : World) (h : CsAt w v cl) (hne : cl ≠ []) (hl : cl.length ≤ 64) (hok : ∀ x ∈ cl, okCl x) (hf : f + cl.length ≤ 1048576) (hb : (vput f ++ runB cl).length ≤ 65536) (hs : (segB f cl).length ≤ 131072) (hK : Kon w) (hF : Frs w) :
    Calls Tryz.prog 269 #[.agg #[.int .i64 f, v]] w fun e w' => ∃ v', e = .returned (.tuple #[ptV (ptOf f cl), v', .nilIface]) ∧ Keep Non w w' ∧ w'.ownsRow w.heap.size 5 1 v' (segB f cl).length ((segB f cl).map bv) := by
  have PU := Lib.hid (fun w1 (k : Keep Non w w1) => sgput_ok f v cl w1 (h.keepNon k) hl hok hf hb)
  have HKF := Lib.hid (And.intro hK hF)
  have hbu := build_of f cl
  have hn0 : ((cl.length : Int) == 0) = false := by
    have := List.length_pos_iff.2 hne
    simp; exact hne
  obtain ⟨a, c, rfl, hc, ha, hx⟩ := h
  clear hx hne hK hF
  go_enter Tryz.func269, Tryz.ntmps269
  go_wp2_with (first
    | (go_at_call 315; refine (PU.out _ (((Keep.refl _ _).alloc _).alloc _)).mono ?_; rintro e w1 ⟨v1, rfl, k1, o1⟩; obtain ⟨a1, c1, rfl, _, _⟩ := ownsRow_form o1; have b1 := nonAt k1 (blk_alloc (blk_new w (SgB f (.slice a cl.length c))) _); have z1 : w1.heap[w.heap.size + 1]? = some (.cells zPt 190 (0, 0)) := nonAt k1 (by exact alloc2_at _ _ _); have c0 := sg_0 b1; have c1' := sg_1 b1; have B1 := Lib.hid b1; have Z1 := Lib.hid z1; have K1 : Hid (Keep Non w w1) := Lib.hid ((((Keep.refl Non w).alloc _).alloc _).trans1 k1); have O1 : Hid (w1.ownsRow w.heap.size 5 1 (.slice a1 (segB f cl).length c1) (segB f cl).length ((segB f cl).map bv)) := Lib.hid (ownsRow_low o1 (by simp; omega)); have N1 : Hid (∀ g, (Value.slice a1 (segB f cl).length c1).ownBlock = some g → g ≠ w.heap.size + 1) := Lib.hid (fun g e => by have := (o1.lt g e).1; simp at this; omega); clear k1 o1 b1 z1))
  go_region_law (go_simp; go_at_call 84; (refine (sum_any (segB f cl) a1 c1 w1.drew (by exact Rd.keepNon (Rd.ofOwns O1.out) ((Keep.refl Non w1).drew)) (HKF.out.1.keep (K1.out.trans1 ((Keep.refl Non w1).drew))) (HKF.out.2.keep (K1.out.trans1 ((Keep.refl Non w1).drew))) hs).mono ?_; rintro e w2 ⟨rfl, k2⟩; have k2' : Keep Non w1 w2 := ((Keep.refl Non w1).drew).trans1 k2; have b2 := nonAt k2' B1.out; have z2 := nonAt k2' Z1.out; have d0 := sg_0 b2; have d1 := sg_1 b2; have hst := store_pt w2 (w.heap.size + 1) (ptOf f cl) zPt (digB_len _) rfl z2; have hld := load_pt (p := ptOf f cl) (setRow_heap w2 (w.heap.size + 1) _ (ptC (ptOf f cl)).toArray _ _ z2) (digB_len _); have B2 := Lib.hid b2; have K2 := Lib.hid k2'; clear k2 k2' b2 z2))
  all_goals
    go_wp2_with fail
    have hlv : (loadVar 190 ⟨w.heap.size + 1, 0, none⟩).run Tryz.prog (w2.setRow (w.heap.size + 1) (ptC (ptOf f cl)).toArray) = .ok (ptV (ptOf f cl)) _ := hld
    refine bodyPost_ret (v := .tuple #[ptV (ptOf f cl), .slice a1 (segB f cl).length c1, .nilIface]) (by simp [results, Tryz.results269, asAddr, hlv, Act.put]) rfl ?_
    have ks : Keep Non w (w2.setRow (w.heap.size + 1) (ptC (ptOf f cl)).toArray) := (K1.out.trans1 K2.out).setRow (.inr (by omega)) _
    have k3 : Keep (One (w.heap.size + 1)) w2 (w2.setRow (w.heap.size + 1) (ptC (ptOf f cl)).toArray) := (Keep.refl (One (w.heap.size + 1)) _).setRow (.inl (one_self _)) _
    exact ⟨_, rfl, ks, ownsRow_keep (ownsRow_keep O1.out K2.out (fun _ _ e => e)) k3 (fun g e e2 => N1.out g e e2)⟩
end
theorem neq_dig (D E : List UInt8) (hD : D.length = 32) (hE : E.length = 32) (w : World) : (binOp BinOp.neq 41 (arrV D) (arrV E)).run Tryz.prog w = .ok (.bool (!(D == E))) w := by
  have h := eq_dig D E hD hE
  unfold arrV at h ⊢
  simp [go_sem, h]
theorem eql_dig (D E : List UInt8) (hD : D.length = 32) (hE : E.length = 32) (w : World) : (binOp BinOp.eql 41 (arrV D) (arrV E)).run Tryz.prog w = .ok (.bool (D == E)) w := by
  have h := eq_dig D E hD hE
  unfold arrV at h ⊢
  simp [go_sem, h]
theorem guard_dig (o : BinOp) (x y : Operand) (D E : List UInt8) (w : World) : (eqGuard o 41 x y (arrV D) (arrV E)).run Tryz.prog w = .ok () w := by
  unfold arrV
  simp [go_sem, eqGuard]
section
attribute [local go_sem ↓] hV41 hV190 hV102 hW41 hW190 hW102 hB190 hB102
theorem mholds_ok (f : Nat) (v : Value) (cl : List Cl) (w : World) (h : Bs w v (segB f cl)) (hc : okc v) (hv : ∀ g, v.ownBlock = some g → g < w.heap.size) (hl : cl.length ≤ 64) (hok : ∀ x ∈ cl, okCl x) (hf : f + cl.length ≤ 1048576) (hb : (vput f ++ runB cl).length ≤ 65536) (hs : (segB f cl).length ≤ 131072) (hK : Kon w) (hF : Frs w) :
    Calls Tryz.prog 316 #[ptV (ptOf f cl), v] w fun e w' => ∃ v', e = .returned (.tuple #[.agg #[.int .i64 f, v'], .nilIface]) ∧ Keep Non w w' ∧ ∃ xs, w'.ownsRow w.heap.size 50 2 v' cl.length xs ∧ CellsOf w.heap.size Non w' xs cl := by
  have TA := Lib.hid (fun w1 (k : Keep Non w w1) => sgtake_ok f v cl w1 (h.keepNon k) hc (fun g e => k.lt (hv g e)) hl hok hf hb)
  have HKF := Lib.hid (And.intro hK hF)
  have HB := Lib.hid h
  obtain ⟨a, c, rfl, _⟩ := bs_cell h
  have heq := neq_dig (digB (shaS (segB f cl))) (digB (shaS (segB f cl))) (digB_len _) (digB_len _)
  rw [beq_self_eq_true, Bool.not_true] at heq
  have hgd := guard_dig
  have q0 : (ptC (ptOf f cl))[0]? = some (.int .i64 f) := rfl
  have q1 : (ptC (ptOf f cl))[1]? = some (.int .i64 cl.length) := rfl
  have q2 : (ptC (ptOf f cl))[2]? = some (.int .i64 (segB f cl).length) := rfl
  clear h hc hv hK hF
  unfold ptV
  go_enter Tryz.func316, Tryz.ntmps316
  go_wp2_with fail
  have b1 : ((w.alloc (.cells (ptC (ptOf f cl)).toArray 190)).alloc (.cells #[.int .i64 0, .slice none 0 0] 147)).heap[w.heap.size]? = some (PtB (ptOf f cl)) := blk_alloc (blk_new w (PtB (ptOf f cl))) _
  have g1 : ((w.alloc (.cells (ptC (ptOf f cl)).toArray 190)).alloc (.cells #[.int .i64 0, .slice none 0 0] 147)).heap[w.heap.size + 1]? = some (SgB 0 (.slice none 0 0)) := alloc2_at _ _ _
  have kA : Keep Non w ((w.alloc (.cells (ptC (ptOf f cl)).toArray 190)).alloc (.cells #[.int .i64 0, .slice none 0 0] 147)) := ((Keep.refl _ _).alloc _).alloc _
  have sz : w.heap.size + 2 ≤ ((w.alloc (.cells (ptC (ptOf f cl)).toArray 190)).alloc (.cells #[.int .i64 0, .slice none 0 0] 147)).heap.size := by simp
  generalize ((w.alloc (.cells (ptC (ptOf f cl)).toArray 190)).alloc (.cells #[.int .i64 0, .slice none 0 0] 147)) = wA at b1 g1 kA sz ⊢
  have c0 := pt_0 b1
  have c1 := pt_1 b1
  have c2 : wA.cell? ⟨w.heap.size, 2, none⟩ = some (.int .i64 (segB f cl).length) := pt_2 b1
  have hlA : (holdV 41 ⟨w.heap.size, 3, none⟩).run Tryz.prog wA.drew = .ok (arrV (digB (shaS (segB f cl)))) wA.drew := load81 wA.drew w.heap.size 3 _ (digB_len _) (pt_sum (p := ptOf f cl) (w := wA.drew) b1)
  have SM := Lib.hid (sum_any (segB f cl) a c wA.drew (Rd.keepNon HB.out (kA.trans1 (Keep.refl Non wA).drew)) (HKF.out.1.keep (kA.trans1 (Keep.refl Non wA).drew)) (HKF.out.2.keep (kA.trans1 (Keep.refl Non wA).drew)) hs)
  have KA := Lib.hid kA
  have B1 := Lib.hid b1
  have G1 := Lib.hid g1
  have SZ := Lib.hid sz
  clear kA b1 g1 sz
  go_region_law (go_simp; go_at_call 84; refine SM.out.mono ?_; rintro e w2 ⟨rfl, k2⟩; have k2' : Keep Non wA w2 := ((Keep.refl Non wA).drew).trans1 k2; have b2 := nonAt k2' B1.out; have hl2 : (holdV 41 ⟨w.heap.size, 3, none⟩).run Tryz.prog w2 = .ok (arrV (digB (shaS (segB f cl)))) w2 := load81 w2 w.heap.size 3 _ (digB_len _) (pt_sum (p := ptOf f cl) b2); have B2 := Lib.hid b2; have G2 := Lib.hid (nonAt k2' G1.out); have K2 := Lib.hid (KA.out.trans1 k2'); have Z2 : Hid (w.heap.size + 2 ≤ w2.heap.size) := Lib.hid (Nat.le_trans SZ.out k2'.size); clear k2 k2' b2)
  all_goals go_wp2_with (first
    | (go_at_call 348; refine (TA.out _ K2.out).mono ?_; rintro e w3 ⟨v3, rfl, k3, xs, o3, q3⟩; obtain ⟨a3, c3, rfl, _, _⟩ := ownsRow_form o3; have k4 : Keep Non w3 (w3.alloc (.cells #[.int .i64 f, .slice a3 cl.length c3] 147)) := (Keep.refl _ _).alloc _; have b4 := nonAt k4 (nonAt k3 B2.out); have g4 := nonAt k4 (nonAt k3 G2.out); have d0 : (w3.alloc (.cells #[.int .i64 f, .slice a3 cl.length c3] 147)).cell? ⟨w.heap.size, 0, none⟩ = some (.int .i64 f) := pt_0 b4; have d1 : (w3.alloc (.cells #[.int .i64 f, .slice a3 cl.length c3] 147)).cell? ⟨w.heap.size, 1, none⟩ = some (.int .i64 cl.length) := pt_1 b4; have e0 := sg_0 g4; have e1 := sg_1 g4; have f0 := sg_f g4 0; have f1 := sg_f g4 1; have x0 := sg_0 (sg_set0 g4 f); have x1 := sg_1 (sg_set1 (sg_set0 g4 f) (.slice a3 cl.length c3)); have Z3 : Hid (w.heap.size + 2 ≤ w3.heap.size) := Lib.hid (Nat.le_trans Z2.out k3.size); have K3 := Lib.hid (K2.out.trans1 k3); have O3 := Lib.hid o3; have Q3 := Lib.hid q3; clear k3 k4 o3 q3 b4 g4))
  all_goals
    refine bodyPost_ret (v := .tuple #[.agg #[.int .i64 f, .slice a3 cl.length c3], .nilIface]) (by simp [results, Tryz.results316, go_sem, x0, x1]) rfl ?_
    have z2 := Z2.out
    have z3 := Z3.out
    have h2 := K2.out.size
    have ka : Keep Non w3 (w3.alloc (.cells #[.int .i64 f, .slice a3 cl.length c3] 147)) := (Keep.refl _ _).alloc _
    have kf : Keep (One (w.heap.size + 1)) (w3.alloc (.cells #[.int .i64 f, .slice a3 cl.length c3] 147)) (((w3.alloc (.cells #[.int .i64 f, .slice a3 cl.length c3] 147)).setCell ⟨w.heap.size + 1, 0, none⟩ (.int .i64 f)).setCell ⟨w.heap.size + 1, 1, none⟩ (.slice a3 cl.length c3)) := ((Keep.refl _ _).setOne _ _).setOne _ _
    refine ⟨_, rfl, (K3.out.trans1 ka).trans kf (fun _ _ e => e) (fun g hg e => by have e' : g = w.heap.size + 1 := e; omega), xs, ownsRow_low (ownsRow_keep (ownsRow_keep O3.out ka (fun _ _ e => e)) kf (fun g e e2 => by have := (O3.out.lt g e).1; have e' : g = w.heap.size + 1 := e2; omega)) (by omega), ((Q3.out.keep (S' := Non) ka (fun _ _ e => e) (fun _ _ e => e)).keep (S' := Non) kf (fun g g1 e => by have e' : g = w.heap.size + 1 := e; omega) (fun _ _ e => e)).low (by omega) (fun _ e => e)⟩
end
theorem flat_get {α : Type} (k : Nat) (f : α → List Value) : ∀ (l : List α), (∀ x ∈ l, (f x).length = k) → ∀ (j i : Nat) (x : α), l[j]? = some x → i < k → (l.flatMap f)[j * k + i]? = (f x)[i]?
  | [], _, j, i, x, h, _ => by simp at h
  | y :: r, hl, 0, i, x, h, hi => by
    simp at h
    subst h
    rw [List.flatMap_cons, Nat.zero_mul, Nat.zero_add, List.getElem?_append_left (by rw [hl y (by simp)]; exact hi)]
  | y :: r, hl, j + 1, i, x, h, hi => by
    rw [List.getElem?_cons_succ] at h
    rw [List.flatMap_cons, List.getElem?_append_right (by rw [hl y (by simp), Nat.succ_mul]; omega), hl y (by simp), show (j + 1) * k + i - k = j * k + i by rw [Nat.succ_mul]; omega]
    exact flat_get k f r (fun x hx => hl x (by simp [hx])) j i x h hi
theorem flatK_len {α : Type} (k : Nat) (f : α → List Value) : ∀ (l : List α), (∀ x ∈ l, (f x).length = k) → (l.flatMap f).length = l.length * k
  | [], _ => by simp
  | y :: r, hl => by
    rw [List.flatMap_cons, List.length_append, hl y (by simp), flatK_len k f r (fun x hx => hl x (by simp [hx])), List.length_cons, Nat.succ_mul]
    omega
theorem flat_split {α : Type} (k : Nat) (f : α → List Value) (l : List α) (hl : ∀ x ∈ l, (f x).length = k) (hk : 0 < k) (n : Nat) (u : Value) (h : (l.flatMap f)[n]? = some u) : ∃ x, l[n / k]? = some x ∧ (f x)[n % k]? = some u := by
  obtain ⟨hn, _⟩ := List.getElem?_eq_some_iff.1 h
  rw [flatK_len k f l hl] at hn
  have hj : n / k < l.length := Nat.div_lt_of_lt_mul (by rw [Nat.mul_comm]; exact hn)
  refine ⟨l[n / k], List.getElem?_eq_getElem hj, ?_⟩
  rw [← flat_get k f l hl (n / k) (n % k) _ (List.getElem?_eq_getElem hj) (Nat.mod_lt _ hk), Nat.mul_comm, Nat.div_add_mod]
  exact h
def ptsC (l : List Pt) : List Value := l.flatMap ptC
def pts32 (l : List Pt) : Prop := ∀ p ∈ l, p.sum.length = 32
theorem ptsC_len {l : List Pt} (h : pts32 l) : (ptsC l).length = l.length * 35 := flatK_len 35 ptC l (fun p hp => ptC_len (h p hp))
theorem ptsC_one (l : List Pt) : ∀ u ∈ ptsC l, u.oneCell' = true := by
  intro u hu
  obtain ⟨p, _, hu⟩ := List.mem_flatMap.1 hu
  have := ptC_one p
  rw [List.all_toArray, List.all_eq_true] at this
  exact this u hu
theorem PtsAt.of {B : Nat} {w : World} {v : Value} {l : List Pt} (h : w.ownsRow B 190 35 v l.length (ptsC l)) (h32 : pts32 l) : PtsAt w v l := by
  rcases h.2 with ⟨hv, hn⟩ | ⟨g, cap, cur, rfl, _, hg, hn, _, _, htake⟩
  · obtain rfl : l = [] := List.eq_nil_of_length_eq_zero (by omega)
    exact ⟨none, 0, by rw [hv]; rfl, by simp, fun ad e => (by cases e), fun j p hj => by simp at hj⟩
  · refine ⟨some ⟨g, 0, none⟩, cap, rfl, hn, fun ad e => ⟨g, 0, by injection e with e; exact e.symm⟩, fun j p hj => ⟨g, 0, rfl, fun i u hu => ?_⟩⟩
    have hi : i < 35 := by
      obtain ⟨h1, _⟩ := List.getElem?_eq_some_iff.1 hu
      rw [ptC_len (h32 p (List.mem_of_getElem? hj))] at h1
      exact h1
    have hc := flat_get 35 ptC l (fun p hp => ptC_len (h32 p hp)) j i p hj hi
    rw [hu] at hc
    rw [Nat.zero_add, World.cell?, hg]
    have hc' : (ptsC l)[j * 35 + i]? = some u := hc
    rw [← htake, List.getElem?_take] at hc'
    split at hc'
    · simpa using hc'
    · cases hc'
theorem PtsAt.news {w : World} {a : Addr} {n c : Nat} {l : List Pt} (h : PtsAt w (.slice (some a) n c) l) (h32 : pts32 l) : n = l.length ∧ ∀ (j : Nat) u, (ptsC l)[j]? = some u → w.cell? (a.add j) = some u := by
  obtain ⟨a', c', e, _, ha, hx⟩ := h
  injection e with e1 e2 e3
  refine ⟨e2, fun j u hu => ?_⟩
  obtain ⟨g, off, rfl⟩ := ha a e1.symm
  obtain ⟨p, hp, hu'⟩ := flat_split 35 ptC l (fun p hp => ptC_len (h32 p hp)) (by decide) j u hu
  obtain ⟨g', off', e4, hc⟩ := hx _ p hp
  rw [← e1] at e4
  injection e4 with e4
  injection e4 with e4 e5
  subst e4
  subst e5
  have := hc _ u hu'
  rw [add_off, show off + j = off + j / 35 * 35 + j % 35 by have := Nat.div_add_mod j 35; omega]
  exact this
theorem infoPt : (Tryz.prog.info? 190).map (fun i => (i.zero, i.size, i.bytes)) = some (some (.agg zPt), 35, 56) := by kernel_rfl
theorem clone_pts (v : Value) (l : List Pt) (w : World) (h : PtsAt w v l) (h32 : pts32 l) (hlen : l.length ≤ 10000) :
    Calls Tryz.prog 85 #[v] w fun e w' => ∃ v', e = .returned v' ∧ Keep Non w w' ∧ w'.ownsRow w.heap.size 190 35 v' l.length (ptsC l) := by
  have h0 := h
  obtain ⟨a, c, rfl, hc, ha, hx⟩ := h
  have hq := fun (w : World) => Lib.run_eql_slice_nil (P := Tryz.prog) w 100 190 a l.length c 0 0 Tryz.underlying100
  clear hx ha
  cases a with
  | none =>
    have hl : l = [] := by
      obtain ⟨_, _, e1, _, _, hx⟩ := h0
      cases l with
      | nil => rfl
      | cons p r =>
        injection e1 with e1
        obtain ⟨g, off, e2, _⟩ := hx 0 p rfl
        rw [← e1] at e2
        cases e2
    subst hl
    simp only [List.length_nil] at hq ⊢
    go_enter Tryz.func85, Tryz.ntmps85
    go_wp2
    go_ret
    exact ⟨_, rfl, Keep.refl _ _, World.ownsRow_nil _ _ _ _⟩
  | some a =>
    obtain ⟨i0, hi, hz0, hz1, hz2⟩ := info_parts infoPt
    have hnews := (PtsAt.news (h0.keepNon ((Keep.refl Non w).alloc (.cells #[] 190))) h32).2
    have HN := Lib.hid hnews
    have HL := Lib.hid hlen
    have H3 := Lib.hid (ptsC_len h32)
    have hown : Hid ((w.alloc (.cells #[] 190)).ownsRow w.heap.size 190 35 (.slice (some ⟨w.heap.size, 0, none⟩) 0 0) 0 []) := World.ownsRow_made w #[] 0 (Nat.le_refl _) (by decide) rfl
    clear hnews h0 hlen
    go_enter Tryz.func85, Tryz.ntmps85
    go_wp2_with (at_builtin; refine wpList_append_prov rfl _ _ 100 rfl w.heap.size 190 i0 (.agg zPt) 35 56 Tryz.underlying100 hi hz0 hz1 hz2 rfl (by decide) _ _ _ rfl hown.out a l.length c (ptsC l) rfl H3.out HN.out (ptsC_one l) (by have := HL.out; unfold maxLen; omega) (by have := HL.out; omega) (by simp) ?_; intro v' w' ho hg hp; have HO := Lib.hid ho; have HP := Lib.hid hp; clear ho hp)
    go_ret
    have hk : Keep Non w w' := by
      have := ((Keep.refl Non w).alloc (.cells #[] 190)).trans ((Keep.refl (One w.heap.size) _).grown hg (row := some w.heap.size) (fun k e => .inl (by injection e with e; exact e.symm))) (U := Non) (fun _ _ h => h) (fun i hi h => by unfold One at h; omega)
      exact this
    have ho := HO.out
    rw [List.nil_append, Nat.zero_add] at ho
    exact ⟨v', rfl, hk, ho⟩
theorem mf_set36 {w : World} {b : Nat} {m : Mf} {pv : Value} (h : w.heap[b]? = some (MfB m pv)) (hl : m.prev.length = 32) (v : Value) : (w.setCell ⟨b, 36, none⟩ v).heap[b]? = some (MfB m v) := by
  have h2 := blk_set h 36 v
  have e : ((mfC m pv).toArray.setIfInBounds 36 v) = (mfC m v).toArray := by
    rw [List.setIfInBounds_toArray]
    congr 1
    simp only [mfC, List.set_cons_succ]
    rw [List.set_append_right _ _ (by rw [List.length_map, hl]; exact Nat.le_refl _), List.length_map, hl]
    rfl
  rw [e] at h2
  exact h2
section
attribute [local go_sem ↓] hV41 hV190 hV102 hW41 hW190 hW102 hB190 hB102
theorem mcopy_ok (m : Mf) (pv : Value) (w : World) (h : PtsAt w pv m.parts) (hp : m.prev.length = 32) (h32 : pts32 m.parts) (hlen : m.parts.length ≤ 10000) :
    Calls Tryz.prog 39 #[mfV m pv] w fun e w' => ∃ v', e = .returned (mfV m v') ∧ Keep Non w w' ∧ w'.ownsRow w.heap.size 190 35 v' m.parts.length (ptsC m.parts) := by
  have CL := Lib.hid (fun w1 (k : Keep Non w w1) => clone_pts pv m.parts w1 (h.keepNon k) h32 hlen)
  have q36 := mfc_36 m pv hp
  obtain ⟨a, c, rfl, hc, ha, hx⟩ := h
  clear hx ha
  unfold mfV
  go_enter Tryz.func39, Tryz.ntmps39
  go_wp2_with (first
    | (go_at_call 85; refine (CL.out _ (((Keep.refl _ _).alloc _).alloc _)).mono ?_; rintro e w1 ⟨v1, rfl, k1, o1⟩; obtain ⟨a1, c1, rfl, _, _⟩ := ownsRow_form o1; have b1 := nonAt k1 (blk_alloc (blk_new w (MfB m (.slice a m.parts.length c))) _); have z1 : w1.heap[w.heap.size + 1]? = some (.cells zMf 102 (0, 0)) := nonAt k1 (by exact alloc2_at _ _ _); have c36 := mf_36 b1 hp; have f36 := mf_f b1 36; have b2 := mf_set36 b1 hp (.slice a1 m.parts.length c1); have hld := load_mf b2 hp; have z2 : (w1.setCell ⟨w.heap.size, 36, none⟩ (.slice a1 m.parts.length c1)).heap[w.heap.size + 1]? = some (.cells zMf 102 (0, 0)) := ((Keep.refl (One w.heap.size) w1).setOne 36 (.slice a1 m.parts.length c1)).at z1 (by unfold One; omega); have hst := store_mf _ _ m a1 m.parts.length c1 zMf hp rfl z2; unfold mfV at hld hst; have hlr := load_mf (m := m) (pv := .slice a1 m.parts.length c1) (setRow_heap _ (w.heap.size + 1) _ (mfC m (.slice a1 m.parts.length c1)).toArray _ _ z2) hp; have HLR := Lib.hid hlr; have K1 : Hid (Keep Non w w1) := Lib.hid ((((Keep.refl Non w).alloc _).alloc _).trans1 k1); have Z1 : Hid (w.heap.size + 2 ≤ w1.heap.size) := Lib.hid (by have := k1.size; simpa using this); have O1 : Hid (w1.ownsRow (w.heap.size + 2) 190 35 (.slice a1 m.parts.length c1) m.parts.length (ptsC m.parts)) := Lib.hid (ownsRow_low o1 (by simp)); clear k1 o1 b1 z1 b2 z2 hlr))
  have hlv := HLR.out
  unfold holdV at hlv
  refine bodyPost_ret (v := mfV m (.slice a1 m.parts.length c1)) (by simp [results, Tryz.results39, asAddr, hlv]) rfl ?_
  have k2 : Keep (fun g => g = w.heap.size ∨ g = w.heap.size + 1) w1 ((w1.setCell ⟨w.heap.size, 36, none⟩ (.slice a1 m.parts.length c1)).setRow (w.heap.size + 1) (mfC m (.slice a1 m.parts.length c1)).toArray) := (((Keep.refl (One w.heap.size) w1).setOne 36 _).mono (fun _ _ e => .inl e)).setRow (.inl (.inr rfl)) _
  have hz := Z1.out
  exact ⟨_, rfl, K1.out.trans k2 (fun _ _ e => e) (fun g hg e => by omega), ownsRow_low (ownsRow_keep O1.out k2 (fun g e e2 => by have := (O1.out.lt g e).1; omega)) (by omega)⟩
end
structure Cu where
  lo : Nat
  next : Nat
  hi : Nat
  trim : Nat
  parts : List Pt
structure okCu (c : Cu) : Prop where
  parts : okPts c.lo c.parts
  stop : endPts c.lo c.parts = c.next
  le : c.next ≤ c.hi
  hi : c.hi ≤ 1048576
  trim : c.trim ≤ 1048576
  many : c.parts.length ≤ 64
def cuMf (c : Cu) : Mf := ⟨1, c.lo, c.next, c.trim, List.replicate 32 0, c.parts⟩
theorem okCu.mf {c : Cu} (h : okCu c) : okMf (cuMf c) where
  num := by show 1 ≤ 999999; decide
  hi := by have := h.le; have := h.hi; show c.next ≤ _; omega
  trim := h.trim
  prev := List.length_replicate ..
  zero := fun e => absurd e (by show (1 : Nat) ≠ 0; decide)
  many := Nat.le_trans h.many (by decide)
  parts := h.parts
  stop := h.stop
theorem okCu.lo {c : Cu} (h : okCu c) : c.lo ≤ c.next := by
  have := (endPts_le c.parts c.lo 0)
  simp only [List.take_zero, endPts, h.stop] at this
  exact this.2
def cuV (c : Cu) (pv : Value) : Value := .agg #[.int .i64 c.lo, .int .i64 c.next, .int .i64 c.hi, .int .i64 c.trim, pv]
def CuB (c : Cu) (pv : Value) : Obj := .cells #[.int .i64 c.lo, .int .i64 c.next, .int .i64 c.hi, .int .i64 c.trim, pv] 170 (0, 0)
section
variable {w : World} {b : Nat} {c : Cu} {pv : Value}
theorem cu_0 (h : w.heap[b]? = some (CuB c pv)) : w.cell? ⟨b, 0, none⟩ = some (.int .i64 c.lo) := by simp [World.cell?, h, CuB]
theorem cu_1 (h : w.heap[b]? = some (CuB c pv)) : w.cell? ⟨b, 1, none⟩ = some (.int .i64 c.next) := by simp [World.cell?, h, CuB]
theorem cu_2 (h : w.heap[b]? = some (CuB c pv)) : w.cell? ⟨b, 2, none⟩ = some (.int .i64 c.hi) := by simp [World.cell?, h, CuB]
theorem cu_3 (h : w.heap[b]? = some (CuB c pv)) : w.cell? ⟨b, 3, none⟩ = some (.int .i64 c.trim) := by simp [World.cell?, h, CuB]
theorem cu_4 (h : w.heap[b]? = some (CuB c pv)) : w.cell? ⟨b, 4, none⟩ = some pv := by simp [World.cell?, h, CuB]
theorem cu_f (h : w.heap[b]? = some (CuB c pv)) (i : Nat) : w.frozen? ⟨b, i, none⟩ = false := by simp [World.frozen?, h, CuB]
end
theorem build_cu (c : Cu) (a : Option Addr) (n k : Nat) (w : World) : (holdB 102 #[(0, .int .i64 1), (1, .int .i64 c.lo), (2, .int .i64 c.next), (3, .int .i64 c.trim), (5, .slice a n k)]).run Tryz.prog w = .ok (mfV (cuMf c) (.slice a n k)) w :=
  run_build w 102 _ _ (by kernel_rfl)
section
attribute [local go_sem ↓] hV41 hV190 hV102 hW41 hW190 hW102 hB190 hB102
theorem cucheck_ok (c : Cu) (pv : Value) (w : World) (h : okCu c) (hp : PtsAt w pv c.parts) :
    Calls Tryz.prog 209 #[cuV c pv] w fun e w' => e = .returned .nilIface ∧ Keep Non w w' := by
  have CK := Lib.hid (fun w1 (k : Keep Non w w1) => mcheck_ok (cuMf c) pv w1 h.mf (hp.keepNon k))
  have h1 := h.le
  have h2 := h.hi
  obtain ⟨a, k, rfl, _, _, _⟩ := hp
  have hbu := build_cu c a c.parts.length k
  have hst := store_mf0 (w.alloc (CuB c (.slice a c.parts.length k))) (cuMf c) a c.parts.length k (List.length_replicate ..)
  have hld := load_mf (blk_new (w.alloc (CuB c (.slice a c.parts.length k))) (MfB (cuMf c) (.slice a c.parts.length k))) (List.length_replicate ..)
  rw [World.size_alloc] at hst hld
  unfold zMf MfB CuB at hst
  unfold MfB CuB at hld
  clear h
  unfold cuV
  go_enter Tryz.func209, Tryz.ntmps209
  go_wp2_with (go_at_call 114; refine (CK.out _ (((Keep.refl Non w).alloc _).alloc _)).mono ?_; rintro e w1 ⟨rfl, k1⟩; have b1 := nonAt k1 (blk_alloc (blk_new w (CuB c (.slice a c.parts.length k))) _); have d1 := cu_1 b1; have d2 := cu_2 b1; have K1 := Lib.hid ((((Keep.refl Non w).alloc _).alloc _).trans1 k1); clear k1 b1)
  go_ret
  exact ⟨rfl, K1.out⟩
end
def MsAt (T : Nat → Prop) (w : World) (v : Value) (ms : List Mf) : Prop := ∃ a c, v = .slice a ms.length c ∧ ms.length ≤ c ∧ (∀ ad, a = some ad → ∃ g off, ad = ⟨g, off, none⟩ ∧ T g) ∧
  ∀ (j : Nat) m, ms[j]? = some m → m.prev.length = 32 ∧ ∃ g off pa pc, a = some ⟨g, off, none⟩ ∧ PtsAt w (.slice pa m.parts.length pc) m.parts ∧ (∀ g, (Value.slice pa m.parts.length pc).ownBlock = some g → T g) ∧ ∀ (i : Nat) u, (mfC m (.slice pa m.parts.length pc))[i]? = some u → w.cell? ⟨g, off + j * 37 + i, none⟩ = some u
theorem MsAt.keep {S T : Nat → Prop} {w w' : World} {v : Value} {ms : List Mf} (h : MsAt T w v ms) (k : Keep S w w') (hn : ∀ g, T g → ¬ S g) : MsAt T w' v ms := by
  obtain ⟨a, c, rfl, hc, ha, hx⟩ := h
  refine ⟨a, c, rfl, hc, ha, fun j m hj => ?_⟩
  obtain ⟨h32, g, off, pa, pc, rfl, h1, h2, h3⟩ := hx j m hj
  obtain ⟨g', off', e, ht⟩ := ha _ rfl
  injection e with e
  subst e
  exact ⟨h32, g, off, pa, pc, rfl, h1.keep k (fun g e => hn g (h2 g e)), h2, fun i u hu => (World.cell?_of_block (k.block g (World.block_lt_of_cell? _ _ (h3 i u hu)) (hn g ht))).trans (h3 i u hu)⟩
theorem MsAt.keepNon {T : Nat → Prop} {w w' : World} {v : Value} {ms : List Mf} (h : MsAt T w v ms) (k : Keep Non w w') : MsAt T w' v ms := h.keep k (fun _ _ e => e)
def mf0 : Mf := ⟨0, 0, 0, 0, List.replicate 32 0, []⟩
theorem zMf_eq : zMf = (mfC mf0 (.slice none 0 0)).toArray := by kernel_rfl
theorem mf_fd2 (m : Mf) (pv : Value) (w : World) : (Instr.field 102 (mfV m pv) 2).run Tryz.prog w = .ok (.int .i64 m.hi) w := by kernel_rfl
theorem mf_fd3 (m : Mf) (pv : Value) (w : World) : (Instr.field 102 (mfV m pv) 3).run Tryz.prog w = .ok (.int .i64 m.trim) w := by kernel_rfl
def lastM (ms : List Mf) : Mf := ms.getLast?.getD mf0
section
attribute [local go_sem ↓] hV41 hV190 hV102 hW41 hW190 hW102 hB190 hB102
theorem clast_any (T : Nat → Prop) (v : Value) (ms : List Mf) (w : World) (h : MsAt T w v ms) (hn : ms.length ≤ 1000000) :
    Calls Tryz.prog 38 #[v] w fun e w' => ∃ pa pc, e = .returned (mfV (lastM ms) (.slice pa (lastM ms).parts.length pc)) ∧ Keep Non w w' ∧ PtsAt w' (.slice pa (lastM ms).parts.length pc) (lastM ms).parts ∧ (lastM ms).prev.length = 32 := by
  have H := Lib.hid h
  obtain ⟨a, c, rfl, hc, ha, hx⟩ := h
  have kA : Keep Non w ((w.alloc (.cells zMf 102)).alloc (.cells zMf 102)) := ((Keep.refl _ _).alloc _).alloc _
  have z0 : ((w.alloc (.cells zMf 102)).alloc (.cells zMf 102)).heap[w.heap.size]? = some (.cells zMf 102 (0, 0)) := blk_alloc (blk_new _ _) _
  have z1 : ((w.alloc (.cells zMf 102)).alloc (.cells zMf 102)).heap[w.heap.size + 1]? = some (.cells zMf 102 (0, 0)) := alloc2_at _ _ _
  obtain ⟨wA, hwA⟩ : ∃ wA, wA = ((w.alloc (.cells zMf 102)).alloc (.cells zMf 102)) := ⟨_, rfl⟩
  have HWA := Lib.hid hwA
  have kA' : Keep Non w wA := by rw [hwA]; exact kA
  clear kA
  have kA := kA'
  by_cases h0 : ms = []
  · subst h0
    simp only [List.length_nil]
    have hl := load_mf (w := wA) (b := w.heap.size + 1) (m := mf0) (pv := .slice none 0 0) (by rw [hwA, z1, zMf_eq]; rfl) (List.length_replicate ..)
    have hs := store_mf wA w.heap.size mf0 none 0 0 zMf (List.length_replicate ..) rfl (by rw [hwA, z0])
    have hl2 := load_mf (w := wA.setRow w.heap.size (mfC mf0 (.slice none 0 0)).toArray) (b := w.heap.size) (m := mf0) (pv := .slice none 0 0) (setRow_heap _ _ _ _ _ _ (by rw [hwA, z0])) (List.length_replicate ..)
    have HL2 := Lib.hid hl2
    rw [hwA] at hl hs
    dsimp only [zMf] at hl hs
    clear hl2 hwA hx
    go_enter Tryz.func38, Tryz.ntmps38
    go_wp2_with fail
    have hlv := HL2.out
    unfold holdV at hlv
    rw [HWA.out] at hlv
    dsimp only [zMf] at hlv
    refine bodyPost_ret (v := mfV mf0 (.slice none 0 0)) (by simp [results, Tryz.results38, asAddr, hlv]) rfl ?_
    have k2 : Keep (One w.heap.size) wA (wA.setRow w.heap.size (mfC mf0 (.slice none 0 0)).toArray) := (Keep.refl (One w.heap.size) _).setRow (.inl (one_self _)) _
    have k3 : Keep Non w (wA.setRow w.heap.size (mfC mf0 (.slice none 0 0)).toArray) := kA.trans k2 (fun _ _ e => e) (fun g hg e => by have e' : g = w.heap.size := e; omega)
    rw [HWA.out] at k3
    dsimp only [zMf] at k3
    exact ⟨none, 0, rfl, k3, ⟨none, 0, rfl, Nat.le_refl _, fun ad e => (by cases e), fun j p hj => by simp [lastM, mf0] at hj⟩, List.length_replicate ..⟩
  · have hpos : 0 < ms.length := List.length_pos_iff.2 h0
    obtain ⟨m, hm⟩ : ∃ m, ms[ms.length - 1]? = some m := ⟨_, List.getElem?_eq_getElem (by omega)⟩
    have hlm : lastM ms = m := by unfold lastM; rw [List.getLast?_eq_getElem?, hm]; rfl
    obtain ⟨h32, g, off, pa, pc, rfl, h1, h2, h3⟩ := hx _ m hm
    rw [hlm]
    have hg : ∀ (i : Nat) u, (mfC m (.slice pa m.parts.length pc))[i]? = some u → wA.cell? ⟨g, off + (ms.length - 1) * 37 + i, none⟩ = some u := fun i u hu => (World.cell?_of_block (kA'.block g (World.block_lt_of_cell? _ _ (h3 i u hu)) (fun e => e))).trans (h3 i u hu)
    have hl := load83 wA g (off + (ms.length - 1) * 37) m (.slice pa m.parts.length pc) h32 hg
    have hs := store_mf wA w.heap.size m pa m.parts.length pc zMf h32 rfl (by rw [hwA, z0])
    have hl2 := load_mf (w := wA.setRow w.heap.size (mfC m (.slice pa m.parts.length pc)).toArray) (b := w.heap.size) (m := m) (pv := .slice pa m.parts.length pc) (setRow_heap _ _ _ _ _ _ (by rw [hwA, z0])) h32
    have HL2 := Lib.hid hl2
    rw [hwA] at hl hs
    dsimp only [zMf] at hl hs
    have hn0 : ((ms.length : Int) == 0) = false := by simp; omega
    have hge : (1 : Int) ≤ ms.length := by omega
    have htn : ((ms.length : Int) - 1).toNat = ms.length - 1 := by omega
    have H1 := Lib.hid h1
    clear hl2 hwA hx h1 h2 h3 hg hm
    go_enter Tryz.func38, Tryz.ntmps38
    go_wp2_with fail
    have hlv := HL2.out
    unfold holdV at hlv
    rw [HWA.out] at hlv
    dsimp only [zMf] at hlv
    refine bodyPost_ret (v := mfV m (.slice pa m.parts.length pc)) (by simp [results, Tryz.results38, asAddr, hlv]) rfl ?_
    have k2 : Keep (One w.heap.size) wA (wA.setRow w.heap.size (mfC m (.slice pa m.parts.length pc)).toArray) := (Keep.refl (One w.heap.size) _).setRow (.inl (one_self _)) _
    have k3 : Keep Non w (wA.setRow w.heap.size (mfC m (.slice pa m.parts.length pc)).toArray) := kA.trans k2 (fun _ _ e => e) (fun g hg e => by have e' : g = w.heap.size := e; omega)
    rw [HWA.out] at k3
    dsimp only [zMf] at k3
    exact ⟨pa, pc, rfl, k3, H1.out.keepNon k3, h32⟩
theorem cend_any (T : Nat → Prop) (v : Value) (ms : List Mf) (w : World) (h : MsAt T w v ms) (hn : ms.length ≤ 1000000) :
    Calls Tryz.prog 12 #[v] w fun e w' => e = .returned (.int .i64 (lastM ms).hi) ∧ Keep Non w w' := by
  have LA := Lib.hid (clast_any T v ms w h hn)
  have q2 := mf_fd2 (lastM ms)
  clear h
  go_enter Tryz.func12, Tryz.ntmps12
  go_wp2_with (go_at_call 38; refine LA.out.mono ?_; rintro e w1 ⟨pa, pc, rfl, k1, _, _⟩; have K1 := Lib.hid k1; clear k1)
  go_ret
  exact ⟨rfl, K1.out⟩
theorem cmark_any (T : Nat → Prop) (v : Value) (ms : List Mf) (w : World) (h : MsAt T w v ms) (hn : ms.length ≤ 1000000) :
    Calls Tryz.prog 75 #[v] w fun e w' => e = .returned (.int .i64 (lastM ms).trim) ∧ Keep Non w w' := by
  have LA := Lib.hid (clast_any T v ms w h hn)
  have q2 := mf_fd3 (lastM ms)
  clear h
  go_enter Tryz.func75, Tryz.ntmps75
  go_wp2_with (go_at_call 38; refine LA.out.mono ?_; rintro e w1 ⟨pa, pc, rfl, k1, _, _⟩; have K1 := Lib.hid k1; clear k1)
  go_ret
  exact ⟨rfl, K1.out⟩
theorem cfollows_nil (m : Mf) (pv : Value) (a : Option Addr) (c : Nat) (w : World) (h0 : m.num = 0) :
    Calls Tryz.prog 115 #[.slice a 0 c, mfV m pv] w fun e w' => e = .returned (.bool true) ∧ Keep Non w w' := by
  have q0 := mfc_0 m pv
  rw [h0] at q0
  unfold mfV
  go_enter Tryz.func115, Tryz.ntmps115
  go_wp2_with fail
  go_ret
  exact ⟨rfl, (Keep.refl _ _).alloc _⟩
end
def cuT (c : Cu) : List UInt8 := vputs [c.lo, c.next, c.hi, c.trim, c.parts.length] ++ ptsB c.parts
def cuBy (c : Cu) : List UInt8 := frameB (cuT c)
section
attribute [local go_sem ↓] hV41 hV190 hV102 hW41 hW190 hW102 hB190 hB102
theorem cuput_ok (c : Cu) (pv : Value) (w : World) (h : okCu c) (hp : PtsAt w pv c.parts) :
    Calls Tryz.prog 141 #[cuV c pv] w fun e w' => ∃ v', e = .returned (.tuple #[v', .nilIface]) ∧ Keep Non w w' ∧ w'.ownsRow w.heap.size 5 1 v' (cuBy c).length ((cuBy c).map bv) := by
  have OK := Lib.hid h
  have PA := Lib.hid hp
  have CK := Lib.hid (fun w1 (k : Keep Non w w1) => cucheck_ok c pv w1 h (hp.keepNon k))
  have h1 := h.le
  have h2 := h.hi
  have h3 := h.trim
  have h4 := h.lo
  have h64 := h.many
  obtain ⟨a, k, rfl, _, ha, hx⟩ := hp
  obtain ⟨j0, hj0, jz0, jz1, jz2⟩ := info_parts infoU8
  have J0 := Lib.hid (And.intro hj0 (And.intro jz0 (And.intro jz1 jz2)))
  have hw1 := wrap64 (n := c.lo) (by omega)
  have hw2 := wrap64 (n := c.next) (by omega)
  have hw3 := wrap64 (n := c.hi) (by omega)
  have hw4 := wrap64 (n := c.trim) (by omega)
  have hw5 := wrap64 (n := c.parts.length) (by omega)
  have OKP : Hid (∀ p ∈ c.parts, p.many < 2 ^ 63 ∧ p.size < 2 ^ 63 ∧ p.sum.length = 32) := Lib.hid (fun p hp => by obtain ⟨j, hj⟩ := List.getElem?_of_mem hp; obtain ⟨⟨_, q1, _, q2, q3⟩, _⟩ := okPts_get c.parts c.lo j p h.parts hj; exact ⟨by omega, by omega, q3⟩)
  clear hx h hj0 jz0 jz1 jz2
  unfold cuV at CK ⊢
  go_enter Tryz.func141, Tryz.ntmps141
  go_wp2_with (first
    | (go_at_call 209; refine (CK.out _ ((Keep.refl _ _).alloc _)).mono ?_; rintro e w1 ⟨rfl, k1⟩; have b1 := nonAt k1 (blk_new w (CuB c (.slice a c.parts.length k))); have c0 := cu_0 b1; have c1 := cu_1 b1; have c2 := cu_2 b1; have c3 := cu_3 b1; have c4 := cu_4 b1; have B1 := Lib.hid b1; have K1 := Lib.hid (((Keep.refl Non w).alloc (CuB c (.slice a c.parts.length k))).trans1 k1); clear k1 b1)
    | (go_at_call 126; refine (puts_any (.slice none 0 0) [] (some ⟨w1.heap.size, 0, none⟩) 5 [c.lo, c.next, c.hi, c.trim, c.parts.length] _ (Rd.nil _) (by simp) (by exact row_rd w1 217 [nv c.lo, nv c.next, nv c.hi, nv c.trim, nv c.parts.length]) (by intro n hn; simp at hn; omega) (by simp)).mono ?_; rintro e w2 ⟨v2, rfl, k2, o2⟩; obtain ⟨a2, c2', rfl, _, _⟩ := ownsRow_form o2; have k2' := ((Keep.refl Non w1).alloc _).trans1 k2; have b2 := nonAt k2' B1.out; have d4 := cu_4 b2; have B4 := Lib.hid b2; have K5 := Lib.hid (K1.out.trans1 k2'); have O2 : Hid (w2.ownsRow w.heap.size 5 1 (.slice a2 (vputs [c.lo, c.next, c.hi, c.trim, c.parts.length]).length c2') (vputs [c.lo, c.next, c.hi, c.trim, c.parts.length]).length ((vputs [c.lo, c.next, c.hi, c.trim, c.parts.length]).map bv)) := Lib.hid (ownsRow_low (by simpa using o2) (by have := K1.out.size; simp; omega)); clear k2 k2' o2 b2))
  obtain ⟨T0, hT0⟩ : ∃ T0, T0 = vputs [c.lo, c.next, c.hi, c.trim, c.parts.length] := ⟨_, rfl⟩
  have hn40 : T0.length ≤ 80 := by have := vputs_len [c.lo, c.next, c.hi, c.trim, c.parts.length] (by intro n hn; simp at hn; omega); rw [hT0]; simp at this; omega
  rw [← hT0] at O2 ⊢
  have O5 := O2
  have HT := Lib.hid hT0
  clear hT0 O2
  go_loopw [5, 34] (fun bs i wr => ∃ j : Nat, j ≤ c.parts.length ∧ i = .int .i64 j ∧ wr.heap[w.heap.size]? = some (CuB c (.slice a c.parts.length k)) ∧ Keep Non w wr ∧ wr.ownsRow w.heap.size 5 1 bs (T0 ++ ptsB (c.parts.take j)).length ((T0 ++ ptsB (c.parts.take j)).map bv)) (fun _ i _ => c.parts.length - (intOf i).toNat)
  case atStart => exact ⟨0, by omega, rfl, B4.out, K5.out, by simpa [ptsB] using O5.out⟩
  case round =>
    obtain ⟨j, hj, rfl, hb, hk, ho⟩ := hrel
    obtain ⟨ba, bc, rfl, _, _⟩ := ownsRow_form ho
    have K := Lib.hid hk
    have B := Lib.hid hb
    have O := Lib.hid ho
    have hjl : (ptsB (c.parts.take j)).length ≤ 50 * 64 := Nat.le_trans (ptsB_len _ (fun p hp => OKP.out p (List.mem_of_mem_take hp))) (by have := List.length_take_le j c.parts; omega)
    by_cases hlt : j < c.parts.length
    · have hlj : (j : Int) < (c.parts.length : Int) := by omega
      obtain ⟨p, hpj⟩ : ∃ p, c.parts[j]? = some p := ⟨_, List.getElem?_eq_getElem hlt⟩
      obtain ⟨⟨p1, p2, p3, p4, p5⟩, _⟩ := okPts_get c.parts c.lo j p OK.out.parts hpj
      obtain ⟨a1, c1, e1, _, _, hx⟩ := PA.out.keepNon hk
      injection e1 with e1 e3 e4
      subst e1
      subst e4
      obtain ⟨g, off, rfl, hcell⟩ := hx j p hpj
      have hld := load101 wr g (off + j * 35) p p5 hcell
      have hsp := store_pt0 wr p p5
      have q1 := ptc_1 p
      have q2 := ptc_2 p
      unfold zPt PtB at hsp
      have hw6 := wrap64 (n := p.many) (by omega)
      have hw7 := wrap64 (n := p.size) (by omega)
      have TK := Lib.hid (ptsB_take c.parts j p hpj)
      clear hx hcell hpj hk hb ho
      obtain ⟨L, hL⟩ : ∃ L, L = (T0 ++ ptsB (c.parts.take j)).length := ⟨_, rfl⟩
      have hLb : L ≤ 3300 := by rw [hL, List.length_append]; omega
      obtain ⟨M, hM⟩ : ∃ M, M = (T0 ++ ptsB (c.parts.take j) ++ vputs [p.many, p.size]).length := ⟨_, rfl⟩
      have hMb : M ≤ 3400 := by have := vputs_len [p.many, p.size] (by intro n hn; simp at hn; omega); rw [hM, List.length_append, ← hL]; simp at this; omega
      have PP2 : Hid (Calls Tryz.prog 126 #[.slice ba L bc, .slice (some ⟨wr.heap.size + 1, 0, none⟩) 2 2] ((wr.alloc (.cells (ptC p).toArray 190)).alloc (.cells #[.int .u64 p.many, .int .u64 p.size] 217)).drew fun e w' => ∃ a' c', e = .returned (.slice a' M c') ∧ Keep Non wr w' ∧ w'.heap[wr.heap.size]? = some (PtB p) ∧ w'.ownsRow wr.heap.size 5 1 (.slice a' M c') M ((T0 ++ ptsB (c.parts.take j) ++ vputs [p.many, p.size]).map bv) ∧ ∀ g, (Value.slice a' M c').ownBlock = some g → g ≠ wr.heap.size) := Lib.hid (by
        have kk : Keep Non wr ((wr.alloc (.cells (ptC p).toArray 190)).alloc (.cells #[.int .u64 p.many, .int .u64 p.size] 217)).drew := (((Keep.refl Non wr).alloc _).alloc _).drew
        have o := O.out
        rw [← hL] at o
        refine (puts_any _ _ (some ⟨wr.heap.size + 1, 0, none⟩) 2 [p.many, p.size] _ ((Rd.ofOwns o).keepNon kk) (by rw [← hL]; omega) (row_at (vs := [nv p.many, nv p.size]) (by have := blk_new (wr.alloc (.cells (ptC p).toArray 190)) (.cells #[.int .u64 p.many, .int .u64 p.size] 217 (0, 0)); rwa [World.size_alloc] at this)) (by intro n hn; simp at hn; omega) (by simp)).mono ?_
        rintro e w' ⟨v', rfl, k, o⟩
        rw [← hM] at o
        obtain ⟨a', c', rfl, _, _⟩ := ownsRow_form o
        refine ⟨a', c', rfl, kk.trans1 k, nonAt k (blk_alloc (blk_new wr (PtB p)) _), ownsRow_low o (by simp; omega), fun g e => by have := (o.lt g e).1; simp at this; omega⟩)
      rw [← hL]
      have HM := Lib.hid hM
      have HL := Lib.hid hL
      clear hM hL
      go_wp2_with fail
      go_region_law (first
        | (refine step_append_rd (by rfl) (.tmp 46) (.tmp 48) 48 (by rfl) wr.heap.size 5 j0 (.int .u8 0) 1 Tryz.underlying48 J0.out.1 J0.out.2.1 J0.out.2.2.1 J0.out.2.2.2 rfl (.slice a5 M c5) M ((T0 ++ ptsB (c.parts.take j) ++ vputs [p.many, p.size]).map bv) (by first | rfl | simp [Act.eval, Act.put]) (by exact O5.out) (.slice (some ⟨wr.heap.size, 3, none⟩) 32 32) (by first | rfl | simp [Act.eval, Act.put]) (p.sum.map bv) (by exact S5.out) (oneCell_bytes _) (by rw [List.length_map, p5]; unfold maxLen; omega) (by rw [List.length_map, p5]; omega) (by have := K5'.out.size; omega) ?_; intro v6 w6 ho hg hpp; have HO := Lib.hid ho; have HG := Lib.hid hg; clear ho hg hpp)
        | (go_simp; go_at_call 126; with_reducible refine PP2.out.mono ?_; rintro e w5 ⟨a5, c5, rfl, k5, b5, o5, n5⟩; have S5 := Lib.hid (sum_rd b5 p5); have K5' := Lib.hid k5; have O5 := Lib.hid o5; have N5 := Lib.hid n5; clear k5 b5 o5 n5))
      all_goals
        go_wp2_with fail
        have kg : Keep (fun k => (Value.slice a5 M c5).ownBlock = some k) w5 w6 := Keep.grown (Keep.refl _ _) HG.out (fun k e => .inl e)
        have k6 : Keep Non wr w6 := K5'.out.trans kg (fun _ _ e => e) (fun g hg e => by have := (O5.out.lt g e).1; omega)
        have ho := HO.out
        have e0 : T0 ++ ptsB (c.parts.take j) ++ vputs [p.many, p.size] ++ p.sum = T0 ++ ptsB (c.parts.take (j + 1)) := by rw [TK.out]; simp [vputs]
        have e1 : M + (p.sum.map bv).length = (T0 ++ ptsB (c.parts.take (j + 1))).length := by rw [← e0, List.length_append, ← HM.out, List.length_map]
        rw [← List.map_append, e1, e0] at ho
        exact ⟨⟨j + 1, by omega, by first | rfl | go_num, nonAt k6 B.out, K.out.trans1 k6, ownsRow_low ho K.out.size⟩, by simp [intOf]; omega⟩
    · obtain rfl : j = c.parts.length := by omega
      have o := O.out
      rw [List.take_length] at o ⊢
      have e0 : T0 ++ ptsB c.parts = cuT c := by rw [HT.out]; rfl
      rw [e0] at o ⊢
      have hml : (cuT c).length ≤ 65536 := by rw [← e0, List.length_append]; rw [List.take_length] at hjl; omega
      have O6 := Lib.hid o
      clear o hk hb ho
      go_wp2_with (go_at_call 128; refine (fput_nil _ (cuT c) _ (Rd.ofOwns O6.out) hml).mono ?_; rintro e w7 ⟨v7, rfl, k7, o7⟩; have K7 := Lib.hid k7; have O7 := Lib.hid o7; clear k7 o7)
      go_ret2
      exact ⟨_, rfl, K.out.trans1 K7.out, ownsRow_low O7.out K.out.size⟩
end
theorem z32_eq : (.agg z32 : Value) = arrV (List.replicate 32 0) := by kernel_rfl
theorem sz81 : (Tryz.prog.info? 41).map (·.size) = some 32 := by kernel_rfl
theorem store_z32 (w : World) : (holdW 41 ⟨w.heap.size, 0, none⟩ (.agg z32)).run Tryz.prog (w.alloc (.cells z32 41)) = .ok () (w.alloc (.cells z32 41)) := by
  have h := run_storeVar_row (P := Tryz.prog) (w.alloc (.cells z32 41)) w.heap.size 41 41 z32 z32 (blk_new _ _) sz81 rfl (by kernel_rfl)
  rw [setRow_new] at h
  exact h
theorem load_z32 (w : World) : (holdV 41 ⟨w.heap.size, 0, none⟩).run Tryz.prog (w.alloc (.cells z32 41)) = .ok (arrV (List.replicate 32 0)) (w.alloc (.cells z32 41)) :=
  load81 _ _ 0 (List.replicate 32 0) rfl (fun j v hv => by
    rw [Nat.zero_add, cell_of_row _ _ j _ _ _ (blk_new _ _)]
    have e : z32 = ((List.replicate 32 (0 : UInt8)).map bv).toArray := by kernel_rfl
    rw [e]
    simpa using hv)
section
attribute [local go_sem ↓] hV41 hV190 hV102 hW41 hW190 hW102 hB190 hB102
theorem chcheck_nil (a : Option Addr) (c : Nat) (w : World) :
    Calls Tryz.prog 54 #[.slice a 0 c] w fun e w' => e = .returned (.tuple #[.int .i64 0, .nilIface]) ∧ Keep Non w w' := by
  go_enter Tryz.func54, Tryz.ntmps54
  go_wp2_with fail
  go_loopw [9] (fun i wr => i = .int .i64 0 ∧ Keep Non w wr) (fun i _ => 0)
  case atStart => exact ⟨rfl, Keep.refl _ _⟩
  case round =>
    obtain ⟨rfl, hk⟩ := hrel
    go_wp2_with fail
    go_ret2
    exact ⟨rfl, hk⟩
theorem chcheck_one (T : Nat → Prop) (v : Value) (m : Mf) (w : World) (h : MsAt T w v [m]) (hokm : okMf m) (hnum : m.num = 0) :
    Calls Tryz.prog 54 #[v] w fun e w' => e = .returned (.tuple #[.int .i64 1, .nilIface]) ∧ Keep Non w w' := by
  obtain ⟨a, c, rfl, hc, ha, hx⟩ := h
  obtain ⟨h32, g, off, pa, pc, rfl, x1, x2, x3⟩ := hx 0 m rfl
  have X1 := Lib.hid x1
  have X3 := Lib.hid x3
  simp only [List.length_singleton] at hc ⊢
  clear hx ha x1 x2 x3
  go_enter Tryz.func54, Tryz.ntmps54
  go_wp2_with fail
  go_loopw [9] (fun i wr => ∃ j : Nat, j ≤ 1 ∧ i = .int .i64 j ∧ Keep Non w wr) (fun i _ => 1 - (intOf i).toNat)
  case atStart => exact ⟨0, by omega, rfl, Keep.refl _ _⟩
  case round =>
    obtain ⟨j, hj, rfl, hk⟩ := hrel
    have K := Lib.hid hk
    clear hk
    by_cases hlt : j < 1
    · have hlj : (j : Int) < 1 := by omega
      have hld := load83 wr g (off + j * 37) m (.slice pa m.parts.length pc) h32 (fun i u hu => by
        have h0 := X3.out i u hu
        rw [show j = 0 by omega]
        exact (World.cell?_of_block (K.out.block g (World.block_lt_of_cell? _ _ h0) (fun e => e))).trans h0)
      have hst := store_mf0 wr m pa m.parts.length pc h32
      have hlm := load_mf (blk_new wr (MfB m (.slice pa m.parts.length pc))) h32
      dsimp only [zMf, MfB] at hst
      dsimp only [MfB] at hlm
      have CK := Lib.hid (mcheck_ok m (.slice pa m.parts.length pc) (wr.alloc (MfB m (.slice pa m.parts.length pc))) hokm (X1.out.keepNon (K.out.trans1 ((Keep.refl Non wr).alloc _))))
      have FO := Lib.hid (fun W => cfollows_nil m (.slice pa m.parts.length pc) (some ⟨g, off, none⟩) c W hnum)
      dsimp only [MfB] at CK
      have hj0 : j = 0 := by omega
      have FJ : Hid (∀ W, Calls Tryz.prog 115 #[.slice (some ⟨g, off, none⟩) j c, mfV m (.slice pa m.parts.length pc)] W fun e w' => e = .returned (.bool true) ∧ Keep Non W w') := Lib.hid (by rw [hj0]; exact FO.out)
      have hjc : j ≤ c := by omega
      clear hj0
      go_wp2_with (go_at_call 114; refine CK.out.mono ?_; rintro e w2 ⟨rfl, k2⟩; have b2 : w2.heap[wr.heap.size]? = some (MfB m (.slice pa m.parts.length pc)) := nonAt k2 (blk_new wr (MfB m (.slice pa m.parts.length pc))); have hl2 := load_mf b2 h32; have hl2d := load_mf (w := w2.drew) b2 h32; have K2 := Lib.hid (((Keep.refl Non wr).alloc (MfB m (.slice pa m.parts.length pc))).trans1 k2); clear k2 b2)
      go_region_law (go_simp; go_at_call 115; refine (FJ.out _).mono ?_; rintro e w3 ⟨rfl, k3⟩; have K3 : Hid (Keep Non w2 w3) := Lib.hid (((Keep.refl Non w2).drew).trans1 k3); clear k3)
      all_goals go_wp2_with fail
      all_goals exact ⟨⟨j + 1, by omega, by first | rfl | go_num, (K.out.trans1 K2.out).trans1 K3.out⟩, by simp [intOf]; omega⟩
    · obtain rfl : j = 1 := by omega
      go_wp2_with fail
      go_ret2
      exact ⟨rfl, K.out⟩
theorem chhead_nil (a : Option Addr) (c : Nat) (w : World) :
    Calls Tryz.prog 10 #[.slice a 0 c] w fun e w' => e = .returned (.tuple #[arrV (List.replicate 32 0), .nilIface]) ∧ Keep Non w w' := by
  have hs := store_z32 w
  have hl := load_z32 w
  dsimp only [z32] at hs hl
  go_enter Tryz.func10, Tryz.ntmps10
  go_wp2_with fail
  have hlv := load_z32 w
  unfold holdV at hlv
  dsimp only [z32] at hlv
  refine bodyPost_ret (v := .tuple #[arrV (List.replicate 32 0), .nilIface]) (by simp [results, Tryz.results10, asAddr, hlv]) rfl ?_
  exact ⟨rfl, (Keep.refl _ _).alloc _⟩
end
end Go.Proofs.YtdmckfkhkjkdnaaGreatDoor
