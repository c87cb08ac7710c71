/- cursor.Step: walked. · Further contracts of the shelf. · cursor.Done, Save, Clear, Load where there is none: walked. · A vault in memory; Store, Chain -/
import Derived.Shelf.Strconv.Itoa1
import Derived.Shelf.Strconv.Itoa2
import Derived.Shelf.Strconv.Itoa3
import Derived.Ground.SlgnProg
import Derived.Shelf.SlicesE.Clone
import Derived.Lib.IfaceEq
import Derived.Lib.AppendIntMem
import Derived.Test.YtdmckfkhkjkdnaaGreatDoorQ18
set_option linter.unusedVariables false
set_option maxRecDepth 100000
set_option maxHeartbeats 16000000
namespace Go.Proofs.YtdmckfkhkjkdnaaGreatDoor
open Go.RowKit
def holdBS (t : TypeId) (n : Nat) (parts : Array (Nat × Value)) : Sem Value := Instr.buildSlice t n parts
theorem hBS100 (n : Nat) (parts : Array (Nat × Value)) : Instr.buildSlice 100 n parts = holdBS 100 n parts := rfl
theorem build_one (p : Pt) (h : p.sum.length = 32) (w : World) : (holdBS 100 1 #[(0, ptV p)]).run Tryz.prog w = .ok (.slice (some ⟨w.heap.size, 0, none⟩) 1 1) (w.alloc (PtB p)) := by
  obtain ⟨f, m, s, D⟩ := p
  obtain ⟨d0, d1, d2, d3, d4, d5, d6, d7, d8, d9, d10, d11, d12, d13, d14, d15, d16, d17, d18, d19, d20, d21, d22, d23, d24, d25, d26, d27, d28, d29, d30, d31, rfl⟩ := list32 D h
  kernel_rfl
theorem custep_app {w1 W0 w3 : World} {n : Nat} {a2 : Option Addr} {c2 : Nat} {xs ys : List Value} {v3 : Value} (k10 : Keep Non w1 W0) (o2 : W0.ownsRow w1.heap.size 190 35 (.slice a2 n c2) n xs) (ho : w3.ownsRow w1.heap.size 190 35 v3 (n + 1) (xs ++ ys)) (hg : W0.grownBy w3 (Value.slice a2 n c2).ownBlock) :
    ∃ a3 c3, v3 = .slice a3 (n + 1) c3 ∧ Keep Non w1 w3 := by
  obtain ⟨a3, c3, rfl, _, _⟩ := ownsRow_form ho
  have hk : Keep (fun k => (Value.slice a2 n c2).ownBlock = some k) W0 w3 := Keep.grown (Keep.refl _ _) hg (fun k e => .inl e)
  exact ⟨a3, c3, rfl, k10.trans hk (fun _ _ e => e) (fun g hg e => by have := (o2.lt g e).1; omega)⟩
theorem pt_cells {w : World} {b : Nat} {p : Pt} (h : w.heap[b]? = some (PtB p)) : ∀ (j : Nat) u, (ptC p)[j]? = some u → w.cell? ((⟨b, 0, none⟩ : Addr).add j) = some u := by
  intro j u hu
  rw [add_off, Nat.zero_add, cell_of_row _ _ j _ _ _ h]
  simpa using hu
theorem ptC_one' (p : Pt) : ∀ u ∈ ptC p, u.oneCell' = true := by
  intro u hu
  have := ptC_one p
  rw [List.all_toArray, List.all_eq_true] at this
  exact this u hu
theorem one_new' {w w' : World} {p : Nat} {b : Nat} {o : Obj} (k : Keep (One p) w w') (h : w.heap[b]? = some o) (hne : b ≠ p) : w'.heap[b]? = some o := k.at h hne
theorem cu_set4 {w : World} {b : Nat} {c : Cu} {pv : Value} (h : w.heap[b]? = some (CuB c pv)) (v : Value) : (w.setCell ⟨b, 4, none⟩ v).heap[b]? = some (CuB c v) := blk_set h 4 _
theorem cu_set1 {w : World} {b : Nat} {c : Cu} {pv : Value} (h : w.heap[b]? = some (CuB c pv)) (n : Nat) : (w.setCell ⟨b, 1, none⟩ (.int .i64 n)).heap[b]? = some (CuB { c with next := n } pv) := blk_set h 1 _
theorem cu_five {w : World} {b : Nat} {c0 : Cu} {v0 : Value} (h : w.heap[b]? = some (CuB c0 v0)) (x0 x1 x2 x3 x4 : Value) :
    ∀ W, W = (((((w.setCell ⟨b, 0, none⟩ x0).setCell ⟨b, 1, none⟩ x1).setCell ⟨b, 2, none⟩ x2).setCell ⟨b, 3, none⟩ x3).setCell ⟨b, 4, none⟩ x4) →
    W.cell? ⟨b, 0, none⟩ = some x0 ∧ W.cell? ⟨b, 1, none⟩ = some x1 ∧ W.cell? ⟨b, 2, none⟩ = some x2 ∧ W.cell? ⟨b, 3, none⟩ = some x3 ∧ W.cell? ⟨b, 4, none⟩ = some x4 ∧ Keep (One b) w W := by
  rintro W rfl
  have h5 := blk_set (blk_set (blk_set (blk_set (blk_set h 0 x0) 1 x1) 2 x2) 3 x3) 4 x4
  exact ⟨by simp [World.cell?, h5], by simp [World.cell?, h5], by simp [World.cell?, h5], by simp [World.cell?, h5], by simp [World.cell?, h5], (((((Keep.refl (One b) w).setOne 0 x0).setOne 1 x1).setOne 2 x2).setOne 3 x3).setOne 4 x4⟩
section
attribute [local go_sem ↓] hV41 hV190 hV102 hW41 hW190 hW102 hB190 hB102 hBS100
def cuStep (c : Cu) (p : Pt) : Cu := { c with next := c.next + p.many, parts := c.parts ++ [p] }
theorem custep_ok (c : Cu) (p : Pt) (pv : Value) (w : World) (h : okCu c) (hp : PtsAt w pv c.parts) (h32 : pts32 c.parts) (hp5 : p.sum.length = 32) (h' : okCu (cuStep c p)) :
    Calls Tryz.prog 214 #[cuV c pv, ptV p] w fun e w' => ∃ v', e = .returned (.tuple #[cuV (cuStep c p) v', .nilIface]) ∧ Keep Non w w' ∧ w'.ownsRow w.heap.size 190 35 v' (c.parts.length + 1) (ptsC (c.parts ++ [p])) := by
  have CK := Lib.hid (fun w1 (k : Keep Non w w1) => cucheck_ok c pv w1 h (hp.keepNon k))
  have CL := Lib.hid (fun w1 (k : Keep Non w w1) => clone_pts pv c.parts w1 (hp.keepNon k) h32 (Nat.le_trans h.many (by decide)))
  have hbu := build_one p hp5
  obtain ⟨a, k, rfl, hk0, ha, hx⟩ := hp
  have q1 := ptc_1 p
  clear hx ha
  unfold cuV ptV at *
  go_enter Tryz.func214, Tryz.ntmps214
  have e0 : ((w.alloc (CuB c (.slice a c.parts.length k))).alloc (PtB p)).heap[w.heap.size]? = some (CuB c (.slice a c.parts.length k)) := blk_alloc (blk_new _ _) _
  have bc : (((w.alloc (CuB c (.slice a c.parts.length k))).alloc (PtB p)).alloc (CuB ⟨0, 0, 0, 0, []⟩ (.slice none 0 0))).heap[w.heap.size]? = some (CuB c (.slice a c.parts.length k)) := blk_alloc e0 _
  have bp : (((w.alloc (CuB c (.slice a c.parts.length k))).alloc (PtB p)).alloc (CuB ⟨0, 0, 0, 0, []⟩ (.slice none 0 0))).heap[w.heap.size + 1]? = some (PtB p) := blk_alloc (alloc2_at _ _ _) _
  have bz : (((w.alloc (CuB c (.slice a c.parts.length k))).alloc (PtB p)).alloc (CuB ⟨0, 0, 0, 0, []⟩ (.slice none 0 0))).heap[w.heap.size + 1 + 1]? = some (CuB ⟨0, 0, 0, 0, []⟩ (.slice none 0 0)) := by
    have := alloc2_at (w.alloc (CuB c (.slice a c.parts.length k))) (PtB p) (CuB ⟨0, 0, 0, 0, []⟩ (.slice none 0 0))
    rwa [World.size_alloc] at this
  have kA : Keep Non w (((w.alloc (CuB c (.slice a c.parts.length k))).alloc (PtB p)).alloc (CuB ⟨0, 0, 0, 0, []⟩ (.slice none 0 0))) := (((Keep.refl _ _).alloc _).alloc _).alloc _
  have sA : w.heap.size + 3 ≤ (((w.alloc (CuB c (.slice a c.parts.length k))).alloc (PtB p)).alloc (CuB ⟨0, 0, 0, 0, []⟩ (.slice none 0 0))).heap.size := by simp
  obtain ⟨wA, hwA⟩ : ∃ wA, wA = (((w.alloc (CuB c (.slice a c.parts.length k))).alloc (PtB p)).alloc (CuB ⟨0, 0, 0, 0, []⟩ (.slice none 0 0))) := ⟨_, rfl⟩
  rw [← hwA] at bc bp bz kA sA
  dsimp only [CuB, PtB] at hwA
  obtain ⟨i0, hi0, hz0, hz1, hz2⟩ := info_parts infoPt
  have I0 := Lib.hid (And.intro hi0 (And.intro hz0 (And.intro hz1 hz2)))
  have BC := Lib.hid bc
  have BP := Lib.hid bp
  have BZ := Lib.hid bz
  have KA := Lib.hid kA
  have SA := Lib.hid sA
  have HWA := Lib.hid hwA
  clear e0 bc bp bz kA sA hwA hi0 hz0 hz1 hz2
  go_wp2_with (go_at_call 209; refine (CK.out _ ((((Keep.refl Non w).alloc _).alloc _).alloc _)).mono ?_; rintro e w1 ⟨rfl, k1⟩; have k1' : Keep Non wA w1 := (by rw [HWA.out]; exact k1); have b1 := nonAt k1' BC.out; have p1 := nonAt k1' BP.out; have z1 := nonAt k1' BZ.out; have c1 := cu_1 b1; have c4 := cu_4 b1; have B1 := Lib.hid b1; have P1 := Lib.hid p1; have Z1 := Lib.hid z1; have K1 := Lib.hid (KA.out.trans1 k1'); have S1 : Hid (w.heap.size + 3 ≤ w1.heap.size) := Lib.hid (Nat.le_trans SA.out k1'.size); clear k1 k1' b1 p1 z1)
  have hl0 := load_pt P1.out hp5
  have hl1 : (holdV 190 ⟨w.heap.size + 1, 0, none⟩).run Tryz.prog w1.drew = .ok (ptV p) w1.drew := load_pt (w := w1.drew) P1.out hp5
  have kp1 : Keep Non w1 (w1.alloc (PtB p)) := (Keep.refl _ _).alloc _
  have c4p := cu_4 (nonAt kp1 B1.out)
  dsimp only [PtB] at hbu c4p
  unfold ptV at hl0 hl1
  have CLa := Lib.hid (CL.out w1.drew (K1.out.trans1 (Keep.refl Non w1).drew))
  have CLb := Lib.hid (CL.out (w1.alloc (PtB p)).drew (K1.out.trans1 kp1.drew))
  dsimp only [PtB] at CLb
  clear kp1
  have h64 := h'.many
  have hle := h'.le
  have hhi := h'.hi
  simp only [cuStep, List.length_append, List.length_singleton] at h64 hle hhi
  go_region_law (first
    | (refine step_append_prov (by rfl) (.tmp 16) (.tmp 18) 100 (by rfl) w1.heap.size 190 i0 (.agg zPt) 35 56 Tryz.underlying100 I0.out.1 I0.out.2.1 I0.out.2.2.1 I0.out.2.2.2 rfl (by decide) (.slice a2 c.parts.length c2) c.parts.length (ptsC c.parts) (by first | rfl | simp [Act.eval, Act.put]) (by exact (ownsRow_keep O2.out ((Keep.refl Non w2).alloc (PtB p)) (fun _ _ e => e))) ⟨w2.heap.size, 0, none⟩ 1 1 (ptC p) (by first | rfl | simp [Act.eval, Act.put]) (by rw [ptC_len hp5]) (by exact pt_cells N2.out) (ptC_one' p) (by unfold maxLen; omega) (by omega) (by have := K2.out.size; simp; omega) ?_; intro v3 w3 ho hg hpp; obtain ⟨a3, c3, rfl, k3⟩ := custep_app (K2.out.trans1 ((Keep.refl Non w2).alloc (PtB p))) (ownsRow_keep O2.out ((Keep.refl Non w2).alloc (PtB p)) (fun _ _ e => e)) ho hg; have b3 := nonAt k3 B1.out; have p3 := nonAt k3 P1.out; have z3 := nonAt k3 Z1.out; have d0 := cu_0 b3; have d1 := cu_1 b3; have d2 := cu_2 b3; have d3 := cu_3 b3; have d4 := cu_4 b3; have f1 := cu_f b3 1; have f4 := cu_f b3 4; have e1 := pt_1 p3; have B3 := Lib.hid b3; have Z3 := Lib.hid z3; have K3 := Lib.hid (K1.out.trans1 k3); have O3 := Lib.hid ho; have S3 : Hid (w.heap.size + 3 ≤ w3.heap.size) := Lib.hid (Nat.le_trans S1.out k3.size); clear ho hg hpp k3 b3 p3 z3)
    | (refine step_append_prov (by rfl) (.tmp 16) (.tmp 18) 100 (by rfl) w1.heap.size 190 i0 (.agg zPt) 35 56 Tryz.underlying100 I0.out.1 I0.out.2.1 I0.out.2.2.1 I0.out.2.2.2 rfl (by decide) (.slice a2 c.parts.length c2) c.parts.length (ptsC c.parts) (by first | rfl | simp [Act.eval, Act.put]) (by exact O2.out) ⟨w1.heap.size, 0, none⟩ 1 1 (ptC p) (by first | rfl | simp [Act.eval, Act.put]) (by rw [ptC_len hp5]) (by exact pt_cells M2.out) (ptC_one' p) (by unfold maxLen; omega) (by omega) (by have := K2.out.size; simp; omega) ?_; intro v3 w3 ho hg hpp; obtain ⟨a3, c3, rfl, k3⟩ := custep_app K2.out O2.out ho hg; have b3 := nonAt k3 B1.out; have p3 := nonAt k3 P1.out; have z3 := nonAt k3 Z1.out; have d0 := cu_0 b3; have d1 := cu_1 b3; have d2 := cu_2 b3; have d3 := cu_3 b3; have d4 := cu_4 b3; have f1 := cu_f b3 1; have f4 := cu_f b3 4; have e1 := pt_1 p3; have B3 := Lib.hid b3; have Z3 := Lib.hid z3; have K3 := Lib.hid (K1.out.trans1 k3); have O3 := Lib.hid ho; have S3 : Hid (w.heap.size + 3 ≤ w3.heap.size) := Lib.hid (Nat.le_trans S1.out k3.size); clear ho hg hpp k3 b3 p3 z3)
    | (go_simp; go_at_call 85; first
      | ((with_reducible refine CLa.out.mono ?_); rintro e w2 ⟨v2, rfl, k2, o2⟩; have k2' := ((Keep.refl Non w1).drew).trans1 k2; obtain ⟨a2, c2, rfl, _, _⟩ := ownsRow_form o2; have p2 := nonAt k2' P1.out; have hl2 := load_pt p2 hp5; unfold ptV at hl2; have P2 := Lib.hid p2; have O2 : Hid (w2.ownsRow w1.heap.size 190 35 (.slice a2 c.parts.length c2) c.parts.length (ptsC c.parts)) := Lib.hid o2; have K2 := Lib.hid k2'; have N2 := Lib.hid (blk_new w2 (PtB p)); clear k2 k2' o2 p2)
      | ((with_reducible refine CLb.out.mono ?_); rintro e w2 ⟨v2, rfl, k2, o2⟩; have k2' := ((Keep.refl Non w1).alloc (PtB p)).drew.trans1 k2; obtain ⟨a2, c2, rfl, _, _⟩ := ownsRow_form o2; have M2 := Lib.hid (nonAt k2 (blk_new w1 (PtB p))); have O2 : Hid (w2.ownsRow w1.heap.size 190 35 (.slice a2 c.parts.length c2) c.parts.length (ptsC c.parts)) := Lib.hid (ownsRow_low o2 (by simp)); have K2 := Lib.hid k2'; clear k2 k2' o2)))
  all_goals
    have C2 : Hid (∀ W, Keep (One w.heap.size) w3 W → Calls Tryz.prog 209 #[.agg #[.int .i64 c.lo, .int .i64 ((c.next : Int) + p.many), .int .i64 c.hi, .int .i64 c.trim, .slice a3 (c.parts.length + 1) c3]] W fun e w' => e = .returned .nilIface ∧ Keep Non W w') := Lib.hid (fun W kk => by
      have ho := O3.out
      have e : ptsC c.parts ++ ptC p = ptsC (cuStep c p).parts := by simp [ptsC, cuStep]
      have e2 : c.parts.length + 1 = (cuStep c p).parts.length := by simp [cuStep]
      rw [e, e2] at ho
      have ho2 := ownsRow_keep ho kk (fun g hg e2 => by have e' : g = w.heap.size := e2; have := (ho.lt g hg).1; have := S1.out; omega)
      have := cucheck_ok (cuStep c p) _ W h' (PtsAt.of ho2 (fun q hq => by simp only [cuStep, List.mem_append, List.mem_singleton] at hq; rcases hq with hq | rfl; exact h32 q hq; exact hp5))
      rw [← e2] at this
      simpa [cuV, cuStep] using this)
    go_wp2_with (go_at_call 209; refine (C2.out _ (((Keep.refl (One w.heap.size) w3).setOne 4 _).setOne 1 _)).mono ?_; rintro e w6 ⟨rfl, k6⟩; have kk : Keep (One w.heap.size) w3 w6 := (((Keep.refl (One w.heap.size) w3).setOne 4 _).setOne 1 _).trans1 k6.ofNon; have z6 := one_new' kk Z3.out (by omega); have i0' := cu_0 z6; have i1' := cu_1 z6; have i2' := cu_2 z6; have i3' := cu_3 z6; have i4' := cu_4 z6; have j0' := cu_f z6 0; have j1' := cu_f z6 1; have j2' := cu_f z6 2; have j3' := cu_f z6 3; have j4' := cu_f z6 4; have l0 := nonAt k6 (cu_set1 (cu_set4 B3.out (.slice a3 (c.parts.length + 1) c3)) (c.next + p.many)); have m0 := cu_0 l0; have m1 := cu_1 l0; have m2 := cu_2 l0; have m3 := cu_3 l0; have m4 := cu_4 l0; have Z6 := Lib.hid z6; have KK := Lib.hid kk; clear k6 kk z6 l0)
  all_goals
    obtain ⟨r0, r1, r2, r3, r4, kf⟩ := cu_five Z6.out (.int .i64 c.lo) (.int .i64 ((c.next : Int) + p.many)) (.int .i64 c.hi) (.int .i64 c.trim) (.slice a3 (c.parts.length + 1) c3) _ rfl
    refine bodyPost_ret (v := .tuple #[.agg #[.int .i64 c.lo, .int .i64 ((c.next : Int) + p.many), .int .i64 c.hi, .int .i64 c.trim, .slice a3 (c.parts.length + 1) c3], .nilIface]) (by simp [results, Tryz.results214, go_sem, r0, r1, r2, r3, r4]) rfl ?_
    have s1 := S1.out
    have s3 := S3.out
    have hk1 := K1.out.size
    refine ⟨.slice a3 (c.parts.length + 1) c3, rfl, ((K3.out.trans KK.out (fun _ _ e => e) (fun g hg e => by have e' : g = w.heap.size := e; omega))).trans kf (fun _ _ e => e) (fun g hg e => by have e' : g = w.heap.size + 1 + 1 := e; omega), ?_⟩
    have e : ptsC c.parts ++ ptC p = ptsC (c.parts ++ [p]) := by simp [ptsC]
    have ho := O3.out
    rw [e] at ho
    exact ownsRow_low (ownsRow_keep (ownsRow_keep ho KK.out (fun g hg e2 => by have e' : g = w.heap.size := e2; have := (ho.lt g hg).1; omega)) kf (fun g hg e2 => by have e' : g = w.heap.size + 1 + 1 := e2; have := (ho.lt g hg).1; omega)) (by omega)
end
end Go.Proofs.YtdmckfkhkjkdnaaGreatDoor
namespace Go.Proofs
open Go.Shelf
def Tryz.laysM171_ren : Go.Shelf.Ren := ⟨fun | 171 => 173 | 243 => 253 | 246 => 306 | 283 => 341 | 284 => 342 | 285 => 343 | 286 => 344 | 129 => 235 | 317 => 367 | 318 => 368 | 319 => 369 | 320 => 370 | 337 => 381 | 338 => 382 | n => n, fun | 3 => 3 | 9 => 9 | 2 => 2 | 4 => 4 | 171 => 435 | 0 => 0 | 53 => 217 | 37 => 48 | 5 => 5 | 173 => 437 | 212 => 455 | 51 => 316 | 20 => 20 | 213 => 456 | 46 => 37 | 232 => 40 | 233 => 476 | n => n, fun | 17 => 3 | 18 => 8 | 19 => 9 | n => n⟩
theorem Tryz.laysM171 : Go.Proofs.LaysM.n171 Tryz.prog Tryz.laysM171_ren := {
  mixed := by kernel_rfl
  f129 := Tryz.func235.trans (congrArg some (by kernel_rfl))
  f171 := Tryz.func173.trans (congrArg some (by kernel_rfl))
  f243 := Tryz.func253.trans (congrArg some (by kernel_rfl))
  f246 := Tryz.func306.trans (congrArg some (by kernel_rfl))
  f283 := Tryz.func341.trans (congrArg some (by kernel_rfl))
  f284 := Tryz.func342.trans (congrArg some (by kernel_rfl))
  f285 := Tryz.func343.trans (congrArg some (by kernel_rfl))
  f286 := Tryz.func344.trans (congrArg some (by kernel_rfl))
  f317 := Tryz.func367.trans (congrArg some (by kernel_rfl))
  f318 := Tryz.func368.trans (congrArg some (by kernel_rfl))
  f319 := Tryz.func369.trans (congrArg some (by kernel_rfl))
  f320 := Tryz.func370.trans (congrArg some (by kernel_rfl))
  f337 := Tryz.func381.trans (congrArg some (by kernel_rfl))
  f338 := Tryz.func382.trans (congrArg some (by kernel_rfl))
  t0 := Tryz.underlying0
  a0 := Tryz.isAgg0
  z0 := Tryz.sizeOf0
  v0 := Tryz.zeroValue0
  t2 := Tryz.underlying2
  a2 := Tryz.isAgg2
  z2 := Tryz.sizeOf2
  v2 := Tryz.zeroValue2
  t3 := Tryz.underlying3
  a3 := Tryz.isAgg3
  z3 := Tryz.sizeOf3
  v3 := Tryz.zeroValue3
  t4 := Tryz.underlying4
  a4 := Tryz.isAgg4
  z4 := Tryz.sizeOf4
  v4 := Tryz.zeroValue4
  t5 := Tryz.underlying5
  a5 := Tryz.isAgg5
  z5 := Tryz.sizeOf5
  v5 := Tryz.zeroValue5
  t9 := Tryz.underlying9
  a9 := Tryz.isAgg9
  z9 := Tryz.sizeOf9
  v9 := Tryz.zeroValue9
  t20 := Tryz.underlying20
  a20 := Tryz.isAgg20
  z20 := Tryz.sizeOf20
  v20 := Tryz.zeroValue20
  t37 := Tryz.underlying48
  a37 := Tryz.isAgg48
  z37 := Tryz.sizeOf48
  v37 := Tryz.zeroValue48
  t46 := Tryz.underlying37
  a46 := Tryz.isAgg37
  z46 := Tryz.sizeOf37
  v46 := Tryz.zeroValue37
  t51 := Tryz.underlying316
  a51 := Tryz.isAgg316
  z51 := Tryz.sizeOf316
  v51 := Tryz.zeroValue316
  t53 := Tryz.underlying217
  a53 := Tryz.isAgg217
  z53 := Tryz.sizeOf217
  v53 := Tryz.zeroValue217
  t171 := Tryz.underlying435
  a171 := Tryz.isAgg435
  z171 := Tryz.sizeOf435
  v171 := Tryz.zeroValue435
  t173 := Tryz.underlying437
  a173 := Tryz.isAgg437
  z173 := Tryz.sizeOf437
  v173 := Tryz.zeroValue437
  t212 := Tryz.underlying455
  a212 := Tryz.isAgg455
  z212 := Tryz.sizeOf455
  v212 := Tryz.zeroValue455
  t213 := Tryz.underlying456
  a213 := Tryz.isAgg456
  z213 := Tryz.sizeOf456
  t232 := Tryz.underlying40
  a232 := Tryz.isAgg40
  z232 := Tryz.sizeOf40
  v232 := Tryz.zeroValue40
  t233 := Tryz.underlying476
  a233 := Tryz.isAgg476
  z233 := Tryz.sizeOf476
  v233 := Tryz.zeroValue476
  g17 := by kernel_rfl
  g18 := by kernel_rfl
  g19 := by kernel_rfl
  i0 := by kernel_rfl
  i2 := by kernel_rfl
  i3 := by kernel_rfl
  i4 := by kernel_rfl
  i5 := by kernel_rfl
  i9 := by kernel_rfl
  i20 := by kernel_rfl
  i37 := by kernel_rfl
  i46 := by kernel_rfl
  i51 := by kernel_rfl
  i53 := by kernel_rfl
  i171 := by kernel_rfl
  i173 := by kernel_rfl
  i212 := by kernel_rfl
  i232 := by kernel_rfl
  i233 := by kernel_rfl
  m17 := by kernel_rfl
  m18 := by kernel_rfl
  m19 := by kernel_rfl }
open Go.RowKit Go.Sort Go.Lib in
/-- strconv.Itoa: "Itoa is equivalent to FormatInt(int64(i), 10).": i's DECIMAL NUMERAL ('Lib.itoa': a '-' where i is negative, then the digits), FOR EVERY int. The world behind the call: the world before it, new blocks behind the heap (the library's 'var a [24]byte'), draws. (LAID: no walk: one application.) -/
theorem Tryz.strconv_Itoa (n : Int) (h0 : -9223372036854775808 ≤ n) (h1 : n ≤ 9223372036854775807) (w : World) (htab : Lib.TabIs Tryz.prog w "internal/strconv.uint64pow10" .u64 Lib.pow10Tab) :
    Calls Tryz.prog 173 #[.int .i64 n] w fun e w' => e = .returned (.string ⟨(Lib.itoa n).toArray⟩) ∧ ∃ k os, w' = grow (w.drewN k) os := Any.strconv_Itoa Tryz.laysM171 n h0 h1 w htab
def Tryz.lays171_ren : Go.Shelf.Ren := ⟨fun | 171 => 173 | 243 => 253 | 246 => 306 | 283 => 341 | 284 => 342 | 285 => 343 | 286 => 344 | 129 => 235 | 317 => 367 | 318 => 368 | 319 => 369 | 320 => 370 | 337 => 381 | 338 => 382 | n => n, fun | 3 => 3 | 9 => 9 | 2 => 2 | 4 => 4 | 171 => 435 | 0 => 0 | 53 => 217 | 37 => 48 | 5 => 5 | 173 => 437 | 212 => 455 | 51 => 316 | 20 => 20 | 213 => 456 | 46 => 37 | 232 => 40 | 233 => 476 | n => n, fun | 17 => 3 | 18 => 8 | 19 => 9 | n => n⟩
theorem Tryz.lays171 : Go.Proofs.Lays.n171 Tryz.prog Tryz.lays171_ren := {
  mixed := by kernel_rfl
  f129 := Tryz.func235.trans (congrArg some (by kernel_rfl))
  f171 := Tryz.func173.trans (congrArg some (by kernel_rfl))
  f243 := Tryz.func253.trans (congrArg some (by kernel_rfl))
  f246 := Tryz.func306.trans (congrArg some (by kernel_rfl))
  f283 := Tryz.func341.trans (congrArg some (by kernel_rfl))
  f284 := Tryz.func342.trans (congrArg some (by kernel_rfl))
  f285 := Tryz.func343.trans (congrArg some (by kernel_rfl))
  f286 := Tryz.func344.trans (congrArg some (by kernel_rfl))
  f317 := Tryz.func367.trans (congrArg some (by kernel_rfl))
  f318 := Tryz.func368.trans (congrArg some (by kernel_rfl))
  f319 := Tryz.func369.trans (congrArg some (by kernel_rfl))
  f320 := Tryz.func370.trans (congrArg some (by kernel_rfl))
  f337 := Tryz.func381.trans (congrArg some (by kernel_rfl))
  f338 := Tryz.func382.trans (congrArg some (by kernel_rfl))
  t0 := Tryz.underlying0
  a0 := Tryz.isAgg0
  z0 := Tryz.sizeOf0
  v0 := Tryz.zeroValue0
  t2 := Tryz.underlying2
  a2 := Tryz.isAgg2
  z2 := Tryz.sizeOf2
  v2 := Tryz.zeroValue2
  t3 := Tryz.underlying3
  a3 := Tryz.isAgg3
  z3 := Tryz.sizeOf3
  v3 := Tryz.zeroValue3
  t4 := Tryz.underlying4
  a4 := Tryz.isAgg4
  z4 := Tryz.sizeOf4
  v4 := Tryz.zeroValue4
  t5 := Tryz.underlying5
  a5 := Tryz.isAgg5
  z5 := Tryz.sizeOf5
  v5 := Tryz.zeroValue5
  t9 := Tryz.underlying9
  a9 := Tryz.isAgg9
  z9 := Tryz.sizeOf9
  v9 := Tryz.zeroValue9
  t20 := Tryz.underlying20
  a20 := Tryz.isAgg20
  z20 := Tryz.sizeOf20
  v20 := Tryz.zeroValue20
  t37 := Tryz.underlying48
  a37 := Tryz.isAgg48
  z37 := Tryz.sizeOf48
  v37 := Tryz.zeroValue48
  t46 := Tryz.underlying37
  a46 := Tryz.isAgg37
  z46 := Tryz.sizeOf37
  v46 := Tryz.zeroValue37
  t51 := Tryz.underlying316
  a51 := Tryz.isAgg316
  z51 := Tryz.sizeOf316
  v51 := Tryz.zeroValue316
  t53 := Tryz.underlying217
  a53 := Tryz.isAgg217
  z53 := Tryz.sizeOf217
  v53 := Tryz.zeroValue217
  t171 := Tryz.underlying435
  a171 := Tryz.isAgg435
  z171 := Tryz.sizeOf435
  v171 := Tryz.zeroValue435
  t173 := Tryz.underlying437
  a173 := Tryz.isAgg437
  z173 := Tryz.sizeOf437
  v173 := Tryz.zeroValue437
  t212 := Tryz.underlying455
  a212 := Tryz.isAgg455
  z212 := Tryz.sizeOf455
  v212 := Tryz.zeroValue455
  t213 := Tryz.underlying456
  a213 := Tryz.isAgg456
  z213 := Tryz.sizeOf456
  t232 := Tryz.underlying40
  a232 := Tryz.isAgg40
  z232 := Tryz.sizeOf40
  v232 := Tryz.zeroValue40
  t233 := Tryz.underlying476
  a233 := Tryz.isAgg476
  z233 := Tryz.sizeOf476
  v233 := Tryz.zeroValue476
  g17 := by kernel_rfl
  g18 := by kernel_rfl
  g19 := by kernel_rfl }
open Go.RowKit Go.Sort Go.Lib in
/-- THE ROAD WITHOUT THE TABLE: 0 <= i < 100: NO PREMISE ON THE WORLD, AND THE WORLD IS AS IT WAS: a row that keeps its argument in that range need list no table ('laid = []'). (LAID: no walk: one application.) -/
theorem Tryz.strconv_Itoa_small (i : Nat) (hi : i < 100) (w : World) :
    Calls Tryz.prog 173 #[.int .i64 i] w fun e w' => e = .returned (.string ⟨(Lib.decDigits i).toArray⟩) ∧ w' = w := Any.strconv_Itoa_small Tryz.lays171 i hi w
end Go.Proofs
namespace Go.Proofs.YtdmckfkhkjkdnaaGreatDoor
open Go.RowKit Go.Maps
theorem eql_err (i j : Int) (w : World) : (binOp .eql 34 (.iface 84 (.int .i64 i)) (.iface 84 (.int .i64 j))).run Tryz.prog w = .ok (.bool (i == j)) w :=
  Lib.run_eql_iface_int w i j Tryz.underlying34 (by kernel_rfl) Tryz.underlying84
theorem eql_nil_err (j : Int) (w : World) : (binOp .eql 34 .nilIface (.iface 84 (.int .i64 j))).run Tryz.prog w = .ok (.bool false) w := by
  have h : ∀ d : Nat, (Op.equalIn (d + 1) 34 .nilIface (.iface 84 (.int .i64 j))).run Tryz.prog w = .ok false w := fun d => by simp [Op.equalIn, run_underlying Tryz.underlying34]
  simp only [binOp]
  simp [Op.equal, Op.maxDepth, h 9999]
theorem cudone_any (c : Cu) (a : Option Addr) (n k : Nat) (w : World) :
    Calls Tryz.prog 143 #[cuV c (.slice a n k)] w fun e w' => e = .returned (.bool (decide (c.next = c.hi))) ∧ Keep Non w w' := by
  unfold cuV
  go_enter Tryz.func143, Tryz.ntmps143
  go_wp2_with fail
  go_ret
  refine ⟨congrArg (fun b => Ending.returned (.bool b)) ?_, (Keep.refl _ _).alloc _⟩
  show ((c.next : Int) == c.hi) = _
  by_cases h : c.next = c.hi
  · simp [h]
  · simp [h]; omega
theorem cusave_any (F : Nat → Prop) (q p : Nat) (c : Cu) (pv : Value) (n : Byt) (X : Dk) (a k f : Nat) (w : World) (d : StoreAt F w q p X) (hl : X.lim a k f) (ha : a ≤ 505) (hk : k ≤ 990) (hf : f ≤ 400000000) (hF : ∀ g, F g → g < w.heap.size)
    (hn : okObj n) (h : okCu c) (hp : PtsAt w pv c.parts) (hb : (cuBy c).length ≤ 65536) :
    Calls Tryz.prog 76 #[.pointer (some ⟨q, 0, none⟩), sv n, cuV c pv] w fun e w' => e = .returned (errv (X.sput n (cuBy c)).1) ∧ StoreTo F w q p (X.sput n (cuBy c)).2 w' := by
  have PU := Lib.hid (fun w1 (k : Keep Non w w1) => cuput_ok c pv w1 h (hp.keepNon k))
  have SP : Hid (∀ w2 v, Keep Non w w2 → Bs w2 v (cuBy c) → (∀ g, v.ownBlock = some g → w.heap.size ≤ g) → Calls Tryz.prog 142 #[.pointer (some ⟨q, 0, none⟩), .string ⟨n.toArray⟩, v] w2 fun e w' => e = .returned (errv (X.sput n (cuBy c)).1) ∧ StoreTo F w q p (X.sput n (cuBy c)).2 w') := Lib.hid (fun w2 v k2 hv hg => by
    refine (sput_any F q p v n (cuBy c) X a k f w2 (d.keep k2 (fun _ _ e => e)) hl ha hk hf hn hv hb (fun g e e2 => by have := hg g e; have := hF g e2; omega)).mono ?_
    rintro e w' ⟨rfl, t⟩
    exact ⟨rfl, StoreTo.trans (Sub.refl _ _) k2.ofNon t⟩)
  obtain ⟨ra, rk, rfl, _, _, _⟩ := hp
  clear d hl hF h
  generalize (X.sput n (cuBy c)).1 = code at SP ⊢
  generalize (X.sput n (cuBy c)).2 = Y at SP ⊢
  unfold cuV sv at *
  go_enter Tryz.func76, Tryz.ntmps76
  go_wp2_with (first
    | (go_at_call 141; refine (PU.out _ ((Keep.refl _ _).alloc _)).mono ?_; rintro e w1 ⟨v1, rfl, k1, o1⟩; obtain ⟨a1, c1, rfl, _, _⟩ := ownsRow_form o1; have b1 := nonAt k1 (blk_new w (CuB c (.slice ra c.parts.length rk))); have K1 := Lib.hid (((Keep.refl Non w).alloc _).trans1 k1); have O1 := Lib.hid o1; clear k1 o1 b1)
    | (go_at_call 142; refine (SP.out w1 _ K1.out (Rd.ofOwns O1.out) (fun g e => by have := (O1.out.lt g e).1; simp at this; omega)).mono ?_; rintro e w2 ⟨rfl, t2⟩; have T2 := Lib.hid t2; clear t2))
  go_ret
  exact ⟨rfl, T2.out⟩
theorem cuclear_any (F : Nat → Prop) (q p : Nat) (n : Byt) (X : Dk) (w : World) (d : StoreAt F w q p X) (hm : X.mild) (hmap : IsMap X.shown) (hn : okObj n) :
    Calls Tryz.prog 81 #[.pointer (some ⟨q, 0, none⟩), sv n] w fun e w' => e = .returned (errv (if (X.sdel n).1 = 4 then 0 else (X.sdel n).1)) ∧ StoreTo F w q p (X.sdel n).2 w' := by
  have SD := Lib.hid (sdel_any F q p n X w d hm hmap hn)
  clear d hm hmap
  have hee := fun (i : Int) => eql_err i 4
  have hne := eql_nil_err 4
  generalize (X.sdel n).1 = code at SD ⊢
  generalize (X.sdel n).2 = Y at SD ⊢
  by_cases h0 : code = 0
  · rw [if_neg (by omega)]
    have e0 := errv_ok h0
    rw [e0] at SD ⊢
    unfold sv at *
    go_enter Tryz.func81, Tryz.ntmps81
    go_wp2_with (go_at_call 147; refine SD.out.mono ?_; rintro e w1 ⟨rfl, t1⟩; have T1 := Lib.hid t1; clear t1)
    go_ret
    exact ⟨rfl, T1.out⟩
  · by_cases h4 : code = 4
    · subst h4
      rw [if_pos rfl, errv_zero]
      have e0 := errv_no (c := 4) (by decide)
      rw [e0] at SD
      unfold sv at *
      go_enter Tryz.func81, Tryz.ntmps81
      go_wp2_with (go_at_call 147; refine SD.out.mono ?_; rintro e w1 ⟨rfl, t1⟩; have T1 := Lib.hid t1; clear t1)
      go_ret
      exact ⟨rfl, T1.out⟩
    · rw [if_neg h4]
      have e0 := errv_no h0
      rw [e0] at SD ⊢
      have hc4 : (code == 4) = false := by simpa using h4
      unfold sv at *
      go_enter Tryz.func81, Tryz.ntmps81
      go_wp2_with (go_at_call 147; refine SD.out.mono ?_; rintro e w1 ⟨rfl, t1⟩; have T1 := Lib.hid t1; clear t1)
      go_ret
      exact ⟨rfl, T1.out⟩
theorem cuload_none (F : Nat → Prop) (q p : Nat) (n : Byt) (X : Dk) (w : World) (d : StoreAt F w q p X) (hn : okObj n) (hd : X.down = false) (hh : fhas X.shown n = false) :
    Calls Tryz.prog 140 #[.pointer (some ⟨q, 0, none⟩), sv n] w fun e w' => e = .returned (.tuple #[.agg #[.int .i64 0, .int .i64 0, .int .i64 0, .int .i64 0, .slice none 0 0], .bool false, .nilIface]) ∧ Keep Non w w' := by
  have G := Lib.hid (fun w1 (k : Keep Non w w1) => sget_none F q p n X w1 (d.keep k (fun _ _ e => e)) hn hd hh)
  have hee := eql_err 4 4
  rw [show ((4 : Int) == 4) = true from rfl] at hee
  clear d
  unfold sv at *
  go_enter Tryz.func140, Tryz.ntmps140
  go_wp2_with (go_at_call 51; refine (G.out _ ((Keep.refl _ _).alloc _)).mono ?_; rintro e w1 ⟨rfl, k1⟩; have b1 := nonAt k1 (blk_new w (CuB ⟨0, 0, 0, 0, []⟩ (.slice none 0 0))); have K1 := Lib.hid (((Keep.refl Non w).alloc _).trans1 k1); have B1 := Lib.hid b1; have i0' := cu_0 b1; have i1' := cu_1 b1; have i2' := cu_2 b1; have i3' := cu_3 b1; have i4' := cu_4 b1; have j0' := cu_f b1 0; have j1' := cu_f b1 1; have j2' := cu_f b1 2; have j3' := cu_f b1 3; have j4' := cu_f b1 4; clear k1 b1)
  obtain ⟨r0, r1, r2, r3, r4, kf⟩ := cu_five B1.out (.int .i64 0) (.int .i64 0) (.int .i64 0) (.int .i64 0) (.slice none 0 0) _ rfl
  refine bodyPost_ret (v := .tuple #[.agg #[.int .i64 0, .int .i64 0, .int .i64 0, .int .i64 0, .slice none 0 0], .bool false, .nilIface]) (by simp [results, Tryz.results140, go_sem, r0, r1, r2, r3, r4]) rfl ?_
  exact ⟨rfl, K1.out.trans kf (fun _ _ e => e) (fun g hg e => by have e' : g = w.heap.size := e; omega)⟩
end Go.Proofs.YtdmckfkhkjkdnaaGreatDoor
namespace Go.Proofs.YtdmckfkhkjkdnaaGreatDoor
open Go.RowKit
def VtB (q : Nat) (lv : Value) : Obj := .cells #[.pointer (some ⟨q, 0, none⟩), lv] 106 (0, 0)
section
variable {w : World} {b q : Nat} {lv : Value}
theorem vt_0 (h : w.heap[b]? = some (VtB q lv)) : w.cell? ⟨b, 0, none⟩ = some (.pointer (some ⟨q, 0, none⟩)) := by simp [World.cell?, h, VtB]
theorem vt_1 (h : w.heap[b]? = some (VtB q lv)) : w.cell? ⟨b, 1, none⟩ = some lv := by simp [World.cell?, h, VtB]
theorem vt_f (h : w.heap[b]? = some (VtB q lv)) (i : Nat) : w.frozen? ⟨b, i, none⟩ = false := by simp [World.frozen?, h, VtB]
end
theorem MsAt.nil (T : Nat → Prop) (w : World) : MsAt T w (.slice none 0 0) [] := ⟨none, 0, rfl, Nat.le_refl _, fun ad e => (by cases e), fun j m hj => by simp at hj⟩
theorem MsAt.one {B : Nat} {T : Nat → Prop} {w : World} {v : Value} {m : Mf} {pa : Option Addr} {pc : Nat} (h : w.ownsRow B 102 37 v 1 (mfC m (.slice pa m.parts.length pc))) (h32 : m.prev.length = 32) (hp : PtsAt w (.slice pa m.parts.length pc) m.parts) (hT : ∀ g, (Value.slice pa m.parts.length pc).ownBlock = some g → T g) (hT2 : ∀ g, v.ownBlock = some g → T g) : MsAt T w v [m] := by
  rcases h.2 with ⟨_, hn⟩ | ⟨g, cap, cur, rfl, _, hg, hn, _, _, htake⟩
  · cases hn
  · refine ⟨some ⟨g, 0, none⟩, cap, rfl, hn, fun ad e => ⟨g, 0, by injection e with e; exact e.symm, hT2 g rfl⟩, fun j m' hj => ?_⟩
    cases j with
    | succ j => simp at hj
    | zero =>
      simp at hj
      subst hj
      refine ⟨h32, g, 0, pa, pc, rfl, hp, hT, fun i u hu => ?_⟩
      rw [Nat.zero_mul, Nat.zero_add, World.cell?, hg]
      rw [← htake, List.getElem?_take] at hu
      split at hu
      · simpa using hu
      · cases hu
theorem infoMf : (Tryz.prog.info? 102).map (fun i => (i.zero, i.size, i.bytes)) = some (some (.agg zMf), 37, 88) := by kernel_rfl
theorem hBS44 (n : Nat) (parts : Array (Nat × Value)) : Instr.buildSlice 44 n parts = holdBS 44 n parts := rfl
theorem build_oneM (m : Mf) (a : Option Addr) (n c : Nat) (h : m.prev.length = 32) (w : World) : (holdBS 44 1 #[(0, mfV m (.slice a n c))]).run Tryz.prog w = .ok (.slice (some ⟨w.heap.size, 0, none⟩) 1 1) (w.alloc (MfB m (.slice a n c))) := by
  obtain ⟨x0, x1, x2, x3, D, ps⟩ := m
  obtain ⟨d0, d1, d2, d3, d4, d5, d6, d7, d8, d9, d10, d11, d12, d13, d14, d15, d16, d17, d18, d19, d20, d21, d22, d23, d24, d25, d26, d27, d28, d29, d30, d31, rfl⟩ := list32 D h
  kernel_rfl
theorem mf_cells {w : World} {b : Nat} {m : Mf} {pv : Value} (h : w.heap[b]? = some (MfB m pv)) : ∀ (j : Nat) u, (mfC m pv)[j]? = some u → w.cell? ((⟨b, 0, none⟩ : Addr).add j) = some u := by
  intro j u hu
  rw [add_off, Nat.zero_add, cell_of_row _ _ j _ _ _ h]
  simpa using hu
theorem mfC_one' (m : Mf) (a : Option Addr) (n c : Nat) : ∀ u ∈ mfC m (.slice a n c), u.oneCell' = true := by
  intro u hu
  have := mfC_one m a n c
  rw [List.all_toArray, List.all_eq_true] at this
  exact this u hu
theorem vstore_ok (b q : Nat) (lv : Value) (w : World) (h : w.heap[b]? = some (VtB q lv)) :
    Calls Tryz.prog 77 #[.pointer (some ⟨b, 0, none⟩)] w fun e w' => e = .returned (.pointer (some ⟨q, 0, none⟩)) ∧ w' = w := by
  have c0 := vt_0 h
  clear h
  go_enter Tryz.func77, Tryz.ntmps77
  go_wp2_with fail
  go_ret
  exact ⟨rfl, rfl⟩
section
attribute [local go_sem ↓] hV41 hV190 hV102 hW41 hW190 hW102 hB190 hB102 hBS100 hBS44
theorem vchain_nil (b q : Nat) (a : Option Addr) (c : Nat) (w : World) (h : w.heap[b]? = some (VtB q (.slice a 0 c))) :
    Calls Tryz.prog 11 #[.pointer (some ⟨b, 0, none⟩)] w fun e w' => e = .returned (.slice none 0 0) ∧ Keep Non w w' := by
  have c1 := vt_1 h
  clear h
  go_enter Tryz.func11, Tryz.ntmps11
  go_wp2_with fail
  go_loopw [3, 13] (fun o i wr => o = .slice none 0 0 ∧ i = .int .i64 0 ∧ Keep Non w wr) (fun _ _ _ => 0)
  case atStart => exact ⟨rfl, rfl, Keep.refl _ _⟩
  case round =>
    obtain ⟨rfl, rfl, hk⟩ := hrel
    go_wp2_with fail
    go_ret
    exact ⟨rfl, hk⟩
theorem vchain_one (T : Nat → Prop) (b q : Nat) (lv : Value) (m : Mf) (w : World) (h : w.heap[b]? = some (VtB q lv)) (hm : MsAt T w lv [m]) (h32 : pts32 m.parts) (hlen : m.parts.length ≤ 10000) :
    Calls Tryz.prog 11 #[.pointer (some ⟨b, 0, none⟩)] w fun e w' => ∃ v', e = .returned v' ∧ Keep Non w w' ∧ MsAt (fun g => w.heap.size ≤ g ∧ g < w'.heap.size) w' v' [m] := by
  have c1 := vt_1 h
  obtain ⟨a, c, rfl, hc, ha, hx⟩ := hm
  obtain ⟨hp32, g, off, pa, pc, rfl, x1, x2, x3⟩ := hx 0 m rfl
  have X1 := Lib.hid x1
  have X3 := Lib.hid x3
  obtain ⟨i0, hi0, hz0, hz1, hz2⟩ := info_parts infoMf
  have I0 := Lib.hid (And.intro hi0 (And.intro hz0 (And.intro hz1 hz2)))
  simp only [List.length_singleton] at hc c1 ⊢
  clear h hx ha x1 x2 x3 hi0 hz0 hz1 hz2
  go_enter Tryz.func11, Tryz.ntmps11
  go_wp2_with fail
  go_loopw [3, 13] (fun o i wr => ∃ j : Nat, j ≤ 1 ∧ i = .int .i64 j ∧ Keep Non w wr ∧ (j = 0 → o = .slice none 0 0) ∧ (j = 1 → MsAt (fun g => w.heap.size ≤ g ∧ g < wr.heap.size) wr o [m])) (fun _ i _ => 1 - (intOf i).toNat)
  case atStart => exact ⟨0, by omega, rfl, Keep.refl _ _, fun _ => rfl, fun e => by cases e⟩
  case round =>
    obtain ⟨j, hj, rfl, hk, h0, h1⟩ := hrel
    have K := Lib.hid hk
    clear hk
    by_cases hlt : j < 1
    · have hlj : (j : Int) < 1 := by omega
      obtain rfl := h0 (by omega)
      clear h0 h1
      have hld := load83 wr g (off + j * 37) m (.slice pa m.parts.length pc) hp32 (fun i u hu => by
        have h0 := X3.out i u hu
        rw [show j = 0 by omega]
        exact (World.cell?_of_block (K.out.block g (World.block_lt_of_cell? _ _ h0) (fun e => e))).trans h0)
      have hst := store_mf0 wr m pa m.parts.length pc hp32
      have hlm := load_mf (blk_new wr (MfB m (.slice pa m.parts.length pc))) hp32
      have CO := Lib.hid (mcopy_ok m (.slice pa m.parts.length pc) (wr.alloc (MfB m (.slice pa m.parts.length pc))) (X1.out.keepNon (K.out.trans1 ((Keep.refl Non wr).alloc _))) hp32 h32 hlen)
      dsimp only [zMf, MfB] at hst
      dsimp only [MfB] at hlm CO
      go_wp2_with (first
        | (go_at_call 39; refine CO.out.mono ?_; rintro e w2 ⟨v2, rfl, k2, o2⟩; obtain ⟨a2, c2, rfl, _, _⟩ := ownsRow_form o2; have hbu := build_oneM m a2 m.parts.length c2 hp32 w2; have K2 := Lib.hid (((Keep.refl Non wr).alloc (MfB m (.slice pa m.parts.length pc))).trans1 k2); have O2 : Hid (w2.ownsRow wr.heap.size 190 35 (.slice a2 m.parts.length c2) m.parts.length (ptsC m.parts)) := Lib.hid (ownsRow_low o2 (by simp)); clear k2 o2)
        | (at_builtin; refine wpList_append_prov rfl _ _ 44 rfl w2.heap.size 102 i0 (.agg zMf) 37 88 Tryz.underlying44 I0.out.1 I0.out.2.1 I0.out.2.2.1 I0.out.2.2.2 rfl (by decide) (.slice none 0 0) 0 [] rfl (World.ownsRow_nil _ _ _ _) ⟨w2.heap.size, 0, none⟩ 1 1 (mfC m (.slice a2 m.parts.length c2)) rfl (by rw [mfC_len hp32]) (by exact mf_cells (blk_new w2 (MfB m (.slice a2 m.parts.length c2)))) (mfC_one' m a2 m.parts.length c2) (by unfold maxLen; omega) (by omega) (by simp [MfB]) ?_; intro v3 w3 ho hg hpp; have HO := Lib.hid ho; have HG := Lib.hid hg; clear ho hg hpp))
      have kg : Keep Non (w2.alloc (MfB m (.slice a2 m.parts.length c2))) w3 := Keep.grown (Keep.refl _ _) HG.out (fun k e => by cases e)
      have k23 : Keep Non w2 w3 := ((Keep.refl Non w2).alloc (MfB m (.slice a2 m.parts.length c2))).trans1 kg
      have ho := HO.out
      rw [Nat.zero_add, List.nil_append] at ho
      have o3 := ownsRow_keep O2.out k23 (fun _ _ e => e)
      have z1 := K.out.size
      have z2 := K2.out.size
      exact ⟨⟨j + 1, by omega, by first | rfl | go_num, (K.out.trans1 K2.out).trans1 k23, fun e => by omega, fun _ => MsAt.one ho hp32 (PtsAt.of o3 h32) (fun g e => by have := o3.lt g e; omega) (fun g e => by have := ho.lt g e; omega)⟩, by simp [intOf]; omega⟩
    · obtain rfl : j = 1 := by omega
      have M := Lib.hid (h1 rfl)
      clear h0 h1
      go_wp2_with fail
      go_ret
      exact ⟨_, rfl, K.out, M.out⟩
end
theorem dec_len (n : Nat) (h : n < 100) : 1 ≤ (Lib.decDigits n).length ∧ (Lib.decDigits n).length ≤ 2 := by
  rw [Lib.decDigits]
  split
  · simp
  · rw [Lib.decDigits, dif_pos (by omega)]
    simp
theorem keep_below {w w' : World} (h : Below w.heap.size w w') : Keep Non w w' := ⟨h.os, h.tape, h.output, h.size, fun i hi _ => h.block i hi⟩
theorem rep_len (c : Nat) : (Lib.repeatL [48] c).length = c := by
  induction c with
  | zero => rfl
  | succ c ih => simp [Lib.repeatL, ih]
def figN (n k : Nat) : Byt := Lib.repeatL [48] (k - (Lib.decDigits n).length) ++ Lib.decDigits n
theorem vfig_ok (n k : Nat) (w : World) (hn : n < 100) (hk : k ≤ 10) :
    Calls Tryz.prog 105 #[.int .i64 n, .int .i64 k] w fun e w' => e = .returned (sv (figN n k)) ∧ Keep Non w w' := by
  obtain ⟨h1, h2⟩ := dec_len n hn
  have IT := Lib.hid (fun W => Tryz.strconv_Itoa_small n hn W)
  have hmx : max ((k : Int) - ((Lib.decDigits n).length : Int)) 0 = ((k - (Lib.decDigits n).length : Nat) : Int) := by omega
  have RP : Hid (∀ W, Calls Tryz.prog 174 #[.string ⟨#[48]⟩, .int .i64 (max ((k : Int) - ((Lib.decDigits n).length : Int)) 0)] W fun e w' => e = .returned (.string ⟨(Lib.repeatL [48] (k - (Lib.decDigits n).length)).toArray⟩) ∧ Keep Non W w') := Lib.hid (fun W => by
    rw [hmx]
    refine (Tryz.strings_Repeat ⟨#[48]⟩ (k - (Lib.decDigits n).length) W (by omega) (by show 1 * _ ≤ _; omega)).mono ?_
    rintro e w' ⟨rfl, b⟩
    exact ⟨rfl, keep_below b⟩)
  have hrl : (Lib.repeatL [48] (k - (Lib.decDigits n).length)).length = k - (Lib.decDigits n).length := rep_len _
  have hadd := fun (W : World) => run_string_add_lists (P := Tryz.prog) W (Lib.repeatL [48] (k - (Lib.decDigits n).length)) (Lib.decDigits n) (by omega) (by omega)
  clear hrl
  clear hmx
  have hs : (⟨(Lib.decDigits n).toArray⟩ : ByteArray).size = (Lib.decDigits n).length := by show (Lib.decDigits n).toArray.size = _; simp
  go_enter Tryz.func105, Tryz.ntmps105
  go_wp2_with (first
    | (go_at_call 173; refine (IT.out _).mono ?_; rintro e w1 ⟨rfl, e1⟩; subst e1)
    | (go_at_call 174; refine (RP.out _).mono ?_; rintro e w2 ⟨rfl, k2⟩; have K2 := Lib.hid k2; clear k2))
  go_ret
  exact ⟨rfl, K2.out⟩
theorem figN_len (n k : Nat) (hn : n < 100) (hk : 2 ≤ k) : (figN n k).length = k := by
  have := dec_len n hn
  unfold figN
  rw [List.length_append, rep_len]
  omega
def titleN (n : Nat) : Byt := [109] ++ figN n 6
def labelN (n p : Nat) : Byt := [112] ++ figN n 6 ++ [45] ++ figN p 4
theorem vtitle_ok (n : Nat) (w : World) (hn : n < 100) :
    Calls Tryz.prog 52 #[.int .i64 n] w fun e w' => e = .returned (sv (titleN n)) ∧ Keep Non w w' := by
  have FG := Lib.hid (fun W => vfig_ok n 6 W hn (by omega))
  have hl := figN_len n 6 hn (by omega)
  have hadd := fun (W : World) => run_string_add_lists (P := Tryz.prog) W [109] (figN n 6) (by decide) (by omega)
  unfold sv at FG ⊢
  clear hl
  go_enter Tryz.func52, Tryz.ntmps52
  go_wp2_with (go_at_call 105; refine (FG.out _).mono ?_; rintro e w1 ⟨rfl, k1⟩; have K1 := Lib.hid k1; clear k1)
  go_ret
  exact ⟨rfl, K1.out⟩
theorem vlabel_ok (n p : Nat) (w : World) (hn : n < 100) (hp : p < 100) :
    Calls Tryz.prog 270 #[.int .i64 n, .int .i64 p] w fun e w' => e = .returned (sv (labelN n p)) ∧ Keep Non w w' := by
  have FG : Hid (∀ W, Calls Tryz.prog 105 #[.int .i64 n, .int .i64 6] W fun e w' => e = .returned (.string ⟨(figN n 6).toArray⟩) ∧ Keep Non W w') := Lib.hid (fun W => vfig_ok n 6 W hn (by omega))
  have FP : Hid (∀ W, Calls Tryz.prog 105 #[.int .i64 p, .int .i64 4] W fun e w' => e = .returned (.string ⟨(figN p 4).toArray⟩) ∧ Keep Non W w') := Lib.hid (fun W => vfig_ok p 4 W hp (by omega))
  have hl := figN_len n 6 hn (by omega)
  have hl2 := figN_len p 4 hp (by omega)
  unfold sv labelN
  generalize figN n 6 = a at *
  generalize figN p 4 = b at *
  obtain ⟨A1, h1⟩ : ∃ A1, A1 = [112] ++ a := ⟨_, rfl⟩
  obtain ⟨A2, h2⟩ : ∃ A2, A2 = A1 ++ [45] := ⟨_, rfl⟩
  obtain ⟨A3, h3⟩ : ∃ A3, A3 = A2 ++ b := ⟨_, rfl⟩
  have l1 : A1.length ≤ 10 := by rw [h1]; simp; omega
  have l2 : A2.length ≤ 11 := by rw [h2]; simp; omega
  have hadd1 := fun (W : World) => run_string_add_lists (P := Tryz.prog) W [112] a (by decide) (by omega)
  have hadd2 := fun (W : World) => run_string_add_lists (P := Tryz.prog) W A1 [45] (by omega) (by decide)
  have hadd3 := fun (W : World) => run_string_add_lists (P := Tryz.prog) W A2 b (by omega) (by omega)
  rw [← h1] at hadd1 ⊢
  rw [← h2] at hadd2 ⊢
  rw [← h3] at hadd3 ⊢
  clear h1 h2 h3 l1 l2 hl hl2
  go_enter Tryz.func270, Tryz.ntmps270
  go_wp2_with (go_at_call 105; first
    | ((with_reducible refine (FG.out _).mono ?_); rintro e w1 ⟨rfl, k1⟩; have K1 := Lib.hid k1; clear k1)
    | ((with_reducible refine (FP.out _).mono ?_); rintro e w2 ⟨rfl, k2⟩; have K2 := Lib.hid k2; clear k2))
  go_ret
  exact ⟨rfl, K1.out.trans1 K2.out⟩
def digs : List UInt8 := [48, 49, 50, 51, 52, 53, 54, 55, 56, 57]
theorem dig_in (i : Nat) (h : i < 10) : UInt8.ofNat (48 + i) ∈ digs := by
  have h0 : ∀ i : Fin 10, UInt8.ofNat (48 + i.val) ∈ digs := by decide
  exact h0 ⟨i, h⟩
theorem dec_in (n : Nat) (h : n < 100) : ∀ c ∈ Lib.decDigits n, c ∈ digs := by
  intro c hc
  by_cases h1 : n < 10
  · rw [Lib.decDigits_one h1] at hc
    simp only [List.mem_singleton] at hc
    rw [hc]
    exact dig_in n h1
  · rw [Lib.decDigits_two h1 h] at hc
    simp only [List.mem_cons, List.not_mem_nil, or_false] at hc
    rcases hc with rfl | rfl
    · exact dig_in _ (by omega)
    · exact dig_in _ (by omega)
theorem rep_in : ∀ (k : Nat), ∀ c ∈ Lib.repeatL [48] k, c ∈ digs
  | 0, c, h => by simp [Lib.repeatL] at h
  | k + 1, c, h => by
    simp only [Lib.repeatL, List.mem_append, List.mem_singleton] at h
    rcases h with rfl | h
    · decide
    · exact rep_in k c h
theorem figN_in (n k : Nat) (h : n < 100) : ∀ c ∈ figN n k, c ∈ digs := by
  intro c hc
  unfold figN at hc
  rcases List.mem_append.1 hc with hc | hc
  · exact rep_in _ c hc
  · exact dec_in n h c hc
theorem digs_ok : ∀ c ∈ digs, c ∈ signsL ∧ c ≠ 126 := by decide
theorem title_ok (n : Nat) (h : n < 100) : okObj (titleN n) := by
  have hl := figN_len n 6 h (by omega)
  have hc : ∀ c ∈ titleN n, c ∈ signsL ∧ c ≠ 126 := by
    intro c hc
    unfold titleN at hc
    simp only [List.mem_append, List.mem_singleton] at hc
    rcases hc with rfl | hc
    · decide
    · exact digs_ok c (figN_in n 6 h c hc)
  have hlen : (titleN n).length = 7 := by unfold titleN; simp [hl]
  exact ⟨⟨by omega, by omega, fun c e => (hc c e).1⟩, by omega, fun e => (hc 126 e).2 rfl⟩
theorem label_ok (n p : Nat) (h : n < 100) (h2 : p < 100) : okObj (labelN n p) := by
  have hl := figN_len n 6 h (by omega)
  have hl2 := figN_len p 4 h2 (by omega)
  have hc : ∀ c ∈ labelN n p, c ∈ signsL ∧ c ≠ 126 := by
    intro c hc
    unfold labelN at hc
    simp only [List.mem_append, List.mem_singleton] at hc
    rcases hc with ((rfl | hc) | rfl) | hc
    · decide
    · exact digs_ok c (figN_in n 6 h c hc)
    · decide
    · exact digs_ok c (figN_in p 4 h2 c hc)
  have hlen : (labelN n p).length = 12 := by unfold labelN; simp [hl, hl2]
  exact ⟨⟨by omega, by omega, fun c e => (hc c e).1⟩, by omega, fun e => (hc 126 e).2 rfl⟩
def Pow (w : World) : Prop := Lib.TabIs Tryz.prog w "internal/strconv.uint64pow10" .u64 Lib.pow10Tab
theorem pow_at : Tryz.prog.globalNamed "internal/strconv.uint64pow10" = some 3 := by kernel_rfl
structure Lay (w : World) : Prop where
  kon : Kon w
  frs : Frs w
  pow : Pow w
theorem Lay.keep {S : Nat → Prop} {w w' : World} (h : Lay w) (k : Keep S w w') (hn : ∀ g, g < 10 → ¬ S g) : Lay w' where
  kon := by
    obtain ⟨cs, h1, ⟨tt, fr, h2⟩, h3, h4⟩ := h.kon
    exact ⟨cs, h1, ⟨tt, fr, k.at h2 (hn _ (by decide))⟩, Nat.le_trans h3 k.size, h4⟩
  frs := by
    obtain ⟨tt, fr, h⟩ := h.frs
    exact ⟨tt, fr, k.at h (hn _ (by decide))⟩
  pow := by
    have hp := h.pow
    unfold Pow Lib.TabIs World.var? at hp ⊢
    rw [pow_at] at hp ⊢
    simp only [Option.bind_some] at hp ⊢
    have hlt : 3 < w.heap.size := by
      rcases Nat.lt_or_ge 3 w.heap.size with h' | h'
      · exact h'
      · rw [Array.getElem?_eq_none h'] at hp; simp at hp
    rw [k.block _ hlt (hn _ (by decide))]
    exact hp
theorem Lay.keepNon {w w' : World} (h : Lay w) (k : Keep Non w w') : Lay w' := h.keep k (fun _ _ e => e)
theorem dec_dig : ∀ (n : Nat), ∀ c ∈ Lib.decDigits n, c ∈ digs := by
  intro n
  induction n using Nat.strongRecOn with
  | _ n ih =>
    intro c hc
    rw [Lib.decDigits] at hc
    split at hc
    · simp only [List.mem_singleton] at hc
      rw [hc]
      exact dig_in n ‹_›
    · rw [List.mem_append] at hc
      rcases hc with hc | hc
      · exact ih (n / 10) (by omega) c hc
      · simp only [List.mem_singleton] at hc
        rw [hc]
        exact dig_in _ (by omega)
theorem dec_len3 (n : Nat) (h : n < 1000) : 1 ≤ (Lib.decDigits n).length ∧ (Lib.decDigits n).length ≤ 3 := by
  rw [Lib.decDigits]
  split
  · simp
  · rw [List.length_append]
    have := dec_len (n / 10) (by omega)
    simp
    omega
def nameN (c : UInt8) (n : Nat) : Byt := [c] ++ Lib.repeatL [48] (8 - (Lib.decDigits n).length) ++ Lib.decDigits n
theorem name_ok (n : Nat) (h : n < 1000) : okObj (nameN 114 n) := by
  have hd := dec_len3 n h
  have hc : ∀ c ∈ nameN 114 n, c ∈ signsL ∧ c ≠ 126 := by
    intro c hc
    unfold nameN at hc
    simp only [List.mem_append, List.mem_singleton] at hc
    rcases hc with (rfl | hc) | hc
    · decide
    · exact digs_ok c (rep_in _ c hc)
    · exact digs_ok c (dec_dig n c hc)
  have hlen : (nameN 114 n).length = 9 := by unfold nameN; simp [rep_len]; omega
  exact ⟨⟨by omega, by omega, fun c e => (hc c e).1⟩, by omega, fun e => (hc 126 e).2 rfl⟩
theorem shname_ok (n : Nat) (w : World) (hn : n < 1000) (hl : Lay w) :
    Calls Tryz.prog 163 #[sv [114], .int .i64 n] w fun e w' => e = .returned (sv (nameN 114 n)) ∧ Keep Non w w' := by
  obtain ⟨h1, h2⟩ := dec_len3 n hn
  have IT : Hid (Calls Tryz.prog 173 #[.int .i64 n] w fun e w' => e = .returned (.string ⟨(Lib.decDigits n).toArray⟩) ∧ Keep Non w w') := Lib.hid (by
    refine (Tryz.strconv_Itoa n (by omega) (by omega) w hl.pow).mono ?_
    rintro e w' ⟨rfl, k, os, rfl⟩
    rw [Lib.itoa_nonneg]
    exact ⟨rfl, Keep.ofBelow (Lib.below_grow _ _ (Nat.le_refl _) _ _)⟩)
  have RP : Hid (∀ W, Calls Tryz.prog 174 #[.string ⟨#[48]⟩, .int .i64 ((8 : Int) - ((Lib.decDigits n).length : Int))] W fun e w' => e = .returned (.string ⟨(Lib.repeatL [48] (8 - (Lib.decDigits n).length)).toArray⟩) ∧ Keep Non W w') := Lib.hid (fun W => by
    rw [show (8 : Int) - ((Lib.decDigits n).length : Int) = ((8 - (Lib.decDigits n).length : Nat) : Int) by omega]
    refine (Tryz.strings_Repeat ⟨#[48]⟩ (8 - (Lib.decDigits n).length) W (by omega) (by show 1 * _ ≤ _; omega)).mono ?_
    rintro e w' ⟨rfl, b⟩
    exact ⟨rfl, keep_below b⟩)
  have hrl : (Lib.repeatL [48] (8 - (Lib.decDigits n).length)).length = 8 - (Lib.decDigits n).length := rep_len _
  have hs : (⟨(Lib.decDigits n).toArray⟩ : ByteArray).size = (Lib.decDigits n).length := by show (Lib.decDigits n).toArray.size = _; simp
  unfold sv nameN
  generalize Lib.decDigits n = d at *
  generalize Lib.repeatL [48] (8 - d.length) = a at *
  obtain ⟨A1, h1'⟩ : ∃ A1, A1 = [114] ++ a := ⟨_, rfl⟩
  have l1 : A1.length ≤ 10 := by rw [h1']; simp; omega
  have hadd1 := fun (W : World) => run_string_add_lists (P := Tryz.prog) W [114] a (by decide) (by omega)
  have hadd2 := fun (W : World) => run_string_add_lists (P := Tryz.prog) W A1 d (by omega) (by omega)
  rw [← h1'] at hadd1 ⊢
  clear h1' hl
  go_enter Tryz.func163, Tryz.ntmps163
  go_wp2_with (first
    | (go_at_call 173; refine IT.out.mono ?_; rintro e w1 ⟨rfl, k1⟩; have K1 := Lib.hid k1; clear k1)
    | (go_at_call 174; refine (RP.out _).mono ?_; rintro e w2 ⟨rfl, k2⟩; have K2 := Lib.hid k2; clear k2))
  go_ret
  exact ⟨rfl, K1.out.trans1 K2.out⟩
end Go.Proofs.YtdmckfkhkjkdnaaGreatDoor
