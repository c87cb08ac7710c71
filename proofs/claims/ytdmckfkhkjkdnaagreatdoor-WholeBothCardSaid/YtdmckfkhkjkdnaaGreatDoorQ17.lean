/- The text of one frame. · segment.Take of a segment's bytes: walked. · Parts and manifests by value: their cells, and the operations at them. · manifes -/
import Derived.Test.YtdmckfkhkjkdnaaGreatDoorQ15
import Derived.Test.YtdmckfkhkjkdnaaGreatDoorQ16
set_option linter.unusedVariables false
set_option maxRecDepth 100000
set_option maxHeartbeats 16000000
namespace Go.Proofs.YtdmckfkhkjkdnaaGreatDoor
open Go.RowKit
def NewR (w w' : World) (v' : Value) (t : List UInt8) : Prop := Bs w' v' t ∧ okc v' ∧ (∀ g, v'.ownBlock = some g → w.heap.size ≤ g ∧ g < w'.heap.size)
theorem fone_ok (v : Value) (t : List UInt8) (w : World) (h : Bs w v (frameB t)) (hc : okc v) (hl : t.length ≤ 65536) (hv : ∀ g, v.ownBlock = some g → g < w.heap.size) :
    Calls Tryz.prog 106 #[v] w fun e w' => Keep Non w w' ∧ ∃ v', e = .returned (.tuple #[v', .nilIface]) ∧ NewR w w' v' t := by
  have hlen : (vtext t ++ fourB (crcI (vtext t))).length = (frameB t).length := rfl
  have C : Calls Tryz.prog 175 #[v] w fun e w' => Keep Non w w' ∧ ∃ v', e = .returned (.tuple #[v', .int .i64 (frameB t).length, .nilIface]) ∧ NewR w w' v' t := by
    refine (ftake_any v t _ w h hc (fourB_len _) hl hv).mono ?_
    rw [hlen]
    rintro e w1 ⟨k1, h1⟩
    exact ⟨k1, (h1.resolve_right (fun q => q.1 rfl)).2⟩
  have HC := Lib.hid C
  obtain ⟨a, c, rfl, _⟩ := h
  rw [List.length_map] at HC ⊢
  have hl2 : (frameB t).length ≤ 100000 := by
    have h3 : (vput t.length).length ≤ 3 := vput_three (by omega)
    rw [frameB_len]; omega
  clear hc hv hlen C
  generalize (frameB t).length = q at HC hl2 ⊢
  go_enter Tryz.func106, Tryz.ntmps106
  go_wp2_with (go_at_call 175; refine HC.out.mono ?_; rintro e w1 ⟨k1, v1, rfl, r1⟩; have K1 := Lib.hid k1; have R1 := Lib.hid r1; clear k1 r1)
  go_ret2
  exact ⟨K1.out, _, rfl, R1.out⟩
end Go.Proofs.YtdmckfkhkjkdnaaGreatDoor
namespace Go.Proofs.YtdmckfkhkjkdnaaGreatDoor
open Go.RowKit Go.Maps
theorem sgtake_ok (f : Nat) (v : Value) (cl : List Cl) (w : World) (h : Bs w v (segB f cl)) (hc : okc v) (hv : ∀ g, v.ownBlock = some g → g < w.heap.size) (hl : cl.length ≤ 64) (hok : ∀ x ∈ cl, okCl x) (hf : f + cl.length ≤ 1048576) (hb : (vput f ++ runB cl).length ≤ 65536) :
    Calls Tryz.prog 348 #[v] w fun e w' => ∃ v', e = .returned (.tuple #[.agg #[.int .i64 f, v'], .nilIface]) ∧ Keep Non w w' ∧ ∃ xs, w'.ownsRow w.heap.size 50 2 v' cl.length xs ∧ CellsOf w.heap.size Non w' xs cl := by
  have FO := Lib.hid (fun w1 (k : Keep Non w w1) => fone_ok v (vput f ++ runB cl) w1 (h.keepNon k) hc hb (fun g e => k.lt (hv g e)))
  obtain ⟨a, c, rfl, _⟩ := bs_cell h
  clear h hc hv
  have B0 := Lib.hid (blk_new w (SgB 0 (.slice none 0 0)))
  have K0 : Hid (Keep Non w (w.alloc (SgB 0 (.slice none 0 0)))) := Lib.hid ((Keep.refl _ _).alloc _)
  go_enter Tryz.func348, Tryz.ntmps348
  go_wp2_with (first
    | (go_at_call 106; refine (FO.out _ K0.out).mono ?_; rintro e w1 ⟨k1, v1, rfl, n1⟩; obtain ⟨b1, b2, b3⟩ := n1; have K1 := Lib.hid (K0.out.trans1 k1); have G1 : Hid (w1.heap[w.heap.size]? = some (SgB 0 (.slice none 0 0))) := Lib.hid (nonAt k1 B0.out); have Z1 : Hid (w.heap.size + 1 ≤ w1.heap.size) := Lib.hid (by have := k1.size; simpa [SgB] using this); have B1 := Lib.hid b1; have B2 := Lib.hid b2; have B3 : Hid (∀ g, v1.ownBlock = some g → w.heap.size < g ∧ g < w1.heap.size) := Lib.hid (fun g e => ⟨by have := (b3 g e).1; simp at this; omega, (b3 g e).2⟩); clear k1 b1 b2 b3)
    | (go_at_call 107; refine (rnew_ok (fun g => w.heap.size < g ∧ g < w1.heap.size) v1 (vput f ++ runB cl) w1 B1.out B2.out (fun g e => ⟨(B3.out g e).2, B3.out g e⟩)).mono ?_; rintro e w2 ⟨rfl, k2, r2⟩; have K2 := Lib.hid (K1.out.trans1 k2); have G2 := Lib.hid (nonAt k2 G1.out); have Z2 : Hid (w1.heap.size < w2.heap.size) := Lib.hid (by obtain ⟨_, q, _⟩ := r2; exact lt_of_block q); have R2 := Lib.hid r2; clear k2 r2)
    | (go_at_call 108; refine (within_ok _ w1.heap.size f 1048576 (runB cl) w2 R2.out (by omega) (by omega)).mono ?_; rintro e w3 ⟨rfl, k3, r3⟩; have G3 := k3.at G2.out (by have := Z1.out; unfold One; omega); have K3 := Lib.hid k3; have R3 := Lib.hid r3; have e0 := sg_0 G3; have e1 := sg_1 G3; have f0 := sg_f G3 0; have f1 := sg_f G3 1; have GG3 := Lib.hid G3; clear k3 r3 G3)
    | (go_at_call 132; refine (takerun_ok _ w1.heap.size cl [] (w3.alloc (SgB f (.slice none 0 0))) (by rw [List.append_nil]; exact R3.out.keep ((Keep.refl Non w3).alloc _) (fun _ _ e => e)) hl hok (fun g e => by have h1 := K3.out.size; have h2 := Z2.out; simp; rcases e with e | e <;> omega)).mono ?_; rintro e w4 ⟨v4, rfl, k4, r4, xs, o4, q4⟩; obtain ⟨a4, c4, rfl, _, _⟩ := ownsRow_form o4; have b4 := k4.at (blk_new w3 (SgB f (.slice none 0 0))) (by have h1 := K3.out.size; have h2 := Z2.out; unfold One; omega); have G4 := (((Keep.refl Non w3).alloc (SgB f (.slice none 0 0))).ofNon.trans1 k4).at GG3.out (by have := Z1.out; unfold One; omega); have g0 := sg_0 b4; have g1 := sg_1 b4; have i1 := sg_f b4 1; have m0 := sg_0 G4; have m1 := sg_1 G4; have n0 := sg_f G4 0; have n1 := sg_f G4 1; have K4 := Lib.hid (((Keep.refl Non w3).alloc (SgB f (.slice none 0 0))).ofNon.trans1 k4); have BB4 := Lib.hid b4; have GG4 := Lib.hid G4; have R4 := Lib.hid r4; have O4 := Lib.hid o4; have Q4 := Lib.hid q4; clear k4 r4 o4 q4 b4 G4)
    | (go_at_call 113; refine (end_ok _ w1.heap.size _ (R4.out.keep ((Keep.refl (One w3.heap.size) w4).setOne _ _) (fun g e e2 => by have e3 : g = w3.heap.size := e2; have h1 := K3.out.size; have h2 := Z2.out; rcases e with e | e <;> omega))).mono ?_; rintro e w5 ⟨rfl, e2⟩; subst e2)
    | (go_at_call 189; have k5 := (Keep.refl (One w3.heap.size) w4).setOne 1 (.slice a4 cl.length c4); have o5 := ownsRow_keep O4.out k5 (fun g e => by have := (O4.out.lt g e).1; simp at this; unfold One; omega); have q5 := Q4.out.keep (S' := Non) k5 (fun g h1 h2 => by have h3 : g = w3.heap.size := h2; simp at h1; omega) (fun _ _ e => e); refine (sgcheck_ok f _ cl _ (CsAt.of o5 q5) hl hok hf).mono ?_; rintro e w6 ⟨rfl, k6⟩; have b6 := nonAt k6 (sg_set1 BB4.out (.slice a4 cl.length c4)); have G6 := nonAt k6 (k5.at GG4.out (by have := Z1.out; have := Z2.out; have := K3.out.size; unfold One; omega)); have s0 := sg_0 b6; have s1 := sg_1 b6; have t0 := sg_0 G6; have t1 := sg_1 G6; have u0 := sg_f G6 0; have u1 := sg_f G6 1; have x0 := sg_0 (sg_set0 G6 f); have x1 := sg_1 (sg_set1 (sg_set0 G6 f) (.slice a4 cl.length c4)); have O6 := Lib.hid (ownsRow_keep o5 k6 (fun _ _ e => e)); have Q6 := Lib.hid (q5.keep (S' := Non) k6 (fun _ _ e => e) (fun _ _ e => e)); have K6 := Lib.hid (k5.trans1 k6.ofNon); clear k6 k5 o5 q5 b6 G6))
  refine bodyPost_ret (v := .tuple #[.agg #[.int .i64 f, .slice a4 cl.length c4], .nilIface]) (by simp [results, Tryz.results348, go_sem, x0, x1]) rfl ?_
  have z1 := Z1.out
  have z2 := Z2.out
  have h2 := K2.out.size
  have h3 := K3.out.size
  have kf : Keep (One w.heap.size) w6 ((w6.setCell ⟨w.heap.size, 0, none⟩ (.int .i64 f)).setCell ⟨w.heap.size, 1, none⟩ (.slice a4 cl.length c4)) := ((Keep.refl _ _).setOne _ _).setOne _ _
  refine ⟨_, rfl, ?_, xs, ownsRow_low (ownsRow_keep O6.out kf (fun g e => by have := (O6.out.lt g e).1; simp at this; unfold One; omega)) (by simp; omega), (Q6.out.keep (S' := Non) kf (fun g g1 e => by have e' : g = w.heap.size := e; simp at g1; omega) (fun _ _ e => e)).low (by simp; omega) (fun _ e => e)⟩
  have k03 : Keep Non w w3 := K2.out.trans K3.out (fun _ _ e => e) (fun g hg e => by have e' : g = w1.heap.size := e; omega)
  have k04 : Keep Non w w4 := k03.trans K4.out (fun _ _ e => e) (fun g hg e => by have e' : g = w1.heap.size := e; omega)
  have k06 : Keep Non w w6 := k04.trans K6.out (fun _ _ e => e) (fun g hg e => by have e' : g = w3.heap.size := e; omega)
  exact k06.trans kf (fun _ _ e => e) (fun g hg e => by have e' : g = w.heap.size := e; omega)
end Go.Proofs.YtdmckfkhkjkdnaaGreatDoor
namespace Go.Proofs.YtdmckfkhkjkdnaaGreatDoor
open Go.RowKit
structure Pt where
  first : Nat
  many : Nat
  size : Nat
  sum : List UInt8
def ptC (p : Pt) : List Value := .int .i64 p.first :: .int .i64 p.many :: .int .i64 p.size :: p.sum.map bv
def ptV (p : Pt) : Value := .agg (ptC p).toArray
structure Mf where
  num : Nat
  lo : Nat
  hi : Nat
  trim : Nat
  prev : List UInt8
  parts : List Pt
def mfC (m : Mf) (pv : Value) : List Value := .int .i64 m.num :: .int .i64 m.lo :: .int .i64 m.hi :: .int .i64 m.trim :: (m.prev.map bv ++ [pv])
def mfV (m : Mf) (pv : Value) : Value := .agg (mfC m pv).toArray
def PtB (p : Pt) : Obj := .cells (ptC p).toArray 190 (0, 0)
def MfB (m : Mf) (pv : Value) : Obj := .cells (mfC m pv).toArray 102 (0, 0)
theorem ptC_len {p : Pt} (h : p.sum.length = 32) : (ptC p).length = 35 := by simp [ptC, h]
theorem mfC_len {m : Mf} {pv : Value} (h : m.prev.length = 32) : (mfC m pv).length = 37 := by simp [mfC, h]
section
variable {w : World} {b : Nat} {p : Pt} {m : Mf} {pv : Value}
theorem pt_0 (h : w.heap[b]? = some (PtB p)) : w.cell? ⟨b, 0, none⟩ = some (.int .i64 p.first) := by simp [World.cell?, h, PtB, ptC]
theorem pt_1 (h : w.heap[b]? = some (PtB p)) : w.cell? ⟨b, 1, none⟩ = some (.int .i64 p.many) := by simp [World.cell?, h, PtB, ptC]
theorem pt_2 (h : w.heap[b]? = some (PtB p)) : w.cell? ⟨b, 2, none⟩ = some (.int .i64 p.size) := by simp [World.cell?, h, PtB, ptC]
theorem pt_sum (h : w.heap[b]? = some (PtB p)) : ∀ (j : Nat) u, (p.sum.map bv)[j]? = some u → w.cell? ⟨b, 3 + j, none⟩ = some u := by
  intro j u hu
  simp only [World.cell?, h, PtB, ptC]
  rw [Nat.add_comm]
  simpa using hu
theorem mf_0 (h : w.heap[b]? = some (MfB m pv)) : w.cell? ⟨b, 0, none⟩ = some (.int .i64 m.num) := by simp [World.cell?, h, MfB, mfC]
theorem mf_1 (h : w.heap[b]? = some (MfB m pv)) : w.cell? ⟨b, 1, none⟩ = some (.int .i64 m.lo) := by simp [World.cell?, h, MfB, mfC]
theorem mf_2 (h : w.heap[b]? = some (MfB m pv)) : w.cell? ⟨b, 2, none⟩ = some (.int .i64 m.hi) := by simp [World.cell?, h, MfB, mfC]
theorem mf_3 (h : w.heap[b]? = some (MfB m pv)) : w.cell? ⟨b, 3, none⟩ = some (.int .i64 m.trim) := by simp [World.cell?, h, MfB, mfC]
theorem mf_f (h : w.heap[b]? = some (MfB m pv)) (i : Nat) : w.frozen? ⟨b, i, none⟩ = false := by simp [World.frozen?, h, MfB]
theorem mf_prev (h : w.heap[b]? = some (MfB m pv)) (hl : m.prev.length = 32) : ∀ (j : Nat) u, (m.prev.map bv)[j]? = some u → w.cell? ⟨b, 4 + j, none⟩ = some u := by
  intro j u hu
  have hj : j < 32 := by
    have := List.getElem?_eq_some_iff.1 hu
    obtain ⟨h1, _⟩ := this
    rw [List.length_map, hl] at h1
    exact h1
  simp only [World.cell?, h, MfB, mfC]
  rw [Nat.add_comm]
  simp only [List.getElem?_toArray, List.getElem?_cons_succ]
  rw [List.getElem?_append_left (by rw [List.length_map, hl]; exact hj)]
  exact hu
theorem mf_36 (h : w.heap[b]? = some (MfB m pv)) (hl : m.prev.length = 32) : w.cell? ⟨b, 36, none⟩ = some pv := by
  simp only [World.cell?, h, MfB, mfC]
  simp only [List.getElem?_toArray, List.getElem?_cons_succ]
  rw [List.getElem?_append_right (by rw [List.length_map, hl]; exact Nat.le_refl _), List.length_map, hl]
  rfl
end
def holdV (t : TypeId) (a : Addr) : Sem Value := loadVar t a
theorem hV41 (a : Addr) : loadVar 41 a = holdV 41 a := rfl
theorem hV190 (a : Addr) : loadVar 190 a = holdV 190 a := rfl
theorem hV102 (a : Addr) : loadVar 102 a = holdV 102 a := rfl
theorem load_row {t : TypeId} {n : Nat} (ha : ∀ w, (isAgg t).run Tryz.prog w = .ok true w) (hs : ∀ w, (sizeOf t).run Tryz.prog w = .ok n w) (w : World) (g off : Nat) (cs : List Value) (hn : cs.length = n) (h : ∀ (j : Nat) v, cs[j]? = some v → w.cell? ⟨g, off + j, none⟩ = some v) :
    (holdV t ⟨g, off, none⟩).run Tryz.prog w = .ok (.agg cs.toArray) w := by
  subst hn
  have := run_loadCells_list (P := Tryz.prog) w ⟨g, off, none⟩ cs (fun j v hv => by rw [add_off]; exact h j v hv)
  unfold holdV loadVar
  simp only [Sem.run_bind, ha, Result.andThen, if_true, hs, this, Sem.run_pure]
theorem load81 (w : World) (g off : Nat) (D : List UInt8) (hn : D.length = 32) (h : ∀ (j : Nat) v, (D.map bv)[j]? = some v → w.cell? ⟨g, off + j, none⟩ = some v) :
    (holdV 41 ⟨g, off, none⟩).run Tryz.prog w = .ok (arrV D) w := load_row Tryz.isAgg41 Tryz.sizeOf41 w g off _ (by rw [List.length_map, hn]) h
theorem load101 (w : World) (g off : Nat) (p : Pt) (hn : p.sum.length = 32) (h : ∀ (j : Nat) v, (ptC p)[j]? = some v → w.cell? ⟨g, off + j, none⟩ = some v) :
    (holdV 190 ⟨g, off, none⟩).run Tryz.prog w = .ok (ptV p) w := load_row Tryz.isAgg190 Tryz.sizeOf190 w g off _ (ptC_len hn) h
theorem load83 (w : World) (g off : Nat) (m : Mf) (pv : Value) (hn : m.prev.length = 32) (h : ∀ (j : Nat) v, (mfC m pv)[j]? = some v → w.cell? ⟨g, off + j, none⟩ = some v) :
    (holdV 102 ⟨g, off, none⟩).run Tryz.prog w = .ok (mfV m pv) w := load_row Tryz.isAgg102 Tryz.sizeOf102 w g off _ (mfC_len hn) h
theorem load_pt {w : World} {b : Nat} {p : Pt} (h : w.heap[b]? = some (PtB p)) (hn : p.sum.length = 32) : (holdV 190 ⟨b, 0, none⟩).run Tryz.prog w = .ok (ptV p) w :=
  load101 w b 0 p hn (fun j v hv => by rw [Nat.zero_add, cell_of_row _ _ j _ _ _ h]; simpa using hv)
theorem load_mf {w : World} {b : Nat} {m : Mf} {pv : Value} (h : w.heap[b]? = some (MfB m pv)) (hn : m.prev.length = 32) : (holdV 102 ⟨b, 0, none⟩).run Tryz.prog w = .ok (mfV m pv) w :=
  load83 w b 0 m pv hn (fun j v hv => by rw [Nat.zero_add, cell_of_row _ _ j _ _ _ h]; simpa using hv)
def holdW (t : TypeId) (a : Addr) (v : Value) : Sem Unit := storeVar t a v
theorem hW41 (a : Addr) (v : Value) : storeVar 41 a v = holdW 41 a v := rfl
theorem hW190 (a : Addr) (v : Value) : storeVar 190 a v = holdW 190 a v := rfl
theorem hW102 (a : Addr) (v : Value) : storeVar 102 a v = holdW 102 a v := rfl
def z32 : Array Value := #[.int .u8 0, .int .u8 0, .int .u8 0, .int .u8 0, .int .u8 0, .int .u8 0, .int .u8 0, .int .u8 0, .int .u8 0, .int .u8 0, .int .u8 0, .int .u8 0, .int .u8 0, .int .u8 0, .int .u8 0, .int .u8 0, .int .u8 0, .int .u8 0, .int .u8 0, .int .u8 0, .int .u8 0, .int .u8 0, .int .u8 0, .int .u8 0, .int .u8 0, .int .u8 0, .int .u8 0, .int .u8 0, .int .u8 0, .int .u8 0, .int .u8 0, .int .u8 0]
def zPt : Array Value := #[.int .i64 0, .int .i64 0, .int .i64 0, .int .u8 0, .int .u8 0, .int .u8 0, .int .u8 0, .int .u8 0, .int .u8 0, .int .u8 0, .int .u8 0, .int .u8 0, .int .u8 0, .int .u8 0, .int .u8 0, .int .u8 0, .int .u8 0, .int .u8 0, .int .u8 0, .int .u8 0, .int .u8 0, .int .u8 0, .int .u8 0, .int .u8 0, .int .u8 0, .int .u8 0, .int .u8 0, .int .u8 0, .int .u8 0, .int .u8 0, .int .u8 0, .int .u8 0, .int .u8 0, .int .u8 0, .int .u8 0]
def zMf : Array Value := #[.int .i64 0, .int .i64 0, .int .i64 0, .int .i64 0, .int .u8 0, .int .u8 0, .int .u8 0, .int .u8 0, .int .u8 0, .int .u8 0, .int .u8 0, .int .u8 0, .int .u8 0, .int .u8 0, .int .u8 0, .int .u8 0, .int .u8 0, .int .u8 0, .int .u8 0, .int .u8 0, .int .u8 0, .int .u8 0, .int .u8 0, .int .u8 0, .int .u8 0, .int .u8 0, .int .u8 0, .int .u8 0, .int .u8 0, .int .u8 0, .int .u8 0, .int .u8 0, .int .u8 0, .int .u8 0, .int .u8 0, .int .u8 0, .slice none 0 0]
theorem setRow_new (w : World) (old cs : Array Value) (t : TypeId) (fr : Nat × Nat) : (w.alloc (.cells old t fr)).setRow w.heap.size cs = w.alloc (.cells cs t fr) := by
  unfold World.setRow World.alloc
  simp only
  congr 1
  apply Array.ext_getElem?
  intro i
  simp only [Array.getElem?_modify, Array.getElem?_push]
  by_cases h : i = w.heap.size
  · subst h
    simp
  · have h' : w.heap.size ≠ i := fun e => h e.symm
    simp [h, h']
theorem ptC_one (p : Pt) : (ptC p).toArray.all (·.oneCell') = true := by
  rw [List.all_toArray, List.all_eq_true]
  intro x hx
  simp only [ptC, List.mem_cons] at hx
  rcases hx with rfl | rfl | rfl | hx
  · rfl
  · rfl
  · rfl
  · obtain ⟨y, _, rfl⟩ := List.mem_map.1 hx
    rfl
theorem mfC_one (m : Mf) (a : Option Addr) (n c : Nat) : (mfC m (.slice a n c)).toArray.all (·.oneCell') = true := by
  rw [List.all_toArray, List.all_eq_true]
  intro x hx
  simp only [mfC, List.mem_cons, List.mem_append] at hx
  rcases hx with rfl | rfl | rfl | rfl | hx | rfl | hx
  · rfl
  · rfl
  · rfl
  · rfl
  · obtain ⟨y, _, rfl⟩ := List.mem_map.1 hx
    rfl
  · rfl
  · cases hx
theorem szPt : (Tryz.prog.info? 190).map (·.size) = some 35 := by kernel_rfl
theorem szMf : (Tryz.prog.info? 102).map (·.size) = some 37 := by kernel_rfl
theorem store_pt (w : World) (g : Nat) (p : Pt) (old : Array Value) (h : p.sum.length = 32) (ho : old.size = 35) (hg : w.heap[g]? = some (.cells old 190 (0, 0))) :
    (holdW 190 ⟨g, 0, none⟩ (ptV p)).run Tryz.prog w = .ok () (w.setRow g (ptC p).toArray) :=
  run_storeVar_row (P := Tryz.prog) w g 190 190 old (ptC p).toArray hg (by rw [List.size_toArray, ptC_len h]; exact szPt) (ho.trans (by rw [List.size_toArray, ptC_len h])) (ptC_one p)
theorem store_pt0 (w : World) (p : Pt) (h : p.sum.length = 32) : (holdW 190 ⟨w.heap.size, 0, none⟩ (ptV p)).run Tryz.prog (w.alloc (.cells zPt 190)) = .ok () (w.alloc (PtB p)) := by
  rw [store_pt _ _ p zPt h rfl (blk_new _ _), setRow_new]
  rfl
theorem store_mf (w : World) (g : Nat) (m : Mf) (a : Option Addr) (n c : Nat) (old : Array Value) (h : m.prev.length = 32) (ho : old.size = 37) (hg : w.heap[g]? = some (.cells old 102 (0, 0))) :
    (holdW 102 ⟨g, 0, none⟩ (mfV m (.slice a n c))).run Tryz.prog w = .ok () (w.setRow g (mfC m (.slice a n c)).toArray) :=
  run_storeVar_row (P := Tryz.prog) w g 102 102 old (mfC m (.slice a n c)).toArray hg (by rw [List.size_toArray, mfC_len h]; exact szMf) (ho.trans (by rw [List.size_toArray, mfC_len h])) (mfC_one m a n c)
theorem store_mf0 (w : World) (m : Mf) (a : Option Addr) (n c : Nat) (h : m.prev.length = 32) : (holdW 102 ⟨w.heap.size, 0, none⟩ (mfV m (.slice a n c))).run Tryz.prog (w.alloc (.cells zMf 102)) = .ok () (w.alloc (MfB m (.slice a n c))) := by
  rw [store_mf _ _ m a n c zMf h rfl (blk_new _ _), setRow_new]
  rfl
theorem min_yes (x most : Int) (w : World) (h1 : 0 ≤ x) (h2 : x ≤ most) :
    Calls Tryz.prog 181 #[.int .i64 x, .int .i64 most] w fun e w' => e = .returned (.bool true) ∧ w' = w := by
  go_enter Tryz.func181, Tryz.ntmps181
  go_wp2_with fail
  go_ret
  exact ⟨rfl, rfl⟩
theorem ptc_0 (p : Pt) : (ptC p)[0]? = some (.int .i64 p.first) := rfl
theorem ptc_1 (p : Pt) : (ptC p)[1]? = some (.int .i64 p.many) := rfl
theorem ptc_2 (p : Pt) : (ptC p)[2]? = some (.int .i64 p.size) := rfl
theorem mfc_0 (m : Mf) (pv : Value) : (mfC m pv)[0]? = some (.int .i64 m.num) := rfl
theorem mfc_1 (m : Mf) (pv : Value) : (mfC m pv)[1]? = some (.int .i64 m.lo) := rfl
theorem mfc_2 (m : Mf) (pv : Value) : (mfC m pv)[2]? = some (.int .i64 m.hi) := rfl
theorem mfc_3 (m : Mf) (pv : Value) : (mfC m pv)[3]? = some (.int .i64 m.trim) := rfl
theorem mfc_36 (m : Mf) (pv : Value) (h : m.prev.length = 32) : (mfC m pv)[36]? = some pv := by
  simp only [mfC, List.getElem?_cons_succ]
  rw [List.getElem?_append_right (by rw [List.length_map, h]; exact Nat.le_refl _), List.length_map, h]
  rfl
def okPt (p : Pt) : Prop := 1 ≤ p.many ∧ p.many ≤ 64 ∧ 1 ≤ p.size ∧ p.size ≤ 65536 ∧ p.sum.length = 32
def okPts : Nat → List Pt → Prop
  | _, [] => True
  | a, p :: r => p.first = a ∧ okPt p ∧ okPts (a + p.many) r
def endPts : Nat → List Pt → Nat
  | a, [] => a
  | a, p :: r => endPts (a + p.many) r
structure okMf (m : Mf) : Prop where
  num : m.num ≤ 999999
  hi : m.hi ≤ 1048576
  trim : m.trim ≤ 1048576
  prev : m.prev.length = 32
  zero : m.num = 0 → isZ m.prev = true
  many : m.parts.length ≤ 1024
  parts : okPts m.lo m.parts
  stop : endPts m.lo m.parts = m.hi
theorem pcheck_ok (p : Pt) (w : World) (h1 : 1 ≤ p.many) (h2 : p.many ≤ 64) (h3 : 1 ≤ p.size) (h4 : p.size ≤ 65536) (h5 : p.sum.length = 32) :
    Calls Tryz.prog 183 #[ptV p, .int .i64 p.first] w fun e w' => e = .returned .nilIface ∧ Keep Non w w' := by
  unfold ptV
  have q0 := ptc_0 p
  have q1 := ptc_1 p
  have q2 := ptc_2 p
  go_enter Tryz.func183, Tryz.ntmps183
  go_wp2_with (go_at_call 181; with_reducible refine (min_yes _ _ _ (by omega) (by omega)).mono ?_; rintro e w1 ⟨rfl, e1⟩; subst e1)
  go_ret
  exact ⟨rfl, (Keep.refl _ _).alloc _⟩
def PtsAt (w : World) (v : Value) (l : List Pt) : Prop := ∃ a c, v = .slice a l.length c ∧ l.length ≤ c ∧ (∀ ad, a = some ad → ∃ g off, ad = ⟨g, off, none⟩) ∧ ∀ j p, l[j]? = some p → ∃ g off, a = some ⟨g, off, none⟩ ∧ ∀ (i : Nat) u, (ptC p)[i]? = some u → w.cell? ⟨g, off + j * 35 + i, none⟩ = some u
theorem PtsAt.keep {S : Nat → Prop} {w w' : World} {v : Value} {l : List Pt} (h : PtsAt w v l) (k : Keep S w w') (hn : ∀ g, v.ownBlock = some g → ¬ S g) : PtsAt w' v l := by
  obtain ⟨a, c, rfl, hc, ha, hx⟩ := h
  refine ⟨a, c, rfl, hc, ha, fun j p hj => ?_⟩
  obtain ⟨g, off, rfl, h1⟩ := hx j p hj
  exact ⟨g, off, rfl, fun i u hu => (World.cell?_of_block (k.block g (World.block_lt_of_cell? _ _ (h1 i u hu)) (hn g rfl))).trans (h1 i u hu)⟩
theorem PtsAt.keepNon {w w' : World} {v : Value} {l : List Pt} (h : PtsAt w v l) (k : Keep Non w w') : PtsAt w' v l := h.keep k (fun _ _ e => e)
theorem okPts_get : ∀ (l : List Pt) (a j : Nat) (p : Pt), okPts a l → l[j]? = some p → okPt p ∧ p.first = endPts a (l.take j)
  | [], a, j, p, _, h => by simp at h
  | q :: r, a, 0, p, h, e => by simp at e; subst e; exact ⟨h.2.1, h.1⟩
  | q :: r, a, j + 1, p, h, e => by
    rw [List.getElem?_cons_succ] at e
    exact okPts_get r (a + q.many) j p h.2.2 e
theorem endPts_step : ∀ (l : List Pt) (a j : Nat) (p : Pt), l[j]? = some p → endPts a (l.take (j + 1)) = endPts a (l.take j) + p.many
  | [], a, j, p, h => by simp at h
  | q :: r, a, 0, p, e => by simp at e; subst e; simp [endPts]
  | q :: r, a, j + 1, p, e => by
    rw [List.getElem?_cons_succ] at e
    simp only [List.take_succ_cons, endPts]
    exact endPts_step r (a + q.many) j p e
theorem endPts_le : ∀ (l : List Pt) (a j : Nat), a ≤ endPts a (l.take j) ∧ endPts a (l.take j) ≤ endPts a l
  | [], a, j => by simp [endPts]
  | q :: r, a, 0 => by
    have := endPts_le r (a + q.many) 0
    simp [endPts] at this ⊢
    omega
  | q :: r, a, j + 1 => by
    have := endPts_le r (a + q.many) j
    simp only [List.take_succ_cons, endPts] at this ⊢
    omega
section
attribute [local go_sem ↓] hV41 hV190 hV102 hW41 hW190 hW102
theorem mcheck_ok (m : Mf) (pv : Value) (w : World) (h : okMf m) (hp : PtsAt w pv m.parts) :
    Calls Tryz.prog 114 #[mfV m pv] w fun e w' => e = .returned .nilIface ∧ Keep Non w w' := by
  have OK := Lib.hid h
  have PA := Lib.hid hp
  obtain ⟨h1, h2, h3, h4, h5, h6, h7, h8⟩ := h
  have h9 := (endPts_le m.parts m.lo 0)
  simp only [List.take_zero, endPts, h8] at h9
  have hlo := h9.2
  obtain ⟨a, c, rfl, hc, ha, hx⟩ := hp
  clear hx h7 h9
  unfold mfV
  have q0 := mfc_0 m (.slice a m.parts.length c)
  have q1 := mfc_1 m (.slice a m.parts.length c)
  have q2 := mfc_2 m (.slice a m.parts.length c)
  have q3 := mfc_3 m (.slice a m.parts.length c)
  have q36 := mfc_36 m (.slice a m.parts.length c) h4
  have hl := load81 (w.alloc (MfB m (.slice a m.parts.length c))) w.heap.size 4 m.prev h4 (mf_prev (blk_new _ _) h4)
  unfold MfB at hl
  have hnl : ¬ m.hi < m.lo := by omega
  have hnl2 : ¬ (1024 : Int) < (m.parts.length : Int) := by omega
  go_enter Tryz.func114, Tryz.ntmps114
  go_wp2_with (first
    | (go_at_call 181; with_reducible refine (min_yes _ _ _ (by omega) (by omega)).mono ?_; rintro e w1 ⟨rfl, e1⟩; subst e1)
    | (go_at_call 182; refine (zero_any m.prev h4 _).mono ?_; rw [h5 ‹m.num = 0›]; rintro e w1 ⟨rfl, k1⟩; have k1' := ((Keep.refl Non w).alloc (MfB m (.slice a m.parts.length c))).trans1 k1; have b1 := nonAt k1 (blk_new w (MfB m (.slice a m.parts.length c))); have d1 := mf_1 b1; have d2 := mf_2 b1; have d36 := mf_36 b1 h4; have K1 := Lib.hid k1'; have B1 := Lib.hid b1; clear k1 k1' b1))
  · have ATB : Hid _ := B1
    have ATK := K1
    have HH := Lib.hid h8
    go_loopw [3, 60] (fun at_ i wr => ∃ j : Nat, j ≤ m.parts.length ∧ i = .int .i64 j ∧ at_ = .int .i64 (endPts m.lo (m.parts.take j)) ∧ wr.heap[w.heap.size]? = some (MfB m (.slice a m.parts.length c)) ∧ Keep Non w wr) (fun _ i _ => m.parts.length - (intOf i).toNat)
    case atStart => exact ⟨0, by omega, rfl, rfl, ATB.out, ATK.out⟩
    case round =>
      obtain ⟨j, hj, rfl, rfl, hb, hk⟩ := hrel
      have K := Lib.hid hk
      have B := Lib.hid hb
      have e2 := mf_2 hb
      clear hk hb
      by_cases hlt : j < m.parts.length
      · have hlj : (j : Int) < (m.parts.length : Int) := by omega
        obtain ⟨p, hpj⟩ : ∃ p, m.parts[j]? = some p := ⟨_, List.getElem?_eq_getElem hlt⟩
        obtain ⟨⟨p1, p2, p3, p4, p5⟩, p6⟩ := okPts_get m.parts m.lo j p OK.out.parts hpj
        have hst := endPts_step m.parts m.lo j p hpj
        have hle := (endPts_le m.parts m.lo (j + 1)).2
        rw [HH.out] at hle
        have hle2 := Nat.le_trans hle OK.out.hi
        clear hle
        obtain ⟨a1, c1, e1, _, _, hx⟩ := PA.out.keepNon K.out
        injection e1 with e1 e3 e4
        subst e1
        subst e4
        obtain ⟨g, off, rfl, hcell⟩ := hx j p hpj
        have hld := load101 wr g (off + j * 35) p p5 hcell
        have hsp := store_pt0 wr p p5
        have hlp := load_pt (blk_new wr (PtB p)) p5
        unfold zPt PtB at hsp
        unfold PtB at hlp
        have PC : Hid (∀ w2, Calls Tryz.prog 183 #[ptV p, .int .i64 (endPts m.lo (m.parts.take j))] w2 fun e w' => e = .returned .nilIface ∧ Keep Non w2 w') := Lib.hid (fun w2 => by have h0 := pcheck_ok p w2 p1 p2 p3 p4 p5; rw [p6] at h0; exact h0)
        have q1 := ptc_1 p
        have ST := Lib.hid hst
        clear hx hcell hpj p6
        go_wp2_with (go_at_call 183; refine (PC.out _).mono ?_; rintro e w2 ⟨rfl, k2⟩; have z1 := pt_1 (nonAt k2 (blk_new wr (PtB p))); have K2 := Lib.hid (((Keep.refl Non wr).alloc (PtB p)).trans1 k2); clear k2)
        exact ⟨⟨j + 1, by omega, by first | rfl | go_num, by rw [ST.out]; first | rfl | go_num, nonAt K2.out B.out, K.out.trans1 K2.out⟩, by simp [intOf]; omega⟩
      · obtain rfl : j = m.parts.length := by omega
        rw [List.take_length, HH.out]
        go_wp2_with fail
        go_ret
        exact ⟨rfl, K.out⟩
  · have ATB := Lib.hid (blk_new w (MfB m (.slice a m.parts.length c)))
    have ATK : Hid (Keep Non w (w.alloc (MfB m (.slice a m.parts.length c)))) := Lib.hid ((Keep.refl _ _).alloc _)
    have HH := Lib.hid h8
    go_loopw [3, 60] (fun at_ i wr => ∃ j : Nat, j ≤ m.parts.length ∧ i = .int .i64 j ∧ at_ = .int .i64 (endPts m.lo (m.parts.take j)) ∧ wr.heap[w.heap.size]? = some (MfB m (.slice a m.parts.length c)) ∧ Keep Non w wr) (fun _ i _ => m.parts.length - (intOf i).toNat)
    case atStart => exact ⟨0, by omega, rfl, rfl, ATB.out, ATK.out⟩
    case round =>
      obtain ⟨j, hj, rfl, rfl, hb, hk⟩ := hrel
      have K := Lib.hid hk
      have B := Lib.hid hb
      have e2 := mf_2 hb
      clear hk hb
      by_cases hlt : j < m.parts.length
      · have hlj : (j : Int) < (m.parts.length : Int) := by omega
        obtain ⟨p, hpj⟩ : ∃ p, m.parts[j]? = some p := ⟨_, List.getElem?_eq_getElem hlt⟩
        obtain ⟨⟨p1, p2, p3, p4, p5⟩, p6⟩ := okPts_get m.parts m.lo j p OK.out.parts hpj
        have hst := endPts_step m.parts m.lo j p hpj
        have hle := (endPts_le m.parts m.lo (j + 1)).2
        rw [HH.out] at hle
        have hle2 := Nat.le_trans hle OK.out.hi
        clear hle
        obtain ⟨a1, c1, e1, _, _, hx⟩ := PA.out.keepNon K.out
        injection e1 with e1 e3 e4
        subst e1
        subst e4
        obtain ⟨g, off, rfl, hcell⟩ := hx j p hpj
        have hld := load101 wr g (off + j * 35) p p5 hcell
        have hsp := store_pt0 wr p p5
        have hlp := load_pt (blk_new wr (PtB p)) p5
        unfold zPt PtB at hsp
        unfold PtB at hlp
        have PC : Hid (∀ w2, Calls Tryz.prog 183 #[ptV p, .int .i64 (endPts m.lo (m.parts.take j))] w2 fun e w' => e = .returned .nilIface ∧ Keep Non w2 w') := Lib.hid (fun w2 => by have h0 := pcheck_ok p w2 p1 p2 p3 p4 p5; rw [p6] at h0; exact h0)
        have q1 := ptc_1 p
        have ST := Lib.hid hst
        clear hx hcell hpj p6
        go_wp2_with (go_at_call 183; refine (PC.out _).mono ?_; rintro e w2 ⟨rfl, k2⟩; have z1 := pt_1 (nonAt k2 (blk_new wr (PtB p))); have K2 := Lib.hid (((Keep.refl Non wr).alloc (PtB p)).trans1 k2); clear k2)
        exact ⟨⟨j + 1, by omega, by first | rfl | go_num, by rw [ST.out]; first | rfl | go_num, nonAt K2.out B.out, K.out.trans1 K2.out⟩, by simp [intOf]; omega⟩
      · obtain rfl : j = m.parts.length := by omega
        rw [List.take_length, HH.out]
        go_wp2_with fail
        go_ret
        exact ⟨rfl, K.out⟩
end
def ptsB : List Pt → List UInt8
  | [] => []
  | p :: r => vput p.many ++ vput p.size ++ p.sum ++ ptsB r
def mfT (m : Mf) : List UInt8 := vput m.num ++ vput m.lo ++ vput m.hi ++ vput m.trim ++ m.prev ++ vput m.parts.length ++ ptsB m.parts
def mfBy (m : Mf) : List UInt8 := frameB (mfT m)
theorem ptsB_append : ∀ a b : List Pt, ptsB (a ++ b) = ptsB a ++ ptsB b
  | [], b => rfl
  | p :: r, b => by simp [ptsB, ptsB_append r b]
theorem ptsB_take (l : List Pt) (j : Nat) (p : Pt) (h : l[j]? = some p) : ptsB (l.take (j + 1)) = ptsB (l.take j) ++ (vput p.many ++ vput p.size ++ p.sum) := by
  obtain ⟨hj, rfl⟩ := List.getElem?_eq_some_iff.1 h
  rw [List.take_succ_eq_append_getElem hj, ptsB_append]
  simp [ptsB]
theorem ptsB_len : ∀ (l : List Pt), (∀ p ∈ l, p.many < 2 ^ 63 ∧ p.size < 2 ^ 63 ∧ p.sum.length = 32) → (ptsB l).length ≤ 50 * l.length
  | [], _ => by simp [ptsB]
  | p :: r, h => by
    have h1 := ptsB_len r (fun q hq => h q (by simp [hq]))
    obtain ⟨a, b, c⟩ := h p (by simp)
    have h2 := vput_nine a
    have h3 := vput_nine b
    simp only [ptsB, List.length_append, List.length_cons, c]
    omega
theorem row_rd (w : World) (t : TypeId) (vs : List Value) : Rd (w.alloc (.cells vs.toArray t)) (.slice (some ⟨w.heap.size, 0, none⟩) vs.length vs.length) vs :=
  ⟨_, _, rfl, fun _ => ⟨w.heap.size, 0, rfl, fun j x hx => by rw [Nat.zero_add, cell_of_row _ _ j _ _ _ (blk_new _ _)]; simpa using hx⟩⟩
theorem sum_rd {w : World} {b : Nat} {p : Pt} (h : w.heap[b]? = some (PtB p)) (hn : p.sum.length = 32) : Bs w (.slice (some ⟨b, 3, none⟩) 32 32) p.sum :=
  ⟨_, 32, by rw [List.length_map, hn], fun _ => ⟨b, 3, rfl, pt_sum h⟩⟩
theorem prev_rd {w : World} {b : Nat} {m : Mf} {pv : Value} (h : w.heap[b]? = some (MfB m pv)) (hn : m.prev.length = 32) : Bs w (.slice (some ⟨b, 4, none⟩) 32 32) m.prev :=
  ⟨_, 32, by rw [List.length_map, hn], fun _ => ⟨b, 4, rfl, mf_prev h hn⟩⟩
theorem row_at {w : World} {g : Nat} {t : TypeId} {vs : List Value} (h : w.heap[g]? = some (.cells vs.toArray t (0, 0))) : Rd w (.slice (some ⟨g, 0, none⟩) vs.length vs.length) vs :=
  ⟨_, _, rfl, fun _ => ⟨g, 0, rfl, fun j x hx => by rw [Nat.zero_add, cell_of_row _ _ j _ _ _ h]; simpa using hx⟩⟩
theorem app_close {w1 w2 W0 w3 : World} {b Q : Nat} {a2 : Option Addr} {c2 : Nat} {o : Obj} {l D : List UInt8} {v3 : Value} (hb : w2.heap[b]? = some o) (k12 : Keep Non w1 w2) (hwb : b < w1.heap.size)
    (h2 : w2.ownsRow w1.heap.size 5 1 (.slice a2 Q c2) Q (l.map bv)) (hD : D.length = 32) (k02 : Keep Non w2 W0) (ho : w3.ownsRow w1.heap.size 5 1 v3 (Q + (D.map bv).length) (l.map bv ++ D.map bv)) (hg : W0.grownBy w3 (Value.slice a2 Q c2).ownBlock) :
    ∃ a3 c3, v3 = .slice a3 (Q + 32) c3 ∧ w3.heap[b]? = some o ∧ Keep Non w1 w3 ∧ w3.ownsRow w1.heap.size 5 1 (.slice a3 (Q + 32) c3) (Q + 32) ((l ++ D).map bv) ∧ ∀ g o, W0.heap[g]? = some o → w2.heap.size ≤ g → w3.heap[g]? = some o := by
  rw [List.length_map, hD] at ho
  obtain ⟨a3, c3, rfl, _, _⟩ := ownsRow_form ho
  have hk : Keep (fun k => (Value.slice a2 Q c2).ownBlock = some k) W0 w3 := Keep.grown (Keep.refl _ _) hg (fun k e => .inl e)
  refine ⟨a3, c3, rfl, hk.at (nonAt k02 hb) (fun e => by have := (h2.lt _ e).1; omega), (k12.trans1 k02).trans hk (fun _ _ e => e) (fun g hg e => by have := (h2.lt g e).1; omega), by rw [List.map_append]; exact ho, fun g o h hge => hk.at h (fun e => by have := (h2.lt g e).2; omega)⟩
section
attribute [local go_sem ↓] hV41 hV190 hV102 hW41 hW190 hW102
theorem mput_ok (m : Mf) (pv : Value) (w : World) (h : okMf m) (hp : PtsAt w pv m.parts) (h64 : m.parts.length ≤ 64) :
    Calls Tryz.prog 83 #[mfV m pv] w fun e w' => ∃ v', e = .returned (.tuple #[v', .nilIface]) ∧ Keep Non w w' ∧ w'.ownsRow w.heap.size 5 1 v' (mfBy m).length ((mfBy m).map bv) := by
  have OK := Lib.hid h
  have PA := Lib.hid hp
  have CK := Lib.hid (fun w1 (k : Keep Non w w1) => mcheck_ok m pv w1 h (hp.keepNon k))
  obtain ⟨h1, h2, h3, h4, h5, h6, h7, h8⟩ := h
  have h9 := (endPts_le m.parts m.lo 0)
  simp only [List.take_zero, endPts, h8] at h9
  have hlo := h9.2
  obtain ⟨a, c, rfl, hc, ha, hx⟩ := hp
  have hlm := load_mf (blk_new w (MfB m (.slice a m.parts.length c))) h4
  unfold mfV at CK hlm ⊢
  unfold MfB at hlm
  obtain ⟨j0, hj0, jz0, jz1, jz2⟩ := info_parts infoU8
  have J0 := Lib.hid (And.intro hj0 (And.intro jz0 (And.intro jz1 jz2)))
  have hw1 := wrap64 (n := m.num) (by omega)
  have hw2 := wrap64 (n := m.lo) (by omega)
  have hw3 := wrap64 (n := m.hi) (by omega)
  have hw4 := wrap64 (n := m.trim) (by omega)
  have hw5 := wrap64 (n := m.parts.length) (by omega)
  have OKP : Hid (∀ p ∈ m.parts, p.many < 2 ^ 63 ∧ p.size < 2 ^ 63 ∧ p.sum.length = 32) := Lib.hid (fun p hp => by obtain ⟨j, hj⟩ := List.getElem?_of_mem hp; obtain ⟨⟨_, q1, _, q2, q3⟩, _⟩ := okPts_get m.parts m.lo j p h7 hj; exact ⟨by omega, by omega, q3⟩)
  clear hx h5 h6 h7 h8 h9 hj0 jz0 jz1 jz2
  go_enter Tryz.func83, Tryz.ntmps83
  go_wp2_with (first
    | (go_at_call 114; refine (CK.out _ ((Keep.refl _ _).alloc _)).mono ?_; rintro e w1 ⟨rfl, k1⟩; have b1 := nonAt k1 (blk_new w (MfB m (.slice a m.parts.length c))); have c0 := mf_0 b1; have c1 := mf_1 b1; have c2 := mf_2 b1; have c3 := mf_3 b1; have B1 := Lib.hid b1; have K1 := Lib.hid (((Keep.refl Non w).alloc (MfB m (.slice a m.parts.length c))).trans1 k1); clear k1 b1)
    | (go_at_call 126; refine (puts_any (.slice none 0 0) [] (some ⟨w1.heap.size, 0, none⟩) 4 [m.num, m.lo, m.hi, m.trim] _ (Rd.nil _) (by simp) (by exact row_rd w1 217 [nv m.num, nv m.lo, nv m.hi, nv m.trim]) (by intro n hn; simp at hn; omega) (by simp)).mono ?_; rintro e w2 ⟨v2, rfl, k2, o2⟩; obtain ⟨a2, c2', rfl, _, _⟩ := ownsRow_form o2; have k2' := ((Keep.refl Non w1).alloc _).trans1 k2; have b2 := nonAt k2' B1.out; have d36 := mf_36 b2 h4; have B2 := Lib.hid b2; have K2 := Lib.hid k2'; have O2 : Hid (w2.ownsRow w1.heap.size 5 1 (.slice a2 (vputs [m.num, m.lo, m.hi, m.trim]).length c2') (vputs [m.num, m.lo, m.hi, m.trim]).length ((vputs [m.num, m.lo, m.hi, m.trim]).map bv)) := Lib.hid (ownsRow_low (by simpa using o2) (by simp)); clear k2 k2' o2 b2))
  have hwb : w.heap.size < w1.heap.size := lt_of_block B1.out
  have hq : (vputs [m.num, m.lo, m.hi, m.trim]).length ≤ 36 := vputs_len [m.num, m.lo, m.hi, m.trim] (by intro n hn; simp at hn; omega)
  obtain ⟨Q, hQ⟩ : ∃ Q, Q = (vputs [m.num, m.lo, m.hi, m.trim]).length := ⟨_, rfl⟩
  rw [← hQ] at hq O2 ⊢
  have PV := Lib.hid (fun W (k : Keep Non w2 W) => prev_rd (nonAt k B2.out) h4)
  have HQ := Lib.hid hQ
  have PP : Hid (∀ W g v, Bs W v (vputs [m.num, m.lo, m.hi, m.trim] ++ m.prev) → W.heap[g]? = some (.cells #[.int .u64 m.parts.length] 217 (0, 0)) → Calls Tryz.prog 126 #[v, .slice (some ⟨g, 0, none⟩) 1 1] W fun e w' => ∃ a' c', e = .returned (.slice a' (Q + 32 + (vputs [m.parts.length]).length) c') ∧ Keep Non W w' ∧ w'.ownsRow W.heap.size 5 1 (.slice a' (Q + 32 + (vputs [m.parts.length]).length) c') (Q + 32 + (vputs [m.parts.length]).length) ((vputs [m.num, m.lo, m.hi, m.trim] ++ m.prev ++ vputs [m.parts.length]).map bv)) := Lib.hid (fun W g v hb hg => (puts_any v _ (some ⟨g, 0, none⟩) 1 [m.parts.length] _ hb (by rw [List.length_append, ← HQ.out, h4]; omega) (row_at (vs := [nv m.parts.length]) hg) (by intro n hn; simp at hn; omega) (by simp)).mono (by
    rintro e w' ⟨v', rfl, k, o⟩
    rw [List.length_append, List.length_append, ← HQ.out, h4] at o
    obtain ⟨a', c', rfl, _, _⟩ := ownsRow_form o
    exact ⟨a', c', rfl, k, o⟩))
  clear hQ
  go_region_law (first
    | (refine step_append_rd (by rfl) (.tmp 27) (.tmp 29) 48 (by rfl) w1.heap.size 5 j0 (.int .u8 0) 1 Tryz.underlying48 J0.out.1 J0.out.2.1 J0.out.2.2.1 J0.out.2.2.2 rfl (.slice a2 Q c2') Q ((vputs [m.num, m.lo, m.hi, m.trim]).map bv) (by first | rfl | simp [Act.eval, Act.put]) (by exact ownsRow_keep O2.out (by first | exact (Keep.refl Non w2).drew | exact ((Keep.refl Non w2).alloc _).drew) (fun _ _ e => e)) (.slice (some ⟨w.heap.size, 4, none⟩) 32 32) (by first | rfl | simp [Act.eval, Act.put]) (m.prev.map bv) (by exact PV.out _ (by first | exact (Keep.refl Non w2).drew | exact ((Keep.refl Non w2).alloc _).drew)) (oneCell_bytes _) (by rw [List.length_map, h4]; unfold maxLen; omega) (by rw [List.length_map, h4]; omega) (by have := K2.out.size; simp; omega) ?_; intro v3 w3 ho hg hpp; obtain ⟨a3, c3', rfl, b3, k3, o3, g3⟩ := app_close (w2 := w2) B2.out K2.out hwb O2.out h4 (by first | exact (Keep.refl Non w2).drew | exact ((Keep.refl Non w2).alloc _).drew) ho hg; have e36 := mf_36 b3 h4; have B3 := Lib.hid b3; have K3 := Lib.hid k3; have O3 := Lib.hid o3; have R3 : Hid (Bs w3 (.slice a3 (Q + 32) c3') (vputs [m.num, m.lo, m.hi, m.trim] ++ m.prev)) := Lib.hid (Rd.ofOwns o3); have G3 := Lib.hid g3; have R3a : Hid (Bs (w3.alloc (.cells #[.int .u64 m.parts.length] 217)) (.slice a3 (Q + 32) c3') (vputs [m.num, m.lo, m.hi, m.trim] ++ m.prev)) := Lib.hid (Rd.keepNon R3.out ((Keep.refl Non w3).alloc _)); first | have N2 := Lib.hid (g3 w2.heap.size (.cells #[.int .u64 m.parts.length] 217 (0, 0)) (by exact blk_new w2 (.cells #[.int .u64 m.parts.length] 217 (0, 0))) (Nat.le_refl _)) | skip; have N3 := Lib.hid (blk_new w3 (.cells #[.int .u64 m.parts.length] 217 (0, 0))); clear ho hg hpp b3 k3 o3 g3)
    | (go_simp; go_at_call 126; first
       | (with_reducible refine (PP.out (w3.alloc (.cells #[.int .u64 m.parts.length] 217)) w3.heap.size (.slice a3 (Q + 32) c3') R3a.out N3.out).mono ?_; rintro e w4 ⟨a4, c4, rfl, k4', o4⟩; have k4 := ((Keep.refl Non w3).alloc (.cells #[.int .u64 m.parts.length] 217)).trans1 k4'; have b4 := nonAt k4 B3.out; have f36 := mf_36 b4 h4; have B4 := Lib.hid b4; have K4 := Lib.hid k4; have O4 : Hid (w4.ownsRow w3.heap.size 5 1 _ _ _) := Lib.hid (ownsRow_low o4 (by simp)); clear k4 k4' o4 b4)
       | (with_reducible refine (PP.out w3 w2.heap.size (.slice a3 (Q + 32) c3') R3.out N2.out).mono ?_; rintro e w4 ⟨a4, c4, rfl, k4, o4⟩; have b4 := nonAt k4 B3.out; have f36 := mf_36 b4 h4; have B4 := Lib.hid b4; have K4 := Lib.hid k4; have O4 := Lib.hid o4; clear k4 o4 b4)))
  all_goals
    obtain ⟨T0, hT0⟩ : ∃ T0, T0 = vputs [m.num, m.lo, m.hi, m.trim] ++ m.prev ++ vputs [m.parts.length] := ⟨_, rfl⟩
    have hn4 : Q + 32 + (vputs [m.parts.length]).length = T0.length := by rw [hT0, List.length_append, List.length_append, ← HQ.out, h4]
    rw [hn4]
    have hn40 : T0.length ≤ 80 := by have := vputs_len [m.parts.length] (by intro n hn; simp at hn; omega); simp only [List.length_singleton] at this; omega
    have o4 := O4.out
    rw [hn4, ← hT0] at o4
    have o4' : w4.ownsRow w.heap.size 5 1 (.slice a4 T0.length c4) T0.length (T0.map bv) := ownsRow_low o4 (by have := K1.out.size; have := K2.out.size; have := K3.out.size; omega)
    have O5 := Lib.hid o4'
    have K5 : Hid (Keep Non w w4) := Lib.hid ((K1.out.trans1 K3.out).trans1 K4.out)
    have HT := Lib.hid hT0
    clear o4 o4' hn4 hT0
    go_wp2_with fail
  all_goals
    go_loopw [5, 40] (fun bs i wr => ∃ j : Nat, j ≤ m.parts.length ∧ i = .int .i64 j ∧ wr.heap[w.heap.size]? = some (MfB m (.slice a m.parts.length c)) ∧ Keep Non w wr ∧ wr.ownsRow w.heap.size 5 1 bs (T0 ++ ptsB (m.parts.take j)).length ((T0 ++ ptsB (m.parts.take j)).map bv)) (fun _ i _ => m.parts.length - (intOf i).toNat)
    case atStart => exact ⟨0, by omega, rfl, B4.out, K5.out, by simpa [ptsB] using O5.out⟩
    case round =>
      obtain ⟨j, hj, rfl, hb, hk, ho⟩ := hrel
      obtain ⟨ba, bc, rfl, _, _⟩ := ownsRow_form ho
      have K := Lib.hid hk
      have B := Lib.hid hb
      have O := Lib.hid ho
      have hjl : (ptsB (m.parts.take j)).length ≤ 50 * 64 := Nat.le_trans (ptsB_len _ (fun p hp => OKP.out p (List.mem_of_mem_take hp))) (by have := List.length_take_le j m.parts; omega)
      by_cases hlt : j < m.parts.length
      · have hlj : (j : Int) < (m.parts.length : Int) := by omega
        obtain ⟨p, hpj⟩ : ∃ p, m.parts[j]? = some p := ⟨_, List.getElem?_eq_getElem hlt⟩
        obtain ⟨⟨p1, p2, p3, p4, p5⟩, _⟩ := okPts_get m.parts m.lo j p OK.out.parts hpj
        obtain ⟨a1, c1, e1, _, _, hx⟩ := PA.out.keepNon hk
        injection e1 with e1 e3 e4
        subst e1
        subst e4
        obtain ⟨g, off, rfl, hcell⟩ := hx j p hpj
        have hld := load101 wr g (off + j * 35) p p5 hcell
        have hsp := store_pt0 wr p p5
        have q1 := ptc_1 p
        have q2 := ptc_2 p
        unfold zPt PtB at hsp
        have hw6 := wrap64 (n := p.many) (by omega)
        have hw7 := wrap64 (n := p.size) (by omega)
        have TK := Lib.hid (ptsB_take m.parts j p hpj)
        clear hx hcell hpj hk hb ho
        obtain ⟨L, hL⟩ : ∃ L, L = (T0 ++ ptsB (m.parts.take j)).length := ⟨_, rfl⟩
        have hLb : L ≤ 3300 := by rw [hL, List.length_append]; omega
        obtain ⟨M, hM⟩ : ∃ M, M = (T0 ++ ptsB (m.parts.take j) ++ vputs [p.many, p.size]).length := ⟨_, rfl⟩
        have hMb : M ≤ 3400 := by have := vputs_len [p.many, p.size] (by intro n hn; simp at hn; omega); rw [hM, List.length_append, ← hL]; simp at this; omega
        have PP2 : Hid (Calls Tryz.prog 126 #[.slice ba L bc, .slice (some ⟨wr.heap.size + 1, 0, none⟩) 2 2] ((wr.alloc (.cells (ptC p).toArray 190)).alloc (.cells #[.int .u64 p.many, .int .u64 p.size] 217)).drew fun e w' => ∃ a' c', e = .returned (.slice a' M c') ∧ Keep Non wr w' ∧ w'.heap[wr.heap.size]? = some (PtB p) ∧ w'.ownsRow wr.heap.size 5 1 (.slice a' M c') M ((T0 ++ ptsB (m.parts.take j) ++ vputs [p.many, p.size]).map bv) ∧ ∀ g, (Value.slice a' M c').ownBlock = some g → g ≠ wr.heap.size) := Lib.hid (by
          have kk : Keep Non wr ((wr.alloc (.cells (ptC p).toArray 190)).alloc (.cells #[.int .u64 p.many, .int .u64 p.size] 217)).drew := (((Keep.refl Non wr).alloc _).alloc _).drew
          have o := O.out
          rw [← hL] at o
          refine (puts_any _ _ (some ⟨wr.heap.size + 1, 0, none⟩) 2 [p.many, p.size] _ ((Rd.ofOwns o).keepNon kk) (by rw [← hL]; omega) (row_at (vs := [nv p.many, nv p.size]) (by have := blk_new (wr.alloc (.cells (ptC p).toArray 190)) (.cells #[.int .u64 p.many, .int .u64 p.size] 217 (0, 0)); rwa [World.size_alloc] at this)) (by intro n hn; simp at hn; omega) (by simp)).mono ?_
          rintro e w' ⟨v', rfl, k, o⟩
          rw [← hM] at o
          obtain ⟨a', c', rfl, _, _⟩ := ownsRow_form o
          refine ⟨a', c', rfl, kk.trans1 k, nonAt k (blk_alloc (blk_new wr (PtB p)) _), ownsRow_low o (by simp; omega), fun g e => by have := (o.lt g e).1; simp at this; omega⟩)
        rw [← hL]
        have HM := Lib.hid hM
        have HL := Lib.hid hL
        clear hM hL
        go_wp2_with fail
        go_region_law (first
          | (refine step_append_rd (by rfl) (.tmp 52) (.tmp 54) 48 (by rfl) wr.heap.size 5 j0 (.int .u8 0) 1 Tryz.underlying48 J0.out.1 J0.out.2.1 J0.out.2.2.1 J0.out.2.2.2 rfl (.slice a5 M c5) M ((T0 ++ ptsB (m.parts.take j) ++ vputs [p.many, p.size]).map bv) (by first | rfl | simp [Act.eval, Act.put]) (by exact O5.out) (.slice (some ⟨wr.heap.size, 3, none⟩) 32 32) (by first | rfl | simp [Act.eval, Act.put]) (p.sum.map bv) (by exact S5.out) (oneCell_bytes _) (by rw [List.length_map, p5]; unfold maxLen; omega) (by rw [List.length_map, p5]; omega) (by have := K5'.out.size; omega) ?_; intro v6 w6 ho hg hpp; have HO := Lib.hid ho; have HG := Lib.hid hg; clear ho hg hpp)
          | (go_simp; go_at_call 126; with_reducible refine PP2.out.mono ?_; rintro e w5 ⟨a5, c5, rfl, k5, b5, o5, n5⟩; have S5 := Lib.hid (sum_rd b5 p5); have K5' := Lib.hid k5; have O5 := Lib.hid o5; have N5 := Lib.hid n5; clear k5 b5 o5 n5))
        all_goals
          go_wp2_with fail
          have kg : Keep (fun k => (Value.slice a5 M c5).ownBlock = some k) w5 w6 := Keep.grown (Keep.refl _ _) HG.out (fun k e => .inl e)
          have k6 : Keep Non wr w6 := K5'.out.trans kg (fun _ _ e => e) (fun g hg e => by have := (O5.out.lt g e).1; omega)
          have ho := HO.out
          have e0 : T0 ++ ptsB (m.parts.take j) ++ vputs [p.many, p.size] ++ p.sum = T0 ++ ptsB (m.parts.take (j + 1)) := by rw [TK.out]; simp [vputs]
          have e1 : M + (p.sum.map bv).length = (T0 ++ ptsB (m.parts.take (j + 1))).length := by rw [← e0, List.length_append, ← HM.out, List.length_map]
          rw [← List.map_append, e1, e0] at ho
          exact ⟨⟨j + 1, by omega, by first | rfl | go_num, nonAt k6 B.out, K.out.trans1 k6, ownsRow_low ho K.out.size⟩, by simp [intOf]; omega⟩
      · obtain rfl : j = m.parts.length := by omega
        have o := O.out
        rw [List.take_length] at o ⊢
        have e0 : T0 ++ ptsB m.parts = mfT m := by rw [HT.out]; simp [mfT, vputs]
        rw [e0] at o ⊢
        have hml : (mfT m).length ≤ 65536 := by rw [← e0, List.length_append]; rw [List.take_length] at hjl; omega
        have O6 := Lib.hid o
        clear o hk hb ho
        go_wp2_with (go_at_call 128; refine (fput_nil _ (mfT m) _ (Rd.ofOwns O6.out) hml).mono ?_; rintro e w7 ⟨v7, rfl, k7, o7⟩; have K7 := Lib.hid k7; have O7 := Lib.hid o7; clear k7 o7)
        go_ret2
        exact ⟨_, rfl, K.out.trans1 K7.out, ownsRow_low O7.out K.out.size⟩
end
end Go.Proofs.YtdmckfkhkjkdnaaGreatDoor
