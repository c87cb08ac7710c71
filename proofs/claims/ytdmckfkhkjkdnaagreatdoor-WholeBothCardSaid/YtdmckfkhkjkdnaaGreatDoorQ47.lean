/- Arguments opened: a slice of structs of integers. · Arguments opened: a slice of bytes; a slice of slices of bytes. · WholeBoth's picks opened. · Cell -/
import Derived.ChangeOld
import Derived.Deep.Slices
import Derived.Deep.Fields
import Derived.ChangeSame
import Derived.Deep.SlicePairs
import Derived.Test.YtdmckfkhkjkdnaaGreatDoorQ44
import Derived.Test.YtdmckfkhkjkdnaaGreatDoorQ45
set_option linter.unusedVariables false
set_option maxRecDepth 100000
set_option maxHeartbeats 16000000
namespace Go.Proofs.YtdmckfkhkjkdnaaGreatDoor
open Go.ChangeShapes Go.WideShapes Go.Deep Go.RowKit
theorem bv_of {n : Int} (h : (Lit.int .u8 n).wf = true) : bv (UInt8.ofNat n.toNat) = .int .u8 n := by
  have hb := bounds_u8 h
  unfold bv
  congr 1
  simp
  omega
section
variable {H : Type} {enc : TypeId × Value → H} {P : Program} {w : World} {base : Nat} {spare : Nat → Bool} {held : Bool}
theorem open_bytes {t e : TypeId} {fuel : Nat} {v : Value} {x : DataW H × List MemPlace}
    (ht : P.underlying t = some (.slice e)) (he : P.underlying e = some (.int .u8)) (hC : P.cellsOf e = 1)
    (h : DataW.trod enc P w base spare held fuel t [v] = some x) :
    ∃ (a : Option Addr) (l : List UInt8) (cap : Nat), v = .slice a l.length cap ∧ Bs w v l ∧ l.length ≤ maxLen := by
  rcases open_slice1 ht hC h with ⟨h0, _⟩ | ⟨a', len', cap', m, n, V, D, Pl, hcs, hb, hl, hm, hmm, hx, hi⟩
  · simp at h0
    subst h0
    exact ⟨none, [], 0, rfl, Rd.nil w, by simp⟩
  simp at hcs
  subst hcs
  have hml : len' ≤ m := by rw [hmm]; split <;> omega
  have key : ∀ i, i < len' → ∃ n, w.cell? (a'.add i) = some (.int .u8 n) ∧ (Lit.int .u8 n).wf = true := by
    intro i hil
    obtain ⟨h1, h2⟩ := hi i (by omega)
    obtain ⟨q, hq, _, hwf⟩ := DataW.trod_int he h2
    simp at hq
    exact ⟨q, by rw [h1, hq], hwf⟩
  obtain ⟨N, hN⟩ := choose_lt (α := Int) (p := fun i n => w.cell? (a'.add i) = some (.int .u8 n) ∧ (Lit.int .u8 n).wf = true) key
  let l : List UInt8 := (List.range len').map fun i => UInt8.ofNat (N i).toNat
  have hlen : l.length = len' := by simp [l]
  refine ⟨some a', l, cap', by rw [hlen], ⟨some a', cap', by simp [hlen], fun hne => ?_⟩, by omega⟩
  have hpos : 0 < len' := by
    rcases Nat.eq_zero_or_pos len' with h0 | h0
    · exfalso
      apply hne
      simp [l, h0]
    · exact h0
  obtain ⟨b, off, spot⟩ := a'
  have hspot : spot = none := by
    have := World.cell?_spot (hN 0 hpos).1
    simpa [Addr.add] using this
  subst hspot
  refine ⟨b, off, rfl, fun j u hu => ?_⟩
  have hj : j < len' := by
    have := (List.getElem?_eq_some_iff.1 hu).1
    simpa [l] using this
  obtain ⟨h1, h2⟩ := hN j hj
  rw [add_off] at h1
  rw [h1, ← bv_of h2]
  simp [l, hj] at hu
  rw [hu]
end
section
variable {H : Type} {enc : TypeId × Value → H} {w : World} {base : Nat} {spare : Nat → Bool} {held : Bool}
theorem one_int {P : Program} {t : TypeId} {fuel : Nat} {u : Value} {x : DataW H × List MemPlace} (ht : P.underlying t = some (.int .i64)) (h : DataW.trod enc P w base spare held fuel t [u] = some x) : ∃ n, u = .int .i64 n := by
  obtain ⟨n, e, _, _⟩ := DataW.trod_int ht h
  simp at e
  exact ⟨n, e⟩
theorem one_slice {P : Program} {t e : TypeId} {fuel : Nat} {u : Value} {x : DataW H × List MemPlace} (ht : P.underlying t = some (.slice e)) (h : DataW.trod enc P w base spare held fuel t [u] = some x) : ∃ a n c, u = .slice a n c := by
  rcases open_slice ht h with ⟨h0, _⟩ | ⟨a', len', cap', m, n, D, Pl, hcs, _⟩
  · simp at h0
    exact ⟨_, _, _, h0⟩
  · simp at hcs
    exact ⟨_, _, _, hcs⟩
theorem eleven {l : List Value} (h : l.length = 11) : ∃ u0 u1 u2 u3 u4 u5 u6 u7 u8 u9 u10, l = [u0, u1, u2, u3, u4, u5, u6, u7, u8, u9, u10] := by
  match l, h with
  | [u0, u1, u2, u3, u4, u5, u6, u7, u8, u9, u10], _ => exact ⟨u0, u1, u2, u3, u4, u5, u6, u7, u8, u9, u10, rfl⟩
theorem get_some {α : Type} {l : List α} {n i : Nat} (h : l.length = n) (hi : i < n) : ∃ y, l[i]? = some y := ⟨_, List.getElem?_eq_getElem (by omega)⟩
theorem pickStruct : ∃ f0 f1 f2 : Field, Tryz.prog.underlying 76 = some (.struct #[f0, f1, f2]) ∧ f0.offset = 0 ∧ f1.offset = 1 ∧ f2.offset = 8 ∧ f0.type = 3 ∧ f1.type = 72 ∧ f2.type = 74 := ⟨_, _, _, Tryz.underlying76, rfl, rfl, rfl, rfl, rfl, rfl⟩
theorem actStruct : ∃ f0 f1 f2 : Field, Tryz.prog.underlying 74 = some (.struct #[f0, f1, f2]) ∧ f0.offset = 0 ∧ f1.offset = 1 ∧ f2.offset = 2 ∧ f0.type = 3 ∧ f1.type = 3 ∧ f2.type = 48 := ⟨_, _, _, Tryz.underlying74, rfl, rfl, rfl, rfl, rfl, rfl⟩
theorem logStruct : ∃ f0 f1 f2 f3 f4 f5 : Field, Tryz.prog.underlying 72 = some (.struct #[f0, f1, f2, f3, f4, f5]) ∧ f0.offset = 0 ∧ f1.offset = 1 ∧ f2.offset = 2 ∧ f3.offset = 3 ∧ f4.offset = 5 ∧ f5.offset = 6 ∧ f0.type = 3 ∧ f1.type = 3 ∧ f2.type = 3 ∧ f3.type = 50 ∧ f4.type = 70 ∧ f5.type = 55 := ⟨_, _, _, _, _, _, Tryz.underlying72, rfl, rfl, rfl, rfl, rfl, rfl, rfl, rfl, rfl, rfl, rfl, rfl⟩
theorem celStruct : ∃ f0 f1 : Field, Tryz.prog.underlying 50 = some (.struct #[f0, f1]) ∧ f0.offset = 0 ∧ f1.offset = 1 ∧ f0.type = 3 ∧ f1.type = 48 := ⟨_, _, Tryz.underlying50, rfl, rfl, rfl, rfl⟩
theorem cInt : Tryz.prog.cellsOf 3 = 1 := by kernel_rfl
theorem cBytes : Tryz.prog.cellsOf 48 = 1 := by kernel_rfl
theorem open_pick {fuel : Nat} {cs : List Value} {x : DataW H × List MemPlace} (h : DataW.trod enc Tryz.prog w base spare held fuel 76 cs = some x) (hl : cs.length = 11) :
    ∃ (K I k1 k2 k3 k4 k8 : Int) (a5 a6 a7 a10 : Option Addr) (n5 c5 n6 c6 n7 c7 n10 c10 : Nat), cs = [.int .i64 K, .int .i64 k1, .int .i64 k2, .int .i64 k3, .int .i64 k4, .slice a5 n5 c5, .slice a6 n6 c6, .slice a7 n7 c7, .int .i64 k8, .int .i64 I, .slice a10 n10 c10] := by
  obtain ⟨u0, u1, u2, u3, u4, u5, u6, u7, u8, u9, u10, rfl⟩ := eleven hl
  obtain ⟨f0, f1, f2, he, o0, o1, o2, t0, t1, t2⟩ := pickStruct
  obtain ⟨ys, n', hn', hy, hlen, hyl, hf⟩ := DataW.trod_struct he h
  have k0 := hf 0 f0 rfl
  have k1 := hf 1 f1 rfl
  have k2 := hf 2 f2 rfl
  obtain ⟨y0, e0⟩ := get_some hyl (i := 0) (by simp)
  obtain ⟨y1, e1⟩ := get_some hyl (i := 1) (by simp)
  obtain ⟨y2, e2⟩ := get_some hyl (i := 2) (by simp)
  rw [o0, t0, cInt, e0] at k0
  rw [o1, t1, show Tryz.prog.cellsOf 72 = 7 from by kernel_rfl, e1] at k1
  rw [o2, t2, show Tryz.prog.cellsOf 74 = 3 from by kernel_rfl, e2] at k2
  obtain ⟨K, rfl⟩ := one_int Tryz.underlying3 k0
  -- the line's act
  obtain ⟨g0, g1, g2, ge, p0, p1, p2, s0, s1, s2⟩ := actStruct
  obtain ⟨zs, n2, _, _, _, hzl, hg⟩ := DataW.trod_struct ge k2
  have m0 := hg 0 g0 rfl
  have m1 := hg 1 g1 rfl
  have m2 := hg 2 g2 rfl
  obtain ⟨z0, r0⟩ := get_some hzl (i := 0) (by simp)
  obtain ⟨z1, r1⟩ := get_some hzl (i := 1) (by simp)
  obtain ⟨z2, r2⟩ := get_some hzl (i := 2) (by simp)
  rw [p0, s0, cInt, r0] at m0
  rw [p1, s1, cInt, r1] at m1
  rw [p2, s2, cBytes, r2] at m2
  obtain ⟨k8, rfl⟩ := one_int Tryz.underlying3 m0
  obtain ⟨I, rfl⟩ := one_int Tryz.underlying3 m1
  obtain ⟨a10, n10, c10, rfl⟩ := one_slice Tryz.underlying48 m2
  -- the log's act
  obtain ⟨l0, l1, l2, l3, l4, l5, le, q0, q1, q2, q3, q4, q5, v0, v1, v2, v3, v4, v5⟩ := logStruct
  obtain ⟨ws, n3, _, _, _, hwl, hh⟩ := DataW.trod_struct le k1
  have j0 := hh 0 l0 rfl
  have j1 := hh 1 l1 rfl
  have j2 := hh 2 l2 rfl
  have j3 := hh 3 l3 rfl
  have j4 := hh 4 l4 rfl
  have j5 := hh 5 l5 rfl
  obtain ⟨w0, b0⟩ := get_some hwl (i := 0) (by simp)
  obtain ⟨w1, b1⟩ := get_some hwl (i := 1) (by simp)
  obtain ⟨w2, b2⟩ := get_some hwl (i := 2) (by simp)
  obtain ⟨w3, b3⟩ := get_some hwl (i := 3) (by simp)
  obtain ⟨w4, b4⟩ := get_some hwl (i := 4) (by simp)
  obtain ⟨w5, b5⟩ := get_some hwl (i := 5) (by simp)
  rw [q0, v0, cInt, b0] at j0
  rw [q1, v1, cInt, b1] at j1
  rw [q2, v2, cInt, b2] at j2
  rw [q3, v3, show Tryz.prog.cellsOf 50 = 2 from by kernel_rfl, b3] at j3
  rw [q4, v4, show Tryz.prog.cellsOf 70 = 1 from by kernel_rfl, b4] at j4
  rw [q5, v5, show Tryz.prog.cellsOf 55 = 1 from by kernel_rfl, b5] at j5
  obtain ⟨i1, rfl⟩ := one_int Tryz.underlying3 j0
  obtain ⟨i2, rfl⟩ := one_int Tryz.underlying3 j1
  obtain ⟨i3, rfl⟩ := one_int Tryz.underlying3 j2
  obtain ⟨a6, n6, c6, rfl⟩ := one_slice Tryz.underlying70 j4
  obtain ⟨a7, n7, c7, rfl⟩ := one_slice Tryz.underlying55 j5
  obtain ⟨d0, d1, de, x0, x1, y0', y1'⟩ := celStruct
  obtain ⟨cs2, n4, _, _, _, hcl, hc⟩ := DataW.trod_struct de j3
  have i0 := hc 0 d0 rfl
  have i4 := hc 1 d1 rfl
  obtain ⟨z3, r3⟩ := get_some hcl (i := 0) (by simp)
  obtain ⟨z4, r4⟩ := get_some hcl (i := 1) (by simp)
  rw [x0, y0', cInt, r3] at i0
  rw [x1, y1', cBytes, r4] at i4
  obtain ⟨i5, rfl⟩ := one_int Tryz.underlying3 i0
  obtain ⟨a5, n5, c5, rfl⟩ := one_slice Tryz.underlying48 i4
  exact ⟨K, I, i1, i2, i3, i5, k8, a5, a6, a7, a10, n5, c5, n6, c6, n7, c7, n10, c10, rfl⟩
theorem open_picks {fuel : Nat} {v : Value} {x : DataW H × List MemPlace} (h : DataW.trod enc Tryz.prog w base spare held fuel 23 [v] = some x) : ∃ m, PicksIn w v m ∧ m ≤ maxLen := by
  have c76 : Tryz.prog.cellsOf 76 = 11 := by kernel_rfl
  rcases open_slice Tryz.underlying23 h with ⟨h0, _⟩ | ⟨a', len', cap', m, n, D, Pl, hcs, hb, hl, hm, hmm, hx, hi⟩
  · simp at h0
    subst h0
    exact ⟨0, PicksIn.nil w, by simp⟩
  simp at hcs
  subst hcs
  have hml : len' ≤ m := by rw [hmm]; split <;> omega
  by_cases hz : len' = 0
  · subst hz
    exact ⟨0, ⟨some a', cap', rfl, fun j hj => absurd hj (Nat.not_lt_zero _)⟩, by simp⟩
  have hs : a'.spot = none ∧ a'.block < w.heap.size := by
    obtain ⟨cs', hc, ht'⟩ := hi 0 (by omega)
    rw [c76] at hc
    obtain ⟨_, hcl, hat⟩ := World.cells?_some hc
    have h0 := hat 0 (by omega)
    rw [List.getElem?_eq_getElem (by omega)] at h0
    have e : (a'.add (0 * 11)).add 0 = a' := by simp [Addr.add]
    rw [e] at h0
    exact ⟨World.cell?_spot h0, World.block_lt_of_cell? _ _ h0⟩
  obtain ⟨b, off, spot⟩ := a'
  obtain ⟨hspot, hbl⟩ := hs
  dsimp only at hspot hbl
  subst hspot
  refine ⟨len', ⟨some ⟨b, off, none⟩, cap', rfl, fun j hj => ?_⟩, by omega⟩
  obtain ⟨cs', hc, ht'⟩ := hi j (by omega)
  rw [c76] at hc
  obtain ⟨_, hcl, hat⟩ := World.cells?_some hc
  obtain ⟨K, I, k1, k2, k3, k4, k8, a5, a6, a7, a10, n5, c5, n6, c6, n7, c7, n10, c10, rfl⟩ := open_pick ht' hcl
  have at' : ∀ i u, [Value.int .i64 K, .int .i64 k1, .int .i64 k2, .int .i64 k3, .int .i64 k4, .slice a5 n5 c5, .slice a6 n6 c6, .slice a7 n7 c7, .int .i64 k8, .int .i64 I, .slice a10 n10 c10][i]? = some u → w.cell? ⟨b, off + j * 11 + i, none⟩ = some u := fun i u hu => by
    have hi : i < 11 := (List.getElem?_eq_some_iff.1 hu).1
    have := hat i hi
    rw [add_off, add_off, hu] at this
    exact this
  exact ⟨b, off, K, I, rfl, hbl, k1, k2, k3, k4, k8, a5, a6, a7, a10, n5, c5, n6, c6, n7, c7, n10, c10, at' 0 _ rfl, at' 1 _ rfl, at' 2 _ rfl, at' 3 _ rfl, at' 4 _ rfl, at' 5 _ rfl, at' 6 _ rfl, at' 7 _ rfl, at' 8 _ rfl, at' 9 _ rfl, at' 10 _ rfl⟩
end
section
variable {H : Type} {enc : TypeId × Value → H} {w : World} {base : Nat} {spare : Nat → Bool} {held : Bool}
theorem cellStruct : ∃ f0 f1 : Field, Tryz.prog.underlying 50 = some (.struct #[f0, f1]) ∧ f0.offset = 0 ∧ f1.offset = 1 ∧ f0.type = 3 ∧ f1.type = 48 := ⟨_, _, Tryz.underlying50, rfl, rfl, rfl, rfl⟩
theorem open_cells {fuel : Nat} {v : Value} {x : DataW H × List MemPlace} (h : DataW.trod enc Tryz.prog w base spare held fuel 22 [v] = some x) : ∃ cl, CellsIn w v cl ∧ cl.length ≤ maxLen := by
  obtain ⟨f0, f1, he, o0, o1, t0, t1⟩ := cellStruct
  rcases open_slice_pairs Tryz.underlying22 he (by kernel_rfl) o0 o1 (by rw [t0]; kernel_rfl) (by rw [t1]; kernel_rfl) h with ⟨h0, _⟩ | ⟨a, len, cap, m, n, V0, V1, D0, D1, P0, P1, hcs, hb, hl, hm, hmm, hx, hi⟩
  · simp at h0
    subst h0
    exact ⟨[], ⟨none, 0, rfl, fun j hj => by simp at hj⟩, by simp⟩
  · simp at hcs
    subst hcs
    have hml : len ≤ m := by rw [hmm]; split <;> omega
    have each : ∀ j, j < len → ∃ c : Cl, ∃ sa sc, V0 j = .int .i64 c.1 ∧ V1 j = .slice sa c.2.length sc ∧ Bs w (.slice sa c.2.length sc) c.2 := fun j hj => by
      obtain ⟨h1, h2, h3, h4⟩ := hi j (by omega)
      rw [t0] at h3
      rw [t1] at h4
      obtain ⟨a1, l, c1, e1, b1, _⟩ := open_bytes Tryz.underlying48 Tryz.underlying5 (by kernel_rfl) h4
      obtain ⟨k, e0, _, _⟩ := DataW.trod_int Tryz.underlying3 h3
      simp at e0
      rw [e1] at b1
      exact ⟨(k, l), a1, c1, e0, e1, b1⟩
    by_cases hz : len = 0
    · subst hz
      exact ⟨[], ⟨some a, cap, rfl, fun j hj => by simp at hj⟩, by simp⟩
    obtain ⟨b, off, spot⟩ := a
    have hc0 := (hi 0 (by omega)).1
    have hspot : spot = none := by
      have := World.cell?_spot hc0
      simpa [Addr.add] using this
    subst hspot
    have hbl : b < w.heap.size := by
      have := World.block_lt_of_cell? _ _ hc0
      simpa [Addr.add] using this
    obtain ⟨f, hf⟩ : ∃ f : ∀ j, j < len → Cl, ∀ j hj, ∃ sa sc, V0 j = .int .i64 (f j hj).1 ∧ V1 j = .slice sa (f j hj).2.length sc ∧ Bs w (.slice sa (f j hj).2.length sc) (f j hj).2 := ⟨fun j hj => Classical.choose (each j hj), fun j hj => Classical.choose_spec (each j hj)⟩
    have hlen : (List.ofFn (fun j : Fin len => f j.1 j.2)).length = len := List.length_ofFn
    refine ⟨List.ofFn (fun j : Fin len => f j.1 j.2), ⟨some ⟨b, off, none⟩, cap, by rw [hlen], fun j hj => ?_⟩, by rw [hlen]; omega⟩
    have hj' : j < len := by rw [hlen] at hj; exact hj
    obtain ⟨sa, sc, e0, e1, b1⟩ := hf j hj'
    obtain ⟨h1, h2, _, _⟩ := hi j (by omega)
    rw [List.getElem_ofFn]
    refine ⟨b, off, sa, sc, rfl, hbl, by rw [add_off] at h1; rw [← e0]; exact h1, by rw [add_off] at h2; rw [← e1, Nat.add_assoc]; exact h2, b1, ?_⟩
    by_cases hne : (f j hj').2 = []
    · exact .inl hne
    · refine .inr fun k e => ?_
      obtain ⟨a2, c2, e2, hx2⟩ := b1
      obtain ⟨g, off2, rfl, hc2⟩ := hx2 (by simpa using hne)
      injection e2 with e2 _ _
      subst e2
      have hk : g = k := by simpa [Value.ownBlock] using e
      subst hk
      cases hd : (f j hj').2 with
      | nil => exact absurd hd hne
      | cons u r =>
        have h1 := hc2 0 (bv u) (by simp [hd])
        have := World.block_lt_of_cell? _ _ h1
        simpa [Addr.add] using this
end
end Go.Proofs.YtdmckfkhkjkdnaaGreatDoor
