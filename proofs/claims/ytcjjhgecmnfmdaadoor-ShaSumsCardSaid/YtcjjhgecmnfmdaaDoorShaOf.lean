/- The digest of parts: 'Of', walked. -/
import Derived.Test.YtcjjhgecmnfmdaaDoorShaDig
namespace Go.Proofs.YtcjjhgecmnfmdaaDoor
open Go.RowKit Go.Shelf
set_option linter.unusedVariables false
attribute [local go_sem] Oper.semAt_some

theorem flat_take (ls : List (List UInt8)) (k : Nat) (l : List UInt8) (h : ls[k]? = some l) : (ls.take (k + 1)).flatten = (ls.take k).flatten ++ l := by
  rw [List.take_add_one, h]
  simp
theorem flat_len (ls : List (List UInt8)) (k : Nat) (l : List UInt8) (h : ls[k]? = some l) : (ls.take k).flatten.length + l.length ≤ ls.flatten.length := by
  rw [← List.length_append, ← flat_take ls k l h]
  conv => rhs; rw [← List.take_append_drop (k + 1) ls]
  rw [List.flatten_append, List.length_append]
  omega

theorem index_w8 (s : W8) (t : Nat) (h : t < 8) (w : World) : (Instr.index 56 (.agg s.cells) (.int .i64 (t : Int))).run Tryd.prog w = .ok (.int .u32 (s.at t)) w := by
  have hv := W8.get s t h
  simp [Instr.index, go_sem, h, hv]

/-- What holds between two blocks. -/
structure OfI (w : World) (b : List UInt8) (g : Nat) (og : Obj) (B : Nat) (v : Value) (i : Nat) (W : World) : Prop where
  keep : Keep Non w W
  res : W.heap[w.heap.size]? = some (.cells (digC first8 0) 27 (0, 0))
  st : W.heap[w.heap.size + 1]? = some (.cells (stTo b i).cells 56 (0, 0))
  row : W.heap[g]? = some og
  bs : W.heap[B]? = some (.cells #[v] 22 (0, 0))
  bn : W.heap[B + 1]? = some (.cells #[.int .i64 64] 3 (0, 0))
theorem OfI.keepGe {w W W' : World} {b : List UInt8} {g : Nat} {og : Obj} {B B0 : Nat} {v : Value} {i : Nat} (h : OfI w b g og B v i W) (k : Keep (fun k => B0 ≤ k) W W') (hB : B + 2 ≤ B0) (hg : g < B) (hw : w.heap.size + 2 ≤ B) : OfI w b g og B v i W' :=
  ⟨h.keep.trans k (fun _ _ h => h) (fun i hi h => by show False; omega), k.at h.res (by omega), k.at h.st (by omega), k.at h.row (by omega), k.at h.bs (by omega), k.at h.bn (by omega)⟩

section
attribute [local simp high] hA56 hS56 hA27 hS27
set_option maxRecDepth 100000 in
set_option maxHeartbeats 3200000 in
theorem of_any (ls : List (List UInt8)) (x : Option Addr) (xc : Nat) (w : World) (hp : Pts w (.slice x ls.length xc) ls) (hk : Kon w) (hf : Frs w) (hn : ls.length ≤ 100) (ht : ls.flatten.length ≤ 2000) :
    Calls Tryd.prog 8 #[.slice x ls.length xc] w fun e w' => e = .returned (.agg (digC (shaS ls.flatten) 32)) ∧ Keep Non w w' := by
  have HP := Lib.hid hp
  have HK := Lib.hid hk
  have HF := Lib.hid hf
  clear hp hk hf
  obtain ⟨i0, hi0, hz0, hz1, hz2⟩ := info_parts infoU8
  refine (callsIn_wide (n := 9)).1 (callsIn_of_wp_marks Tryd.func8 rfl trivial ?_ rfl)
  refine wpIn_wide.2 ?_
  simp only [Tryd.ntmps8, List.size_toArray, List.length_cons, List.length_nil, Nat.reduceAdd, Nat.reduceSub, Array.replicate_succ, Array.replicate_zero, List.push_toArray, List.append_toArray, List.nil_append, List.cons_append]
  go_wp2_with fail
  have k1 : Keep Non w (w.alloc (.cells #[.int .u8 0, .int .u8 0, .int .u8 0, .int .u8 0, .int .u8 0, .int .u8 0, .int .u8 0, .int .u8 0, .int .u8 0, .int .u8 0, .int .u8 0, .int .u8 0, .int .u8 0, .int .u8 0, .int .u8 0, .int .u8 0, .int .u8 0, .int .u8 0, .int .u8 0, .int .u8 0, .int .u8 0, .int .u8 0, .int .u8 0, .int .u8 0, .int .u8 0, .int .u8 0, .int .u8 0, .int .u8 0, .int .u8 0, .int .u8 0, .int .u8 0, .int .u8 0] 27)) := (Keep.refl _ _).alloc _
  have r1 : (w.alloc (.cells #[.int .u8 0, .int .u8 0, .int .u8 0, .int .u8 0, .int .u8 0, .int .u8 0, .int .u8 0, .int .u8 0, .int .u8 0, .int .u8 0, .int .u8 0, .int .u8 0, .int .u8 0, .int .u8 0, .int .u8 0, .int .u8 0, .int .u8 0, .int .u8 0, .int .u8 0, .int .u8 0, .int .u8 0, .int .u8 0, .int .u8 0, .int .u8 0, .int .u8 0, .int .u8 0, .int .u8 0, .int .u8 0, .int .u8 0, .int .u8 0, .int .u8 0, .int .u8 0] 27)).heap[w.heap.size]? = some (.cells (digC first8 0) 27 (0, 0)) := blk_new _ _
  have s1 : (w.alloc (.cells #[.int .u8 0, .int .u8 0, .int .u8 0, .int .u8 0, .int .u8 0, .int .u8 0, .int .u8 0, .int .u8 0, .int .u8 0, .int .u8 0, .int .u8 0, .int .u8 0, .int .u8 0, .int .u8 0, .int .u8 0, .int .u8 0, .int .u8 0, .int .u8 0, .int .u8 0, .int .u8 0, .int .u8 0, .int .u8 0, .int .u8 0, .int .u8 0, .int .u8 0, .int .u8 0, .int .u8 0, .int .u8 0, .int .u8 0, .int .u8 0, .int .u8 0, .int .u8 0] 27)).heap.size = w.heap.size + 1 := World.size_alloc _ _
  have K1 := Lib.hid k1
  have R1 := Lib.hid r1
  have S1 := Lib.hid s1
  clear k1 r1 s1
  generalize w.alloc (.cells #[.int .u8 0, .int .u8 0, .int .u8 0, .int .u8 0, .int .u8 0, .int .u8 0, .int .u8 0, .int .u8 0, .int .u8 0, .int .u8 0, .int .u8 0, .int .u8 0, .int .u8 0, .int .u8 0, .int .u8 0, .int .u8 0, .int .u8 0, .int .u8 0, .int .u8 0, .int .u8 0, .int .u8 0, .int .u8 0, .int .u8 0, .int .u8 0, .int .u8 0, .int .u8 0, .int .u8 0, .int .u8 0, .int .u8 0, .int .u8 0, .int .u8 0, .int .u8 0] 27) = w1 at K1 R1 S1 ⊢
  obtain ⟨ftt, fr, hfr⟩ := HF.out.keep K1.out
  have hl := row_load (P := Tryd.prog) w1 0 ftt first8.cells fr 8 hfr rfl
  simp only [oA56, oS56, Result.andThen, ↓reduceIte, hl]
  rw [Oper.upon_value]
  clear hl hfr fr ftt
  go_wp2_with fail
  have hzb := blk_new w1 (.cells #[.int .u32 0, .int .u32 0, .int .u32 0, .int .u32 0, .int .u32 0, .int .u32 0, .int .u32 0, .int .u32 0] 56)
  have hst := row_store (P := Tryd.prog) (w1.alloc (.cells #[.int .u32 0, .int .u32 0, .int .u32 0, .int .u32 0, .int .u32 0, .int .u32 0, .int .u32 0, .int .u32 0] 56)) w1.heap.size 56 #[.int .u32 0, .int .u32 0, .int .u32 0, .int .u32 0, .int .u32 0, .int .u32 0, .int .u32 0, .int .u32 0] first8.cells hzb rfl rfl first8.one
  simp only [oS56, Result.andThen, ↓reduceIte, hst, W8.size]
  rw [Oper.upon_skip]
  have k2 : Keep Non w1 ((w1.alloc (.cells #[.int .u32 0, .int .u32 0, .int .u32 0, .int .u32 0, .int .u32 0, .int .u32 0, .int .u32 0, .int .u32 0] 56)).setRow w1.heap.size first8.cells) := ((Keep.refl _ _).alloc _).setRow (.inr (Nat.le_refl _)) _
  have t2 := setRow_heap (w1.alloc (.cells #[.int .u32 0, .int .u32 0, .int .u32 0, .int .u32 0, .int .u32 0, .int .u32 0, .int .u32 0, .int .u32 0] 56)) w1.heap.size _ first8.cells _ _ hzb
  have s2 : ((w1.alloc (.cells #[.int .u32 0, .int .u32 0, .int .u32 0, .int .u32 0, .int .u32 0, .int .u32 0, .int .u32 0, .int .u32 0] 56)).setRow w1.heap.size first8.cells).heap.size = w1.heap.size + 1 := by rw [setRow_size, World.size_alloc]
  have T2 := Lib.hid t2
  have S2 := Lib.hid s2
  have K2 := Lib.hid k2
  clear hzb hst k2 t2 s2
  generalize (w1.alloc (.cells #[.int .u32 0, .int .u32 0, .int .u32 0, .int .u32 0, .int .u32 0, .int .u32 0, .int .u32 0, .int .u32 0] 56)).setRow w1.heap.size first8.cells = w2 at T2 S2 K2 ⊢
  have R2 := Lib.hid (K2.out.at R1.out (fun e => e))
  have K02 := Lib.hid (K1.out.trans1 K2.out)
  have T2' : Hid (w2.heap[w.heap.size + 1]? = some (.cells first8.cells 56 (0, 0))) := Lib.hid (by rw [← S1.out]; exact T2.out)
  have S2' : Hid (w2.heap.size = w.heap.size + 2) := Lib.hid (by rw [S2.out, S1.out])
  rw [show w1.heap.size = w.heap.size + 1 from S1.out]
  clear R1 T2 S2 K2 K1 S1
  go_wp2_with fail
  go_loopw [4, 5, 15] (fun v n i wr => ∃ k : Nat, k ≤ ls.length ∧ i = .int .i64 k ∧ n = .int .i64 ((ls.take k).flatten.length : Nat) ∧ Keep Non w2 wr ∧ wr.ownsRow w2.heap.size 5 1 v (ls.take k).flatten.length ((ls.take k).flatten.map bv)) (fun _ _ i _ => ls.length - (intOf i).toNat)
  case atStart => exact ⟨0, Nat.zero_le _, rfl, rfl, Keep.refl _ _, World.ownsRow_nil _ _ _ _⟩
  case round =>
    obtain ⟨k, hk, rfl, rfl, kp, ho⟩ := hrel
    have KP := Lib.hid kp
    have HO := Lib.hid ho
    clear kp ho
    by_cases hlt : k < ls.length
    · obtain ⟨l, hl⟩ : ∃ l, ls[k]? = some l := ⟨ls[k], by simp [hlt]⟩
      obtain ⟨vs, hv1, hv2, hv3⟩ := (HP.out.keep K02.out).keep KP.out
      obtain ⟨u, hu⟩ : ∃ u, vs[k]? = some u := ⟨vs[k], by rw [List.getElem?_eq_getElem]⟩
      have hbs := hv3 k u l hu hl
      obtain ⟨ua, uc, rfl, _⟩ := id hbs
      obtain ⟨g, off, rfl, hcell⟩ : ∃ g off, x = some ⟨g, off, none⟩ ∧ wr.cell? ⟨g, off + k, none⟩ = some (.slice ua l.length uc) := by
        obtain ⟨a', c', e1, hx⟩ := hv1
        obtain ⟨g, off, e2, hc⟩ := hx (by intro e; rw [e] at hv2; simp at hv2; omega)
        injection e1 with e1
        exact ⟨g, off, e1.trans e2, by have := hc k _ hu; rwa [List.length_map] at this⟩
      have BS := Lib.hid hbs
      have FT := Lib.hid (flat_take ls k l hl)
      have fl := flat_len ls k l hl
      clear hv1 hv2 hv3 hu hl hbs
      generalize hfk : (ls.take k).flatten = F at HO FT fl
      have HFK := Lib.hid hfk
      clear hfk
      have lF : F.length ≤ 2000 := by omega
      have lL : l.length ≤ 2000 := by omega
      rw [List.length_map] at BS
      go_wp2_with (at_builtin; refine wpList_append_rd rfl _ _ 22 rfl w2.heap.size 5 i0 (.int .u8 0) 1 Tryd.underlying22 hi0 hz0 hz1 hz2 rfl _ F.length _ rfl HO.out (.slice ua l.length uc) rfl (l.map bv) BS.out (oneCell_bytes l) (by unfold maxLen; simp; omega) (by simp; omega) KP.out.size ?_; intro v' w' ho hg hp; have HO2 := Lib.hid ho; have HG := Lib.hid hg; clear ho hp hg)
      have ho2 := HO2.out
      rw [← List.map_append, ← FT.out, List.length_map, ← List.length_append, ← FT.out] at ho2
      exact ⟨⟨k + 1, by omega, by go_num, by rw [FT.out, List.length_append]; go_num, KP.out.grown HG.out (fun q e => .inr (HO.out.lt q e).1), ho2⟩, by simp [intOf]; omega⟩
    · have e : k = ls.length := by omega
      subst e
      rw [List.take_length] at HO ⊢
      generalize hL : ls.flatten = L at HO ht ⊢
      have HL := Lib.hid hL
      clear hL
      go_wp2_with fail
      refine (pad_any L.length ht _).mono ?_
      rintro e w3 ⟨g3, c3, rfl, kp3, hg3, ho3⟩
      have KP3 := Lib.hid kp3
      have PB := Lib.hid (Rd.ofOwns ho3)
      have HO3 := Lib.hid (ownsRow_keep HO.out kp3 (fun q e h => h))
      clear kp3 ho3 HO
      have hpl := padB_len L.length
      have lP : (padB L.length).length ≤ 100 := by omega
      clear hpl
      go_wp2_with (at_builtin; refine wpList_append_rd rfl _ _ 22 rfl w2.heap.size 5 i0 (.int .u8 0) 1 Tryd.underlying22 hi0 hz0 hz1 hz2 rfl _ L.length _ rfl HO3.out (.slice (some ⟨g3, 0, none⟩) (padB L.length).length c3) rfl ((padB L.length).map bv) PB.out (oneCell_bytes _) (by unfold maxLen; simp; omega) (by simp; omega) (Nat.le_trans KP.out.size KP3.out.size) ?_; intro v' w' ho hg hp; have HO2 := Lib.hid ho; have HG := Lib.hid hg; clear ho hp hg)
      have kp4 : Keep Non w2 w' := (KP.out.trans1 KP3.out).grown HG.out (fun q e => .inr (HO3.out.lt q e).1)
      have ho4 := HO2.out
      rw [← List.map_append, List.length_map, ← List.length_append, show L ++ padB L.length = padL L from rfl] at ho4
      clear HO2 HG HO3 PB KP3 hg3 KP
      have hpl := padB_len L.length
      have hPL := padL_len L
      have hbl := blocks_le L ht
      rcases ho4.2 with ⟨_, h0⟩ | ⟨g4, cap4, cur4, rfl, hb4, hg4, hle4, hmx4, hcs4, htk4⟩
      · have : (padL L).length = L.length + (padB L.length).length := List.length_append
        omega
      have hrd := Rd.ofOwns ho4
      have hb : Hid (∀ j, j < (padL L).length → cur4[j]? = some (.int .u8 (byI (padL L) j))) := Lib.hid (fun j hj => by
        have e1 : ((padL L).map bv)[j]? = some (bv ((padL L)[j])) := by simp [hj]
        have e2 := (World.ownsRow.cells ho4 (g := g4) rfl) j _ e1
        rw [add_off, Nat.zero_add] at e2
        simp only [World.cell?, hg4, bv] at e2
        simpa [byI, hj] using e2)
      have K4 := Lib.hid kp4
      have G4 := Lib.hid hg4
      have HPL := Lib.hid hPL
      unfold maxLen at hmx4
      have R4 := Lib.hid (K4.out.at R2.out (fun e => e))
      have T4 := Lib.hid (K4.out.at T2'.out (fun e => e))
      have K04 := Lib.hid (K02.out.trans1 K4.out)
      have hg4w := lt_of_block hg4
      have hs4 : w.heap.size + 2 ≤ w'.heap.size := by have := K4.out.size; have := S2'.out; omega
      clear kp4 hpl hrd ho4 hg4 R2 T2' K4 hPL hcs4 htk4 lP
      generalize (padL L).length = N at hle4 HPL hb ⊢
      refine (chunk_any _ rfl _).mono ?_
      rintro e w5 ⟨rfl, hw5⟩
      have I5 : Hid (OfI w (padL L) g4 (.cells cur4 5 (0, 0)) w'.heap.size (.slice (some ⟨g4, 0, none⟩) N cap4) 0 w5) := Lib.hid (by
        subst hw5
        refine ⟨(K04.out.alloc _).alloc _, blk_alloc (blk_alloc R4.out _) _, blk_alloc (blk_alloc T4.out _) _, blk_alloc (blk_alloc G4.out _) _, blk_alloc (blk_new _ _) _, ?_⟩
        have := blk_new (w'.alloc (.cells #[.slice (some ⟨g4, 0, none⟩) N cap4] 22)) (.cells #[.int .i64 64] 3)
        rwa [World.size_alloc] at this)
      have hs5 : Hid (w5.heap.size = w'.heap.size + 2) := Lib.hid (by subst hw5; simp)
      clear hw5
      go_wp2_with fail
      refine (wpIn_wide (n := 9)).1 ?_
      refine range_chunk (m := blocks L) (by have := HPL.out; omega) hle4 (by omega) (by have := HPL.out; omega) rfl rfl (OfI w (padL L) g4 (.cells cur4 5 (0, 0)) w'.heap.size (.slice (some ⟨g4, 0, none⟩) N cap4)) (fun i W W' h k => h.keepGe k (by have := hs5.out; omega) (by omega) (by omega)) (fun i W h => ⟨h.bs, h.bn⟩) I5.out ?a1 ?assign ?body ?done
      case assign =>
        intro i W K hK
        gi_wp2
        exact hK
      case body =>
        intro i W hi hI
        have HI := Lib.hid hI
        have hKW := Lib.hid (HK.out.keep hI.keep)
        have byt : Hid (Byt W g4 (64 * i) 64 (blkB (padL L) i)) := Lib.hid (fun j hj => by
          rw [byI_blk _ _ _ hj]
          have e1 := hb.out (64 * i + j) (by have := HPL.out; omega)
          simp [World.cell?, hI.row, e1])
        have hst := hI.st
        clear hI
        gi_wp2_with fail
        have hl := row_load (P := Tryd.prog) W (w.heap.size + 1) 56 _ (0, 0) 8 hst rfl
        simp only [oA56, oS56, Result.andThen, ↓reduceIte, hl]
        rw [Oper.uponIn_value]
        clear hl
        gi_wp2_with fail
        refine ⟨trivial, ?_⟩
        refine (CallsIn.inRound _ (callsIn_wide.2 (step_any _ g4 (64 * i) 64 _ W (stTo_u32 _ _) hKW.out byt.out (Nat.le_refl _) (by omega)))).mono ?_
        rintro e W2 ⟨rfl, kp⟩
        have hst2 := kp.at hst (fun e => e)
        have KP := Lib.hid kp
        clear kp hst
        gi_wp2_with fail
        have hst3 := row_store (P := Tryd.prog) W2 (w.heap.size + 1) 56 _ (stepW (stTo (padL L) i) (blkB (padL L) i)).cells hst2 rfl rfl (W8.one _)
        simp only [oS56, Result.andThen, ↓reduceIte, hst3, W8.size]
        rw [Oper.uponIn_skip]
        have I2 : OfI w (padL L) g4 (.cells cur4 5 (0, 0)) w'.heap.size (.slice (some ⟨g4, 0, none⟩) N cap4) (i + 1) (W2.setRow (w.heap.size + 1) (stepW (stTo (padL L) i) (blkB (padL L) i)).cells) := by
          have hi1 := HI.out
          refine ⟨(hi1.keep.trans1 KP.out).setRow (.inr (by omega)) _, ?_, setRow_heap _ _ _ _ _ _ hst2, ?_, ?_, ?_⟩
          · rw [setRow_other _ _ _ _ (by omega)]; exact KP.out.at hi1.res (fun e => e)
          · rw [setRow_other _ _ _ _ (by have := S2'.out; omega)]; exact KP.out.at hi1.row (fun e => e)
          · rw [setRow_other _ _ _ _ (by omega)]; exact KP.out.at hi1.bs (fun e => e)
          · rw [setRow_other _ _ _ _ (by omega)]; exact KP.out.at hi1.bn (fun e => e)
        have K2 : Keep (fun k => k < w5.heap.size) W (W2.setRow (w.heap.size + 1) (stepW (stTo (padL L) i) (blkB (padL L) i)).cells) := KP.out.ofNon.setRow (.inl (by have := hs5.out; omega)) _
        gi_wp2_with fail
        exact ⟨I2, K2⟩
      case done =>
        intro W hI hD
        have hst := hI.st
        have KW := Lib.hid hI.keep
        have RW := Lib.hid hI.res
        have HD := Lib.hid hD
        have hlt1 := lt_of_block hI.st
        clear hI hD
        rw [show stTo (padL L) (blocks L) = shaS L from rfl] at hst
        have hu : Hid ((shaS L).u32) := Lib.hid (stTo_u32 _ _)
        generalize hS : shaS L = s at hst hu ⊢
        have HS := Lib.hid hS
        clear hS
        go_wp2_with fail
        have hd0 : (W.alloc (.cells #[.int .u8 0, .int .u8 0, .int .u8 0, .int .u8 0, .int .u8 0, .int .u8 0, .int .u8 0, .int .u8 0, .int .u8 0, .int .u8 0, .int .u8 0, .int .u8 0, .int .u8 0, .int .u8 0, .int .u8 0, .int .u8 0, .int .u8 0, .int .u8 0, .int .u8 0, .int .u8 0, .int .u8 0, .int .u8 0, .int .u8 0, .int .u8 0, .int .u8 0, .int .u8 0, .int .u8 0, .int .u8 0, .int .u8 0, .int .u8 0, .int .u8 0, .int .u8 0] 27)).heap[W.heap.size]? = some (.cells (digC s 0) 27 (0, 0)) := blk_new _ _
        have k6 : Keep Non W (W.alloc (.cells #[.int .u8 0, .int .u8 0, .int .u8 0, .int .u8 0, .int .u8 0, .int .u8 0, .int .u8 0, .int .u8 0, .int .u8 0, .int .u8 0, .int .u8 0, .int .u8 0, .int .u8 0, .int .u8 0, .int .u8 0, .int .u8 0, .int .u8 0, .int .u8 0, .int .u8 0, .int .u8 0, .int .u8 0, .int .u8 0, .int .u8 0, .int .u8 0, .int .u8 0, .int .u8 0, .int .u8 0, .int .u8 0, .int .u8 0, .int .u8 0, .int .u8 0, .int .u8 0] 27)) := (Keep.refl _ _).alloc _
        have D6 := Lib.hid hd0
        have K6 := Lib.hid k6
        clear hd0 k6
        generalize W.alloc (.cells #[.int .u8 0, .int .u8 0, .int .u8 0, .int .u8 0, .int .u8 0, .int .u8 0, .int .u8 0, .int .u8 0, .int .u8 0, .int .u8 0, .int .u8 0, .int .u8 0, .int .u8 0, .int .u8 0, .int .u8 0, .int .u8 0, .int .u8 0, .int .u8 0, .int .u8 0, .int .u8 0, .int .u8 0, .int .u8 0, .int .u8 0, .int .u8 0, .int .u8 0, .int .u8 0, .int .u8 0, .int .u8 0, .int .u8 0, .int .u8 0, .int .u8 0, .int .u8 0] 27) = W6 at D6 K6 ⊢
        have hst6 := K6.out.at hst (fun e => e)
        have hl := row_load (P := Tryd.prog) W6 (w.heap.size + 1) 56 _ (0, 0) 8 hst6 rfl
        simp only [oA56, oS56, Result.andThen, ↓reduceIte, hl]
        rw [Oper.upon_value]
        clear hl hst hst6
        go_wp2_with fail
        go_loopw [37] (fun i wq => ∃ n : Nat, n ≤ 8 ∧ i = .int .i64 n ∧ Keep (One W.heap.size) W6 wq ∧ wq.heap[W.heap.size]? = some (.cells (digC s (4 * n)) 27 (0, 0))) (fun i _ => 8 - (intOf i).toNat)
        case atStart => exact ⟨0, by omega, rfl, Keep.refl _ _, D6.out⟩
        case round =>
          obtain ⟨n, hn8, rfl, kq, dq⟩ := hrel
          have KQ := Lib.hid kq
          have DQ := Lib.hid dq
          clear kq dq
          by_cases h8 : n < 8
          · have hix := index_w8 s n h8 wr
            have hux := W8.at_u32 hu.out n
            have hs4 := digC_step s n h8
            rw [byte_0, byte_1, byte_2, byte_3] at hs4
            have S4 := Lib.hid hs4
            clear hs4
            obtain ⟨hx0, hx1⟩ := hux
            generalize s.at n = y at S4 hix hx0 hx1
            have w4 : IntKind.i64.wrap (4 * (n : Int)) = 4 * (n : Int) := by rw [IntKind.wrap_i64]; omega
            have p4 : (4 * (n : Int)).toNat = 4 * n := by omega
            have q4 : 0 ≤ 4 * (n : Int) ∧ 4 * (n : Int) ≤ 32 := by omega
            have h8i : (n : Int) < 8 := by omega
            go_wp2_with fail
            have e0 : y / 16777216 % 256 = y / 16777216 := by omega
            have s4 := S4.out
            rw [e0] at s4
            have hcr := run_copy_row (P := Tryd.prog) (wr.alloc (.cells #[.int .u8 (y / 16777216), .int .u8 (y / 65536 % 256), .int .u8 (y / 256 % 256), .int .u8 (y % 256)] 5)) 22 22 3 5 W.heap.size (4 * n) (32 - 4 * n) (32 - 4 * n) ⟨wr.heap.size, 0, none⟩ 4 4 (digC s (4 * n)) 27 [.int .u8 (y / 16777216), .int .u8 (y / 65536 % 256), .int .u8 (y / 256 % 256), .int .u8 (y % 256)] Tryd.underlying22 (by kernel_rfl) (blk_alloc DQ.out _) (by show 4 = min 4 (32 - 4 * n); omega) (fun j v hv => by rw [add_off, Nat.zero_add, cell_of_row _ _ j _ _ _ (blk_new wr _)]; simpa using hv) (by rw [digC_size]; simp only [List.length_cons, List.length_nil]; omega) (by intro v hv; simp at hv; rcases hv with rfl | rfl | rfl | rfl <;> rfl)
            rw [List.append_assoc, show 4 * n + [Value.int .u8 (y / 16777216), .int .u8 (y / 65536 % 256), .int .u8 (y / 256 % 256), .int .u8 (y % 256)].length = 4 * n + 4 from rfl, s4] at hcr
            rw [hcr]
            simp only [Result.andThen]
            rw [Oper.upon_value]
            clear hcr s4 e0
            go_wp2_with fail
            have hdn := setRow_heap (wr.alloc (.cells #[.int .u8 (y / 16777216), .int .u8 (y / 65536 % 256), .int .u8 (y / 256 % 256), .int .u8 (y % 256)] 5)) W.heap.size _ (digC s (4 * (n + 1))) _ _ (blk_alloc DQ.out _)
            go_roundw
            case rel => exact ⟨n + 1, by omega, by go_num, (KQ.out.alloc _).setRow (.inl (one_self _)) _, hdn⟩
            case measure => simp [intOf]; omega
          · have e : n = 8 := by omega
            subst e
            have hw1 := KW.out.size
            have k7 : Keep Non w wr := (KW.out.trans1 K6.out).trans KQ.out (fun _ _ h => h) (fun i hi h => by unfold One at h; show False; omega)
            have r7 := KQ.out.at (K6.out.at RW.out (fun e => e)) (fun h => by unfold One at h; omega)
            have d7 := KQ.out.at (K6.out.at HD.out (fun e => e)) (fun h => by unfold One at h; have := lt_of_block HD.out; omega)
            have K7 := Lib.hid k7
            have R7 := Lib.hid r7
            have D7 := Lib.hid d7
            have NE : Hid (w5.heap.size ≠ w.heap.size) := Lib.hid (by have := hs5.out; omega)
            clear k7 r7 d7
            go_wp2_with fail
            have hl := row_load (P := Tryd.prog) wr W.heap.size 27 _ (0, 0) 32 DQ.out (digC_size _ _)
            simp only [oA27, oS27, Result.andThen, ↓reduceIte, hl]
            rw [Oper.upon_value]
            clear hl
            go_wp2_with fail
            have hst := row_store (P := Tryd.prog) wr w.heap.size 27 _ (digC s (4 * 8)) R7.out (by rw [digC_size]; rfl) (by rw [digC_size, digC_size]) (digC_one _ _)
            simp only [oS27, Result.andThen, ↓reduceIte, hst, digC_size]
            rw [Oper.upon_skip]
            clear hst
            go_wp2_with fail
            have hr8 := setRow_heap wr w.heap.size _ (digC s (4 * 8)) _ _ R7.out
            have hK' : (wr.setRow w.heap.size (digC s (4 * 8))).heap[w5.heap.size]? = some (.deferred (some [])) := by rw [setRow_other _ _ _ _ NE.out]; exact D7.out
            refine ⟨by simp, .inl ⟨_, _, rfl, run_takeDeferred (by exact hK'), ?_⟩⟩
            have hK2 : Keep (One w5.heap.size) (wr.setRow w.heap.size (digC s (4 * 8))) ((wr.setRow w.heap.size (digC s (4 * 8))).putObj w5.heap.size (.deferred none)) := (Keep.refl (One w5.heap.size) _).putObj (.inl (one_self _)) _
            have hr9 := hK2.at hr8 (fun h => NE.out h.symm)
            refine ⟨.agg (digC s (4 * 8)), results_cell_row (P := Tryd.prog) Tryd.results8 _ _ w.heap.size 27 (digC s (4 * 8)) (0, 0) _ rfl hr9 Tryd.underlying27 rfl (by rw [digC_size]; rfl), by rw [HL.out, HS.out], ?_⟩
            exact ((K7.out.setRow (.inr (Nat.le_refl _)) _)).trans hK2 (fun _ _ h => h) (fun i hi h => by unfold One at h; have := hs5.out; show False; omega)
end

end Go.Proofs.YtcjjhgecmnfmdaaDoor
