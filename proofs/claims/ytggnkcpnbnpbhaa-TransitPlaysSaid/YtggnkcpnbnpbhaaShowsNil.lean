/- Shows of a nil line, walked. -/
import Derived.Test.YtggnkcpnbnpbhaaShows
namespace Go.Proofs.Ytggnkcpnbnpbhaa
open Go.RowKit Go.Shelf
set_option linter.unusedVariables false
attribute [local go_sem] Oper.semAt_some

/-- .. of a nil line. -/
structure SNil (w W : World) : Prop where
  keep0 : Keep Non w W
  b3 : W.heap[w.heap.size]? = some (DcB (.slice none 0 0) (fun _ => 0))
  b4 : W.heap[w.heap.size + 1]? = some (.cells #[.bool false] 4 (0, 0))
  b5 : W.heap[w.heap.size + 1 + 1]? = some (.cells #[.int .i64 0] 3 (0, 0))
  b6 : W.heap[w.heap.size + 1 + 1 + 1]? = some (.cells #[.pointer none] 24 (0, 0))

theorem snil_start (w : World) :
    SNil w ((((w.alloc (.cells #[.slice none 0 0, .int .i64 0, .int .i64 0, .int .i64 0, .int .i64 0] 50)).alloc (.cells #[.bool false] 4)).alloc (.cells #[.int .i64 0] 3)).alloc (.cells #[.pointer none] 24)) := by
  refine ⟨((((Keep.refl _ _).alloc _).alloc _).alloc _).alloc _, blk_alloc (blk_alloc (blk_alloc (blk_new _ _) _) _) _, ?_, ?_, ?_⟩
  · have := blk_new (w.alloc (.cells #[.slice none 0 0, .int .i64 0, .int .i64 0, .int .i64 0, .int .i64 0] 50)) (.cells #[.bool false] 4)
    rw [World.size_alloc] at this
    exact blk_alloc (blk_alloc this _) _
  · have := blk_new ((w.alloc (.cells #[.slice none 0 0, .int .i64 0, .int .i64 0, .int .i64 0, .int .i64 0] 50)).alloc (.cells #[.bool false] 4)) (.cells #[.int .i64 0] 3)
    rw [World.size_alloc, World.size_alloc] at this
    exact blk_alloc this _
  · have := blk_new (((w.alloc (.cells #[.slice none 0 0, .int .i64 0, .int .i64 0, .int .i64 0, .int .i64 0] 50)).alloc (.cells #[.bool false] 4)).alloc (.cells #[.int .i64 0] 3)) (.cells #[.pointer none] 24)
    rw [World.size_alloc, World.size_alloc, World.size_alloc] at this
    exact this

set_option maxRecDepth 100000 in
set_option maxHeartbeats 3200000 in
theorem shows_nil (w : World) :
    Calls Try.prog 17 #[.pointer none, .agg #[.slice none 0 0, .int .i64 0, .int .i64 0, .int .i64 0, .int .i64 0]] w fun e w' => e = .returned (.bool true) ∧ Keep Non w w' := by
  refine (callsIn_wide (n := 9)).1 (callsIn_of_wp_marks Try.func17 rfl trivial ?_ rfl)
  refine wpIn_wide.2 ?_
  simp only [Try.ntmps17, List.size_toArray, List.length_cons, List.length_nil, Nat.reduceAdd, Nat.reduceSub, Array.replicate_succ, Array.replicate_zero, List.push_toArray, List.append_toArray, List.nil_append, List.cons_append]
  go_wp2_with fail
  refine (all_any _ _).mono ?_
  rintro e w1 ⟨rfl, rfl⟩
  go_wp2_with fail
  refine (wpIn_wide (n := 9)).1 ?_
  have S0 := snil_start w
  refine range_nil (B := w.heap.size + 1 + 1 + 1) rfl (by exact S0.b6) ?_
  intro W hkW hK
  have KD : Hid (W.heap[w.heap.size + 4]? = some (.deferred (some []))) := by
    rw [show ((((w.alloc _).alloc _).alloc _).alloc _).heap.size = w.heap.size + 4 by simp] at hK
    exact Lib.hid hK
  have K0 := Lib.hid (S0.keep0.trans1 hkW)
  have b3 := hkW.at S0.b3 (fun e => e)
  have b4 := hkW.at S0.b4 (fun e => e)
  have b5 := hkW.at S0.b5 (fun e => e)
  clear hkW hK S0
  have d0 := dc_0 b3
  have d1 := dc_1 b3
  have d2 := dc_2 b3
  have d3 := dc_3 b3
  have d4 := dc_4 b3
  have n0 : W.cell? ⟨w.heap.size + 1 + 1, 0, none⟩ = some (.int .i64 0) := by simp [World.cell?, b5]
  have r0 : W.cell? ⟨w.heap.size + 1, 0, none⟩ = some (.bool false) := by simp [World.cell?, b4]
  have r1 : W.frozen? ⟨w.heap.size + 1, 0, none⟩ = false := by simp [World.frozen?, b4]
  have B4 := Lib.hid b4
  have hq4 := fun (w : World) => eq_arr4 0 0 0 0 w
  clear b3 b4 b5
  go_wp2_with fail
  refine (counts_nil _).mono ?_
  rintro e w6 ⟨rfl, rfl⟩
  go_wp2_with fail
  go_region_held3 (fun w' => w'.cell? ⟨w.heap.size + 1 + 1, 0, none⟩ = some (.int .i64 0) ∧ w'.cell? ⟨w.heap.size, 0, none⟩ = some (.slice none 0 0) ∧ w'.cell? ⟨w.heap.size, 1, none⟩ = some (.int .i64 0) ∧ w'.cell? ⟨w.heap.size, 2, none⟩ = some (.int .i64 0) ∧ w'.cell? ⟨w.heap.size, 3, none⟩ = some (.int .i64 0) ∧ w'.cell? ⟨w.heap.size, 4, none⟩ = some (.int .i64 0))
    (first | exact ⟨n0, d0, d1, d2, d3, d4⟩ | exact ⟨(World.cell?_setCell_other W _ _ _ (fun e => by injection e with e; omega)).trans n0, (World.cell?_setCell_other W _ _ _ (fun e => by injection e with e; omega)).trans d0, (World.cell?_setCell_other W _ _ _ (fun e => by injection e with e; omega)).trans d1, (World.cell?_setCell_other W _ _ _ (fun e => by injection e with e; omega)).trans d2, (World.cell?_setCell_other W _ _ _ (fun e => by injection e with e; omega)).trans d3, (World.cell?_setCell_other W _ _ _ (fun e => by injection e with e; omega)).trans d4⟩)
    (first
    | (go_at_call 12; refine (len_nil _).mono ?_; rintro e w' ⟨rfl, rfl⟩))
  go_wp2_with fail
  have hK' : (W.setCell ⟨w.heap.size + 1, 0, none⟩ (.bool true)).drew.heap[w.heap.size + 4]? = some (.deferred (some [])) := blk_drew (blk_skip KD.out (by omega) 0 _)
  have hr0 : (W.setCell ⟨w.heap.size + 1, 0, none⟩ (.bool true)).drew.heap[w.heap.size + 1]? = some (.cells #[.bool true] 4 (0, 0)) := blk_drew (blk_set B4.out 0 _)
  refine ⟨by simp, .inl ⟨_, _, rfl, run_takeDeferred (by exact hK'), ?_⟩⟩
  have hK2 : Keep (One (w.heap.size + 4)) (W.setCell ⟨w.heap.size + 1, 0, none⟩ (.bool true)).drew ((W.setCell ⟨w.heap.size + 1, 0, none⟩ (.bool true)).drew.putObj (w.heap.size + 4) (.deferred none)) := (Keep.refl (One (w.heap.size + 4)) _).putObj (.inl (one_self _)) _
  have hr2 := hK2.at hr0 (fun h => by unfold One at h; omega)
  have hc5 : ((W.setCell ⟨w.heap.size + 1, 0, none⟩ (.bool true)).drew.putObj (w.heap.size + 4) (.deferred none)).cell? ⟨w.heap.size + 1, 0, none⟩ = some (.bool true) := by simp [World.cell?, hr2]
  refine ⟨.bool true, by simp [results, Try.results17, go_sem, hc5], rfl, ?_⟩
  exact ((K0.out.setCell (p := ⟨w.heap.size + 1, 0, none⟩) (.inr (by simp)) _).drew).trans hK2 (fun _ _ h => h) (fun i hi h => by unfold One at h; show False; omega)

end Go.Proofs.Ytggnkcpnbnpbhaa
