/- slices.Delete of one message, walked: the messages behind it move up, the last place is cleared. -/
import Derived.Test.YtggnkcpnbnpbhaaLine
import Derived.Test.YtggnkcpnbnpbhaaAdd
import Derived.Deep.RegionLaw
namespace Go.Proofs.Ytggnkcpnbnpbhaa
open Go.RowKit

/-- An array with values written over it, from a place on. -/
def over (cs : Array Value) : Nat → List Value → Array Value
  | _, [] => cs
  | o, v :: r => over (cs.setIfInBounds o v) (o + 1) r

theorem over_size : ∀ (vs : List Value) (cs : Array Value) (o : Nat), (over cs o vs).size = cs.size
  | [], _, _ => rfl
  | v :: r, cs, o => by rw [over, over_size r]; simp

theorem over_get : ∀ (vs : List Value) (cs : Array Value) (o k : Nat), o + vs.length ≤ cs.size → (over cs o vs)[k]? = if o ≤ k ∧ k < o + vs.length then vs[k - o]? else cs[k]?
  | [], cs, o, k, _ => by simp [over]; omega
  | v :: r, cs, o, k, h => by
    simp only [List.length_cons] at h
    rw [over, over_get r _ _ _ (by simp; omega)]
    by_cases h1 : k = o
    · subst h1
      rw [if_neg (by omega), if_pos (by simp)]
      simp [show k < cs.size by omega]
    · by_cases h2 : o + 1 ≤ k ∧ k < o + 1 + r.length
      · rw [if_pos h2, if_pos (by simp only [List.length_cons]; omega)]
        rw [show k - o = (k - (o + 1)) + 1 by omega]
        rfl
      · rw [if_neg h2, if_neg (by simp only [List.length_cons]; omega)]
        rw [Array.getElem?_setIfInBounds]
        rw [if_neg (by omega)]

theorem blk_over : ∀ (vs : List Value) (w : World) (g o : Nat) (cs : Array Value) (t : TypeId) (fr : Nat × Nat), w.heap[g]? = some (.cells cs t fr) → (w.setCells g o vs).heap[g]? = some (.cells (over cs o vs) t fr)
  | [], _, _, _, _, _, _, h => h
  | v :: r, _, g, o, _, t, fr, h => blk_over r _ g (o + 1) _ t fr (blk_set h o v)

theorem Keep.setCells {S : Nat → Prop} {a : World} : ∀ (vs : List Value) (w : World) (g o : Nat), Keep S a w → (S g ∨ a.heap.size ≤ g) → Keep S a (w.setCells g o vs)
  | [], _, _, _, h, _ => h
  | v :: r, _, g, o, h, hg => Keep.setCells r _ g (o + 1) (h.setCell (p := ⟨g, o, none⟩) hg v) hg

theorem zeroBs (w : World) : (zeroValue 26).run Try.prog w = .ok (.slice none 0 0) w := by kernel_rfl

theorem clear_one (g k c : Nat) (ty : TypeId) (u : Value) (W : World) (hc : W.cell? ⟨g, k, none⟩ = some u) (hf : W.frozen? ⟨g, k, none⟩ = false) :
    (Builtin.clear_ #[22] ty #[.slice (some ⟨g, k, none⟩) 1 c]).run Try.prog W = .ok (.tuple #[]) (W.setCell ⟨g, k, none⟩ (.slice none 0 0)) := by
  have hz := zeroBs
  simp [Builtin.clear_, run_underlying Try.underlying22, hz, Builtin.zeroCells, storeCells, go_sem, hc, hf]

set_option maxHeartbeats 1600000 in
set_option maxRecDepth 1000000 in
theorem del_walk (g n cap i : Nat) (cur : Array Value) (w : World) (hg : w.heap[g]? = some (.cells cur 26 (0, 0))) (hs : cur.size = cap) (hi : i < n) (hl : n ≤ cap) (hm : cap ≤ 9223372036854775807) (h1 : ∀ u ∈ cur.toList.take n, u.oneCell' = true) :
    Calls Try.prog 33 #[.slice (some ⟨g, 0, none⟩) n cap, .int .i64 i, .int .i64 (i + 1)] w fun e w' => e = .returned (.slice (some ⟨g, 0, none⟩) (n - 1) cap) ∧ w' = (w.drew.setCells g i ((cur.toList.take n).drop (i + 1))).setCell ⟨g, n - 1, none⟩ (.slice none 0 0) := by
  obtain ⟨i0, hi0, hz0, hz1, hz2⟩ := info_parts infoBs
  have hcell : ∀ j, j < cap → w.cell? ⟨g, j, none⟩ = some (cur.getD j undef) ∧ w.frozen? ⟨g, j, none⟩ = false := by
    intro j hj
    simp [World.cell?, World.frozen?, hg, Array.getD, show j < cur.size by omega]
  have hml : ((cur.toList.take n).drop (i + 1)).length = n - (i + 1) := by simp; omega
  obtain ⟨A, hA, hnews⟩ : ∃ A : Addr, (if cap = i + 1 then some (⟨g, 0, none⟩ : Addr) else some ⟨g, i + 1, none⟩) = some A ∧ Hid (∀ j u, ((cur.toList.take n).drop (i + 1))[j]? = some u → w.drew.cell? (A.add j) = some u) := by
    by_cases h : cap = i + 1
    · refine ⟨⟨g, 0, none⟩, by simp [h], fun j u hu => ?_⟩
      have := (List.getElem?_eq_some_iff.1 hu).1
      omega
    · refine ⟨⟨g, i + 1, none⟩, by simp [h], fun j u hu => ?_⟩
      have hj := (List.getElem?_eq_some_iff.1 hu).1
      rw [List.getElem?_drop, List.getElem?_take, if_pos (by omega)] at hu
      rw [add_off]
      show w.cell? _ = _
      rw [(hcell (i + 1 + j) (by omega)).1]
      simp at hu
      simp [Array.getD, show i + 1 + j < cur.size by omega]
      obtain ⟨_, e⟩ := Array.getElem?_eq_some_iff.1 hu
      exact e
  have s1 : Hid (((cur.toList.take n).drop (i + 1)).length = (n - (i + 1)) * 1) := by rw [Nat.mul_one]; exact hml
  have s2 : Hid (∀ u ∈ (cur.toList.take n).drop (i + 1), u.oneCell' = true) := fun u hu => h1 u (List.mem_of_mem_drop hu)
  have s3 : Hid (∀ j, j < ((cur.toList.take n).drop (i + 1)).length → (w.drew.cell? ⟨g, 0 + i * 1 + j, none⟩).isSome = true ∧ w.drew.frozen? ⟨g, 0 + i * 1 + j, none⟩ = false) := by
    intro j hj
    rw [hml] at hj
    have := hcell (0 + i * 1 + j) (by omega)
    exact ⟨by show (w.cell? _).isSome = true; rw [this.1]; rfl, this.2⟩
  have hbk := blk_over ((cur.toList.take n).drop (i + 1)) w.drew g i cur 26 (0, 0) hg
  have z1 : Hid ((w.drew.setCells g i ((cur.toList.take n).drop (i + 1))).cell? ⟨g, n - 1, none⟩ = some ((over cur i ((cur.toList.take n).drop (i + 1))).getD (n - 1) undef)) := by
    show World.cell? _ _ = _
    have hsz := over_size ((cur.toList.take n).drop (i + 1)) cur i
    simp [World.cell?, hbk, Array.getD, show n - 1 < (over cur i ((cur.toList.take n).drop (i + 1))).size by omega]
  have z2 : Hid ((w.drew.setCells g i ((cur.toList.take n).drop (i + 1))).frozen? ⟨g, n - 1, none⟩ = false) := by
    show World.frozen? _ _ = _
    simp [World.frozen?, hbk]
  have hic : i ≤ cap := by omega
  have hwr : IntKind.i64.wrap ((i : Int) + 1) = (i : Int) + 1 := by rw [IntKind.wrap_i64]; omega
  have hp0 : (0 : Int) ≤ (i : Int) + 1 := by omega
  have hp1 : (i : Int) + 1 ≤ (n : Int) := by omega
  have hp2 : ((i : Int) + 1).toNat = i + 1 := by omega
  have hne : ((i : Int) == (i : Int) + 1) = false := by simp; omega
  have hz := zeroBs
  clear hcell hbk hg hs h1
  generalize ((cur.toList.take n).drop (i + 1)) = mv at *
  go_enter Try.func33, Try.ntmps33
  go_wp2_with fail
  go_region_law (refine step_append_room rfl (.tmp 22) (.tmp 25) 22 rfl 26 i0 1 Try.underlying22 hi0 hz1 g 0 i cap (by simp [Act.eval, Act.put]) A (n - (i + 1)) (cap - (i + 1)) mv (by simp [Act.eval, Act.put]) s1.out hnews.out s2.out (by omega) s3.out ?_)
  have e1 : i + (n - (i + 1)) = n - 1 := by omega
  have e2 : n - (n - 1) = 1 := by omega
  have hcl : (Builtin.clear_ #[22] 0 #[.slice (some ⟨g, i + (n - (i + 1)), none⟩) (n - (i + (n - (i + 1)))) (cap - (i + (n - (i + 1))))]).run Try.prog (w.drew.setCells g i mv) = .ok (.tuple #[]) ((w.drew.setCells g i mv).setCell ⟨g, n - 1, none⟩ (.slice none 0 0)) := by
    rw [e1, e2]
    exact clear_one g (n - 1) _ 0 _ _ z1.out z2.out
  have E1 := Lib.hid e1
  clear e1 e2
  go_wp2
  go_ret
  exact ⟨congrArg (fun m => Ending.returned (Value.slice (some ⟨g, 0, none⟩) m cap)) E1.out, rfl⟩

end Go.Proofs.Ytggnkcpnbnpbhaa
