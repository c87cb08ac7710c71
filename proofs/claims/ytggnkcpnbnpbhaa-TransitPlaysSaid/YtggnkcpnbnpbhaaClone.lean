/- slices.Clone of bytes, walked: the same bytes, in new memory. -/
import Derived.Test.YtggnkcpnbnpbhaaSl
namespace Go.Proofs.Ytggnkcpnbnpbhaa
open Go.RowKit

theorem infoU8 : (Try.prog.info? 5).map (fun i => (i.zero, i.size, i.bytes)) = some (some (.int .u8 0), 1, 1) := by kernel_rfl

set_option maxHeartbeats 400000 in
theorem clone_nil (cap : Nat) (w : World) : Calls Try.prog 21 #[.slice none 0 cap] w fun e w' => e = .returned (.slice none 0 0) ∧ w = w' := by
  have hq := fun (w : World) => Lib.run_eql_slice_nil (P := Try.prog) w 26 5 none 0 cap 0 0 Try.underlying26
  go_enter Try.func21, Try.ntmps21
  go_wp2
  go_ret
  exact ⟨rfl, rfl⟩

/-- What a clone is: the same bytes, in new memory. -/
def Cloned (w : World) (l : List UInt8) (e : Ending) (w' : World) : Prop :=
  ∃ v', e = .returned v' ∧ Keep Non w w' ∧ Bs w' v' l ∧ ∀ g, v'.ownBlock = some g → w.heap.size ≤ g ∧ g < w'.heap.size

set_option maxHeartbeats 400000 in
theorem clone_some (a : Addr) (c : Nat) (l : List UInt8) (w : World) (h : Bs w (.slice (some a) l.length c) l) (hlen : l.length ≤ 140737488355328) :
    Calls Try.prog 21 #[.slice (some a) l.length c] w (Cloned w l) := by
  have hq := fun (w : World) => Lib.run_eql_slice_nil (P := Try.prog) w 26 5 (some a) l.length c 0 0 Try.underlying26
  obtain ⟨i0, hi, hz0, hz1, hz2⟩ := info_parts infoU8
  have h' : Bs (w.alloc (.cells #[] 5)) (.slice (some a) l.length c) l := by
    obtain ⟨a', cap', e1, hx⟩ := h
    refine ⟨a', cap', e1, fun hne => ?_⟩
    obtain ⟨g, off, e2, hc⟩ := hx hne
    exact ⟨g, off, e2, fun j u hu => (World.cell?_alloc_lt _ _ _ (World.block_lt_of_cell? _ _ (hc j u hu))).trans (hc j u hu)⟩
  have hnews := (Rd.news h' rfl).2
  have HN := Lib.hid hnews
  have HL := Lib.hid hlen
  have hown : Hid ((w.alloc (.cells #[] 5)).ownsRow w.heap.size 5 1 (.slice (some ⟨w.heap.size, 0, none⟩) 0 0) 0 []) := World.ownsRow_made w #[] 0 (Nat.le_refl _) (by decide) rfl
  clear hnews h h' hlen
  go_enter Try.func21, Try.ntmps21
  go_wp2_with (at_builtin; refine wpList_append_prov rfl _ _ 26 rfl w.heap.size 5 i0 (.int .u8 0) 1 1 Try.underlying26 hi hz0 hz1 hz2 rfl (by decide) _ _ _ rfl hown.out a l.length c (l.map bv) rfl (by simp) HN.out (oneCell_bytes l) (by have := HL.out; unfold maxLen; omega) (by have := HL.out; omega) (by simp) ?_; intro v' w' ho hg hp; have HO := Lib.hid ho; have HP := Lib.hid hp; clear ho hp)
  go_ret
  have hk : Keep Non w w' := by
    have := ((Keep.refl Non w).alloc (.cells #[] 5)).trans ((Keep.refl (One w.heap.size) _).grown hg (row := some w.heap.size) (fun k e => .inl (by injection e with e; exact e.symm))) (U := Non) (fun _ _ h => h) (fun i hi h => by unfold One at h; omega)
    exact this
  have hr := Rd.ofOwns HO.out
  rw [List.nil_append] at hr
  refine ⟨v', rfl, hk, hr, fun g e => ?_⟩
  have := HO.out.lt g e
  omega

theorem clone_any (v : Value) (l : List UInt8) (w : World) (h : Bs w v l) (hlen : l.length ≤ 140737488355328) : Calls Try.prog 21 #[v] w (Cloned w l) := by
  have h0 := h
  obtain ⟨a, cap, rfl, hx⟩ := h
  rw [List.length_map] at h0 ⊢
  cases a with
  | none =>
    have hl : l = [] := by
      cases l with
      | nil => rfl
      | cons c l =>
        obtain ⟨g, off, e, _⟩ := hx (by simp)
        cases e
    subst hl
    refine (clone_nil cap w).mono ?_
    rintro e w' ⟨rfl, rfl⟩
    exact ⟨_, rfl, Keep.refl _ _, Rd.nil _, fun g e => by simp [Value.ownBlock] at e⟩
  | some a => exact clone_some a cap l w h0 hlen

end Go.Proofs.Ytggnkcpnbnpbhaa
