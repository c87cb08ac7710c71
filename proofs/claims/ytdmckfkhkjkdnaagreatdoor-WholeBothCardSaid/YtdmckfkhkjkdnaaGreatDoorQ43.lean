/- slices.Equal at parts, cursor.Same: walked. · export.load, (*Export).Cursor: walked. -/
import Derived.Test.YtdmckfkhkjkdnaaGreatDoorQ29
import Derived.Test.YtdmckfkhkjkdnaaGreatDoorQ33
set_option linter.unusedVariables false
set_option maxRecDepth 100000
set_option maxHeartbeats 16000000
namespace Go.Proofs.YtdmckfkhkjkdnaaGreatDoor
open Go.RowKit Go.Maps
section
attribute [local go_sem ↓] hV41 hV190 hV102 hW41 hW190 hW102 hB190 hB102
end
def CuZ : Obj := .cells #[.int .i64 0, .int .i64 0, .int .i64 0, .int .i64 0, .slice none 0 0] 170 (0, 0)
theorem cuz_new (w : World) : (w.alloc CuZ).heap[w.heap.size]? = some (CuB ⟨0, 0, 0, 0, []⟩ (.slice none 0 0)) := blk_new w CuZ
theorem xload_none (F : Nat → Prop) (b lb q p : Nat) (lv : Value) (X : Dk) (w : World) (hb : w.heap[b]? = some (VtB q lv)) (d : StoreAt F w q p X) (hd : X.down = false) (hh : fhas X.shown cname = false) :
    Calls Tryz.prog 73 #[.pointer (some ⟨b, 0, none⟩), .pointer (some ⟨lb, 0, none⟩)] w fun e w' => e = .returned (.tuple #[.agg #[.int .i64 0, .int .i64 0, .int .i64 0, .int .i64 0, .slice none 0 0], .bool false, .nilIface]) ∧ Keep Non w w' := by
  have kA : Keep Non w (w.alloc CuZ) := (Keep.refl _ _).alloc _
  have ST := Lib.hid (vstore_ok b q lv (w.alloc CuZ) (nonAt kA hb))
  have LD := Lib.hid (cuload_none F q p cname X (w.alloc CuZ) (d.keep kA (fun _ _ e => e)) cname_ok hd hh)
  have KA := Lib.hid kA
  have BA := Lib.hid (cuz_new w)
  clear hb d kA
  unfold sv cname at LD
  dsimp only [CuZ] at LD ST
  go_enter Tryz.func73, Tryz.ntmps73
  go_wp2_with (first
    | (go_at_call 77; ((with_reducible refine ST.out.mono ?_); rintro e w1 ⟨rfl, rfl⟩))
    | (go_at_call 140; ((with_reducible refine LD.out.mono ?_); rintro e w2 ⟨rfl, k2⟩); have b2 := nonAt (w := w.alloc CuZ) k2 BA.out; have B2 := Lib.hid b2; have K2 := Lib.hid (KA.out.trans1 k2); have i0' := cu_0 b2; have i1' := cu_1 b2; have i2' := cu_2 b2; have i3' := cu_3 b2; have i4' := cu_4 b2; have j0' := cu_f b2 0; have j1' := cu_f b2 1; have j2' := cu_f b2 2; have j3' := cu_f b2 3; have j4' := cu_f b2 4; clear k2 b2))
  obtain ⟨r0, r1, r2, r3, r4, kf⟩ := cu_five B2.out (.int .i64 0) (.int .i64 0) (.int .i64 0) (.int .i64 0) (.slice none 0 0) _ rfl
  refine bodyPost_ret (v := .tuple #[.agg #[.int .i64 0, .int .i64 0, .int .i64 0, .int .i64 0, .slice none 0 0], .bool false, .nilIface]) (by simp [results, Tryz.results73, go_sem, r0, r1, r2, r3, r4]) rfl ?_
  exact ⟨rfl, K2.out.trans kf (fun _ _ e => e) (fun g hg e => by have e' : g = w.heap.size := e; omega)⟩
end Go.Proofs.YtdmckfkhkjkdnaaGreatDoor
