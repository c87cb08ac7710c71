/- The fixed fact at each statement's head: the chapter's example; walked. -/
import Derived.Test.YtcjjhgecmnfmdaaDoorShaNat
import Derived.Lib.SlBytesConst
namespace Go.Proofs.YtcjjhgecmnfmdaaDoor
open Go.RowKit Go.Shelf
set_option linter.unusedVariables false

set_option maxRecDepth 100000 in
set_option maxHeartbeats 800000 in
theorem alive_any (w : World) (hk : Kon w) (hf : Frs w) :
    Calls Tryd.prog 7 #[] w fun e w' => e = .returned (.bool true) ∧ Keep Non w w' := by
  have HK := Lib.hid hk
  have HF := Lib.hid hf
  clear hk hf
  have kc := fun (w : World) (C : Array Value) (n c : Nat) => Lib.run_convert_bytes_const (P := Tryd.prog) w 22 5 C n c Tryd.underlying22 Tryd.underlying5
  go_enter Tryd.func7, Tryd.ntmps7
  go_wp2_with fail
  clear kc
  have k1 : Keep Non w (w.alloc (.cells #[.int .u8 97, .int .u8 98, .int .u8 99] 5 (3, 4))) := (Keep.refl _ _).alloc _
  have hb : Bs (w.alloc (.cells #[.int .u8 97, .int .u8 98, .int .u8 99] 5 (3, 4))) (.slice (some ⟨w.heap.size, 0, none⟩) abcL.length 3) abcL := by
    refine ⟨_, 3, rfl, fun _ => ⟨w.heap.size, 0, rfl, fun j u hu => ?_⟩⟩
    rw [Nat.zero_add, cell_of_row _ _ j _ _ _ (blk_new w _)]
    have e : (#[.int .u8 97, .int .u8 98, .int .u8 99] : Array Value) = (abcL.map bv).toArray := rfl
    rw [e]
    simpa using hu
  refine (sum_any abcL _ 3 _ hb (HK.out.keep k1) (HF.out.keep k1) (by decide)).mono ?_
  rintro e w2 ⟨rfl, k2⟩
  have K2 := Lib.hid (k1.trans1 k2)
  clear k1 k2 hb
  go_wp2_with fail
  refine (hex_any _ (digB_len _) _).mono ?_
  rintro e w3 ⟨rfl, k3⟩
  have K3 := Lib.hid (K2.out.trans1 k3)
  rw [hex_abc, show (⟨abcHex.toArray⟩ : ByteArray) = ⟨#[98, 97, 55, 56, 49, 54, 98, 102, 56, 102, 48, 49, 99, 102, 101, 97, 52, 49, 52, 49, 52, 48, 100, 101, 53, 100, 97, 101, 50, 50, 50, 51, 98, 48, 48, 51, 54, 49, 97, 51, 57, 54, 49, 55, 55, 97, 57, 99, 98, 52, 49, 48, 102, 102, 54, 49, 102, 50, 48, 48, 49, 53, 97, 100]⟩ from rfl]
  clear k3
  go_wp2_with fail
  go_ret
  exact ⟨rfl, K3.out⟩

end Go.Proofs.YtcjjhgecmnfmdaaDoor
