/- Small words: memory that is what it was, and new; errors. · Names: of files, of objects: walked. -/
import Derived.Shelf.Strings.SlTrimAscii
import Derived.Test.YtobjlgfjfpmceaaGreatDoorQ01
import Derived.Test.YtobjlgfjfpmceaaGreatDoorQ05
set_option linter.unusedVariables false
set_option maxRecDepth 100000
set_option maxHeartbeats 16000000
namespace Go.Proofs.YtobjlgfjfpmceaaGreatDoor
open Go.RowKit
theorem errv_no {c : Int} (h : c ≠ 0) : errv c = .iface 45 (.int .i64 c) := if_neg h
theorem errv_ok {c : Int} (h : c = 0) : errv c = .nilIface := if_pos h
def Sub (F' F : Nat → Prop) (w : World) : Prop := ∀ g, F' g → F g ∨ w.heap.size ≤ g
theorem Sub.refl (F : Nat → Prop) (w : World) : Sub F F w := fun _ h => .inl h
theorem Sub.trans {F F' F'' : Nat → Prop} {w w' : World} (h : Sub F' F w) (k : Sub F'' F' w') (hw : w.heap.size ≤ w'.heap.size) : Sub F'' F w := fun g e => by
  rcases k g e with e | e
  · exact h g e
  · exact .inr (by omega)
theorem keep_sub {F F' : Nat → Prop} {w w' w'' : World} (h : Keep F w w') (s : Sub F' F w) (k : Keep F' w' w'') : Keep F w w'' :=
  h.trans k (fun _ _ e => e) (fun i hi e => by rcases s i e with e | e; exact e; omega)
end Go.Proofs.YtobjlgfjfpmceaaGreatDoor
namespace Go.Proofs.YtobjlgfjfpmceaaGreatDoor
open Go.RowKit Go.Maps
def signsL : List UInt8 := [97, 98, 99, 100, 101, 102, 103, 104, 105, 106, 107, 108, 109, 110, 111, 112, 113, 114, 115, 116, 117, 118, 119, 120, 121, 122, 48, 49, 50, 51, 52, 53, 54, 55, 56, 57, 45, 46, 126]
def okName (n : Byt) : Prop := 1 ≤ n.length ∧ n.length ≤ 24 ∧ ∀ c ∈ n, c ∈ signsL
theorem dropWhile_all (p : UInt8 → Bool) : ∀ l : List UInt8, (∀ c ∈ l, p c = true) → l.dropWhile p = []
  | [], _ => rfl
  | x :: r, h => by rw [List.dropWhile_cons_of_pos (h x (by simp))]; exact dropWhile_all p r (fun c hc => h c (by simp [hc]))
theorem trimS_all (n cs : List UInt8) (h : ∀ c ∈ n, c ∈ cs) : Lib.trimS n cs = [] := by
  unfold Lib.trimS Lib.trimRightS
  rw [dropWhile_all _ n.reverse (fun c hc => by simpa using h c (by simpa using hc))]
  rfl
theorem trim_signs (n : Byt) (w : World) (hn : n.length ≤ 1000) (h : ∀ c ∈ n, c ∈ signsL) :
    Calls Tryz.prog 177 #[.string ⟨n.toArray⟩, .string ⟨signsL.toArray⟩] w fun e w' => e = .returned (.string ⟨#[]⟩) ∧ Keep Non w w' := by
  refine (Any.strings_Trim_laid Tryz.lays160 (by kernel_rfl) ⟨n.toArray⟩ ⟨signsL.toArray⟩ w (by show n.toArray.size ≤ _; simp; omega) (by decide) (ascii_of_all (by decide))).mono ?_
  rintro e w' ⟨rfl, hb⟩
  refine ⟨?_, Keep.ofBelow hb⟩
  have : Lib.trimS (⟨n.toArray⟩ : ByteArray).data.toList (⟨signsL.toArray⟩ : ByteArray).data.toList = [] := by
    show Lib.trimS n.toArray.toList signsL.toArray.toList = []
    rw [List.toList_toArray, List.toList_toArray]
    exact trimS_all n signsL h
  rw [this]
theorem named_ok (n : Byt) (w : World) (h : okName n) :
    Calls Tryz.prog 117 #[sv n] w fun e w' => e = .returned (.bool true) ∧ Keep Non w w' := by
  obtain ⟨h1, h2, h3⟩ := h
  have TR := Lib.hid (trim_signs n w (by omega) h3)
  have TRd := Lib.hid (trim_signs n w.drew (by omega) h3)
  have hs : (⟨n.toArray⟩ : ByteArray).size = n.length := by show n.toArray.size = _; simp
  unfold sv
  go_enter Tryz.func117, Tryz.ntmps117
  go_wp2_with (go_at_call 177; refine TR.out.mono ?_; rintro e w1 ⟨rfl, k1⟩; have K1 := Lib.hid k1; clear k1)
  go_ret
  exact ⟨rfl, K1.out⟩
end Go.Proofs.YtobjlgfjfpmceaaGreatDoor
