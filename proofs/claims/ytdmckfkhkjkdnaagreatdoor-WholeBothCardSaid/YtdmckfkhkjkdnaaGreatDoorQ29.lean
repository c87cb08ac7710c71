/- cursor.Take: walked (printed by wip/cutake.py). -/
import Derived.Test.YtdmckfkhkjkdnaaGreatDoorQ21
import Derived.Test.YtdmckfkhkjkdnaaGreatDoorQ22
set_option linter.unusedVariables false
set_option maxRecDepth 100000
set_option maxHeartbeats 16000000
namespace Go.Proofs.YtdmckfkhkjkdnaaGreatDoor
open Go.RowKit Go.Maps
section
variable {F : Nat → Prop} {W0 W : World} {q tb rb n : Nat} {r rest : List UInt8} {A : Option Nat}
theorem ct_sets {cb : Nat} (h : W.heap[cb]? = some (CuB ⟨0, 0, 0, 0, []⟩ (.slice none 0 0))) (a b c d : Nat) :
    W.cell? ⟨cb, 0, none⟩ = some (.int .i64 ((0 : Nat) : Int)) ∧ (W.setCell ⟨cb, 0, none⟩ (.int .i64 a)).cell? ⟨cb, 1, none⟩ = some (.int .i64 ((0 : Nat) : Int)) ∧ ((W.setCell ⟨cb, 0, none⟩ (.int .i64 a)).setCell ⟨cb, 1, none⟩ (.int .i64 b)).cell? ⟨cb, 2, none⟩ = some (.int .i64 ((0 : Nat) : Int)) ∧ (((W.setCell ⟨cb, 0, none⟩ (.int .i64 a)).setCell ⟨cb, 1, none⟩ (.int .i64 b)).setCell ⟨cb, 2, none⟩ (.int .i64 c)).cell? ⟨cb, 3, none⟩ = some (.int .i64 ((0 : Nat) : Int)) ∧ ((((W.setCell ⟨cb, 0, none⟩ (.int .i64 a)).setCell ⟨cb, 1, none⟩ (.int .i64 b)).setCell ⟨cb, 2, none⟩ (.int .i64 c)).setCell ⟨cb, 3, none⟩ (.int .i64 d)).cell? ⟨cb, 4, none⟩ = some (.slice none 0 0) ∧
    W.frozen? ⟨cb, 0, none⟩ = false ∧ (W.setCell ⟨cb, 0, none⟩ (.int .i64 a)).frozen? ⟨cb, 1, none⟩ = false ∧ ((W.setCell ⟨cb, 0, none⟩ (.int .i64 a)).setCell ⟨cb, 1, none⟩ (.int .i64 b)).frozen? ⟨cb, 2, none⟩ = false ∧ (((W.setCell ⟨cb, 0, none⟩ (.int .i64 a)).setCell ⟨cb, 1, none⟩ (.int .i64 b)).setCell ⟨cb, 2, none⟩ (.int .i64 c)).frozen? ⟨cb, 3, none⟩ = false ∧ ((((W.setCell ⟨cb, 0, none⟩ (.int .i64 a)).setCell ⟨cb, 1, none⟩ (.int .i64 b)).setCell ⟨cb, 2, none⟩ (.int .i64 c)).setCell ⟨cb, 3, none⟩ (.int .i64 d)).frozen? ⟨cb, 4, none⟩ = false := by
  have h1 : (W.setCell ⟨cb, 0, none⟩ (.int .i64 a)).heap[cb]? = some (CuB ⟨a, 0, 0, 0, []⟩ (.slice none 0 0)) := blk_set h 0 _
  have h2 : ((W.setCell ⟨cb, 0, none⟩ (.int .i64 a)).setCell ⟨cb, 1, none⟩ (.int .i64 b)).heap[cb]? = some (CuB ⟨a, b, 0, 0, []⟩ (.slice none 0 0)) := blk_set h1 1 _
  have h3 : (((W.setCell ⟨cb, 0, none⟩ (.int .i64 a)).setCell ⟨cb, 1, none⟩ (.int .i64 b)).setCell ⟨cb, 2, none⟩ (.int .i64 c)).heap[cb]? = some (CuB ⟨a, b, c, 0, []⟩ (.slice none 0 0)) := blk_set h2 2 _
  have h4 : ((((W.setCell ⟨cb, 0, none⟩ (.int .i64 a)).setCell ⟨cb, 1, none⟩ (.int .i64 b)).setCell ⟨cb, 2, none⟩ (.int .i64 c)).setCell ⟨cb, 3, none⟩ (.int .i64 d)).heap[cb]? = some (CuB ⟨a, b, c, d, []⟩ (.slice none 0 0)) := blk_set h3 3 _
  exact ⟨cu_0 h, cu_1 h1, cu_2 h2, cu_3 h3, cu_4 h4, cu_f h 0, cu_f h1 1, cu_f h2 2, cu_f h3 3, cu_f h4 4⟩
end
section
attribute [local go_sem ↓] hV41 hV190 hV102 hW41 hW190 hW102 hB190 hB102 hBS100
end
end Go.Proofs.YtdmckfkhkjkdnaaGreatDoor
