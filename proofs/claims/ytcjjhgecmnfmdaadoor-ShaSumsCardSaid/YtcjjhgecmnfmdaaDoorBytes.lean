/- holdfastnum.Bytes, walked: the same bytes? -/
import Derived.Test.YtcjjhgecmnfmdaaDoorSl
namespace Go.Proofs.YtcjjhgecmnfmdaaDoor
open Go.RowKit

theorem conv_bs (w : World) (v : Value) (l : List UInt8) (h : Bs w v l) : (convert 22 9 v).run Tryd.prog w = .ok (.string ⟨l.toArray⟩) w :=
  conv_bytes h 22 9 5 Tryd.underlying22 Tryd.underlying5 Tryd.underlying9

set_option maxHeartbeats 400000 in
theorem bytes_same (a b : Value) (l : List UInt8) (w : World) (ha : Bs w a l) (hb : Bs w b l) : Calls Tryd.prog 14 #[a, b] w fun e w' => e = .returned (.bool true) ∧ w = w' := by
  have c1 := conv_bs w a l ha
  have c2 := conv_bs w b l hb
  clear ha hb
  go_enter Tryd.func14, Tryd.ntmps14
  go_wp2
  go_ret
  exact ⟨ret_bool (by simp), rfl⟩

end Go.Proofs.YtcjjhgecmnfmdaaDoor
