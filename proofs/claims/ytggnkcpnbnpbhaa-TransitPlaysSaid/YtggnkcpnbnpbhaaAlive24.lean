/- The fixed fact at each law's head: the chapter's example. -/
import Derived.Test.YtggnkcpnbnpbhaaDeliver
import Derived.Test.YtggnkcpnbnpbhaaBytes
namespace Go.Proofs.Ytggnkcpnbnpbhaa
open Go.RowKit

theorem bs_one (w : World) (c : UInt8) : Bs (w.alloc (.cells #[.int .u8 c.toNat] 5 (1, 2))) (.slice (some ⟨w.heap.size, 0, none⟩) 1 1) [c] := by
  refine ⟨_, 1, rfl, fun _ => ⟨w.heap.size, 0, rfl, fun j u hu => ?_⟩⟩
  cases j with
  | zero =>
    simp at hu
    subst hu
    have h := blk_new w (.cells #[.int .u8 c.toNat] 5 (1, 2))
    have h' := (Array.getElem?_eq_some_iff.1 h).2
    simp [World.cell?, h', bv]
  | succ j => simp at hu

theorem conv_lit (w : World) (x : Value) : (convert 26 26 (.slice (some ⟨w.heap.size, 0, none⟩) 1 1)).run Try.prog (w.alloc (.cells #[x] 5)) = .ok (.slice (some ⟨w.heap.size, 0, none⟩) 1 1) (w.alloc (.cells #[x] 5 (1, 2))) := by
  have h := blk_new w (.cells #[x] 5)
  have h' := (Array.getElem?_eq_some_iff.1 h).2
  simp [convert, run_underlying Try.underlying26, run_underlying Try.underlying5, markStringish, go_sem, World.shape?, h', freeze]
  show Result.ok _ ((w.alloc (.cells #[x] 5)).freeze ⟨w.heap.size, 1, none⟩ 1) = _
  congr 1
  have e : ((w.heap.push (.cells #[x] 5)).modify w.heap.size fun
      | .cells c elem (lo, hi) => .cells c elem (if lo == hi then (1, 1 + 1) else (min lo 1, max hi (1 + 1)))
      | o => o) = w.heap.push (.cells #[x] 5 (1, 2)) := by
    apply Array.ext
    · simp
    · intro i h1 h2
      simp only [Array.getElem_modify, Array.getElem_push]
      split
      · next hh =>
        subst hh
        simp
      · next hh =>
        have : i < w.heap.size := by simp at h2; omega
        simp [this]
  show ({ (w.alloc (.cells #[x] 5)) with heap := _ } : World) = _
  exact congrArg (fun hp => ({ w with heap := hp } : World)) e

set_option maxHeartbeats 800000 in
theorem alive_true (w : World) : Calls Try.prog 6 #[] w fun e w' => e = .returned (.bool true) ∧ Keep Non w w' := by
  have hcv := conv_lit
  go_enter Try.func6, Try.ntmps6
  go_wp2_with fail
  refine (new_line _).mono ?_
  rintro e w1 ⟨p, rfl, hp, hk1, hl1⟩
  have L1 := Lib.hid hl1.tight
  clear hl1
  go_wp2_with fail
  refine (send_ok _ p _ [] _ [97] _ (L1.out.keep ((Keep.refl Non _).alloc _) (fun _ _ e => e)) (bs_one w1 97) (by decide) (by decide) (by decide) (by decide)).mono ?_
  rintro e w2 ⟨rfl, hk2, hl2⟩
  have L2 := Lib.hid hl2.tight
  clear hl2
  go_wp2_with fail
  refine (send_ok _ p _ ([] ++ [[97]]) _ [98] _ (L2.out.keep ((Keep.refl Non _).alloc _) (fun _ _ e => e)) (bs_one w2 98) (by decide) (by decide) (by decide) (by decide)).mono ?_
  rintro e w3 ⟨rfl, hk3, hl3⟩
  have L3 := Lib.hid hl3.tight
  clear hl3
  go_wp2_with fail
  refine (deliver_yes _ p _ _ 1 [98] _ L3.out rfl (by decide) (by decide) (by decide) (by decide)).mono ?_
  rintro e w4 ⟨v4, rfl, hk4, hl4, hb4, hf4⟩
  have L4 := Lib.hid hl4
  have B4 := Lib.hid hb4
  clear hl4 hb4
  go_wp2_with fail
  refine (deliver_yes _ p _ _ 0 [97] _ L4.out rfl (by decide) (by decide) (by decide) (by decide)).mono ?_
  rintro e w5 ⟨v5, rfl, hk5, hl5, hb5, hf5⟩
  have B5 := Lib.hid hb5
  clear hl5 hb5
  have c5 := conv_bs w5 v5 [97] B5.out
  have c4 := conv_bs w5 v4 [98] (B4.out.keep hk5 (fun g e e2 => by
    have h1 := hf4 g e
    have h2 := e2.2
    omega))
  go_wp2_with fail
  go_ret
  refine ⟨by simp [go_sem], ?_⟩
  have s1 := hk1.size
  have s2 := hk2.size
  have s3 := hk3.size
  simp only [World.size_alloc] at s2 s3
  refine ((((((hk1.alloc _).trans hk2 (fun _ _ h => h) ?_).alloc _).trans hk3 (fun _ _ h => h) ?_).trans hk4 (fun _ _ h => h) ?_).trans hk5 (fun _ _ h => h) ?_)
  all_goals
    intro i hi h
    try simp only [Fx, World.size_alloc] at h
    show False
    omega

end Go.Proofs.Ytggnkcpnbnpbhaa
