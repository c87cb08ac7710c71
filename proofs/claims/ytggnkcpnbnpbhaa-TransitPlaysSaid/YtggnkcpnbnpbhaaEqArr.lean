/- Two arrays of four numbers that are the same, compared. -/
import Derived.Test.YtggnkcpnbnpbhaaBase
namespace Go.Proofs.Ytggnkcpnbnpbhaa
open Go.RowKit

theorem info48 : (Try.prog.info? 2).map (fun i => (i.zero, i.size, i.bytes)) = some (some (.int .i64 0), 1, 8) := by kernel_rfl

theorem eq_arr4 (a b c d : Int) (w : World) : (Op.equalIn 10000 48 (.agg #[.int .i64 a, .int .i64 b, .int .i64 c, .int .i64 d]) (.agg #[.int .i64 a, .int .i64 b, .int .i64 c, .int .i64 d])).run Try.prog w = .ok true w := by
  obtain ⟨i0, hi, hz0, hz1, hz2⟩ := info_parts info48
  have hq : ∀ (x : Int) (w : World), (Op.equalIn 9999 2 (.int .i64 x) (.int .i64 x)).run Try.prog w = .ok true w := fun x w => by
    have := run_equalIn_int (P := Try.prog) w 9998 2 .i64 .i64 x x Try.underlying2
    simpa using this
  have hg : ∀ (w : World), (isAgg 2).run Try.prog w = .ok false w := fun w => by simp [isAgg, run_underlying Try.underlying2]
  have e : (10000 : Nat) = 9999 + 1 := rfl
  rw [e]
  unfold Op.equalIn
  simp [run_underlying Try.underlying48, sizeOf, typeInfo, hi, hz1, go_sem, List.range', hg, hq]

end Go.Proofs.Ytggnkcpnbnpbhaa
