/-
  Two arrays of six counts are compared.
-/
import Derived.Test.YtfegglolblglpaaW11
import Derived.ChangeKeysEq
namespace Go.Proofs.Ytfegglolblglpaa
open Go.RowKit

theorem Try.under41 : Try.prog.underlying 41 = some (.array 6 25) := by kernel_rfl
theorem Try.under25r : Try.prog.underlying 25 = some (.int .u64) := by kernel_rfl
theorem Try.cells25r : Try.prog.cellsOf 25 = 1 := by kernel_rfl

theorem eq6 (w : World) (a b c d e f a' b' c' d' e' f' : Int) :
    (Op.equalIn 10000 41 (.agg #[.int .u64 a, .int .u64 b, .int .u64 c, .int .u64 d, .int .u64 e, .int .u64 f]) (.agg #[.int .u64 a', .int .u64 b', .int .u64 c', .int .u64 d', .int .u64 e', .int .u64 f'])).run Try.prog w
      = .ok (a == a' && b == b' && c == c' && d == d' && e == e' && f == f') w := by
  obtain ⟨j0, hj, hy0, hy1, hy2⟩ := info_parts Try.info25
  have h : ∀ q : Nat, (Op.equalIn (q + 2) 41 (.agg #[.int .u64 a, .int .u64 b, .int .u64 c, .int .u64 d, .int .u64 e, .int .u64 f]) (.agg #[.int .u64 a', .int .u64 b', .int .u64 c', .int .u64 d', .int .u64 e', .int .u64 f'])).run Try.prog w
      = .ok (a == a' && b == b' && c == c' && d == d' && e == e' && f == f') w := by
    intro q
    rw [run_equalIn_array w (q + 1) _ _ Try.under41 hj]
    simp [Op.eqItems, List.range_succ, part, Try.cells25r, run_equalIn_int, typeInfo, hj, hy1, sizeOf]
    repeat' split
    all_goals simp_all
  exact h 9998

/-- Do the first six agree? -/
def agree (u v : Nat → Int) : Bool := u 0 == v 0 && u 1 == v 1 && u 2 == v 2 && u 3 == v 3 && u 4 == v 4 && u 5 == v 5
theorem agree_of {u v : Nat → Int} (h : ∀ k, k < 6 → u k = v k) : agree u v = true := by
  simp [agree, h 0 (by decide), h 1 (by decide), h 2 (by decide), h 3 (by decide), h 4 (by decide), h 5 (by decide)]
theorem eq6_agree (w : World) (u v : Nat → Int) :
    (Op.equalIn 10000 41 (.agg #[.int .u64 (u 0), .int .u64 (u 1), .int .u64 (u 2), .int .u64 (u 3), .int .u64 (u 4), .int .u64 (u 5)]) (.agg #[.int .u64 (v 0), .int .u64 (v 1), .int .u64 (v 2), .int .u64 (v 3), .int .u64 (v 4), .int .u64 (v 5)])).run Try.prog w
      = .ok (agree u v) w := eq6 w _ _ _ _ _ _ _ _ _ _ _ _

end Go.Proofs.Ytfegglolblglpaa
