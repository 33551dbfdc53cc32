/- fuseelaw0.Low: a number, from 0 to below another. -/
import Derived.Test.YtamcehfcjcmpmaaDoorRows
import Derived.Test.YtamcehfcjcmpmaaDoorBase
import Derived.Deep.QuietTactic
import Derived.BigQuiet
namespace Go.Proofs.YtamcehfcjcmpmaaDoor
open Go.RowKit

/-- a number, from 0 to below n -/
def low (x n : Int) : Int := IntKind.u64.wrap x % n
theorem low_lo (x n : Int) (hn : 1 ≤ n) : 0 ≤ low x n := Int.emod_nonneg _ (by omega)
theorem low_hi (x n : Int) (hn : 1 ≤ n) : low x n < n := Int.emod_lt_of_pos _ (by omega)
theorem low_eq (x n : Int) (hn : 1 ≤ n) (hm : n ≤ 9223372036854775807) : wrap64 ((IntKind.u64.wrap x).tmod n) = low x n := by
  have h0 : 0 ≤ IntKind.u64.wrap x := by rw [IntKind.wrap_u64]; omega
  have h1 := low_lo x n hn
  have h2 := low_hi x n hn
  rw [Int.tmod_eq_emod_of_nonneg h0]
  exact Go.IntWalk.wrap64_in _ ⟨by unfold low at *; omega, by unfold low at *; omega⟩
theorem low_any (x n : Int) (hn : 1 ≤ n) (hm : n ≤ 9223372036854775807) (w : World) :
    Calls Tryd.prog 15 #[.int .i64 x, .int .i64 n] w fun e w' => e = .returned (.int .i64 (low x n)) ∧ w = w' := by
  go_enter Tryd.func15, Tryd.ntmps15
  go_wp2
  go_ret
  exact ⟨ret_int (low_eq x n hn hm), rfl⟩
end Go.Proofs.YtamcehfcjcmpmaaDoor
