/- A bit set in a number. Plain. -/
import Derived.Test.YtamcehfcjcmpmaaDoorBase
namespace Go.Proofs.YtamcehfcjcmpmaaDoor

theorem testBit_set (d i j : Nat) : (d ||| 1 <<< i).testBit j = (d.testBit j || decide (j = i)) := by
  rw [Nat.testBit_or, Nat.shiftLeft_eq, Nat.one_mul, Nat.testBit_two_pow]
  by_cases h : i = j
  · subst h; simp
  · have h' : j ≠ i := fun e => h e.symm
    simp [h, h']
end Go.Proofs.YtamcehfcjcmpmaaDoor
