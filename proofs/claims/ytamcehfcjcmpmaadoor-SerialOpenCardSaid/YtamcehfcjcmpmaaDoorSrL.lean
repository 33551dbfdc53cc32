/- Rows that go by the stories' own order; what no row can begin with. Plain facts; no program is walked. -/
import Derived.Test.YtamcehfcjcmpmaaDoorFrP
namespace Go.Proofs.YtamcehfcjcmpmaaDoor
open Go.RowKit

/-- what the first k make of a store, one behind the other -/
def runTo (L : List Item) (S : Shelf) : Nat → Shelf
  | 0 => S
  | k + 1 => if h : k < L.length then L[k].next (runTo L S k) else runTo L S k
theorem runTo_succ {L : List Item} {S : Shelf} {k : Nat} (h : k < L.length) : runTo L S (k + 1) = L[k].next (runTo L S k) := by rw [runTo, dif_pos h]
def bitsTo : Nat → Nat
  | 0 => 0
  | k + 1 => bitsTo k ||| 1 <<< k
theorem bitsTo_bit : ∀ k j, (bitsTo k).testBit j = decide (j < k)
  | 0, j => by simp [bitsTo]
  | k + 1, j => by
    rw [bitsTo, testBit_set, bitsTo_bit k j]
    by_cases h : j < k
    · simp [h]; omega
    · by_cases h2 : j = k
      · simp [h2]
      · have : ¬ j < k + 1 := by omega
        simp [h, h2, this]
theorem must_done {d must : Nat} (h : ∀ i, must.testBit i = true → d.testBit i = true) : d &&& must = must := by
  apply Nat.eq_of_testBit_eq
  intro i
  rw [Nat.testBit_and]
  cases hm : must.testBit i with
  | false => simp
  | true => simp [h i hm]
theorem done_must {d must : Nat} (h : d &&& must = must) (i : Nat) (hi : must.testBit i = true) : d.testBit i = true := by
  have := congrArg (fun x => x.testBit i) h
  simp only [Nat.testBit_and, hi, Bool.and_true] at this
  exact this
theorem leads_inorder {L : List Item} {must : Nat} {S : Shelf} (hm : ∀ i, must.testBit i = true → i < L.length) (hf : ∀ i j (hi : i < L.length) (hj : j < L.length), i < j → befB L[j].s L[i].s = false)
    (hok : ∀ i (hi : i < L.length), L[i].ok (runTo L S i) = true) : Leads L must 0 S := by
  have key : ∀ m k, k + m = L.length → Leads L must (bitsTo k) (runTo L S k) := by
    intro m
    induction m with
    | zero =>
      intro k hk
      exact ⟨[], .fin (must_done fun i hi => by rw [bitsTo_bit]; have := hm i hi; simp; omega)⟩
    | succ m ih =>
      intro k hk
      have hlt : k < L.length := by omega
      obtain ⟨R, hR⟩ := ih (k + 1) (by omega)
      rw [runTo_succ hlt] at hR
      refine ⟨k :: R, .step hlt ⟨hlt, by rw [bitsTo_bit]; simp, fun j hj hne hb => hf k j hlt hj ?_⟩ (hok k hlt) hR⟩
      rw [bitsTo_bit] at hb
      simp at hb
      omega
  exact key L.length 0 (by omega)
theorem leads_fin {L : List Item} {must d : Nat} {S : Shelf} (h : d &&& must = must) : Leads L must d S := ⟨[], .fin h⟩
theorem leads_step {L : List Item} {must d : Nat} {S : Shelf} {i : Nat} (h : LeadsBy L must d S i) : Leads L must d S := leads_iff.2 (.inr ⟨i, h⟩)
end Go.Proofs.YtamcehfcjcmpmaaDoor
