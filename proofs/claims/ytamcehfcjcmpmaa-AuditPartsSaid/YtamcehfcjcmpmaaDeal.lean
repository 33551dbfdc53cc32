/- Blocks one behind the other, dealt out among four lists: what Parted finds. Plain facts; no program is named. -/
import Derived.Test.YtamcehfcjcmpmaaRm
namespace Go.Proofs.Ytamcehfcjcmpmaa
open Go.RowKit

/-- the j-th block -/
def blockAt (cls : List Int) (j : Nat) : Taken := ⟨2 + 8 * (j : Int), low (cls.getD j 0) 4⟩
/-- the list that it is dealt to, from 0 on -/
def kind (deal : List Int) (j : Nat) : Nat := if j < deal.length then (low (deal.getD j 0) 4).toNat else 0
theorem kind_lt (deal : List Int) (j : Nat) : kind deal j < 4 := by
  have := low_lo (deal.getD j 0) 4 (by omega)
  have := low_hi (deal.getD j 0) 4 (by omega)
  unfold kind
  split <;> omega
def dealt (cls deal : List Int) : Nat → Nat → List Taken
  | 0 => fun _ => []
  | n + 1 => upd (upd (dealt cls deal n) 0 (dealt cls deal n 0 ++ [blockAt cls n])) (kind deal n + 1) (dealt cls deal n (kind deal n + 1) ++ [blockAt cls n])
theorem dealt_zero (cls deal : List Int) : ∀ n, dealt cls deal n 0 = (List.range n).map (blockAt cls)
  | 0 => rfl
  | n + 1 => by
    rw [dealt, upd, if_neg (by omega), upd, if_pos rfl, dealt_zero cls deal n, List.range_succ, List.map_append]
    rfl
theorem dealt_len (cls deal : List Int) : ∀ n q, (dealt cls deal n q).length ≤ n
  | 0, _ => Nat.le_refl _
  | n + 1, q => by
    have h0 := dealt_len cls deal n 0
    have h1 := dealt_len cls deal n (kind deal n + 1)
    have h2 := dealt_len cls deal n q
    simp only [dealt, upd]
    split
    · simp; omega
    · split
      · simp; omega
      · omega
theorem dealt_mem (cls deal : List Int) : ∀ n q, ∀ x ∈ dealt cls deal n q, ∃ j, j < n ∧ x = blockAt cls j
  | 0, q, x, h => by simp [dealt] at h
  | n + 1, q, x, h => by
    have go : ∀ q, x ∈ dealt cls deal n q ++ [blockAt cls n] → ∃ j, j < n + 1 ∧ x = blockAt cls j := fun q h => by
      rcases List.mem_append.1 h with h | h
      · obtain ⟨j, hj, hx⟩ := dealt_mem cls deal n q x h
        exact ⟨j, by omega, hx⟩
      · exact ⟨n, by omega, by simpa using h⟩
    simp only [dealt, upd] at h
    split at h
    · exact go _ h
    · split at h
      · exact go _ h
      · obtain ⟨j, hj, hx⟩ := dealt_mem cls deal n q x h
        exact ⟨j, by omega, hx⟩
theorem bal4 (l : Nat → List Taken) (x : Taken) : bal l 4 x = ((l 0).count x : Int) - ((l 1).count x : Int) - ((l 2).count x : Int) - ((l 3).count x : Int) - ((l 4).count x : Int) := rfl
theorem dealt_bal (cls deal : List Int) (x : Taken) : ∀ n, bal (dealt cls deal n) 4 x = 0
  | 0 => by rw [bal4]; simp [dealt]
  | n + 1 => by
    have ih := dealt_bal cls deal x n
    rw [bal4] at ih ⊢
    have hk := kind_lt deal n
    simp only [dealt]
    obtain ⟨k, hkk⟩ : ∃ k, k = kind deal n := ⟨_, rfl⟩
    rw [← hkk] at hk ⊢
    rcases (by omega : k = 0 ∨ k = 1 ∨ k = 2 ∨ k = 3) with rfl | rfl | rfl | rfl
    all_goals
      simp [upd, List.count_append]
      omega
theorem meet_apart (cls : List Int) {i j : Nat} (hji : j < i) (hi : i ≤ 1000) : meetB (blockAt cls i) (blockAt cls j) = false := by
  have h1 := span_hi (low (cls.getD j 0) 4)
  unfold meetB blockAt
  dsimp only
  split
  · rfl
  · rw [if_pos (by omega), IntKind.wrap_u64, IntKind.wrap_u64, IntKind.wrap_u64]
    exact decide_eq_false (by omega)
theorem dealt_apart (cls deal : List Int) {n : Nat} (hn : n ≤ 1000) : overlapB (dealt cls deal n 0) = false := by
  refine overlap_no (Nat.le_refl _) fun i j hi hj _ => ?_
  have hl := dealt_len cls deal n 0
  simp only [dealt_zero, List.getElem_map, List.getElem_range]
  exact meet_apart cls hj (by omega)
theorem block_inr (cls : List Int) {j : Nat} (hj : j ≤ 1000) : InR (blockAt cls j) := by
  have h1 := low_lo (cls.getD j 0) 4 (by omega)
  have h2 := low_hi (cls.getD j 0) 4 (by omega)
  exact key_ok _ (WalkArith.wf_i64 (by unfold blockAt; dsimp only; omega)) (WalkArith.wf_i64 (by unfold blockAt; dsimp only; omega))
theorem dealt_inr (cls deal : List Int) {n : Nat} (hn : n ≤ 1000) (q : Nat) : ∀ x ∈ dealt cls deal n q, InR x := fun x hx => by
  obtain ⟨j, hj, rfl⟩ := dealt_mem cls deal n q x hx
  exact block_inr cls (by omega)
theorem more_bal (l : Nat → List Taken) (x : Taken) : bal (upd l 4 (l 4 ++ [x])) 4 x = bal l 4 x - 1 := by
  rw [bal4, bal4]
  simp [upd, List.count_append]
  omega
theorem less_bal (l : Nat → List Taken) {k : Nat} (hk : k < (l 0).length) : bal (upd l 0 ((l 0).take k ++ (l 0).drop (k + 1))) 4 (l 0)[k] = bal l 4 (l 0)[k] - 1 := by
  have h : (l 0).count (l 0)[k] = ((l 0).take k ++ (l 0)[k] :: (l 0).drop (k + 1)).count (l 0)[k] := by
    congr 1
    rw [List.getElem_cons_drop]
    exact (List.take_append_drop k (l 0)).symm
  rw [List.count_append, List.count_cons_self] at h
  rw [bal4, bal4, h]
  simp [upd, List.count_append]
  omega
end Go.Proofs.Ytamcehfcjcmpmaa
