/- One mark of a row of the call's own set anew. No program is walked. -/
import Derived.Test.YtamcehfcjcmpmaaGreatDoorZfr
namespace Go.Proofs.YtamcehfcjcmpmaaGreatDoor
open Go.RowKit

theorem flat_bit (l : List Bool) : l.flatMap bit = l.map Value.bool := by
  induction l with
  | nil => rfl
  | cons a l ih => rw [List.flatMap_cons, ih]; rfl
theorem Own.setBit {w : World} {lo b off c : Nat} {l : List Bool} (h : Own bit 4 1 w lo (some ⟨b, off, none⟩) c l) {i : Nat} (hi : i < l.length) (v : Bool) : Own bit 4 1 (w.setCell ⟨b, off + i, none⟩ (.bool v)) lo (some ⟨b, off, none⟩) c (l.set i v) := by
  obtain ⟨h1, h2, h3⟩ := h
  refine ⟨by rw [List.length_set]; exact h1, h2, ?_⟩
  rcases h3 with h3 | ⟨b', off', cur, e, hlo, hh, hs, hc⟩
  · exact .inl h3
  · cases e
    refine .inr ⟨b, off, cur.setIfInBounds (off + i) (.bool v), rfl, hlo, heap_setCell_same _ b (off + i) _ _ (.bool v) hh, by rw [Array.size_setIfInBounds]; exact hs, fun j u hu => ?_⟩
    rw [flat_bit, List.getElem?_map, List.getElem?_set] at hu
    rw [Array.getElem?_setIfInBounds]
    by_cases hj : i = j
    · subst hj
      rw [if_pos rfl, if_pos hi] at hu
      rw [if_pos rfl, if_pos (by omega)]
      simpa using hu
    · rw [if_neg hj] at hu
      rw [if_neg (by omega)]
      refine hc j u ?_
      rw [flat_bit, List.getElem?_map]
      exact hu
/-- what is set done is done -/
theorem DoneIs.set {L : List Item} {d : Nat} {ds : List Bool} (h : DoneIs L d ds) {k : Nat} (_hk : k < L.length) : DoneIs L (d ||| 1 <<< k) (ds.set k true) := by
  refine ⟨by rw [List.length_set]; exact h.1, fun j hj => ?_⟩
  rw [List.length_set] at hj
  rw [List.getElem_set, testBit_set]
  by_cases e : k = j
  · subst e
    simp
  · rw [if_neg e, h.2 j hj]
    simp [Ne.symm e]
end Go.Proofs.YtamcehfcjcmpmaaGreatDoor
