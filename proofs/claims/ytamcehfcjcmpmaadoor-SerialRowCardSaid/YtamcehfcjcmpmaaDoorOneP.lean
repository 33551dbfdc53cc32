/- Stories of calls that were done one behind the other. Plain facts; no program is walked. -/
import Derived.Test.YtamcehfcjcmpmaaDoorSrU
namespace Go.Proofs.YtamcehfcjcmpmaaDoor
open Go.RowKit

/-- a story that was done in the k-th place, from such a store, and began and ended about that time -/
structure OneI (S : Shelf) (k : Nat) (x : Item) : Prop where
  kind : kindB x.s.c.kind = true
  code : x.s.code = 0
  ok : x.ok S = true
  bg0 : 100 * (k : Int) + 2 ≤ x.s.bg
  bg1 : x.s.bg ≤ 100 * ((k : Int) + 1)
  en : 100 * ((k : Int) + 1) + 50 ≤ x.s.en
def OneL (S0 : Shelf) (ys : List Item) : Prop := ∀ i (h : i < ys.length), OneI (runTo ys S0 i) i ys[i]
theorem runTo_append {ys : List Item} {S0 : Shelf} (y : Item) : ∀ {i : Nat}, i ≤ ys.length → runTo (ys ++ [y]) S0 i = runTo ys S0 i
  | 0, _ => rfl
  | i + 1, h => by
    rw [runTo_succ (show i < (ys ++ [y]).length by simp; omega), runTo_succ (show i < ys.length by omega), runTo_append y (by omega), List.getElem_append_left (by omega)]
theorem runTo_snoc (ys : List Item) (S0 : Shelf) (y : Item) : runTo (ys ++ [y]) S0 (ys.length + 1) = y.next (runTo ys S0 ys.length) := by
  rw [runTo_succ (by simp), runTo_append y (Nat.le_refl _)]
  simp
theorem OneL.nil (S0 : Shelf) : OneL S0 [] := fun i h => absurd h (by simp)
theorem OneL.snoc {S0 : Shelf} {ys : List Item} {y : Item} (h : OneL S0 ys) (hy : OneI (runTo ys S0 ys.length) ys.length y) : OneL S0 (ys ++ [y]) := fun i hi => by
  rw [List.length_append] at hi
  simp only [List.length_cons, List.length_nil] at hi
  rcases (by omega : i < ys.length ∨ i = ys.length) with h1 | rfl
  · rw [runTo_append y (by omega), List.getElem_append_left h1]
    exact h i h1
  · rw [runTo_append y (Nat.le_refl _)]
    simpa using hy
theorem OneL.counts {S0 : Shelf} {ys : List Item} (h : OneL S0 ys) : picks ys = ys := by
  unfold picks
  rw [List.filter_eq_self]
  intro x hx
  obtain ⟨i, hi, rfl⟩ := List.getElem_of_mem hx
  have h1 := h i hi
  unfold countsB
  rw [h1.kind, h1.code]
  simp
theorem OneL.may {S0 : Shelf} {ys : List Item} (h : OneL S0 ys) : MayS (stories ys) := fun i hi _ => by
  have hl : (stories ys).length = ys.length := by simp [stories]
  have hg : ∀ j (h : j < (stories ys).length), (stories ys)[j] = (ys[j]'(by omega)).s := fun j h => by simp [stories]
  have h1 := h i (by omega)
  have b0 := h1.bg0
  have b1 := h1.bg1
  have b2 := h1.en
  refine ⟨by rw [hg]; omega, fun j hj => ?_, .inr (by rw [hg]; omega)⟩
  subst hj
  rw [hg, hg]
  have h2 := (h j (by omega)).bg1
  omega
theorem OneL.legal {S0 : Shelf} {ys : List Item} (h : OneL S0 ys) : LegalS ys S0 := by
  intro must hm
  rw [h.counts] at hm ⊢
  refine leads_inorder (must_mbit hm) (fun i j hi hj hij => ?_) fun i hi => (h i hi).ok
  have h1 := (h i hi).bg1
  have h2 := (h j hj).en
  unfold befB
  rw [decide_eq_false (p := ys[j].s.en < ys[i].s.bg) (by omega), Bool.and_false]
theorem kindB_good {c : Call0} {g : List Call0} (h : goodI c g = 0) (h6 : c.kind ≠ 6) (h8 : c.kind ≠ 8) : kindB c.kind = true := by
  obtain ⟨-, hs⟩ := goodI_long h
  unfold shapeB at hs
  split at hs
  · cases hs
  · rename_i hk
    have : c.kind = 1 ∨ c.kind = 2 ∨ c.kind = 3 ∨ c.kind = 4 ∨ c.kind = 5 ∨ c.kind = 7 := by omega
    unfold kindB
    rcases this with h | h | h | h | h | h <;> rw [h] <;> rfl
/-- what was answered is answered -/
theorem ok_self {x : Item} {S : Shelf} (hg : goodI x.s.c x.g = 0) (h1 : x.s.fd = (apA x.s.c x.g S).found) (h2 : x.s.vl = (apA x.s.c x.g S).value) (h3 : x.hs = (apA x.s.c x.g S).hits) : x.ok S = true := by
  unfold Item.ok answeredB
  rw [apA_code, hg, ← h1, ← h2, ← h3]
  simp
theorem Small.run {S0 : Shelf} {ys : List Item} (h : Small S0 0) : ∀ {k : Nat}, k ≤ ys.length → Small (runTo ys S0 k) k
  | 0, _ => h
  | k + 1, hk => by
    rw [runTo_succ (show k < ys.length by omega)]
    exact (Small.run h (by omega)).next
theorem may_run {S0 : Shelf} {ys : List Item} (h : mayB S0.pairs = true) : ∀ {k : Nat}, k ≤ ys.length → mayB (runTo ys S0 k).pairs = true
  | 0, _ => h
  | k + 1, hk => by
    rw [runTo_succ (show k < ys.length by omega)]
    exact mayB_apS (may_run h (by omega))
end Go.Proofs.YtamcehfcjcmpmaaDoor
