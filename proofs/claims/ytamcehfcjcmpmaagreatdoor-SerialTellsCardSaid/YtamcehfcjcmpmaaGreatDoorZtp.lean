/- SerialTells: what the two answers have in common. No program is walked. -/
import Derived.Test.YtamcehfcjcmpmaaGreatDoorZgo
import Derived.Test.YtamcehfcjcmpmaaGreatDoorZeq
namespace Go.Proofs.YtamcehfcjcmpmaaGreatDoor
open Go.RowKit

/-- which must be in a row can always be told -/
theorem mustIs_some (l : List Story) : ∃ m, MustIs l m := by
  have h : ∀ n, ∃ m : Nat, ∀ i, m.testBit i = true ↔ i < n ∧ ∃ h : i < l.length, 0 ≤ l[i].en := fun n => by
    induction n with
    | zero => exact ⟨0, fun i => by simp⟩
    | succ n ih =>
      obtain ⟨m, hm⟩ := ih
      by_cases hp : ∃ h : n < l.length, 0 ≤ l[n].en
      · refine ⟨m ||| 1 <<< n, fun i => ?_⟩
        rw [testBit_set, Bool.or_eq_true, hm i, decide_eq_true_iff]
        constructor
        · rintro (⟨h1, h2⟩ | rfl)
          · exact ⟨by omega, h2⟩
          · exact ⟨by omega, hp⟩
        · rintro ⟨h1, h2⟩
          rcases (by omega : i < n ∨ i = n) with h3 | h3
          · exact .inl ⟨h3, h2⟩
          · exact .inr h3
      · refine ⟨m, fun i => ?_⟩
        rw [hm i]
        constructor
        · rintro ⟨h1, h2⟩
          exact ⟨by omega, h2⟩
        · rintro ⟨h1, h2⟩
          rcases (by omega : i < n ∨ i = n) with h3 | rfl
          · exact ⟨h3, h2⟩
          · exact absurd h2 hp
  obtain ⟨m, hm⟩ := h l.length
  exact ⟨m, fun i => (hm i).trans ⟨fun ⟨_, h⟩ => h, fun h => ⟨h.1, h⟩⟩⟩
/-- Legal's error -/
noncomputable def codeL (xs : List Item) (S : Shelf) : Int := by
  classical
  exact if mayB S.pairs = true ∧ MayS (stories xs) then (if (picks xs).length ≤ 12 then 0 else 11) else 1
theorem codeL_zero {xs : List Item} {S : Shelf} : codeL xs S = 0 ↔ (mayB S.pairs = true ∧ MayS (stories xs)) ∧ (picks xs).length ≤ 12 := by
  unfold codeL
  split
  · rename_i h
    split
    · rename_i h2
      exact ⟨fun _ => ⟨h, h2⟩, fun _ => rfl⟩
    · rename_i h2
      exact ⟨fun e => by omega, fun e => absurd e.2 h2⟩
  · rename_i h
    exact ⟨fun e => by omega, fun e => absurd e.1 h⟩
theorem codeL_yes {xs : List Item} {S : Shelf} (h : mayB S.pairs = true ∧ MayS (stories xs)) (h2 : (picks xs).length ≤ 12) : codeL xs S = 0 := codeL_zero.2 ⟨h, h2⟩
theorem codeL_many {xs : List Item} {S : Shelf} (h : mayB S.pairs = true ∧ MayS (stories xs)) (h2 : ¬ (picks xs).length ≤ 12) : codeL xs S = 11 := by
  unfold codeL
  rw [if_pos h, if_neg h2]
theorem codeL_not {xs : List Item} {S : Shelf} (h : ¬ (mayB S.pairs = true ∧ MayS (stories xs))) : codeL xs S = 1 := by
  unfold codeL
  rw [if_neg h]
theorem GivesLegal.tells {xs : List Item} {S : Shelf} {w w' : World} {e : Ending} (h : GivesLegal xs S w e w') : Below w.heap.size w w' ∧ ∃ r, e = .returned (.tuple #[.bool r, .int .i64 (codeL xs S)]) ∧ (r = true ↔ RowGood xs S) := by
  have hg := h.good
  obtain ⟨hb, r, code, rfl, h1, h2, h3⟩ := h
  obtain ⟨-, r', code', e', h4⟩ := hg
  cases e'
  refine ⟨hb, r, ?_, h4⟩
  by_cases hm : mayB S.pairs = true ∧ MayS (stories xs)
  · by_cases hp : (picks xs).length ≤ 12
    · rw [codeL_yes hm hp, (h3 hm hp).1]
    · rw [codeL_many hm hp, (h2 hm (by omega)).2]
  · rw [codeL_not hm, (h1 hm).2]
theorem may_self {l : List Story} (h : MayS l) : ∀ s ∈ l, befB s s = false := fun s hs => by
  obtain ⟨i, hi, rfl⟩ := List.getElem_of_mem hs
  obtain ⟨-, -, h3⟩ := h i hi hi
  unfold befB
  rw [Bool.and_eq_false_iff, decide_eq_false_iff_not, decide_eq_false_iff_not]
  omega
theorem picks_self {xs : List Item} (h : MayS (stories xs)) : ∀ x ∈ picks xs, befB x.s x.s = false := fun _ hx => may_self h _ (List.mem_map.2 ⟨_, picks_mem hx, rfl⟩)
/-- what the reference answered: the row, whether there is one, whether its search came to its end -/
def Tells (xs : List Item) (S : Shelf) (r : List Nat) (is whole : Bool) : Prop :=
  whole = true → (is = true → RowGood xs S ∧ ∃ must T, MustIs ((picks xs).map (·.s)) must ∧ Least (picks xs) must 0 S T ∧ r = told xs T) ∧ (is = false → ¬ RowGood xs S ∧ r = [])
theorem tells_none {xs : List Item} {S : Shelf} (h : ¬ codeL xs S = 0) : Tells xs S [] false true := fun _ => ⟨fun h => (by cases h), fun _ => ⟨fun hg => h (codeL_zero.2 ⟨hg.1, hg.2.1⟩), rfl⟩⟩
theorem tells_search {xs : List Item} {S : Shelf} {must : Nat} (hm : MustIs ((picks xs).map (·.s)) must) (h0 : codeL xs S = 0) {r : List Nat} {left : Nat} {ok : Bool} (h : 0 < left → (ok = true → ∃ T, Least (picks xs) must 0 S T ∧ r = [] ++ told xs T) ∧ (ok = false → ¬ Leads (picks xs) must 0 S ∧ r = [])) : Tells xs S r ok (decide (0 < left)) := fun hl => by
  obtain ⟨h1, h2⟩ := h (of_decide_eq_true hl)
  obtain ⟨hmay, h12⟩ := codeL_zero.1 h0
  refine ⟨fun he => ?_, fun he => ?_⟩
  · obtain ⟨T, h3, h4⟩ := h1 he
    exact ⟨⟨hmay, h12, (legalS_iff hm).2 h3.leads⟩, must, T, hm, h3, h4⟩
  · obtain ⟨h3, h4⟩ := h2 he
    exact ⟨fun hg => h3 ((legalS_iff hm).1 hg.2.2), h4⟩
/-- the row of the document is the reference's -/
theorem tells_row {xs : List Item} {S : Shelf} {r : List Nat} {is : Bool} (h : Tells xs S r is true) {w w' : World} {e : Ending} (hr : GivesRow xs S w e w') : Below w.heap.size w w' ∧ (is = true ↔ RowGood xs S) ∧ ∃ A c, e = .returned (.tuple #[.slice A r.length c, .bool is]) ∧ Own numE 3 1 w' w.heap.size A c r ∧ r.length ≤ 12 := by
  obtain ⟨h1, h2⟩ := h rfl
  obtain ⟨hb, h3⟩ := hr
  refine ⟨hb, ?_⟩
  cases is with
  | true =>
    obtain ⟨hg, m, T, hm, hl, rfl⟩ := h1 rfl
    refine ⟨⟨fun _ => hg, fun _ => rfl⟩, ?_⟩
    rcases h3 with ⟨-, h3⟩ | ⟨-, m', R, A, c, he, hown, hm', hl'⟩
    · exact absurd hg h3
    · obtain rfl := must_uniq hm hm'
      obtain rfl := least_uniq hl hl'
      refine ⟨A, c, he, hown, ?_⟩
      rw [told, List.length_map]
      refine Nat.le_trans (nodup_le (picks xs).length T ?_ fun i hi => ?_) hg.2.1
      · rw [List.nodup_iff_pairwise_ne, List.pairwise_iff_getElem]
        intro i j hi hj hij
        exact (path_each hl.path j hj).2.2.1 i hij
      · obtain ⟨n, hn, rfl⟩ := List.getElem_of_mem hi
        exact (path_each hl.path n hn).1
  | false =>
    obtain ⟨hg, rfl⟩ := h2 rfl
    refine ⟨⟨fun h => (by cases h), fun h => absurd h hg⟩, ?_⟩
    rcases h3 with ⟨rfl, -⟩ | ⟨h3, -⟩
    · exact ⟨none, 0, rfl, Own.none_, by simp⟩
    · exact absurd h3 hg
end Go.Proofs.YtamcehfcjcmpmaaGreatDoor
