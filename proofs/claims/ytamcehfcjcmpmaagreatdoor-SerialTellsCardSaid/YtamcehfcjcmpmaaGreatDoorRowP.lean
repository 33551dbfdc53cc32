/- What a row is, told by the stories' places. Plain facts; no program is walked. -/
import Derived.Test.YtamcehfcjcmpmaaGreatDoorSrU
namespace Go.Proofs.YtamcehfcjcmpmaaGreatDoor
open Go.RowKit

/-- the places of those that count -/
def places (xs : List Item) : List Nat := placesTo (stories xs) xs.length
theorem places_map (xs : List Item) : ∀ k, k ≤ xs.length → (placesTo (stories xs) k).map (fun i => xs[i]?) = ((xs.take k).filter fun x => countsB x.s).map some
  | 0, _ => rfl
  | k + 1, h => by
    have hk : k < (stories xs).length := by simp [stories]; omega
    have hg : (stories xs)[k] = xs[k].s := by simp [stories]
    rw [List.take_succ_eq_append_getElem (show k < xs.length by omega), List.filter_append, List.map_append, ← places_map xs k (by omega)]
    by_cases hc : countsB xs[k].s = true
    · rw [placesTo_yes hk (by rw [hg]; exact hc), List.map_append]
      simp [hc, List.getElem?_eq_getElem (show k < xs.length by omega)]
    · rw [placesTo_no hk (by rw [hg]; exact hc)]
      simp [hc]
theorem places_picks (xs : List Item) : (places xs).map (fun i => xs[i]?) = (picks xs).map some := by
  have := places_map xs xs.length (Nat.le_refl _)
  rw [List.take_length] at this
  exact this
theorem places_len (xs : List Item) : (places xs).length = (picks xs).length := by
  have := congrArg List.length (places_picks xs)
  simpa using this
theorem places_get (xs : List Item) {j : Nat} (h : j < (picks xs).length) : xs[(places xs).getD j 0]? = some (picks xs)[j] := by
  have h' : j < (places xs).length := by rw [places_len]; exact h
  have := congrArg (fun l => l[j]?) (places_picks xs)
  simp only [List.getElem?_map, List.getElem?_eq_getElem h', List.getElem?_eq_getElem h, Option.map_some] at this
  rw [List.getD_eq_getElem?_getD, List.getElem?_eq_getElem h']
  exact Option.some.inj this
theorem placesTo_lt (l : List Story) : ∀ k, ∀ x ∈ placesTo l k, x < k
  | 0, x, h => by simp [placesTo] at h
  | k + 1, x, h => by
    rw [placesTo] at h
    rcases List.mem_append.1 h with h1 | h1
    · have := placesTo_lt l k x h1; omega
    · split at h1
      · simp at h1; omega
      · simp at h1
theorem placesTo_pw (l : List Story) : ∀ k, (placesTo l k).Pairwise (· < ·)
  | 0 => .nil
  | k + 1 => by
    rw [placesTo, List.pairwise_append]
    refine ⟨placesTo_pw l k, by split <;> simp, fun a ha b hb => ?_⟩
    split at hb
    · simp at hb
      rw [hb]
      exact placesTo_lt l k a ha
    · simp at hb
theorem places_inj (xs : List Item) {i j : Nat} (hi : i < (picks xs).length) (hj : j < (picks xs).length) (h : (places xs).getD i 0 = (places xs).getD j 0) : i = j := by
  have hp := List.pairwise_iff_getElem.1 (placesTo_pw (stories xs) xs.length)
  have hi' : i < (places xs).length := by rw [places_len]; exact hi
  have hj' : j < (places xs).length := by rw [places_len]; exact hj
  have e1 : (places xs).getD i 0 = (places xs)[i] := by rw [List.getD_eq_getElem?_getD, List.getElem?_eq_getElem hi']; rfl
  have e2 : (places xs).getD j 0 = (places xs)[j] := by rw [List.getD_eq_getElem?_getD, List.getElem?_eq_getElem hj']; rfl
  rw [e1, e2] at h
  rcases Nat.lt_trichotomy i j with h1 | h1 | h1
  · have := hp i j hi' hj' h1
    unfold places at h
    omega
  · exact h1
  · have := hp j i hj' hi' h1
    unfold places at h
    omega
/-- a store behind a row -/
def runR (L : List Item) (S : Shelf) (R : List Nat) : Shelf := R.foldl (fun T i => match L[i]? with | some x => x.next T | none => T) S
theorem runR_snoc (L : List Item) (S : Shelf) (R : List Nat) (i : Nat) : runR L S (R ++ [i]) = (match L[i]? with | some x => x.next (runR L S R) | none => runR L S R) := by simp [runR, List.foldl_append]
theorem path_each {L : List Item} {must d : Nat} {S : Shelf} {R : List Nat} (h : Path L must d S R) : ∀ i (hi : i < R.length), ∃ hl : R[i] < L.length, d.testBit R[i] = false ∧ (∀ j (hj : j < i), R[j] ≠ R[i]) ∧ L[R[i]].ok (runR L S (R.take i)) = true ∧ ∀ j (hj : j < i) (hl' : R[j] < L.length), befB L[R[i]].s L[R[j]].s = false := by
  induction h with
  | fin _ => intro i hi; exact absurd hi (by simp)
  | @step d S i R hi hf hok _ ih =>
    intro n hn
    obtain ⟨_, hb, hfr⟩ := hf
    cases n with
    | zero => exact ⟨hi, hb, fun j hj => absurd hj (by omega), hok, fun j hj => absurd hj (by omega)⟩
    | succ n =>
      have hn' : n < R.length := by simpa using hn
      obtain ⟨hl, h1, h2, h3, h4⟩ := ih n hn'
      rw [testBit_set, Bool.or_eq_false_iff] at h1
      have hne : R[n] ≠ i := by simpa using h1.2
      refine ⟨hl, h1.1, fun j hj => ?_, ?_, fun j hj hl' => ?_⟩
      · cases j with
        | zero => exact fun e => hne e.symm
        | succ j => exact h2 j (by omega)
      · have e : runR L S (List.take (n + 1) (i :: R)) = runR L (L[i].next S) (List.take n R) := by simp [runR, List.getElem?_eq_getElem hi]
        rw [e]
        exact h3
      · cases j with
        | zero => exact hfr _ hl hne h1.1
        | succ j => exact h4 j (by omega) hl'
theorem path_must {L : List Item} {must d : Nat} {S : Shelf} {R : List Nat} (h : Path L must d S R) : ∀ m, must.testBit m = true → d.testBit m = true ∨ m ∈ R := by
  induction h with
  | fin h => intro m hm; exact .inl (done_must h m hm)
  | @step d S i R hi hf hok _ ih =>
    intro m hm
    rcases ih m hm with h | h
    · rw [testBit_set, Bool.or_eq_true, decide_eq_true_iff] at h
      rcases h with h | rfl
      · exact .inl h
      · exact .inr (by simp)
    · exact .inr (by simp [h])
theorem nodup_le : ∀ (n : Nat) (R : List Nat), R.Nodup → (∀ x ∈ R, x < n) → R.length ≤ n
  | 0, R, _, h => by
    cases R with
    | nil => simp
    | cons a R => exact absurd (h a (by simp)) (by omega)
  | n + 1, R, hn, h => by
    have h1 := nodup_le n (R.erase n) (hn.erase n) fun x hx => by
      have h2 := h x (List.mem_of_mem_erase hx)
      have h3 : x ≠ n := fun e => by subst e; exact hn.not_mem_erase hx
      omega
    have h2 := List.length_erase (a := n) (l := R)
    split at h2 <;> omega
/-- a row, told by places -/
structure RowX (xs : List Item) (S : Shelf) (r : List Nat) : Prop where
  lt : ∀ i (h : i < r.length), r[i] < xs.length
  counts : ∀ i (h : i < r.length) (h' : r[i] < xs.length), countsB xs[r[i]].s = true
  ne : ∀ i (h : i < r.length) j (hj : j < i), r[j] ≠ r[i]
  bef : ∀ i (h : i < r.length) j (hj : j < i) (h1 : r[i] < xs.length) (h2 : r[j] < xs.length), befB xs[r[i]].s xs[r[j]].s = false
  ok : ∀ i (h : i < r.length) (h' : r[i] < xs.length), xs[r[i]].ok (runR xs S (r.take i)) = true
  all : ∀ k (h : k < xs.length), countsB xs[k].s = true → 0 ≤ xs[k].s.en → k ∈ r
  len : r.length ≤ (picks xs).length
def told (xs : List Item) (R : List Nat) : List Nat := R.map fun i => (places xs).getD i 0
theorem runR_told (xs : List Item) (_S : Shelf) : ∀ (R : List Nat) (S : Shelf), (∀ i ∈ R, i < (picks xs).length) → runR xs S (told xs R) = runR (picks xs) S R
  | [], _, _ => rfl
  | i :: R, S, h => by
    have hi := h i (by simp)
    have := runR_told xs S R ((picks xs)[i].next S) fun j hj => h j (by simp [hj])
    simp only [told, List.map_cons, runR, List.foldl_cons] at this ⊢
    rw [places_get xs hi, List.getElem?_eq_getElem hi]
    exact this
theorem rowX_of_path {xs : List Item} {must : Nat} {S : Shelf} {R : List Nat} (hm : MustIs ((picks xs).map (·.s)) must) (h : Path (picks xs) must 0 S R) : RowX xs S (told xs R) := by
  have hE := path_each h
  have hlt : ∀ i ∈ R, i < (picks xs).length := fun i hi => by
    obtain ⟨n, hn, rfl⟩ := List.getElem_of_mem hi
    exact (hE n hn).1
  have hlen : (told xs R).length = R.length := by simp [told]
  have hget : ∀ i (hi : i < (told xs R).length), (told xs R)[i] = (places xs).getD (R[i]'(by omega)) 0 := fun i hi => by simp [told]
  have hx : ∀ i (hi : i < (told xs R).length), ∃ (h' : (told xs R)[i] < xs.length) (h2 : R[i]'(by omega) < (picks xs).length), xs[(told xs R)[i]] = (picks xs)[R[i]'(by omega)] := fun i hi => by
    have h2 := (hE i (by omega)).1
    have h3 := places_get xs h2
    rw [← hget i hi] at h3
    obtain ⟨h4, h5⟩ := List.getElem?_eq_some_iff.1 h3
    exact ⟨h4, h2, h5⟩
  refine ⟨fun i hi => (hx i hi).1, fun i hi h' => ?_, fun i hi j hj => ?_, fun i hi j hj h1 h2 => ?_, fun i hi h' => ?_, fun k hk hc he => ?_, ?_⟩
  · obtain ⟨_, h2, e⟩ := hx i hi
    rw [e]
    exact (List.mem_filter.1 (List.getElem_mem h2)).2
  · intro e
    rw [hget i hi, hget j (by omega)] at e
    exact (hE i (by omega)).2.2.1 j hj (places_inj xs (hE j (by omega)).1 (hE i (by omega)).1 e)
  · obtain ⟨_, h3, e1⟩ := hx i hi
    obtain ⟨_, h4, e2⟩ := hx j (by omega)
    rw [e1, e2]
    exact (hE i (by omega)).2.2.2.2 j hj h4
  · obtain ⟨_, h3, e1⟩ := hx i hi
    rw [e1]
    have e : (told xs R).take i = told xs (R.take i) := by simp [told, List.map_take]
    rw [e, runR_told xs S _ _ fun j hj => hlt j (List.mem_of_mem_take hj)]
    exact (hE i (by omega)).2.2.2.1
  · have hmem : xs[k] ∈ picks xs := List.mem_filter.2 ⟨List.getElem_mem hk, hc⟩
    have hk' : k ∈ places xs := by
      have h3 : some xs[k] ∈ (picks xs).map some := List.mem_map.2 ⟨_, hmem, rfl⟩
      have hpl : ∀ m, m ≤ xs.length → k < m → k ∈ placesTo (stories xs) m := by
        intro m
        induction m with
        | zero => intro _ h; omega
        | succ m ih =>
          intro hm1 hm2
          rw [placesTo]
          rcases Nat.lt_or_ge k m with h4 | h4
          · exact List.mem_append_left _ (ih (by omega) h4)
          · obtain rfl : m = k := by omega
            refine List.mem_append_right _ ?_
            rw [if_pos ⟨by simp [stories]; omega, by simpa [stories] using hc⟩]
            simp
      exact hpl xs.length (Nat.le_refl _) hk
    obtain ⟨n, hn, e⟩ := List.getElem_of_mem hk'
    have hn2 : n < (picks xs).length := by rw [← places_len]; exact hn
    have e2 : (places xs).getD n 0 = k := by rw [List.getD_eq_getElem?_getD, List.getElem?_eq_getElem hn, ← e]; rfl
    have e3 := places_get xs hn2
    rw [e2, List.getElem?_eq_getElem hk] at e3
    have e4 := Option.some.inj e3
    have hb : must.testBit n = true := (hm n).2 ⟨by simpa using hn2, by simp only [List.getElem_map]; rw [← e4]; exact he⟩
    rcases path_must h n hb with h5 | h5
    · simp at h5
    · exact List.mem_map.2 ⟨n, h5, e2⟩
  · rw [hlen]
    refine nodup_le _ R ?_ hlt
    rw [List.nodup_iff_pairwise_ne, List.pairwise_iff_getElem]
    intro i j hi hj hij
    exact (hE j hj).2.2.1 i hij
end Go.Proofs.YtamcehfcjcmpmaaGreatDoor
