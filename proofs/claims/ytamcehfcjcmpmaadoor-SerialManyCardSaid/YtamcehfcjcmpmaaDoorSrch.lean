/- What serial's search looks for: rows of stories, one behind the other. Plain facts; no program is walked. -/
import Derived.Test.YtamcehfcjcmpmaaDoorTxtInj
import Derived.Test.YtamcehfcjcmpmaaDoorApp
import Derived.Test.YtamcehfcjcmpmaaDoorTbit
namespace Go.Proofs.YtamcehfcjcmpmaaDoor
open Go.RowKit

/-- a story with its group and its hits -/
structure Item where
  s : Story
  g : List Call0
  hs : List Bool
/-- is it answered so behind such a store? -/
def Item.ok (x : Item) (S : Shelf) : Bool := answeredB x.s x.hs (apA x.s.c x.g S)
def Item.next (x : Item) (S : Shelf) : Shelf := apS x.s.c x.g S
/-- may the i-th be the next one, where d are those that were? -/
def freeAt (L : List Item) (d i : Nat) : Prop := ∃ h : i < L.length, d.testBit i = false ∧ ∀ j (h' : j < L.length), j ≠ i → d.testBit j = false → befB L[j].s L[i].s = false
/-- a row that leads from those done, and a store, to the end -/
inductive Path (L : List Item) (must : Nat) : Nat → Shelf → List Nat → Prop
  | fin {d S} : d &&& must = must → Path L must d S []
  | step {d S i R} (h : i < L.length) : freeAt L d i → L[i].ok S = true → Path L must (d ||| 1 <<< i) (L[i].next S) R → Path L must d S (i :: R)
def Leads (L : List Item) (must d : Nat) (S : Shelf) : Prop := ∃ R, Path L must d S R
/-- the i-th as the next one leads to the end -/
def LeadsBy (L : List Item) (must d : Nat) (S : Shelf) (i : Nat) : Prop := ∃ h : i < L.length, freeAt L d i ∧ L[i].ok S = true ∧ Leads L must (d ||| 1 <<< i) (L[i].next S)
theorem leads_iff {L : List Item} {must d : Nat} {S : Shelf} : Leads L must d S ↔ d &&& must = must ∨ ∃ i, LeadsBy L must d S i := by
  constructor
  · rintro ⟨R, h⟩
    cases h with
    | fin h => exact .inl h
    | step hi h1 h2 h3 => exact .inr ⟨_, hi, h1, h2, _, h3⟩
  · rintro (h | ⟨i, hi, h1, h2, R, h3⟩)
    · exact ⟨[], .fin h⟩
    · exact ⟨i :: R, .step hi h1 h2 h3⟩
/-- how many of n are done -/
def cntD (n d : Nat) : Nat := ((List.range n).filter fun i => d.testBit i).length
theorem cntD_le (n d : Nat) : cntD n d ≤ n := by
  have := List.length_filter_le (fun i => d.testBit i) (List.range n)
  simpa [cntD] using this
theorem filter_more {l : List Nat} (hn : l.Nodup) {p q : Nat → Bool} {i : Nat} (hi : i ∈ l) (hp : p i = false) (hq : ∀ j, q j = (p j || decide (j = i))) : (l.filter q).length = (l.filter p).length + 1 := by
  induction l with
  | nil => simp at hi
  | cons a l ih =>
    rw [List.nodup_cons] at hn
    by_cases ha : a = i
    · subst ha
      have hsame : l.filter q = l.filter p := List.filter_congr fun x hx => by
        rw [hq x]
        have : x ≠ a := fun e => hn.1 (e ▸ hx)
        simp [this]
      rw [List.filter_cons_of_pos (by rw [hq]; simp), List.filter_cons_of_neg (by simp [hp]), hsame]
      rfl
    · have hi' : i ∈ l := by
        rcases List.mem_cons.1 hi with h | h
        · exact absurd h.symm ha
        · exact h
      have hqa : q a = p a := by rw [hq]; simp [ha]
      have := ih hn.2 hi'
      by_cases h : p a = true
      · rw [List.filter_cons_of_pos (by rw [hqa]; exact h), List.filter_cons_of_pos h]
        simp only [List.length_cons]
        omega
      · rw [List.filter_cons_of_neg (by rw [hqa]; exact h), List.filter_cons_of_neg h]
        exact this
theorem cntD_set {n d i : Nat} (hi : i < n) (h : d.testBit i = false) : cntD n (d ||| 1 <<< i) = cntD n d + 1 :=
  filter_more List.nodup_range (List.mem_range.2 hi) h fun j => testBit_set d i j
/-- what was tried: of each, either none leads on from it, or fewer were done there -/
def TriedOk (L : List Item) (must k : Nat) (T : Nat → List UInt8 → Prop) : Prop := ∀ d t, T d t → (∀ S, textL S = t → ¬ Leads L must d S) ∨ cntD L.length d < k
theorem TriedOk.mono {L : List Item} {must k k' : Nat} {T : Nat → List UInt8 → Prop} (h : TriedOk L must k T) (hk : k ≤ k') : TriedOk L must k' T := fun d t ht => (h d t ht).imp id fun h => by omega
/-- what is tried anew, none leads on from -/
def TriedMore (L : List Item) (must : Nat) (T T' : Nat → List UInt8 → Prop) : Prop := (∀ d t, T d t → T' d t) ∧ ∀ d t, T' d t → T d t ∨ ∀ S, textL S = t → ¬ Leads L must d S
theorem TriedMore.refl {L : List Item} {must : Nat} {T : Nat → List UInt8 → Prop} : TriedMore L must T T := ⟨fun _ _ h => h, fun _ _ h => .inl h⟩
theorem TriedMore.trans {L : List Item} {must : Nat} {T T' T'' : Nat → List UInt8 → Prop} (h : TriedMore L must T T') (h' : TriedMore L must T' T'') : TriedMore L must T T'' :=
  ⟨fun d t ht => h'.1 d t (h.1 d t ht), fun d t ht => by
    rcases h'.2 d t ht with h1 | h1
    · exact h.2 d t h1
    · exact .inr h1⟩
theorem TriedMore.ok {L : List Item} {must k : Nat} {T T' : Nat → List UInt8 → Prop} (h : TriedMore L must T T') (ho : TriedOk L must k T) : TriedOk L must k T' := fun d t ht => by
  rcases h.2 d t ht with h1 | h1
  · exact ho d t h1
  · exact .inl h1
/-- what was tried with fewer done, or in vain, leads nowhere -/
theorem tried_dead {L : List Item} {must d : Nat} {S : Shelf} {T : Nat → List UInt8 → Prop} (h : TriedOk L must (cntD L.length d) T) (ht : T d (textL S)) : ¬ Leads L must d S := by
  rcases h d _ ht with h1 | h1
  · exact h1 S rfl
  · omega
def addT (T : Nat → List UInt8 → Prop) (d : Nat) (t : List UInt8) : Nat → List UInt8 → Prop := fun d' t' => T d' t' ∨ d' = d ∧ t' = t
theorem addT_ok {L : List Item} {must d i : Nat} {S : Shelf} {T : Nat → List UInt8 → Prop} (h : TriedOk L must (cntD L.length d) T) (hi : i < L.length) (hb : d.testBit i = false) : TriedOk L must (cntD L.length (d ||| 1 <<< i)) (addT T d (textL S)) := by
  rw [cntD_set hi hb]
  rintro d' t' (h1 | ⟨rfl, rfl⟩)
  · exact (h d' t' h1).imp id fun h => by omega
  · exact .inr (by omega)
theorem addT_more {L : List Item} {must d : Nat} {S : Shelf} {T T' : Nat → List UInt8 → Prop} (h : TriedMore L must (addT T d (textL S)) T') (hd : ¬ Leads L must d S) : TriedMore L must T T' :=
  ⟨fun d' t ht => h.1 d' t (.inl ht), fun d' t ht => by
    rcases h.2 d' t ht with (h1 | ⟨rfl, rfl⟩) | h1
    · exact .inl h1
    · exact .inr fun S' hS' => by rw [text_inj hS']; exact hd
    · exact .inr h1⟩
end Go.Proofs.YtamcehfcjcmpmaaDoor
