/- The text of a shelf tells the shelf. Plain facts; no program is walked. -/
import Derived.Test.YtamcehfcjcmpmaaDoorSt8
namespace Go.Proofs.YtamcehfcjcmpmaaDoor
open Go.RowKit

def isDig (b : UInt8) : Bool := decide (48 ≤ b.toNat) && decide (b.toNat ≤ 57)
def digVal (l : List UInt8) : Nat := l.foldl (fun a b => a * 10 + (b.toNat - 48)) 0
theorem dig_of (i : Nat) (h : i < 10) : (UInt8.ofNat (48 + i)).toNat = 48 + i := by
  rw [UInt8.toNat_ofNat']
  omega
theorem dec_dig : ∀ (u : Nat), (∀ b ∈ Lib.decDigits u, isDig b = true) ∧ digVal (Lib.decDigits u) = u
  | u => by
    rw [Lib.decDigits]
    split
    · rename_i h
      constructor
      · intro b hb
        rw [List.mem_singleton] at hb
        subst hb
        simp [isDig]
        omega
      · simp [digVal]
        omega
    · rename_i h
      obtain ⟨h1, h2⟩ := dec_dig (u / 10)
      constructor
      · intro b hb
        rw [List.mem_append] at hb
        rcases hb with hb | hb
        · exact h1 b hb
        · rw [List.mem_singleton] at hb
          subst hb
          simp [isDig]
          omega
      · unfold digVal at h2 ⊢
        rw [List.foldl_append, h2]
        simp
        omega
theorem itoa_nat (n : Nat) : Lib.itoa (n : Int) = Lib.decDigits n := Lib.itoa_nonneg n
/-- no digit stands at its head -/
def noDig (l : List UInt8) : Prop := ∀ b r, l = b :: r → isDig b = false
theorem dig_split : ∀ {x y r r' : List UInt8}, (∀ b ∈ x, isDig b = true) → (∀ b ∈ y, isDig b = true) → noDig r → noDig r' → x ++ r = y ++ r' → x = y ∧ r = r'
  | [], [], _, _, _, _, _, _, h => ⟨rfl, h⟩
  | [], b :: y, r, r', _, hy, hr, _, h => by
    have := hr b (y ++ r') h
    rw [hy b (by simp)] at this
    cases this
  | a :: x, [], r, r', hx, _, _, hr', h => by
    have := hr' a (x ++ r) h.symm
    rw [hx a (by simp)] at this
    cases this
  | a :: x, b :: y, r, r', hx, hy, hr, hr', h => by
    simp only [List.cons_append, List.cons.injEq] at h
    obtain ⟨rfl, h⟩ := h
    obtain ⟨rfl, h2⟩ := dig_split (fun b hb => hx b (by simp [hb])) (fun b hb => hy b (by simp [hb])) hr hr' h
    exact ⟨rfl, h2⟩
theorem itoa_split {n m : Nat} {r r' : List UInt8} (hr : noDig r) (hr' : noDig r') (h : Lib.itoa (n : Int) ++ r = Lib.itoa (m : Int) ++ r') : n = m ∧ r = r' := by
  rw [itoa_nat, itoa_nat] at h
  obtain ⟨h1, h2⟩ := dig_split (dec_dig n).1 (dec_dig m).1 hr hr' h
  refine ⟨?_, h2⟩
  rw [← (dec_dig n).2, ← (dec_dig m).2, h1]
theorem noDig_cons {b : UInt8} {r : List UInt8} (h : isDig b = false) : noDig (b :: r) := fun c q e => by
  simp only [List.cons.injEq] at e
  rw [← e.1]; exact h
theorem bytesOf_inj {x y : ByteArray} (h : bytesOf x = bytesOf y) : x = y := by
  unfold bytesOf at h
  exact ByteArray.ext (Array.toList_inj.1 h)
theorem bytesOf_len (x : ByteArray) : (bytesOf x).length = x.size := Array.length_toList
theorem item_split {x y : ByteArray} {r r' : List UInt8} (h : txtItem x ++ r = txtItem y ++ r') : x = y ∧ r = r' := by
  unfold txtItem at h
  simp only [List.cons_append, List.append_assoc, List.cons.injEq, true_and] at h
  obtain ⟨h1, h2⟩ := itoa_split (noDig_cons (by decide)) (noDig_cons (by decide)) h
  simp only [List.cons.injEq, true_and] at h2
  obtain ⟨h3, h4⟩ := List.append_inj h2 (by rw [bytesOf_len, bytesOf_len]; exact h1)
  exact ⟨bytesOf_inj h3, h4⟩
theorem item_ne (x : ByteArray) (r : List UInt8) : txtItem x ++ r ≠ [] := by simp [txtItem]
theorem queue_inj : ∀ {q q' : List ByteArray}, queueL q = queueL q' → q = q'
  | [], [], _ => rfl
  | [], x :: q, h => absurd h.symm (by simp only [queueL, List.flatMap_cons, List.flatMap_nil]; exact item_ne _ _)
  | x :: q, [], h => absurd h (by simp only [queueL, List.flatMap_cons, List.flatMap_nil]; exact item_ne _ _)
  | x :: q, y :: q', h => by
    simp only [queueL, List.flatMap_cons] at h
    obtain ⟨rfl, h2⟩ := item_split h
    rw [queue_inj h2]
theorem pairs_inj : ∀ {l l' : List Pair} {r r' : List UInt8}, l.length = l'.length → pairsL l ++ r = pairsL l' ++ r' → l = l' ∧ r = r'
  | [], [], _, _, _, h => ⟨rfl, h⟩
  | [], _ :: _, _, _, hl, _ => by simp at hl
  | _ :: _, [], _, _, hl, _ => by simp at hl
  | p :: l, p' :: l', r, r', hl, h => by
    simp only [pairsL, List.flatMap_cons, List.append_assoc] at h
    obtain ⟨h1, h⟩ := item_split h
    obtain ⟨h2, h⟩ := item_split h
    obtain ⟨rfl, h3⟩ := pairs_inj (l := l) (l' := l') (by simpa using hl) h
    refine ⟨?_, h3⟩
    cases p; cases p'
    simp only at h1 h2
    rw [h1, h2]
theorem noDig_rest (s : Shelf) : noDig (pairsL s.pairs ++ queueL s.queue) := by
  intro b r h
  cases hp : s.pairs with
  | nil =>
    rw [hp] at h
    cases hq : s.queue with
    | nil => rw [hq] at h; simp [pairsL, queueL] at h
    | cons x q =>
      rw [hq] at h
      simp only [pairsL, queueL, List.flatMap_nil, List.flatMap_cons, List.nil_append, txtItem, List.cons_append, List.cons.injEq] at h
      rw [← h.1]; decide
  | cons p l =>
    rw [hp] at h
    simp only [pairsL, List.flatMap_cons, txtItem, List.cons_append, List.cons.injEq] at h
    rw [← h.1]; decide
theorem text_inj {s t : Shelf} (h : textL s = textL t) : s = t := by
  unfold textL at h
  rw [List.append_assoc, List.append_assoc] at h
  obtain ⟨h1, h2⟩ := itoa_split (noDig_rest s) (noDig_rest t) h
  obtain ⟨h3, h4⟩ := pairs_inj h1 h2
  have h5 := queue_inj h4
  cases s; cases t
  simp only at h3 h5
  rw [h3, h5]
end Go.Proofs.YtamcehfcjcmpmaaDoor
