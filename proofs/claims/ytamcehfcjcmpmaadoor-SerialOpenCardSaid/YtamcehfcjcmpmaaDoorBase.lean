/- Words and small facts on memory that all proofs of this seat use: what it is that a slice holds a list; that blocks below a number are kept. No program is named. -/
import Derived.WalkKit
import Derived.Deep.Draws
namespace Go.Proofs.YtamcehfcjcmpmaaDoor
open Go.RowKit

theorem ret_int {k : IntKind} {a b : Int} (h : a = b) : Ending.returned (.int k a) = .returned (.int k b) := by rw [h]
theorem ret_bool {a b : Bool} (h : a = b) : Ending.returned (.bool a) = .returned (.bool b) := by rw [h]
theorem ret_val {a b : Value} (h : a = b) : Ending.returned a = .returned b := by rw [h]

theorem hid {p : Prop} (h : p) : Hid p := h

theorem below_drewN {B : Nat} {a w : World} (h : Below B a w) (n : Nat) : Below B a (w.drewN n) := ⟨h.os, h.tape, h.output, h.size, h.block⟩

/-- A list of things, each laid as k cells, lies where a slice leads to, in a block below B. -/
def Arr {α : Type} (enc : α → List Value) (k : Nat) (w : World) (B : Nat) (A : Option Addr) (l : List α) : Prop :=
  l = [] ∨ ∃ b off, A = some ⟨b, off, none⟩ ∧ b < B ∧ ∀ i (h : i < l.length) j u, (enc l[i])[j]? = some u → w.cell? ⟨b, off + i * k + j, none⟩ = some u

theorem Arr.nil {α : Type} {enc : α → List Value} {k : Nat} {w : World} {B : Nat} {A : Option Addr} : Arr enc k w B A [] := .inl rfl

theorem Arr.keep {α : Type} {enc : α → List Value} {k : Nat} {w w' : World} {B : Nat} {A : Option Addr} {l : List α} (h : Arr enc k w B A l)
    (hk : ∀ p : Addr, p.block < B → w'.cell? p = w.cell? p) : Arr enc k w' B A l := by
  rcases h with h | ⟨b, off, hA, hB, hc⟩
  · exact .inl h
  · exact .inr ⟨b, off, hA, hB, fun i hi j u hu => (hk ⟨b, _, none⟩ hB).trans (hc i hi j u hu)⟩
theorem Arr.below {α : Type} {enc : α → List Value} {k : Nat} {w w' : World} {B : Nat} {A : Option Addr} {l : List α} (h : Arr enc k w B A l) (hb : Below B w w') : Arr enc k w' B A l :=
  h.keep fun _ hp => hb.cell hp
theorem Arr.more {α : Type} {enc : α → List Value} {k : Nat} {w : World} {B B' : Nat} {A : Option Addr} {l : List α} (h : Arr enc k w B A l) (hB : B ≤ B') : Arr enc k w B' A l := by
  rcases h with h | ⟨b, off, hA, hb, hc⟩
  · exact .inl h
  · exact .inr ⟨b, off, hA, by omega, hc⟩
theorem Arr.take {α : Type} {enc : α → List Value} {k : Nat} {w : World} {B : Nat} {A : Option Addr} {l : List α} (h : Arr enc k w B A l) (n : Nat) : Arr enc k w B A (l.take n) := by
  rcases h with h | ⟨b, off, hA, hb, hc⟩
  · exact .inl (by simp [h])
  · refine .inr ⟨b, off, hA, hb, fun i hi j u hu => ?_⟩
    have hi' : i < l.length := by simp at hi; omega
    rw [List.getElem_take] at hu
    exact hc i hi' j u hu
/-- 's[m:]', as the model writes its address -/
theorem Arr.drop {α : Type} {enc : α → List Value} {k : Nat} {w : World} {B : Nat} {A : Option Addr} {l : List α} (h : Arr enc k w B A l) {m c : Nat} (hm : m ≤ l.length) (hc : l.length ≤ c) :
    Arr enc k w B (if c = m then A else A.map (·.add (m * k))) (l.drop m) := by
  rcases h with h | ⟨b, off, rfl, hb, hcell⟩
  · exact .inl (by simp [h])
  · by_cases hlt : m = l.length
    · exact .inl (by simp [hlt])
    · rw [if_neg (by omega)]
      refine .inr ⟨b, off + m * k, ?_, hb, fun i hi j u hu => ?_⟩
      · by_cases h0 : m * k = 0 <;> simp [Addr.add, h0]
      · simp only [List.getElem_drop, List.length_drop] at hu hi
        have := hcell (m + i) (by omega) j u hu
        rw [Nat.add_mul, ← Nat.add_assoc off] at this
        exact this
/-- a block that was laid, some steps later -/
theorem new_cell {w wr : World} {cs : Array Value} {t : TypeId} (h : Below (w.heap.size + 1) (w.alloc (.cells cs t)) wr) (j : Nat) : wr.cell? ⟨w.heap.size, j, none⟩ = cs[j]? := by
  rw [h.cell (p := ⟨w.heap.size, j, none⟩) (by simp)]
  exact World.cell?_alloc_at cs t _ j rfl
theorem new_frozen {w wr : World} {cs : Array Value} {t : TypeId} (h : Below (w.heap.size + 1) (w.alloc (.cells cs t)) wr) (j : Nat) : wr.frozen? ⟨w.heap.size, j, none⟩ = false := by
  rw [h.frozen (p := ⟨w.heap.size, j, none⟩) (by simp)]
  exact World.frozen?_alloc_at cs t _ j rfl
theorem new_size {w wr : World} {o : Obj} {B : Nat} (h : Below B (w.alloc o) wr) : w.heap.size < wr.heap.size := by
  have := h.size
  simp at this
  omega
theorem getD_in {α : Type} {l : List α} {i : Nat} (h : i < l.length) (d : α) : l.getD i d = l[i] := by simp [List.getD, h]
/-- the place of a cell in a list that is laid flat -/
theorem flat_get {α : Type} {enc : α → List Value} {k : Nat} (hk : ∀ x, (enc x).length = k) : ∀ (l : List α) (i : Nat) (h : i < l.length) (j : Nat), j < k → (l.flatMap enc)[i * k + j]? = (enc l[i])[j]?
  | x :: l, 0, _, j, hj => by
    simp only [List.flatMap_cons, Nat.zero_mul, Nat.zero_add, List.getElem_cons_zero]
    rw [List.getElem?_append_left (by rw [hk]; exact hj)]
  | x :: l, i + 1, h, j, hj => by
    simp only [List.flatMap_cons, List.getElem_cons_succ]
    have e : (i + 1) * k + j = (enc x).length + (i * k + j) := by rw [hk, Nat.succ_mul]; omega
    rw [e, List.getElem?_append_right (by omega), Nat.add_sub_cancel_left]
    exact flat_get hk l i (by simpa using h) j hj
theorem flat_length {α : Type} {enc : α → List Value} {k : Nat} (hk : ∀ x, (enc x).length = k) (l : List α) : (l.flatMap enc).length = l.length * k := by
  induction l with
  | nil => simp
  | cons x l ih => simp only [List.flatMap_cons, List.length_append, hk, ih, List.length_cons, Nat.succ_mul]; omega
/-- cells that are known from a place on -/
theorem Arr.of_cells {α : Type} {enc : α → List Value} {k : Nat} (hk : ∀ x, (enc x).length = k) {w : World} {B b off : Nat} {l : List α} (hb : b < B)
    (h : ∀ j u, (l.flatMap enc)[j]? = some u → w.cell? ⟨b, off + j, none⟩ = some u) : Arr enc k w B (some ⟨b, off, none⟩) l := by
  refine .inr ⟨b, off, rfl, hb, fun i hi j u hu => ?_⟩
  have hj : j < k := by rw [← hk l[i]]; exact (List.getElem?_eq_some_iff.1 hu).1
  have := h (i * k + j) u (by rw [flat_get hk l i hi j hj]; exact hu)
  rwa [← Nat.add_assoc] at this
/-- a literal's cells, laid just now -/
theorem Arr.lit {α : Type} {enc : α → List Value} {k : Nat} (hk : ∀ x, (enc x).length = k) (w : World) (t : TypeId) (l : List α) (cs : Array Value) (hcs : cs.toList = l.flatMap enc) :
    Arr enc k (w.alloc (.cells cs t)) (w.heap.size + 1) (some ⟨w.heap.size, 0, none⟩) l :=
  Arr.of_cells hk (by omega) fun j u hu => by
    rw [Nat.zero_add, World.cell?_alloc_at cs t _ j rfl, ← Array.getElem?_toList, hcs]
    exact hu
end Go.Proofs.YtamcehfcjcmpmaaDoor
