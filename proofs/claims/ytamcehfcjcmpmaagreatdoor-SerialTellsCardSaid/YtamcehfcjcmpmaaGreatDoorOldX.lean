/- Lists and stores in blocks that are neither of two; what stays when those two turn. No program is walked. -/
import Derived.Test.YtamcehfcjcmpmaaGreatDoorLg
namespace Go.Proofs.YtamcehfcjcmpmaaGreatDoor
open Go.RowKit

/-- all that was stays, but two blocks -/
structure Old2 (lo p q : Nat) (w w' : World) : Prop where
  below : Below lo w w'
  keep : ∀ b, b < w.heap.size → b ≠ p → b ≠ q → w'.heap[b]? = w.heap[b]?
theorem Old2.refl (lo p q : Nat) (w : World) : Old2 lo p q w w := ⟨Below.refl _ _, fun _ _ _ _ => rfl⟩
theorem Old2.of_below {lo p q : Nat} {w w' : World} (h : Below w.heap.size w w') (hlo : lo ≤ w.heap.size) : Old2 lo p q w w' := ⟨h.mono hlo, fun b hb _ _ => h.block b hb⟩
theorem Old2.trans {lo p q : Nat} {a b c : World} (h : Old2 lo p q a b) (k : Old2 lo p q b c) : Old2 lo p q a c := ⟨h.below.trans k.below, fun i hi h1 h2 => (k.keep i (Nat.lt_of_lt_of_le hi h.below.size) h1 h2).trans (h.keep i hi h1 h2)⟩
theorem Old2.more {lo p q : Nat} {a b c : World} (h : Old2 lo p q a b) (k : Below b.heap.size b c) (hlo : lo ≤ b.heap.size) : Old2 lo p q a c := h.trans (Old2.of_below k hlo)
theorem Old2.setP {lo p q : Nat} {a w : World} (h : Old2 lo p q a w) (hp : lo ≤ p) (o : Nat) (u : Value) : Old2 lo p q a (w.setCell ⟨p, o, none⟩ u) := ⟨h.below.setCell hp u, fun b hb hne hnq => (Below.heap_setCell _ _ _ _ hne).trans (h.keep b hb hne hnq)⟩
theorem Old2.setQ {lo p q : Nat} {a w : World} (h : Old2 lo p q a w) (hq : lo ≤ q) (o : Nat) (u : Value) : Old2 lo p q a (w.setCell ⟨q, o, none⟩ u) := ⟨h.below.setCell hq u, fun b hb hne hnq => (Below.heap_setCell _ _ _ _ hnq).trans (h.keep b hb hne hnq)⟩
/-- a list in a block that is neither of the two -/
def ArrX {α : Type} (enc : α → List Value) (k p q : Nat) (w : World) (A : Option Addr) (l : List α) : Prop :=
  l = [] ∨ ∃ b off, A = some ⟨b, off, none⟩ ∧ (b < w.heap.size ∧ b ≠ p ∧ b ≠ q) ∧ ∀ i (h : i < l.length) j u, (enc l[i])[j]? = some u → w.cell? ⟨b, off + i * k + j, none⟩ = some u
section
variable {α : Type} {enc : α → List Value} {k lo p q : Nat} {w w' : World} {A : Option Addr} {l : List α}
theorem ArrX.old (h : ArrX enc k p q w A l) (hf : Old2 lo p q w w') : ArrX enc k p q w' A l := by
  rcases h with h | ⟨b, off, h1, ⟨h2, h4, h5⟩, h3⟩
  · exact .inl h
  · exact .inr ⟨b, off, h1, ⟨Nat.lt_of_lt_of_le h2 hf.below.size, h4, h5⟩, fun i hi j u hu => (World.cell?_of_block (a := ⟨b, off + i * k + j, none⟩) (hf.keep b h2 h4 h5)).trans (h3 i hi j u hu)⟩
theorem ArrX.arr (h : ArrX enc k p q w A l) : Arr enc k w w.heap.size A l := by
  rcases h with h | ⟨b, off, h1, h2, h3⟩
  · exact .inl h
  · exact .inr ⟨b, off, h1, h2.1, h3⟩
theorem ArrX.of_arr {B : Nat} (h : Arr enc k w B A l) (hB : B ≤ w.heap.size) (hp : B ≤ p) (hq : B ≤ q) : ArrX enc k p q w A l := by
  rcases h with h | ⟨b, off, h1, h2, h3⟩
  · exact .inl h
  · exact .inr ⟨b, off, h1, ⟨by omega, by omega, by omega⟩, h3⟩
theorem ArrX.of_own {e : TypeId} {c lo' : Nat} (hk : ∀ x, (enc x).length = k) (h : Own enc e k w lo' A c l) (hp : p < lo') (hq : q < lo') : ArrX enc k p q w A l := by
  rcases h.arr hk with ha | ⟨b, off, h1, h2, h3⟩
  · exact .inl ha
  · rcases h.lt with h0 | ⟨b', off', h4, h5, -⟩
    · have : l.length = 0 := by have := h.len; omega
      exact .inl (List.length_eq_zero_iff.1 this)
    · rw [h1] at h4
      cases h4
      exact .inr ⟨b, off, h1, ⟨h2, by omega, by omega⟩, h3⟩
end
structure ShX (p q : Nat) (w : World) (PA : Option Addr) (pc : Nat) (QA : Option Addr) (qc : Nat) (s : Shelf) : Prop where
  pairs : ArrX Pair.enc 2 p q w PA s.pairs
  plen : s.pairs.length ≤ pc
  pmax : pc ≤ 9223372036854775807
  queue : ArrX txt 1 p q w QA s.queue
  qlen : s.queue.length ≤ qc
  qmax : qc ≤ 9223372036854775807
theorem ShX.old {lo p q : Nat} {w w' : World} {PA QA : Option Addr} {pc qc : Nat} {s : Shelf} (h : ShX p q w PA pc QA qc s) (hf : Old2 lo p q w w') : ShX p q w' PA pc QA qc s := ⟨h.pairs.old hf, h.plen, h.pmax, h.queue.old hf, h.qlen, h.qmax⟩
theorem ShX.in_ {p q : Nat} {w : World} {PA QA : Option Addr} {pc qc : Nat} {s : Shelf} (h : ShX p q w PA pc QA qc s) : ShIn w w.heap.size PA pc QA qc s := ⟨h.pairs.arr, h.plen, h.pmax, h.queue.arr, h.qlen, h.qmax⟩
theorem ShX.of_in {B p q : Nat} {w : World} {PA QA : Option Addr} {pc qc : Nat} {s : Shelf} (h : ShIn w B PA pc QA qc s) (hB : B ≤ w.heap.size) (hp : B ≤ p) (hq : B ≤ q) : ShX p q w PA pc QA qc s := ⟨ArrX.of_arr h.pairs hB hp hq, h.plen, h.pmax, ArrX.of_arr h.queue hB hp hq, h.qlen, h.qmax⟩
theorem ShX.of_own {lo' p q : Nat} {w : World} {PA QA : Option Addr} {pc qc : Nat} {s : Shelf} (h : ShOwn w lo' PA pc QA qc s) (hp : p < lo') (hq : q < lo') : ShX p q w PA pc QA qc s :=
  ⟨ArrX.of_own Pair.enc_len h.pairs hp hq, h.pairs.len, h.pairs.max, ArrX.of_own txt_len h.queue hp hq, h.queue.len, h.queue.max⟩
end Go.Proofs.YtamcehfcjcmpmaaGreatDoor
