/- What the reference's Apply needs, out of other texts. -/
import Derived.Test.YtamcehfcjcmpmaaGreatDoorPut2
import Derived.Test.YtamcehfcjcmpmaaGreatDoorRef1
import Derived.Test.YtamcehfcjcmpmaaGreatDoorOpenCalls
import Derived.Test.YtamcehfcjcmpmaaGreatDoorApAny
import Derived.Test.YtamcehfcjcmpmaaGreatDoorIdl4
import Derived.StillTailTactics
import Derived.Deep.DeepCutAuto
namespace Go.Proofs.YtamcehfcjcmpmaaGreatDoor
open Go.RowKit

structure Eff where
  kind : Int
  key : ByteArray
  val : ByteArray
  id : Int
  ver : Int
  epoch : Int
  group : Int
  deriving DecidableEq
def Eff.enc (e : Eff) : List Value := [.int .i64 e.kind, .string e.key, .string e.val, .int .u64 e.id, .int .u64 e.ver, .int .u64 e.epoch, .int .i64 e.group]
theorem Eff.enc_len (e : Eff) : e.enc.length = 7 := rfl
theorem Eff.enc_one (e : Eff) : ∀ u ∈ e.enc, u.oneCell' = true := by
  intro u hu
  simp only [Eff.enc, List.mem_cons, List.not_mem_nil, or_false] at hu
  rcases hu with rfl | rfl | rfl | rfl | rfl | rfl | rfl <;> rfl
/-- the world of a call that has boxed a store and an effect -/
theorem in_below {w W : World} {PA : Option Addr} {pc : Nat} {QA : Option Addr} {qc : Nat} {s : Shelf} (h : ShIn w w.heap.size PA pc QA qc s) (hb : Below w.heap.size w W) : ShIn W W.heap.size PA pc QA qc s := (h.below hb).more hb.size
theorem ShIn.lowCell {w : World} {B lo : Nat} {PA : Option Addr} {pc : Nat} {QA : Option Addr} {qc : Nat} {s : Shelf} (h : ShIn w B PA pc QA qc s) (hl : LowL lo PA s.pairs ∧ LowL lo QA s.queue) {p : Addr} (hp : p.block < lo) (u : Value) : ShIn (w.setCell p u) B PA pc QA qc s :=
  ⟨h.pairs.lowCell hl.1 hp u, h.plen, h.pmax, h.queue.lowCell hl.2 hp u, h.qlen, h.qmax⟩
/-- a store in a variable at block p, what it holds behind it -/
structure VarS (W1 wr : World) (p : Nat) (PA : Option Addr) (pc : Nat) (QA : Option Addr) (qc : Nat) (s : Shelf) : Prop where
  below : Below p W1 wr
  row : wr.heap[p]? = some (.cells #[.slice PA s.pairs.length pc, .slice QA s.queue.length qc] 25 (0, 0))
  sh : ShIn wr wr.heap.size PA pc QA qc s
  low : LowL (p + 1) PA s.pairs ∧ LowL (p + 1) QA s.queue
theorem VarS.lt {W1 wr : World} {p : Nat} {PA : Option Addr} {pc : Nat} {QA : Option Addr} {qc : Nat} {s : Shelf} (h : VarS W1 wr p PA pc QA qc s) : p < wr.heap.size := lt_of_heap h.row
theorem VarS.keep {W1 wr W : World} {p : Nat} {PA : Option Addr} {pc : Nat} {QA : Option Addr} {qc : Nat} {s : Shelf} (h : VarS W1 wr p PA pc QA qc s) (hb : Below wr.heap.size wr W) : VarS W1 W p PA pc QA qc s :=
  ⟨h.below.trans (hb.mono (by have := h.lt; omega)), (hb.block p h.lt).trans h.row, in_below h.sh hb, h.low⟩
theorem ShOwn.below {w w' : World} {lo : Nat} {PA : Option Addr} {pc : Nat} {QA : Option Addr} {qc : Nat} {s : Shelf} (h : ShOwn w lo PA pc QA qc s) (hb : Below w.heap.size w w') : ShOwn w' lo PA pc QA qc s := ⟨h.pairs.below hb, h.queue.below hb, h.apart⟩
theorem ShOwn.setCell {w : World} {lo : Nat} {PA : Option Addr} {pc : Nat} {QA : Option Addr} {qc : Nat} {s : Shelf} (h : ShOwn w lo PA pc QA qc s) {p : Addr} (hp : p.block < lo) (u : Value) : ShOwn (w.setCell p u) lo PA pc QA qc s := ⟨h.pairs.setCell hp u, h.queue.setCell hp u, h.apart⟩
/-- a store of the call's own in a variable at block p -/
structure VarO (W1 wr : World) (p : Nat) (PA : Option Addr) (pc : Nat) (QA : Option Addr) (qc : Nat) (s : Shelf) : Prop where
  below : Below p W1 wr
  row : wr.heap[p]? = some (.cells #[.slice PA s.pairs.length pc, .slice QA s.queue.length qc] 25 (0, 0))
  own : ShOwn wr (p + 1) PA pc QA qc s
theorem VarO.lt {W1 wr : World} {p : Nat} {PA : Option Addr} {pc : Nat} {QA : Option Addr} {qc : Nat} {s : Shelf} (h : VarO W1 wr p PA pc QA qc s) : p < wr.heap.size := lt_of_heap h.row
theorem VarO.keep {W1 wr W : World} {p : Nat} {PA : Option Addr} {pc : Nat} {QA : Option Addr} {qc : Nat} {s : Shelf} (h : VarO W1 wr p PA pc QA qc s) (hb : Below wr.heap.size wr W) : VarO W1 W p PA pc QA qc s :=
  ⟨h.below.trans (hb.mono (by have := h.lt; omega)), (hb.block p h.lt).trans h.row, h.own.below hb⟩
/-- what is held lies in no block p -/
def OffL {α : Type} (p : Nat) (A : Option Addr) (l : List α) : Prop := l = [] ∨ ∃ b o, A = some ⟨b, o, none⟩ ∧ b ≠ p
theorem Arr.offCell {α : Type} {enc : α → List Value} {k : Nat} {w : World} {B p : Nat} {A : Option Addr} {l : List α} (h : Arr enc k w B A l) (hl : OffL p A l) (i : Nat) (u : Value) : Arr enc k (w.setCell ⟨p, i, none⟩ u) B A l := by
  rcases h with h | ⟨b, off, hA, hB, hc⟩
  · exact .inl h
  · rcases hl with hl | ⟨b', o', hA', hne⟩
    · exact .inl hl
    · rw [hA] at hA'
      cases hA'
      refine .inr ⟨b, off, hA, hB, fun i' hi j u' hu => ?_⟩
      rw [← hc i' hi j u' hu]
      unfold World.cell?
      rw [Below.heap_setCell _ _ _ _ (by exact hne)]
theorem ShIn.offCell {w : World} {B p : Nat} {PA : Option Addr} {pc : Nat} {QA : Option Addr} {qc : Nat} {s : Shelf} (h : ShIn w B PA pc QA qc s) (h1 : OffL p PA s.pairs) (h2 : OffL p QA s.queue) (i : Nat) (u : Value) : ShIn (w.setCell ⟨p, i, none⟩ u) B PA pc QA qc s :=
  ⟨h.pairs.offCell h1 i u, h.plen, h.pmax, h.queue.offCell h2 i u, h.qlen, h.qmax⟩
theorem Own.off {α : Type} {enc : α → List Value} {e : TypeId} {k : Nat} {w : World} {lo p : Nat} {A : Option Addr} {c : Nat} {l : List α} (h : Own enc e k w lo A c l) (hp : p < lo ∨ w.heap.size ≤ p) : OffL p A l := by
  rcases h.lt with h0 | ⟨b, off, hA, hlo, hlt⟩
  · exact .inl (List.eq_nil_of_length_eq_zero (by have := h.1; omega))
  · exact .inr ⟨b, off, hA, by omega⟩
/-- a store in a variable, to be read -/
structure VarI (wr : World) (p : Nat) (PA : Option Addr) (pc : Nat) (QA : Option Addr) (qc : Nat) (s : Shelf) : Prop where
  row : wr.heap[p]? = some (.cells #[.slice PA s.pairs.length pc, .slice QA s.queue.length qc] 25 (0, 0))
  sh : ShIn wr wr.heap.size PA pc QA qc s
  off : OffL p PA s.pairs ∧ OffL p QA s.queue
theorem VarI.lt {wr : World} {p : Nat} {PA : Option Addr} {pc : Nat} {QA : Option Addr} {qc : Nat} {s : Shelf} (h : VarI wr p PA pc QA qc s) : p < wr.heap.size := lt_of_heap h.row
theorem VarI.keep {wr W : World} {p : Nat} {PA : Option Addr} {pc : Nat} {QA : Option Addr} {qc : Nat} {s : Shelf} (h : VarI wr p PA pc QA qc s) (hb : Below wr.heap.size wr W) : VarI W p PA pc QA qc s :=
  ⟨(hb.block p h.lt).trans h.row, in_below h.sh hb, h.off⟩
theorem bcell {W w1 : World} (hb : Below W.heap.size W w1) : (∀ b o, b < W.heap.size → w1.cell? ⟨b, o, none⟩ = W.cell? ⟨b, o, none⟩) ∧ (∀ b o, b < W.heap.size → w1.frozen? ⟨b, o, none⟩ = W.frozen? ⟨b, o, none⟩) :=
  ⟨fun b o h => hb.cell (p := ⟨b, o, none⟩) h, fun b o h => hb.frozen (p := ⟨b, o, none⟩) h⟩
theorem keep8 {W W' : World} {n b q o1 o2 o3 o4 o5 : Nat} {u0 u1 v0 v1 v2 v3 v4 y0 : Value} (hb : Below W.heap.size W W') (hn : n < W.heap.size) (hbn : b < W.heap.size) (hq : q < W.heap.size)
    (h : W.cell? ⟨n, 0, none⟩ = some u0 ∧ W.cell? ⟨n, 1, none⟩ = some u1 ∧ W.cell? ⟨b, o1, none⟩ = some v0 ∧ W.cell? ⟨b, o2, none⟩ = some v1 ∧ W.cell? ⟨b, o3, none⟩ = some v2 ∧ W.cell? ⟨b, o4, none⟩ = some v3 ∧ W.cell? ⟨b, o5, none⟩ = some v4 ∧ W.cell? ⟨q, 4, none⟩ = some y0) :
    W'.cell? ⟨n, 0, none⟩ = some u0 ∧ W'.cell? ⟨n, 1, none⟩ = some u1 ∧ W'.cell? ⟨b, o1, none⟩ = some v0 ∧ W'.cell? ⟨b, o2, none⟩ = some v1 ∧ W'.cell? ⟨b, o3, none⟩ = some v2 ∧ W'.cell? ⟨b, o4, none⟩ = some v3 ∧ W'.cell? ⟨b, o5, none⟩ = some v4 ∧ W'.cell? ⟨q, 4, none⟩ = some y0 := by
  rw [hb.cell (p := ⟨n, 0, none⟩) hn, hb.cell (p := ⟨n, 1, none⟩) hn, hb.cell (p := ⟨b, o1, none⟩) hbn, hb.cell (p := ⟨b, o2, none⟩) hbn, hb.cell (p := ⟨b, o3, none⟩) hbn, hb.cell (p := ⟨b, o4, none⟩) hbn, hb.cell (p := ⟨b, o5, none⟩) hbn, hb.cell (p := ⟨q, 4, none⟩) hq]
  exact h
end Go.Proofs.YtamcehfcjcmpmaaGreatDoor
