/- What a call of each kind does: the table of contracts; ideal.Apply of any call that is no group. -/
import Derived.Test.YtamcehfcjcmpmaaDoorIdl14
import Derived.Test.YtamcehfcjcmpmaaDoorIdl12
import Derived.Test.YtamcehfcjcmpmaaDoorDrop
namespace Go.Proofs.YtamcehfcjcmpmaaDoor
open Go.RowKit

def doS (c : Call0) (s : Shelf) : Shelf :=
  if c.kind = 2 then ⟨setP s.pairs c.key c.val, s.queue⟩ else if c.kind = 3 then ⟨dropK c.key s.pairs, s.queue⟩ else if c.kind = 4 then ⟨s.pairs, s.queue ++ [c.val]⟩ else if c.kind = 5 then ⟨s.pairs, s.queue.tail⟩ else s
def doA (c : Call0) (s : Shelf) (a : Ans) : Ans :=
  if c.kind = 1 then { a with value := (getD' s.pairs c.key).1, found := (getD' s.pairs c.key).2 } else if c.kind = 2 ∨ c.kind = 3 then { a with found := hasK s.pairs c.key }
  else if c.kind = 5 then { a with value := s.queue.headD ByteArray.empty, found := !s.queue.isEmpty } else if c.kind = 6 then { a with pairs := a.pairs ++ scanned c.key c.to s.pairs } else a
/-- the contract of a kind's doing -/
def DoFits (c : Call0) (f : Nat) : Prop :=
  (∀ args W, (callFunc f args).run Tryd.prog W = .ok (.enter f args) W) ∧
  ∀ (K : Nat → Prop) (w : World) (p q : Nat) (s : Shelf) (a : Ans), SA K w p q s a → (∀ j, w.heap.size ≤ j → K j) → s.pairs.length ≤ 100000 → s.queue.length ≤ 100000 → a.pairs.length ≤ 100000 →
    Calls Tryd.prog f #[.pointer (some ⟨p, 0, none⟩), .agg #[.int .i64 c.kind, .string c.key, .string c.val, .string c.to, .slice c.gA c.gn c.gc], .pointer (some ⟨q, 0, none⟩)] w (GivesDo K p q (doS c s) (doA c s a) w)
theorem call_1 (args : Array Value) (W : World) : (callFunc 38 args).run Tryd.prog W = .ok (.enter 38 args) W := by simp [callFunc, Tryd.func38, Tryd.f38, mark]
theorem call_2 (args : Array Value) (W : World) : (callFunc 40 args).run Tryd.prog W = .ok (.enter 40 args) W := by simp [callFunc, Tryd.func40, Tryd.f40, mark]
theorem call_3 (args : Array Value) (W : World) : (callFunc 42 args).run Tryd.prog W = .ok (.enter 42 args) W := by simp [callFunc, Tryd.func42, Tryd.f42, mark]
theorem call_4 (args : Array Value) (W : World) : (callFunc 44 args).run Tryd.prog W = .ok (.enter 44 args) W := by simp [callFunc, Tryd.func44, Tryd.f44, mark]
theorem call_5 (args : Array Value) (W : World) : (callFunc 45 args).run Tryd.prog W = .ok (.enter 45 args) W := by simp [callFunc, Tryd.func45, Tryd.f45, mark]
theorem call_6 (args : Array Value) (W : World) : (callFunc 48 args).run Tryd.prog W = .ok (.enter 48 args) W := by simp [callFunc, Tryd.func48, Tryd.f48, mark]
theorem call_scan (args : Array Value) (W : World) : (callFunc 47 args).run Tryd.prog W = .ok (.enter 47 args) W := by simp [callFunc, Tryd.func47, Tryd.f47, mark]
theorem do_fits (c : Call0) (h : c.kind = 1 ∨ c.kind = 2 ∨ c.kind = 3 ∨ c.kind = 4 ∨ c.kind = 5 ∨ c.kind = 6 ∨ c.kind = 8) :
    ∃ i f, Instr.findNow (.int .i64) (.int .i64 c.kind) tableD.toList 0 = some (some (i, .func (.func f) #[] #[])) ∧ DoFits c f := by
  rcases h with h | h | h | h | h | h | h
  · refine ⟨0, 38, tableD_at (by simp [h]), call_1, fun K w p q s a hsa hK h1 h2 h3 => ?_⟩
    have := do_get K p q s a c w hsa hK
    simpa [doS, doA, h] using this
  · refine ⟨1, 40, tableD_at (by simp [h]), call_2, fun K w p q s a hsa hK h1 h2 h3 => ?_⟩
    have := do_put K p q s a c w hsa hK h1
    simpa [doS, doA, h] using this
  · refine ⟨2, 42, tableD_at (by simp [h]), call_3, fun K w p q s a hsa hK h1 h2 h3 => ?_⟩
    have := do_del K p q s a c w hsa hK
    simpa [doS, doA, h] using this
  · refine ⟨3, 44, tableD_at (by simp [h]), call_4, fun K w p q s a hsa hK h1 h2 h3 => ?_⟩
    have := do_enq K p q s a c w hsa hK h2
    simpa [doS, doA, h] using this
  · refine ⟨4, 45, tableD_at (by simp [h]), call_5, fun K w p q s a hsa hK h1 h2 h3 => ?_⟩
    have := do_deq K p q s a c w hsa hK
    simpa [doS, doA, h] using this
  · refine ⟨5, 47, tableD_at (by simp [h]), call_scan, fun K w p q s a hsa hK h1 h2 h3 => ?_⟩
    have := do_scan K p q s a c w hsa hK h1 h3
    simpa [doS, doA, h] using this
  · refine ⟨6, 48, tableD_at (by simp [h]), call_6, fun K w p q s a hsa hK h1 h2 h3 => ?_⟩
    have := do_sync K p q s a c w hsa
    simpa [doS, doA, h] using this
theorem apply_flat (s : Shelf) (PA : Option Addr) (pc : Nat) (QA : Option Addr) (qc : Nat) (c : Call0) (g : List Call0) (w : World) (h : ShIn w w.heap.size PA pc QA qc s) (hp : s.pairs.length ≤ 100000) (hq : s.queue.length ≤ 100000) (hc : CallIn w w.heap.size c g)
    (hgood : goodI c g = 0) (h7 : c.kind ≠ 7) (hk : c.kind = 1 ∨ c.kind = 2 ∨ c.kind = 3 ∨ c.kind = 4 ∨ c.kind = 5 ∨ c.kind = 6 ∨ c.kind = 8) :
    Calls Tryd.prog 14 #[.agg #[.slice PA s.pairs.length pc, .slice QA s.queue.length qc], .agg #[.int .i64 c.kind, .string c.key, .string c.val, .string c.to, .slice c.gA c.gn c.gc]] w (GivesAp (doS c s) (doA c s (ans0 0)) w) := by
  obtain ⟨i, f, hf, hfc, hdo⟩ := do_fits c hk
  exact apply_plain s PA pc QA qc c g w h hp hq hc hgood h7 i f hf _ _ hfc fun K W p q hsa hK => hdo K W p q s (ans0 0) hsa hK hp hq (by simp [ans0])
end Go.Proofs.YtamcehfcjcmpmaaDoor
