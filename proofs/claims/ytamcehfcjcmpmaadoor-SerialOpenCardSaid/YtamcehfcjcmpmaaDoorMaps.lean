/- Maps keyed by an int, made by the call: made, written, looked up, at the operation. No program is named. -/
import Derived.Test.YtamcehfcjcmpmaaDoorBase
import Derived.MapKept
import Derived.Carry
import Derived.OwnWalk
namespace Go.Proofs.YtamcehfcjcmpmaaDoor
open Go.RowKit

section
variable {P : Program} {mty kt et r clock : Nat} {es : Array MapEntry} {n : Int} {v : Value} {w : World}
theorem grown_set {o o' : Obj} (hb : w.heap[r]? = some o) : w.grownBy { w with heap := w.heap.setIfInBounds r o' } (some r) :=
  ⟨rfl, rfl, rfl, by simp, fun i _ hne => (MapKept.heap_set hb).2 i fun h => hne (by rw [h])⟩
theorem run_map_new (hm : P.underlying mty = some (.map kt et)) (hd : P.underlying kt = some (.int .i64)) (hb : w.heap[r]? = some (.map es clock)) (hf : Instr.findNow (.int .i64) (.int .i64 n) es.toList 0 = some none) :
    (Instr.mapUpdate mty (.map (some r)) (.int .i64 n) v).run P w = .ok () { w with heap := w.heap.setIfInBounds r (.map (es.push ⟨.int .i64 n, v, clock⟩) (clock + 1)) } := by
  simp [Instr.mapUpdate, run_underlying hm, MapKept.run_getObj_map hb, MapKept.run_checkKey hd (show MapKept.IsKey (.int .i64) (.int .i64 n) from rfl), MapKept.run_findKey hd hf, MapKept.run_setObj_map _ hb, Result.andThen]
theorem run_map_look (hm : P.underlying mty = some (.map kt et)) (hd : P.underlying kt = some (.int .i64)) (hb : w.heap[r]? = some (.map es clock)) {i : Nat} (hf : Instr.findNow (.int .i64) (.int .i64 n) es.toList 0 = some (some (i, v))) :
    (Instr.lookup mty (.map (some r)) (.int .i64 n) false).run P w = .ok v w := by
  simp [Instr.lookup, run_underlying hm, MapKept.run_getObj_map hb, MapKept.run_checkKey hd (show MapKept.IsKey (.int .i64) (.int .i64 n) from rfl), MapKept.run_findKey hd hf, Result.andThen]
end
theorem wpList_makeMap {P : Program} (w : World) {ops : Array Oper} {rest : List Oper} {o : Oper} {a : Act} {Q : Exit → Act → World → Prop} (hg : o.guard = none) (t : TypeId) (hop : o.op = Op.makeMap t none)
    (h : wpList P ops Q rest (a.put o.dst (.map (some w.heap.size))) (w.alloc (.map #[] 0))) : wpList P ops Q (o :: rest) a w := by
  refine wpList_plain hg fun K' hK' => ?_
  unfold Oper.wp
  simp [execOp, hop, run_makeMap, Result.andThen]
  exact hK' _ _ h
theorem wpList_insert_new {P : Program} (w : World) {ops : Array Oper} {rest : List Oper} {o : Oper} {a : Act} {Q : Exit → Act → World → Prop} (hg : o.guard = none) (m x v : Operand) (t : TypeId) (hop : o.op = Op.insert t m x v)
    (k e r clock : Nat) (es : Array MapEntry) (ht : P.underlying t = some (.map k e)) (hd : P.underlying k = some (.int .i64)) (hm : a.eval m = .map (some r)) (n : Int) (u : Value) (hx : a.eval x = .int .i64 n) (hv : a.eval v = u)
    (hb : w.heap[r]? = some (.map es clock)) (hf : Instr.findNow (.int .i64) (.int .i64 n) es.toList 0 = some none)
    (h : ∀ w', w'.heap[r]? = some (.map (es.push ⟨.int .i64 n, u, clock⟩) (clock + 1)) → w.grownBy w' (some r) → wpList P ops Q rest (a.put o.dst undef) w') : wpList P ops Q (o :: rest) a w := by
  refine wpList_plain hg fun K' hK' => ?_
  unfold Oper.wp
  simp [execOp, hop, hm, hx, hv, run_map_new ht hd hb hf, Result.andThen]
  exact hK' _ _ (h _ (MapKept.heap_set hb).1 (grown_set hb))
theorem wpList_look {P : Program} (w : World) {ops : Array Oper} {rest : List Oper} {o : Oper} {a : Act} {Q : Exit → Act → World → Prop} (hg : o.guard = none) (m x : Operand) (t : TypeId) (hop : o.op = Op.lookup t m x false)
    (k e r clock : Nat) (es : Array MapEntry) (ht : P.underlying t = some (.map k e)) (hd : P.underlying k = some (.int .i64)) (hm : a.eval m = .map (some r)) (n : Int) (hx : a.eval x = .int .i64 n)
    (hb : w.heap[r]? = some (.map es clock)) (i : Nat) (u : Value) (hf : Instr.findNow (.int .i64) (.int .i64 n) es.toList 0 = some (some (i, u)))
    (h : wpList P ops Q rest (a.put o.dst u) w) : wpList P ops Q (o :: rest) a w := by
  refine wpList_plain hg fun K' hK' => ?_
  unfold Oper.wp
  simp [execOp, hop, hm, hx, run_map_look ht hd hb hf, Result.andThen]
  exact hK' _ _ h
end Go.Proofs.YtamcehfcjcmpmaaDoor
