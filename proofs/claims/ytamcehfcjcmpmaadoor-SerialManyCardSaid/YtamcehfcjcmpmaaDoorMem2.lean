/- copy, append of a make, clear: at rows of things of k cells; what a thing set between others makes of a row's cells. No program is named. -/
import Derived.Test.YtamcehfcjcmpmaaDoorMem
import Derived.Lib.Overlaps
import Derived.Lib.AppendZerosOnto
import Derived.Laws.NewBlocks
import Derived.Deep.RegionLaw
namespace Go.Proofs.YtamcehfcjcmpmaaDoor
open Go.RowKit

/-- all is read before anything is written -/
theorem run_copy_k {P : Program} (w : World) (dT sT ty elem : TypeId) (i : TypeInfo) (b o dLen dCap : Nat) (a : Addr) (sLen sCap : Nat) (cs : List Value)
    (hu : P.underlying dT = some (.slice elem)) (hi : P.info? elem = some i) (hn : cs.length = Nat.min sLen dLen * i.size)
    (hsrc : ∀ j v, cs[j]? = some v → w.cell? (a.add j) = some v) (hc : ∀ j, j < cs.length → (w.cell? ⟨b, o + j, none⟩).isSome = true) (hf : ∀ j, j < cs.length → w.frozen? ⟨b, o + j, none⟩ = false) (h1 : ∀ v ∈ cs, v.oneCell' = true) :
    (Builtin.copy_ #[dT, sT] ty #[.slice (some ⟨b, o, none⟩) dLen dCap, .slice (some a) sLen sCap]).run P w = .ok (goInt (Nat.min sLen dLen)) (w.setCells b o cs) := by
  have hl := run_firstCells_some (P := P) w i.size (Nat.min sLen dLen) a sLen sCap cs hn hsrc
  have hst := run_storeCells_cells (P := P) b o cs 0 w (by simpa using hc) (by simpa using hf) h1
  simp [Builtin.copy_, run_underlying hu, Builtin.lenOf, sizeOf, typeInfo, hi, hl, hst]
theorem wp_copy_by {P : Program} (w : World) {o : Oper} {a : Act} {K : Act → World → Prop} {Q : Exit → Act → World → Prop} (d s : Operand) (t t' : TypeId)
    (ho : o.op = .call { callee := .builtin .copy, args := #[d, s], argTypes := #[t, t'] }) (v u : Value) (hd : a.eval d = v) (hs : a.eval s = u) {v' : Value} {w' : World}
    (hr : (Builtin.copy_ #[t, t'] o.type #[v, u]).run P w = .ok v' w') (h : K (a.put o.dst v') w') : o.wp P a w K Q := by
  unfold Oper.wp execOp
  simp only [ho, resolve, invoke, builtin, Sem.run_bind, Sem.run_pure, Result.andThen_ok, List.map_toArray, List.map_cons, List.map_nil, hd, hs, hr]
  exact h
theorem wpList_copy_by {P : Program} (w : World) {ops : Array Oper} {rest : List Oper} {o : Oper} {a : Act} {Q : Exit → Act → World → Prop} (hgd : o.guard = none) (d s : Operand) (t t' : TypeId)
    (ho : o.op = .call { callee := .builtin .copy, args := #[d, s], argTypes := #[t, t'] }) (v u : Value) (hd : a.eval d = v) (hs : a.eval s = u) {v' : Value} {w' : World}
    (hr : (Builtin.copy_ #[t, t'] o.type #[v, u]).run P w = .ok v' w') (h : wpList P ops Q rest (a.put o.dst v') w') : wpList P ops Q (o :: rest) a w :=
  wpList_plain hgd fun _ hK => wp_copy_by w d s t t' ho v u hd hs hr (hK _ _ h)
theorem step_copy_by {P : Program} {ops : Array Oper} {o : Oper} {a : Act} {w : World} {K : Act → World → Prop} {Q : Exit → Act → World → Prop} {E : Prop}
    (hg : o.guard = none) (d x : Operand) (dT sT : TypeId) (hop : o.op = Op.call { callee := Callee.builtin Builtin.copy, args := #[d, x], argTypes := #[dT, sT] })
    (v u : Value) (hd : a.eval d = v) (hx : a.eval x = u) {v' : Value} {w' : World} (hr : (Builtin.copy_ #[dT, sT] o.type #[v, u]).run P w = .ok v' w') (hK : K (a.put o.dst v') w') :
    if Region.wanted o (yielded ops a.tmps) = true then Oper.wp P o a w K Q else E := by
  have hw : Region.wanted o (yielded ops a.tmps) = true := by simp [Region.wanted, hg]
  rw [if_pos hw]
  exact wp_copy_by w d x dT sT hop v u hd hx hr hK

theorem flat_take {α : Type} {enc : α → List Value} {k : Nat} (hk : ∀ x, (enc x).length = k) : ∀ (l : List α) (i : Nat), (l.take i).flatMap enc = (l.flatMap enc).take (i * k)
  | [], i => by simp
  | x :: l, 0 => by simp
  | x :: l, i + 1 => by
    simp only [List.take_succ_cons, List.flatMap_cons, flat_take hk l i]
    have h1 : (enc x).take ((i + 1) * k) = enc x := List.take_of_length_le (by rw [hk, Nat.succ_mul]; omega)
    have h2 : (i + 1) * k - k = i * k := by rw [Nat.succ_mul]; omega
    rw [List.take_append, hk, h1, h2]
theorem flat_drop {α : Type} {enc : α → List Value} {k : Nat} (hk : ∀ x, (enc x).length = k) : ∀ (l : List α) (i : Nat), (l.drop i).flatMap enc = (l.flatMap enc).drop (i * k)
  | [], i => by simp
  | x :: l, 0 => by simp
  | x :: l, i + 1 => by
    simp only [List.drop_succ_cons, List.flatMap_cons, flat_drop hk l i]
    have h1 : (enc x).drop ((i + 1) * k) = [] := List.drop_of_length_le (by rw [hk, Nat.succ_mul]; omega)
    have h2 : (i + 1) * k - k = i * k := by rw [Nat.succ_mul]; omega
    rw [List.drop_append, hk, h1, h2, List.nil_append]
/-- a thing set between others -/
def ins {α : Type} (l : List α) (i : Nat) (x : α) : List α := l.take i ++ x :: l.drop i
theorem ins_length {α : Type} (l : List α) (i : Nat) (x : α) (h : i ≤ l.length) : (ins l i x).length = l.length + 1 := by simp [ins]; omega
theorem flat_ins {α : Type} {enc : α → List Value} {k : Nat} (hk : ∀ x, (enc x).length = k) (l : List α) (i : Nat) (x : α) :
    (ins l i x).flatMap enc = (l.flatMap enc).take (i * k) ++ (enc x ++ (l.flatMap enc).drop (i * k)) := by
  rw [ins, List.flatMap_append, List.flatMap_cons, flat_take hk, flat_drop hk]
/-- the cells of a row behind the shift, and behind the store: what it holds is the list with x set in -/
theorem ins_cells {α : Type} {enc : α → List Value} {k : Nat} (hk : ∀ x, (enc x).length = k) {l : List α} {i : Nat} {x : α} (hi : i ≤ l.length) {cur : Array Value} {off : Nat}
    (h1 : ∀ j u, ((l.flatMap enc).take (i * k))[j]? = some u → cur[off + j]? = some u) (h2 : ∀ j (u : Value), (enc x)[j]? = some u → cur[off + (i * k + j)]? = some u)
    (h3 : ∀ j u, ((l.flatMap enc).drop (i * k))[j]? = some u → cur[off + ((i + 1) * k + j)]? = some u) : ∀ j (u : Value), ((ins l i x).flatMap enc)[j]? = some u → cur[off + j]? = some u := by
  intro j u hu
  rw [flat_ins hk] at hu
  have hlt : ((l.flatMap enc).take (i * k)).length = i * k := by
    rw [List.length_take, flat_length hk]
    have : i * k ≤ l.length * k := Nat.mul_le_mul_right _ hi
    omega
  by_cases c1 : j < i * k
  · rw [List.getElem?_append_left (by omega)] at hu
    exact h1 j u hu
  · rw [List.getElem?_append_right (by omega), hlt] at hu
    by_cases c2 : j - i * k < k
    · rw [List.getElem?_append_left (by rw [hk]; exact c2)] at hu
      have := h2 _ u hu
      rwa [show i * k + (j - i * k) = j by omega] at this
    · rw [List.getElem?_append_right (by rw [hk]; omega), hk] at hu
      have := h3 _ u hu
      rwa [show (i + 1) * k + (j - i * k - k) = j by rw [Nat.succ_mul]; omega] at this
theorem drew_setCells' (b : Nat) : ∀ (vs : List Value) (o : Nat) (w : World), (w.setCells b o vs).drew = w.drew.setCells b o vs
  | [], _, _ => rfl
  | v :: r, o, w => by rw [World.setCells, World.setCells, drew_setCells' b r]; rfl
end Go.Proofs.YtamcehfcjcmpmaaDoor
