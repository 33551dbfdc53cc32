/- A part of the walk. -/
import Derived.Test.YtecikkjbnkhhkaaGreatRows
import Derived.Deep.AppendLies
import Derived.Deep.Draws
import Derived.WalkKit
import Derived.Lib.SliceRun
import Derived.Deep.MidRow
import Derived.Laws.CopyOwn
import Derived.Lib.AppendZerosOnto
import Derived.Lib.Overlaps
namespace Go.Proofs.YtecikkjbnkhhkaaGreat
open _root_.Go.Proofs.Tryz
set_option maxHeartbeats 2000000
section
open Go.RowKit
theorem qs1 {k : IntKind} {a b : Int} (h : a = b) : Ending.returned (.int k a) = .returned (.int k b) := by rw [h]
theorem qc9 {a b : Bool} (h : a = b) : Ending.returned (.bool a) = .returned (.bool b) := by rw [h]
theorem qyq {a b : Value} (h : a = b) : Ending.returned a = .returned b := by rw [h]
theorem hid {p : Prop} (h : p) : Hid p := h
theorem qa1 {B : Nat} {a w : World} (h : Below B a w) (n : Nat) : Below B a (w.drewN n) := ⟨h.os, h.tape, h.output, h.size, h.block⟩
def Arr {α : Type} (enc : α → List Value) (k : Nat) (w : World) (B : Nat) (A : Option Addr) (l : List α) : Prop :=
 l = [] ∨ ∃ b off, A = some ⟨b, off, none⟩ ∧ b < B ∧ ∀ i (h : i < l.length) j u, (enc l[i])[j]? = some u → w.cell? ⟨b, off + i * k + j, none⟩ = some u
theorem Arr.nil {α : Type} {enc : α → List Value} {k : Nat} {w : World} {B : Nat} {A : Option Addr} : Arr enc k w B A [] := .inl rfl
theorem Arr.keep {α : Type} {enc : α → List Value} {k : Nat} {w w' : World} {B : Nat} {A : Option Addr} {l : List α} (h : Arr enc k w B A l)
 (hk : ∀ p : Addr, p.block < B → w'.cell? p = w.cell? p) : Arr enc k w' B A l := by
 rcases h with h | ⟨b, off, hA, hB, hc⟩
 · exact .inl h
 · exact .inr ⟨b, off, hA, hB, fun i hi j u hu => (hk ⟨b, _, none⟩ hB).trans (hc i hi j u hu)⟩
theorem Arr.below {α : Type} {enc : α → List Value} {k : Nat} {w w' : World} {B : Nat} {A : Option Addr} {l : List α} (h : Arr enc k w B A l) (hb : Below B w w') : Arr enc k w' B A l :=
 h.keep fun _ hp => hb.cell hp
theorem Arr.more {α : Type} {enc : α → List Value} {k : Nat} {w : World} {B B' : Nat} {A : Option Addr} {l : List α} (h : Arr enc k w B A l) (hB : B ≤ B') : Arr enc k w B' A l := by
 rcases h with h | ⟨b, off, hA, hb, hc⟩
 · exact .inl h
 · exact .inr ⟨b, off, hA, by omega, hc⟩
theorem Arr.take {α : Type} {enc : α → List Value} {k : Nat} {w : World} {B : Nat} {A : Option Addr} {l : List α} (h : Arr enc k w B A l) (n : Nat) : Arr enc k w B A (l.take n) := by
 rcases h with h | ⟨b, off, hA, hb, hc⟩
 · exact .inl (by simp [h])
 · refine .inr ⟨b, off, hA, hb, fun i hi j u hu => ?_⟩
   have hi' : i < l.length := by simp at hi; omega
   rw [List.getElem_take] at hu; exact hc i hi' j u hu
theorem Arr.drop {α : Type} {enc : α → List Value} {k : Nat} {w : World} {B : Nat} {A : Option Addr} {l : List α} (h : Arr enc k w B A l) {m c : Nat} (hm : m ≤ l.length) (hc : l.length ≤ c) :
 Arr enc k w B (if c = m then A else A.map (·.add (m * k))) (l.drop m) := by
 rcases h with h | ⟨b, off, rfl, hb, hcell⟩
 · exact .inl (by simp [h])
 · by_cases hlt : m = l.length
   · exact .inl (by simp [hlt])
   · rw [if_neg (by omega)]
     refine .inr ⟨b, off + m * k, ?_, hb, fun i hi j u hu => ?_⟩
     · by_cases h0 : m * k = 0 <;> simp [Addr.add, h0]
     · simp only [List.getElem_drop, List.length_drop] at hu hi
       have := hcell (m + i) (by omega) j u hu; rw [Nat.add_mul, ← Nat.add_assoc off] at this; exact this
theorem qgq {w wr : World} {cs : Array Value} {t : TypeId} (h : Below (w.heap.size + 1) (w.alloc (.cells cs t)) wr) (j : Nat) : wr.cell? ⟨w.heap.size, j, none⟩ = cs[j]? := by
 rw [h.cell (p := ⟨w.heap.size, j, none⟩) (by simp)]; exact World.cell?_alloc_at cs t _ j rfl
theorem qf3 {w wr : World} {o : Obj} {B : Nat} (h : Below B (w.alloc o) wr) : w.heap.size < wr.heap.size := by
 have := h.size; simp at this; omega
theorem qhr {α : Type} {l : List α} {i : Nat} (h : i < l.length) (d : α) : l.getD i d = l[i] := by simp [List.getD, h]
theorem qb0 {α : Type} {enc : α → List Value} {k : Nat} (hk : ∀ x, (enc x).length = k) : ∀ (l : List α) (i : Nat) (h : i < l.length) (j : Nat), j < k → (l.flatMap enc)[i * k + j]? = (enc l[i])[j]?
 | x :: l, 0, _, j, hj => by
  simp only [List.flatMap_cons, Nat.zero_mul, Nat.zero_add, List.getElem_cons_zero]
  rw [List.getElem?_append_left (by rw [hk]; exact hj)]
 | x :: l, i + 1, h, j, hj => by
  simp only [List.flatMap_cons, List.getElem_cons_succ]
  have e : (i + 1) * k + j = (enc x).length + (i * k + j) := by rw [hk, Nat.succ_mul]; omega
  rw [e, List.getElem?_append_right (by omega), Nat.add_sub_cancel_left]
  exact qb0 hk l i (by simpa using h) j hj
theorem qao {α : Type} {enc : α → List Value} {k : Nat} (hk : ∀ x, (enc x).length = k) (l : List α) : (l.flatMap enc).length = l.length * k := by
 induction l with
 | nil => simp
 | cons x l ih => simp only [List.flatMap_cons, List.length_append, hk, ih, List.length_cons, Nat.succ_mul]; omega
theorem Arr.of_cells {α : Type} {enc : α → List Value} {k : Nat} (hk : ∀ x, (enc x).length = k) {w : World} {B b off : Nat} {l : List α} (hb : b < B)
 (h : ∀ j u, (l.flatMap enc)[j]? = some u → w.cell? ⟨b, off + j, none⟩ = some u) : Arr enc k w B (some ⟨b, off, none⟩) l := by
 refine .inr ⟨b, off, rfl, hb, fun i hi j u hu => ?_⟩; have hj : j < k := by rw [← hk l[i]]; exact (List.getElem?_eq_some_iff.1 hu).1
 have := h (i * k + j) u (by rw [qb0 hk l i hi j hj]; exact hu); rwa [← Nat.add_assoc] at this
theorem Arr.lit {α : Type} {enc : α → List Value} {k : Nat} (hk : ∀ x, (enc x).length = k) (w : World) (t : TypeId) (l : List α) (cs : Array Value) (hcs : cs.toList = l.flatMap enc) :
 Arr enc k (w.alloc (.cells cs t)) (w.heap.size + 1) (some ⟨w.heap.size, 0, none⟩) l :=
 Arr.of_cells hk (by omega) fun j u hu => by
  rw [Nat.zero_add, World.cell?_alloc_at cs t _ j rfl, ← Array.getElem?_toList, hcs]
  exact hu
open Go.RowKit
theorem qax {b : Nat} {e : TypeId} : ∀ (vs : List Value) (o : Nat) (w : World) (cur : Array Value), w.heap[b]? = some (.cells cur e (0, 0)) → o + vs.length ≤ cur.size →
 ∃ cur', (w.setCells b o vs).heap[b]? = some (.cells cur' e (0, 0)) ∧ cur'.size = cur.size ∧ (∀ j, j < o → cur'[j]? = cur[j]?) ∧ (∀ j, o + vs.length ≤ j → cur'[j]? = cur[j]?) ∧ (∀ j (u : Value), vs[j]? = some u → cur'[o + j]? = some u)
 | [], o, w, cur, h, _ => ⟨cur, h, rfl, fun _ _ => rfl, fun _ _ => rfl, fun j u h => by simp at h⟩
 | v :: r, o, w, cur, h, hl => by
  simp only [List.length_cons] at hl
  obtain ⟨cur', h1, h2, h3, h4, h5⟩ := qax r (o + 1) (w.setCell ⟨b, o, none⟩ v) (cur.setIfInBounds o v) (heap_setCell_same w b o cur e v h) (by simp; omega)
  refine ⟨cur', h1, by simpa using h2, fun j hj => ?_, fun j hj => ?_, fun j u hu => ?_⟩
  · rw [h3 j (by omega), Array.getElem?_setIfInBounds_ne (by omega)]
  · simp only [List.length_cons] at hj
    rw [h4 j (by omega), Array.getElem?_setIfInBounds_ne (by omega)]
  · match j, hu with
    | 0, hu =>
     simp at hu
     subst hu
     rw [Nat.add_zero, h3 o (by omega), Array.getElem?_setIfInBounds_self_of_lt (by omega)]
    | j + 1, hu =>
     have := h5 j u (by simpa using hu)
     rwa [show o + 1 + j = o + (j + 1) by omega] at this
theorem qaa (b : Nat) : ∀ (vs : List Value) (o : Nat) (w : World) (k : Nat), k ≠ b → (w.setCells b o vs).heap[k]? = w.heap[k]?
 | [], _, _, _, _ => rfl
 | v :: r, o, w, k, h => by
  show ((w.setCell ⟨b, o, none⟩ v).setCells b (o + 1) r).heap[k]? = _
  rw [qaa b r (o + 1) _ k h]
  exact Below.heap_setCell w ⟨b, o, none⟩ v k h
theorem qam (b : Nat) : ∀ (vs : List Value) (o : Nat) (w : World), (w.setCells b o vs).os = w.os ∧ (w.setCells b o vs).tape = w.tape ∧ (w.setCells b o vs).output = w.output ∧ (w.setCells b o vs).heap.size = w.heap.size
 | [], _, _ => ⟨rfl, rfl, rfl, rfl⟩
 | v :: r, o, w => by
  obtain ⟨h1, h2, h3, h4⟩ := qam b r (o + 1) (w.setCell ⟨b, o, none⟩ v)
  exact ⟨h1, h2, h3, h4.trans (by simp [World.setCell])⟩
theorem qb4 (b : Nat) (vs : List Value) (o : Nat) (w : World) : w.grownBy (w.setCells b o vs) (some b) := by
 obtain ⟨h1, h2, h3, h4⟩ := qam b vs o w; exact ⟨h1, h2, h3, by omega, fun k _ hk => qaa b vs o w k (fun e => hk (by rw [e]))⟩
def Own {α : Type} (enc : α → List Value) (e : TypeId) (k : Nat) (w : World) (lo : Nat) (A : Option Addr) (c : Nat) (l : List α) : Prop :=
 l.length ≤ c ∧ c ≤ maxLen ∧ (c = 0 ∨ ∃ b off cur, A = some ⟨b, off, none⟩ ∧ lo ≤ b ∧ w.heap[b]? = some (.cells cur e (0, 0)) ∧ off + c * k ≤ cur.size ∧ ∀ j (u : Value), (l.flatMap enc)[j]? = some u → cur[off + j]? = some u)
section
variable {α : Type} {enc : α → List Value} {e : TypeId} {k : Nat} {w w' : World} {lo : Nat} {A : Option Addr} {c : Nat} {l : List α}
theorem Own.none_ : Own enc e k w lo none 0 [] := ⟨Nat.le_refl _, by simp, .inl rfl⟩
theorem Own.zero : Own enc e k w lo A 0 [] := ⟨Nat.le_refl _, by simp, .inl rfl⟩
theorem Own.len (h : Own enc e k w lo A c l) : l.length ≤ c := h.1
theorem Own.max (h : Own enc e k w lo A c l) : c ≤ 9223372036854775807 := by have := h.2.1; simpa [maxLen] using this
theorem Own.lt (h : Own enc e k w lo A c l) : c = 0 ∨ ∃ b off, A = some ⟨b, off, none⟩ ∧ lo ≤ b ∧ b < w.heap.size := by
 rcases h.2.2 with h0 | ⟨b, off, cur, hA, hlo, hh, _⟩
 · exact .inl h0
 · exact .inr ⟨b, off, hA, hlo, by
    rcases Nat.lt_or_ge b w.heap.size with hb | hb
    · exact hb
    · rw [Array.getElem?_eq_none hb] at hh; cases hh⟩
theorem Own.keep (h : Own enc e k w lo A c l) (hk : ∀ b off, A = some ⟨b, off, none⟩ → lo ≤ b → b < w.heap.size → w'.heap[b]? = w.heap[b]?) : Own enc e k w' lo A c l := by
 refine ⟨h.1, h.2.1, ?_⟩; have hl := h.lt; rcases h.2.2 with h0 | ⟨b, off, cur, hA, hlo, hh, hs, hc⟩
 · exact .inl h0
 · refine .inr ⟨b, off, cur, hA, hlo, ?_, hs, hc⟩
   rcases Nat.lt_or_ge b w.heap.size with hb | hb
   · rw [hk b off hA hlo hb]; exact hh
   · rw [Array.getElem?_eq_none hb] at hh; cases hh
theorem Own.below (h : Own enc e k w lo A c l) (hb : Below w.heap.size w w') : Own enc e k w' lo A c l := h.keep fun b _ _ _ hlt => hb.block b hlt
theorem Own.alloc (h : Own enc e k w lo A c l) (o : Obj) : Own enc e k (w.alloc o) lo A c l := h.keep fun b _ _ _ hlt => Below.heap_alloc w o b hlt
theorem Own.drewN (h : Own enc e k w lo A c l) (n : Nat) : Own enc e k (w.drewN n) lo A c l := h
theorem Own.drew (h : Own enc e k w lo A c l) : Own enc e k w.drew lo A c l := h
theorem Own.lower (h : Own enc e k w lo A c l) {lo' : Nat} (hl : lo' ≤ lo) : Own enc e k w lo' A c l := by
 refine ⟨h.1, h.2.1, ?_⟩; rcases h.2.2 with h0 | ⟨b, off, cur, hA, hlo, r⟩
 · exact .inl h0
 · exact .inr ⟨b, off, cur, hA, by omega, r⟩
theorem Own.grown (h : Own enc e k w lo A c l) {row : Option Nat} (hg : w.grownBy w' row) (hne : ∀ b off, A = some ⟨b, off, none⟩ → row ≠ some b) : Own enc e k w' lo A c l :=
 h.keep fun b off hA _ hlt => hg.block b hlt fun e => hne b off hA e.symm
theorem Own.arr (hk : ∀ x, (enc x).length = k) (h : Own enc e k w lo A c l) : Arr enc k w w.heap.size A l := by
 rcases h.2.2 with h0 | ⟨b, off, cur, hA, hlo, hh, hs, hc⟩
 · exact .inl (List.eq_nil_of_length_eq_zero (by have := h.1; omega))
 · subst hA
   refine Arr.of_cells hk ?_ fun j u hu => ?_
   · rcases Nat.lt_or_ge b w.heap.size with hb | hb
     · exact hb
     · rw [Array.getElem?_eq_none hb] at hh; cases hh
   · rw [cell_of_row w b _ _ _ _ hh]
     exact hc j u hu
theorem Own.of_row (_hk : ∀ x, (enc x).length = k) {n : Nat} {v : Value} (h : w.ownsRow lo e k v n (l.flatMap enc)) (hn : l.length = n) : ∃ A c, v = .slice A l.length c ∧ Own enc e k w lo A c l := by
 rcases h.2 with ⟨rfl, h0⟩ | ⟨g, cap, cur, rfl, hlo, hh, hnc, hm, hs, ht⟩
 · have hl : l = [] := List.eq_nil_of_length_eq_zero (by omega)
   subst hl; exact ⟨none, 0, rfl, Own.none_⟩
 · refine ⟨some ⟨g, 0, none⟩, cap, by rw [hn], by omega, hm, .inr ⟨g, 0, cur, rfl, hlo, hh, by omega, fun j u hu => ?_⟩⟩
   rw [Nat.zero_add, ← Array.getElem?_toList]; have hj : j < n * k := by rw [← h.1]; exact (List.getElem?_eq_some_iff.1 hu).1
   rw [← ht, List.getElem?_take_of_lt hj] at hu; exact hu
theorem Own.setCell (h : Own enc e k w lo A c l) {p : Addr} (hp : p.block < lo) (u : Value) : Own enc e k (w.setCell p u) lo A c l :=
 h.keep fun b _ _ hb _ => Below.heap_setCell w p u b (by omega)
theorem Own.apart {α' : Type} {enc' : α' → List Value} {e' k' lo' : Nat} {A' : Option Addr} {c' : Nat} {l' : List α'} (h : Own enc e k w lo A c l) (h' : Own enc' e' k' w' lo' A' c' l') (hw : w.heap.size ≤ lo') :
 ∀ b o b' o', A = some ⟨b, o, none⟩ → A' = some ⟨b', o', none⟩ → c = 0 ∨ c' = 0 ∨ b ≠ b' := by
 intro b o b' o' hA hA'; rcases h.lt with h0 | ⟨b1, o1, hA1, _, hlt⟩
 · exact .inl h0
 · rcases h'.lt with h0 | ⟨b2, o2, hA2, hge, _⟩
   · exact .inr (.inl h0)
   · rw [hA] at hA1; rw [hA'] at hA2
     cases hA1; cases hA2
     exact .inr (.inr (by omega))
theorem Own.frozen (h : Own enc e k w lo A c l) {b off : Nat} (hA : A = some ⟨b, off, none⟩) (hc : 0 < c) (j : Nat) : w.frozen? ⟨b, j, none⟩ = false := by
 rcases h.2.2 with h0 | ⟨b', off', cur, hA', hlo, hh, _⟩
 · omega
 · rw [hA] at hA'
   cases hA'
   exact frozen_of_row w b j cur e hh
end
def qa8 (A : Option Addr) (c : Nat) : Option Nat := if c = 0 then none else A.map (·.block)
theorem qeq {α : Type} {enc : α → List Value} {e : TypeId} {k : Nat} {P : Program} (w : World) (t ty : TypeId) (i : TypeInfo) (z : Value) (bytes : Nat) (ht : P.underlying t = some (.slice e)) (hi : P.info? e = some i) (hz : i.zero = some z)
 (hsize : i.size = k) (hby : i.bytes = bytes) (hzs : z.cells.size = k) (hk0 : 0 < k) (hk : ∀ x, (enc x).length = k) (h1 : ∀ x, ∀ u ∈ enc x, u.oneCell' = true)
 {lo : Nat} {A : Option Addr} {c : Nat} {l : List α} (own : Own enc e k w lo A c l) {B : Nat} {A2 : Option Addr} {m : List α} (arr : Arr enc k w B A2 m) (c2 : Nat)
 (h63 : l.length + m.length ≤ maxLen) (hbytes : (l.length + m.length) * bytes ≤ 140737488355328) (hlo : lo ≤ w.heap.size) :
 ∃ A' c' w', (Builtin.append_ #[t, t] ty #[.slice A l.length c, .slice A2 m.length c2]).run P w = .ok (.slice A' (l.length + m.length) c') w' ∧ Own enc e k w' lo A' c' (l ++ m) ∧ w.grownBy w' (qa8 A c) ∧ (A' = A ∧ c' = c ∨ ∃ g, A' = some ⟨g, 0, none⟩ ∧ w.heap.size ≤ g) := by
 by_cases hm0 : m = []
 · subst hm0
   refine ⟨A, c, w, ?_, by simpa using own, World.grownBy.refl _ _, .inl ⟨rfl, rfl⟩⟩; have hle := own.len; cases A2 with
   | none =>
    cases A with
    | none => simp [Builtin.append_, run_underlying ht, sizeOf, typeInfo, hi, Builtin.lenOf, Builtin.firstCells, hle]
    | some a => simp [Builtin.append_, run_underlying ht, sizeOf, typeInfo, hi, Builtin.lenOf, Builtin.firstCells, hle, storeCells]
   | some a2 =>
    cases A with
    | none => simp [Builtin.append_, run_underlying ht, sizeOf, typeInfo, hi, Builtin.lenOf, Builtin.firstCells, hle, loadCells, loadCellsFrom]
    | some a => simp [Builtin.append_, run_underlying ht, sizeOf, typeInfo, hi, Builtin.lenOf, Builtin.firstCells, hle, storeCells, loadCells, loadCellsFrom]
 rcases arr with rfl | ⟨b2, off2, rfl, hB2, hc2⟩
 · exact absurd rfl hm0
 have hml : 0 < m.length := by
  cases m with
  | nil => exact absurd rfl hm0
  | cons _ _ => simp
 have hnl : (m.flatMap enc).length = m.length * k := qao hk m; have hnews : ∀ j u, (m.flatMap enc)[j]? = some u → w.cell? ((⟨b2, off2, none⟩ : Addr).add j) = some u := by
  intro j u hu; have hj : j < m.length * k := by rw [← hnl]; exact (List.getElem?_eq_some_iff.1 hu).1
  have hq : j / k < m.length := Nat.div_lt_of_lt_mul (by rw [Nat.mul_comm]; exact hj); have hr : j % k < k := Nat.mod_lt _ hk0; have hjj : j / k * k + j % k = j := Nat.div_add_mod' j k; rw [Addr.add_lit, ← hjj, ← Nat.add_assoc]; refine hc2 (j / k) hq (j % k) u ?_; rw [← qb0 hk m (j / k) hq (j % k) hr, hjj]; exact hu
 have hone : ∀ u ∈ m.flatMap enc, u.oneCell' = true := by
  intro u hu; obtain ⟨x, _, hx⟩ := List.mem_flatMap.1 hu; exact h1 x u hx
 have hll : (l.flatMap enc).length = l.length * k := qao hk l; by_cases hroom : l.length + m.length ≤ c
 · rcases own.2.2 with h0 | ⟨b, off, cur, rfl, hlob, hh, hs, hc⟩
   · omega
   · subst hsize
     have hfit : off + l.length * i.size + (m.flatMap enc).length ≤ cur.size := by
      rw [hnl]; have : (l.length + m.length) * i.size ≤ c * i.size := Nat.mul_le_mul_right _ hroom; rw [Nat.add_mul] at this; omega
     have hrun := run_append_room_cells (P := P) w t ty e i ht hi b off l.length c ⟨b2, off2, none⟩ m.length c2 (m.flatMap enc) hnl hnews hone hroom
      (fun j hj => by rw [cell_of_row w b _ _ _ _ hh, Array.getElem?_eq_getElem (by omega)]; rfl) (fun j hj => frozen_of_row w b _ _ _ hh)
     obtain ⟨cur', g1, g2, g3, g4, g5⟩ := qax (m.flatMap enc) (off + l.length * i.size) w cur hh hfit; refine ⟨_, c, _, hrun, ⟨by simp; omega, own.2.1, .inr ⟨b, off, cur', rfl, hlob, g1, by omega, fun j u hu => ?_⟩⟩, by rw [qa8, if_neg (by omega)]; exact qb4 b _ _ w, .inl ⟨rfl, rfl⟩⟩; rw [List.flatMap_append] at hu; by_cases hj : j < l.length * i.size
     · rw [List.getElem?_append_left (by omega)] at hu
       rw [g3 _ (by omega)]; exact hc j u hu
     · rw [List.getElem?_append_right (by omega), hll] at hu
       have := g5 _ u hu; rwa [show off + l.length * i.size + (j - l.length * i.size) = off + j by omega] at this
 · have key : ∃ v' w', (Builtin.append_ #[t, t] ty #[.slice A l.length c, .slice (some ⟨b2, off2, none⟩) m.length c2]).run P w = .ok v' w' ∧ w'.ownsRow w.heap.size e k v' (l.length + m.length) (l.flatMap enc ++ m.flatMap enc) ∧ w.grownBy w' none := by
    cases A with
    | none =>
     have hc0 : c = 0 := by
      rcases own.2.2 with h0 | ⟨b, off, cur, hA, _⟩
      · exact h0
      · cases hA
     subst hc0; have hl0 : l = [] := List.eq_nil_of_length_eq_zero (by have := own.1; omega); subst hl0; obtain ⟨v', w', r1, r2, r3, _⟩ := run_append_own (P := P) w w.heap.size t ty e i z k bytes ht hi hz hsize hby hzs hk0 (.slice none 0 0) 0 [] (World.ownsRow_nil w _ e k) ⟨b2, off2, none⟩ m.length c2 (m.flatMap enc) hnl hnews hone (by simpa using h63) (by simpa using hbytes) (Nat.le_refl _); exact ⟨v', w', r1, by simpa using r2, r3⟩
    | some a =>
     refine run_append_arg_grows (P := P) w t ty e i z k bytes ht hi hz hsize hby hzs hk0 a l.length c (l.flatMap enc) hll (fun j u hu => ?_) ⟨b2, off2, none⟩ m.length c2 (m.flatMap enc) hnl hnews (by omega) h63 hbytes; rcases own.2.2 with h0 | ⟨b, off, cur, hA, hlob, hh, hs, hc⟩
     · have : l = [] := List.eq_nil_of_length_eq_zero (by have := own.1; omega)
       subst this; simp at hu
     · cases hA
       rw [Addr.add_lit, cell_of_row w b _ _ _ _ hh]; exact hc j u hu
   obtain ⟨v', w', r1, r2, r3⟩ := key; obtain ⟨g, cap, hv, hge, hlt⟩ := r2.form (by omega); obtain ⟨A', c', hv', hown⟩ := Own.of_row (l := l ++ m) hk (by rw [List.flatMap_append]; exact r2) (by simp); rw [List.length_append] at hv'; refine ⟨A', c', w', by rw [r1, hv'], hown.lower hlo, ?_, ?_⟩
   · exact ⟨r3.os, r3.tape, r3.output, r3.size, fun q hq _ => r3.block q hq (by simp)⟩
   · rw [hv'] at hv
     injection hv with hA'; exact .inr ⟨g, hA', hge⟩
theorem qar {α : Type} {enc : α → List Value} {e : TypeId} {k : Nat} {P : Program} (w : World) {ops : Array Oper} {rest : List Oper} {o : Oper} {a : Act} {Q : Exit → Act → World → Prop} (hgd : o.guard = none) (s x : Operand) (t : TypeId)
 (ho : o.op = .call { callee := .builtin .append, args := #[s, x], argTypes := #[t, t] })
 (i : TypeInfo) (z : Value) (bytes : Nat) (ht : P.underlying t = some (.slice e)) (hi : P.info? e = some i) (hz : i.zero = some z)
 (hsize : i.size = k) (hby : i.bytes = bytes) (hzs : z.cells.size = k) (hk0 : 0 < k) (hk : ∀ x, (enc x).length = k) (h1 : ∀ x, ∀ u ∈ enc x, u.oneCell' = true)
 {lo : Nat} {A : Option Addr} {c : Nat} {l : List α} (hs : a.eval s = .slice A l.length c) (own : Own enc e k w lo A c l) {B : Nat} {A2 : Option Addr} {m : List α} (c2 : Nat) (hx : a.eval x = .slice A2 m.length c2) (arr : Arr enc k w B A2 m)
 (h63 : l.length + m.length ≤ maxLen) (hbytes : (l.length + m.length) * bytes ≤ 140737488355328) (hlo : lo ≤ w.heap.size)
 (h : ∀ A' c' w', Own enc e k w' lo A' c' (l ++ m) → w.grownBy w' (qa8 A c) → (A' = A ∧ c' = c ∨ ∃ g, A' = some ⟨g, 0, none⟩ ∧ w.heap.size ≤ g) → wpList P ops Q rest (a.put o.dst (.slice A' (l.length + m.length) c')) w') : wpList P ops Q (o :: rest) a w := by
 obtain ⟨A', c', w', hrun, h2, h3, h4⟩ := qeq (P := P) w t o.type i z bytes ht hi hz hsize hby hzs hk0 hk h1 own arr c2 h63 hbytes hlo; refine wpList_plain hgd fun K hK => ?_
 unfold Oper.wp execOp; simp only [ho, resolve, invoke, builtin, Sem.run_bind, Sem.run_pure, Result.andThen_ok, List.map_toArray, List.map_cons, List.map_nil, hs, hx, hrun]; exact hK _ _ (h A' c' w' h2 h3 h4)
end
section
open Go.RowKit
def crc1 (c : Nat) : Nat := if c % 2 = 0 then c / 2 else c / 2 ^^^ 3988292384
def crcK : Nat → Nat → Nat
 | 0, c => c
 | k + 1, c => crc1 (crcK k c)
def crcB (c x : Nat) : Nat := crcK 8 (c ^^^ x)
theorem qgd {a b : Nat} (ha : a < 4294967296) (hb : b < 4294967296) : a ^^^ b < 4294967296 := Nat.xor_lt_two_pow (n := 32) ha hb
theorem qzi {c : Nat} (h : c < 4294967296) : crc1 c < 4294967296 := by
 unfold crc1; split
 · omega
 · exact qgd (by omega) (by omega)
theorem qnw {c : Nat} (h : c < 4294967296) : ∀ k, crcK k c < 4294967296
 | 0 => h
 | k + 1 => qzi (qnw h k)
theorem qzh {c x : Nat} (h : c < 4294967296) (hx : x < 256) : crcB c x < 4294967296 := qnw (qgd h (by omega)) 8
theorem qmn (a : Nat) (h : a < 4294967296) : bits .xor .u32 ((a : Int) / 2) 3988292384 = ((a / 2 ^^^ 3988292384 : Nat) : Int) := by
 have h1 : ((a : Int) / 2) = ((a / 2 : Nat) : Int) := by omega
 rw [h1]; exact u32_xor_nat (a / 2) 3988292384 (by omega) (by omega)
theorem qoj (c x : Nat) (hc : c < 4294967296) (hx : x < 256) (w : World) : Calls prog 287 #[.int .u32 (c : Int), .int .u8 (x : Int)] w fun e w' => e = .returned (.int .u32 (crcB c x : Nat)) ∧ w' = w := by
 have h0 : bits .xor .u32 (c : Int) (x : Int) = ((c ^^^ x : Nat) : Int) := u32_xor_nat c x hc (by omega); have hl := qgd hc (show x < 4294967296 by omega); have HL := hid hl; have i0 : IntKind.u32.wrap (x : Int) = (x : Int) := by rw [IntKind.wrap_u32']; omega
 clear hl; go_enter func287, ntmps287; go_wp2_with fail; go_wp2_with fail; go_step3; go_wp2_with fail; go_step3; go_wp2_with fail; clear h0 i0; go_loopw [0, 5] (fun v0 v5 wr => ∃ (k : Nat), k ≤ 8 ∧ v0 = .int .u32 (crcK k (c ^^^ x) : Nat) ∧ v5 = .int .i64 k ∧ wr = w) (fun _ v5 _ => 8 - (intOf v5).toNat)
 case atStart => exact ⟨0, by omega, rfl, rfl, rfl⟩
 case round =>
  obtain ⟨k, hk, rfl, rfl, rfl⟩ := hrel; by_cases hlt : k < 8
  · have hlti : (k : Int) < 8 := by omega
    have hm := qnw HL.out k; have HC := hid (show crcK (k + 1) (c ^^^ x) = crc1 (crcK k (c ^^^ x)) from rfl); generalize crcK k (c ^^^ x) = m at *; by_cases h2 : m % 2 = 0
    · have h3 : ((m : Int).tmod 2 == 0) = true := by rw [beq_iff_eq, Int.tmod_eq_emod_of_nonneg (by omega)]; omega
      go_wp2_with fail; exact ⟨⟨k + 1, by omega, by rw [HC.out, crc1, if_pos h2]; exact congrArg (Value.int .u32) (by omega), by go_num, trivial⟩, by simp [intOf]; omega⟩
    · have h3 : ((m : Int).tmod 2 == 0) = false := by rw [beq_eq_false_iff_ne, Int.tmod_eq_emod_of_nonneg (by omega)]; omega
      have h4 := qmn m hm; go_wp2_with fail; exact ⟨⟨k + 1, by omega, by rw [HC.out, crc1, if_neg h2], by go_num, trivial⟩, by simp [intOf]; omega⟩
  · obtain rfl : k = 8 := by omega
    go_wp2_with fail; rw [Exit.noGoto_ret]; go_ret; exact ⟨rfl, rfl⟩
def crcL (c : Nat) (l : List UInt8) : Nat := l.foldl (fun c x => crcB c x.toNat) c
theorem qg8 {c : Nat} (h : c < 4294967296) (l : List UInt8) : crcL c l < 4294967296 := by
 unfold crcL; induction l generalizing c with
 | nil => exact h
 | cons a l ih => exact ih (qzh h a.toNat_lt)
theorem qm2 {c : Nat} {l : List UInt8} {k : Nat} (hk : k < l.length) : crcL c (l.take (k + 1)) = crcB (crcL c (l.take k)) l[k].toNat := by
 unfold crcL; rw [List.take_succ_eq_append_getElem hk, List.foldl_append]; rfl
def sumT (s : ByteArray) : Nat := crcL 4294967295 s.data.toList ^^^ 4294967295
theorem qjq (s : ByteArray) (w : World) (hs : s.size ≤ 1000000) : Calls prog 299 #[.string s] w fun e w' => e = .returned (.int .u32 (sumT s : Nat)) ∧ w' = w := by
 go_enter func299, ntmps299; go_wp2_with fail; go_loopw [3, 4, 7] (fun v3 _ v7 wr => ∃ (k : Nat), k ≤ s.size ∧ v3 = .int .u32 (crcL 4294967295 (s.data.toList.take k) : Nat) ∧ v7 = .int .i64 k ∧ wr = w) (fun _ _ v7 _ => s.size - (intOf v7).toNat)
 case atStart => exact ⟨0, by omega, rfl, rfl, rfl⟩
 case round =>
  obtain ⟨k, hk, rfl, rfl, rfl⟩ := hrel; by_cases hlt : k < s.size
  · have hlti : (k : Int) < (s.size : Int) := by omega
    go_wp2_with fail; refine (qoj _ _ (qg8 (by omega) _) s[k].toNat_lt _).mono ?_; rintro e w2 ⟨rfl, rfl⟩; go_wp2_with fail; exact ⟨⟨k + 1, by omega, congrArg (fun n : Nat => Value.int .u32 (n : Int)) (qm2 (l := s.data.toList) (by simpa using hlt)).symm, by go_num, trivial⟩, by simp [intOf]; omega⟩
  · obtain rfl : k = s.size := by omega
    have hx : bits .xor .u32 ((crcL 4294967295 (s.data.toList.take s.size) : Nat) : Int) 4294967295 = (sumT s : Nat) := by
     rw [List.take_of_length_le (by simp)]; exact u32_xor_nat _ 4294967295 (qg8 (by omega) _) (by omega)
    go_wp2_with fail; go_ret; exact ⟨rfl, rfl⟩
def byE (x : UInt8) : List Value := [.int .u8 (x.toNat : Int)]
theorem qbn (x : UInt8) : (byE x).length = 1 := rfl
theorem qzk (x : UInt8) : ∀ u ∈ byE x, u.oneCell' = true := by intro u hu; simp [byE] at hu; subst hu; rfl
theorem Arr.byte1 {w : World} {B : Nat} {A : Option Addr} {l : List UInt8} (h : Arr byE 1 w B A l) {i : Nat} (hi : i < l.length) : ∃ b off, A = some ⟨b, off, none⟩ ∧ b < B ∧ w.cell? ⟨b, off + i, none⟩ = some (.int .u8 (l[i].toNat : Int)) := by
 rcases h with rfl | ⟨b, off, rfl, hB, hc⟩
 · simp at hi
 · exact ⟨b, off, rfl, hB, by simpa using hc i hi 0 _ rfl⟩
def sumL (c : Nat) (l : List UInt8) : Nat := crcL (c ^^^ 4294967295) l ^^^ 4294967295
theorem qmv {c : Nat} (h : c < 4294967296) (l : List UInt8) : sumL c l < 4294967296 := qgd (qg8 (qgd h (by omega)) l) (by omega)
theorem qu3 (c : Nat) (l : List UInt8) (A : Option Addr) (n : Nat) (w : World) (hc : c < 4294967296) (h : Arr byE 1 w w.heap.size A l) (hn : l.length ≤ n) (hm : n ≤ 9223372036854775807) : Calls prog 229 #[.int .u32 (c : Int), .slice A l.length n] w fun e w' => e = .returned (.int .u32 (sumL c l : Nat)) ∧ Below w.heap.size w w' := by
 have h0 : bits .xor .u32 (c : Int) 4294967295 = ((c ^^^ 4294967295 : Nat) : Int) := u32_xor_nat c 4294967295 hc (by omega); have HA := hid h; clear h; go_enter func229, ntmps229; go_wp2_with fail; clear h0; go_loopw [0, 6, 11] (fun v0 _ v11 wr => ∃ (k : Nat), k ≤ l.length ∧ v0 = .int .u32 (crcL (c ^^^ 4294967295) (l.take k) : Nat) ∧ v11 = .int .i64 k ∧ Below w.heap.size w wr) (fun _ _ v11 _ => l.length - (intOf v11).toNat)
 case atStart => exact ⟨0, by omega, rfl, rfl, Below.refl _ _⟩
 case round =>
  obtain ⟨k, hk, rfl, rfl, hb⟩ := hrel; by_cases hlt : k < l.length
  · have hlti : (k : Int) < (l.length : Int) := by omega
    obtain ⟨b, off, rfl, hB, c0⟩ := (HA.out.below hb).byte1 hlt; go_wp2_with fail; refine (qoj _ _ (qg8 (qgd hc (by omega)) _) l[k].toNat_lt _).mono ?_; rintro e w2 ⟨rfl, rfl⟩; go_wp2_with fail; exact ⟨⟨k + 1, by omega, congrArg (fun n : Nat => Value.int .u32 (n : Int)) (qm2 (l := l) hlt).symm, by go_num, hb⟩, by simp [intOf]; omega⟩
  · obtain rfl : k = l.length := by omega
    have hx : bits .xor .u32 ((crcL (c ^^^ 4294967295) l : Nat) : Int) 4294967295 = (sumL c l : Nat) := by
     exact u32_xor_nat _ 4294967295 (qg8 (qgd hc (by omega)) _) (by omega)
    go_wp2_with fail; go_ret; exact ⟨rfl, hb⟩
theorem qrr (l : List UInt8) (A : Option Addr) (n : Nat) (w : World) (h : Arr byE 1 w w.heap.size A l) (hn : l.length ≤ n) (hm : n ≤ 9223372036854775807) : Calls prog 211 #[.slice A l.length n] w fun e w' => e = .returned (.int .u32 (sumL 0 l : Nat)) ∧ Below w.heap.size w w' := by
 go_enter func211, ntmps211; go_wp2_with fail; refine (qu3 0 l A n w (by omega) h hn hm).mono ?_; rintro e w2 ⟨rfl, hb⟩; go_wp2_with fail; go_ret; exact ⟨rfl, hb⟩
def bucket (s : ByteArray) : Nat := sumT s % 8
theorem qmu (s : ByteArray) : sumT s < 4294967296 := qgd (qg8 (by omega) _) (by omega)
theorem qg9 (s : ByteArray) (w : World) (hs : s.size ≤ 1000000) : Calls prog 240 #[.string s] w fun e w' => e = .returned (.int .i64 (bucket s : Nat)) ∧ w' = w := by
 have hlt := qmu s; go_enter func240, ntmps240; go_wp2_with fail; refine (qjq s w hs).mono ?_; rintro e w2 ⟨rfl, rfl⟩; have h1 : (sumT s : Int).tmod 8 = ((bucket s : Nat) : Int) := by rw [Int.tmod_eq_emod_of_nonneg (by omega), bucket]; omega
 have hb : bucket s < 8 := by unfold bucket; omega
 have h2 : IntKind.i64.wrap ((bucket s : Nat) : Int) = ((bucket s : Nat) : Int) := Go.IntWalk.i64_in _ (by omega); go_wp2_with fail; go_ret; exact ⟨rfl, rfl⟩
end
section
open Go.RowKit
theorem qcu : (prog.info? 5).map (fun i => (i.zero, i.size, i.bytes)) = some (some (.int .u8 0), 1, 1) := by kernel_rfl
theorem qdw {ops : Array Oper} {rest : List Oper} {o : Oper} {a : Act} {Q : Exit → Act → World → Prop} (w : World) (hgd : o.guard = none) (s x : Operand)
 (ho : o.op = .call { callee := .builtin .append, args := #[s, x], argTypes := #[86, 86] }) {lo : Nat} {A : Option Addr} {c : Nat} {l : List UInt8} (hs : a.eval s = .slice A l.length c) (own : Own byE 5 1 w lo A c l)
 {B : Nat} {A2 : Option Addr} {m : List UInt8} (c2 : Nat) (hx : a.eval x = .slice A2 m.length c2) (arr : Arr byE 1 w B A2 m) (hb : l.length + m.length ≤ 1000000) (hlo : lo ≤ w.heap.size)
 (h : ∀ A' c' w', Own byE 5 1 w' lo A' c' (l ++ m) → w.grownBy w' (qa8 A c) → (A' = A ∧ c' = c ∨ ∃ g, A' = some ⟨g, 0, none⟩ ∧ w.heap.size ≤ g) → wpList prog ops Q rest (a.put o.dst (.slice A' (l.length + m.length) c')) w') :
 wpList prog ops Q (o :: rest) a w := by
 obtain ⟨i0, hi, hz0, hz1, hz2⟩ := info_parts qcu; exact qar w hgd s x 86 ho i0 _ 1 underlying86 hi hz0 hz1 hz2 rfl (by decide) qbn qzk hs own c2 hx arr (by unfold maxLen; omega) (by omega) hlo h
def qpi (l : List UInt8) (w : World) (e : Ending) (w' : World) : Prop := ∃ A' c', e = .returned (.slice A' l.length c') ∧ Own byE 5 1 w' w.heap.size A' c' l ∧ Below w.heap.size w w'
theorem qhy (l : List UInt8) (A : Option Addr) (c : Nat) (w : World) (hA : Arr byE 1 w w.heap.size A l) (hb : l.length ≤ 1000000) :
 Calls prog 119 #[.slice A l.length c] w (qpi l w) := by
 have HB := hid hb; clear hb; have hnil := fun W : World => Lib.run_eql_slice_nil (P := prog) W 86 5 A l.length c 0 0 underlying86
 cases A with
 | none =>
  go_enter func119, ntmps119; go_wp2; go_ret; have hl : l = [] := by
   rcases hA with h | ⟨b, off, h, _⟩
   · exact h
   · cases h
  subst hl; exact ⟨none, 0, rfl, Own.none_, Below.refl _ _⟩
 | some a =>
  go_enter func119, ntmps119; go_wp2_with (at_builtin; refine qdw (l := []) (m := l) _ rfl (.tmp 5) (.tmp 6) rfl rfl (Own.zero (lo := w.heap.size)) c rfl (hA.below ((Below.refl _ w).alloc (Nat.le_refl _) _)) (by simpa using HB.out) (by simp) ?_; intro A' c' w' hown hgr hloc); go_ret; refine ⟨A', c', by simp, by simpa using hown, ((Below.refl _ w).alloc (Nat.le_refl _) _).grown hgr (by simp) (fun k hk => ?_)⟩; simp [qa8] at hk
theorem qm6 (A : Option Addr) (m c : Nat) (at' n : Nat) (w : World) (h1 : 1 ≤ n) (h2 : n ≤ 8) (h3 : at' + n ≤ m) (h4 : m ≤ 1000000) : Calls prog 153 #[.slice A m c, .int .i64 at', .int .i64 n] w fun e w' => e = .returned (.int .i64 0) ∧ w' = w := by
 have g1 : ¬ (n : Int) < 1 := by omega
 have g2 : ¬ (8 : Int) < (n : Int) := by omega
 have g3 : ¬ (at' : Int) < 0 := by omega
 have g5 : IntKind.i64.wrap ((m : Int) - (n : Int)) = (m : Int) - (n : Int) := Go.IntWalk.i64_in _ (by omega); have g4 : ¬ (m : Int) - (n : Int) < (at' : Int) := by omega
 go_enter func153, ntmps153; go_wp2_with fail; go_ret; exact ⟨rfl, rfl⟩
def qts (v k : Nat) : UInt8 := UInt8.ofNat (v / 256 ^ k % 256)
def putL (l : List UInt8) (at' v : Nat) : Nat → List UInt8
 | 0 => l
 | k + 1 => (putL l at' v k).set (at' + k) (qts v k)
theorem qb7 (l : List UInt8) (at' v : Nat) : ∀ k, (putL l at' v k).length = l.length
 | 0 => rfl
 | k + 1 => by rw [putL, List.length_set, qb7 l at' v k]
theorem Own.setByte {w : World} {lo : Nat} {b off c : Nat} {l : List UInt8} (h : Own byE 5 1 w lo (some ⟨b, off, none⟩) c l) {i : Nat} (hi : i < l.length) (x : UInt8) :
 Own byE 5 1 (w.setCell ⟨b, off + i, none⟩ (.int .u8 (x.toNat : Int))) lo (some ⟨b, off, none⟩) c (l.set i x) := by
 obtain ⟨h1, h2, h3⟩ := h; rcases h3 with h3 | ⟨b', off', cur, hA, hlo, hh, hs, hc⟩
 · omega
 cases hA
 have fm : ∀ l : List UInt8, l.flatMap byE = l.map fun x => Value.int .u8 (x.toNat : Int) := fun l => by
  induction l with
  | nil => rfl
  | cons a l ih => rw [List.flatMap_cons, ih]; rfl
 refine ⟨by rw [List.length_set]; exact h1, h2, .inr ⟨b, off, cur.setIfInBounds (off + i) (.int .u8 (x.toNat : Int)), rfl, hlo, heap_setCell_same w b (off + i) cur _ _ hh, by simpa using hs, ?_⟩⟩; intro j u hu; rw [fm, List.getElem?_map, List.getElem?_set] at hu; rw [Array.getElem?_setIfInBounds]; by_cases hj : i = j
 · subst hj
   rw [if_pos rfl, if_pos hi] at hu; rw [if_pos rfl, if_pos (by omega)]; simpa using hu
 · rw [if_neg hj] at hu
   rw [if_neg (by omega)]; refine hc j u ?_; rw [fm, List.getElem?_map]; exact hu
def qyf (l : List UInt8) (w : World) (e : Ending) (w' : World) : Prop := ∃ A' c', e = .returned (.tuple #[.slice A' l.length c', .int .i64 0]) ∧ Own byE 5 1 w' w.heap.size A' c' l ∧ Below w.heap.size w w'
theorem qlc (k : Nat) : 256 ^ k = 2 ^ (8 * k) := by rw [Nat.pow_mul]
theorem qo2 (v k : Nat) : (qts v k).toNat = v / 256 ^ k % 256 := by
 unfold qts; rw [UInt8.toNat_ofNat']; omega
theorem qqz (v k : Nat) : IntKind.u8.wrap ((v : Int) / 2 ^ (8 * k)) = ((qts v k).toNat : Int) := by
 rw [IntKind.wrap_u8', qo2, qlc, Int.natCast_emod, Int.natCast_ediv, Int.natCast_pow]; rfl
theorem qvj {v n : Nat} (h : v < 256 ^ n) : ((v : Int) / 2 ^ (8 * n) != 0) = false := by
 rw [qlc] at h; have h1 : (v : Int) / 2 ^ (8 * n) = ((v / 2 ^ (8 * n) : Nat) : Int) := by rw [Int.natCast_ediv, Int.natCast_pow]; rfl
 rw [h1, Nat.div_eq_of_lt h]; rfl
theorem qgp (l : List UInt8) (A : Option Addr) (c at' n v : Nat) (w : World) (hA : Arr byE 1 w w.heap.size A l) (h1 : 1 ≤ n) (h2 : n ≤ 8) (h3 : at' + n ≤ l.length) (h4 : l.length ≤ 1000000) (hv : v < 256 ^ n) (_hv8 : v < 18446744073709551616) :
 Calls prog 154 #[.slice A l.length c, .int .i64 at', .int .i64 n, .int .u64 v] w (qyf (putL l at' v n) w) := by
 have hsh := qvj hv; go_enter func154, ntmps154; go_wp2_with fail; refine (qm6 A l.length c at' n w h1 h2 h3 h4).mono ?_; rintro e w1 ⟨rfl, rfl⟩; rcases Nat.lt_or_ge n 8 with hn | hn
 all_goals
  first | (have hni : (n : Int) < 8 := by omega) | (have hni : ¬ (n : Int) < 8 := by omega)
  go_wp2_with fail; refine (qhy l A c w1 hA h4).mono ?_; rintro e w2 ⟨A2, c2, rfl, hown, hb⟩; have HO := hid hown; have hlen := hown.len; have hmax := hown.max; clear hsh hA hown; obtain ⟨wo, hwo⟩ : ∃ x, x = w2 := ⟨_, rfl⟩; subst hwo; go_wp2_with fail; go_loopw [12, 32] (fun _ v32 wr => ∃ k : Nat, k ≤ n ∧ v32 = .int .i64 k ∧ Own byE 5 1 wr w1.heap.size A2 c2 (putL l at' v k) ∧ Below w1.heap.size w1 wr) (fun _ v32 _ => n - (intOf v32).toNat)
  case atStart => exact ⟨0, by omega, rfl, HO.out, hb⟩
  case round =>
   obtain ⟨k, hk, rfl, hown, hbr⟩ := hrel; have HOR := hid hown; by_cases hlt : k < n
   · have hlti : (k : Int) < (n : Int) := by omega
     have hpl := qb7 l at' v k; rcases hown.2.2 with h0 | ⟨nb, no, cur, rfl, hnb, hnh, hns, hnc⟩
     · omega
     have hkl : at' + k < (putL l at' v k).length := by omega
     obtain ⟨nb', no', hA', hB', n0⟩ := (HOR.out.arr qbn).byte1 hkl; cases hA'
     have nf := frozen_of_row wr nb (no + (at' + k)) _ _ hnh; have hi : (at' : Int) + (k : Int) < (l.length : Int) := by omega
     have hi0 : ¬ (at' : Int) + (k : Int) < 0 := by omega
     have iw : IntKind.i64.wrap ((at' : Int) + (k : Int)) = (at' : Int) + (k : Int) := Go.IntWalk.i64_in _ (by omega); have iw2 : IntKind.i64.wrap (8 * (k : Int)) = 8 * (k : Int) := Go.IntWalk.i64_in _ (by omega); have hbw := qqz v k; clear hown hnh hns hnc; go_wp2_with fail; exact ⟨⟨k + 1, by omega, by go_num, HOR.out.setByte hkl (qts v k), hbr.setCell hnb _⟩, by simp [intOf]; omega⟩
   · obtain rfl : k = n := by omega
     go_wp2_with fail; go_ret2; exact ⟨A2, c2, by rw [qb7]; rfl, HOR.out, hbr⟩
def getL (l : List UInt8) (at' : Nat) : Nat → Nat
 | 0 => 0
 | k + 1 => getL l at' k + (l.getD (at' + k) 0).toNat * 256 ^ k
theorem qnp (l : List UInt8) (at' : Nat) : ∀ k, getL l at' k < 256 ^ k
 | 0 => by simp [getL]
 | k + 1 => by
  have h1 := qnp l at' k
  have h2 := (l.getD (at' + k) 0).toNat_lt
  have h3 : (l.getD (at' + k) 0).toNat * 256 ^ k ≤ 255 * 256 ^ k := Nat.mul_le_mul_right _ (by omega)
  rw [getL, Nat.pow_succ]
  omega
theorem qyu {a k x : Nat} (ha : a < 256 ^ k) (_hk : k < 8) (_hx : x < 256) : a ||| x * 256 ^ k = a + x * 256 ^ k := by
 rw [Nat.or_comm, nat_join (8 * k) (x * 256 ^ k) a (by rw [qlc]; exact Nat.mul_mod_left _ _) (by rw [← qlc]; exact ha), Nat.add_comm]
theorem qyt {g k x : Nat} (hg : g < 256 ^ k) (hk : k < 8) (hx : x < 256) : bits .or .u64 (g : Int) (IntKind.u64.wrap ((x : Int) * 2 ^ (8 * k))) = ((g + x * 256 ^ k : Nat) : Int) := by
 have h1 : (x : Int) * 2 ^ (8 * k) = ((x * 256 ^ k : Nat) : Int) := by rw [qlc, Int.natCast_mul, Int.natCast_pow]; rfl
 have h3 : 256 ^ k ≤ 256 ^ 7 := Nat.pow_le_pow_right (by omega) (by omega); have h4 : x * 256 ^ k ≤ 255 * 256 ^ 7 := Nat.mul_le_mul (by omega) h3; have h5 : (255 : Nat) * 256 ^ 7 = 18374686479671623680 := by decide
 have h6 : (256 : Nat) ^ 7 = 72057594037927936 := by decide
 have h2 : IntKind.u64.wrap ((x * 256 ^ k : Nat) : Int) = ((x * 256 ^ k : Nat) : Int) := by
  rw [IntKind.wrap_u64]; omega
 rw [h1, h2, u64_or_nat g (x * 256 ^ k) (by omega) (by omega), qyu hg hk hx]
theorem qwk (l : List UInt8) (A : Option Addr) (c at' n : Nat) (w : World) (hA : Arr byE 1 w w.heap.size A l) (h1 : 1 ≤ n) (h2 : n ≤ 8) (h3 : at' + n ≤ l.length) (h4 : l.length ≤ 1000000) (hc : l.length ≤ c) (hm : c ≤ 9223372036854775807) :
 Calls prog 121 #[.slice A l.length c, .int .i64 at', .int .i64 n] w fun e w' => e = .returned (.tuple #[.int .u64 (getL l at' n : Nat), .int .i64 0]) ∧ w' = w := by
 have HA := hid hA; clear hA; go_enter func121, ntmps121; go_wp2_with fail; refine (qm6 A l.length c at' n w h1 h2 h3 h4).mono ?_; rintro e w1 ⟨rfl, rfl⟩; go_wp2_with fail; go_loopw [9, 10, 19] (fun v9 _ v19 wr => ∃ k : Nat, k ≤ n ∧ v9 = .int .u64 (getL l at' k : Nat) ∧ v19 = .int .i64 k ∧ wr = w1) (fun _ _ v19 _ => n - (intOf v19).toNat)
 case atStart => exact ⟨0, by omega, rfl, rfl, rfl⟩
 case round =>
  obtain ⟨k, hk, rfl, rfl, rfl⟩ := hrel; by_cases hlt : k < n
  · have hlti : (k : Int) < (n : Int) := by omega
    have hkl : at' + k < l.length := by omega
    obtain ⟨nb, no, rfl, hB, n0⟩ := HA.out.byte1 hkl; have hi : (at' : Int) + (k : Int) < (l.length : Int) := by omega
    have hi0 : ¬ (at' : Int) + (k : Int) < 0 := by omega
    have iw : IntKind.i64.wrap ((at' : Int) + (k : Int)) = (at' : Int) + (k : Int) := Go.IntWalk.i64_in _ (by omega); have iw2 : IntKind.i64.wrap (8 * (k : Int)) = 8 * (k : Int) := Go.IntWalk.i64_in _ (by omega); have hx := l[at' + k].toNat_lt; have HG := hid (qnp l at' k); have HN := hid (show getL l at' (k + 1) = getL l at' k + l[at' + k].toNat * 256 ^ k by rw [getL, List.getD_eq_getElem?_getD, List.getElem?_eq_getElem hkl, Option.getD_some]); generalize l[at' + k].toNat = x at *; generalize getL l at' k = g at *; go_wp2_with fail; exact ⟨⟨k + 1, by omega, by rw [qyt HG.out (by omega) hx, HN.out], by go_num, trivial⟩, by simp [intOf]; omega⟩
  · obtain rfl : k = n := by omega
    go_wp2_with fail; go_ret2; exact ⟨rfl, rfl⟩
end
section
open Go.RowKit
theorem qcn {P : Program} (w : World) (dT sT ty elem : TypeId) (i : TypeInfo) (b o dLen dCap : Nat) (a : Addr) (sLen sCap : Nat) (cs : List Value)
 (hu : P.underlying dT = some (.slice elem)) (hi : P.info? elem = some i) (hn : cs.length = Nat.min sLen dLen * i.size)
 (hsrc : ∀ j v, cs[j]? = some v → w.cell? (a.add j) = some v) (hc : ∀ j, j < cs.length → (w.cell? ⟨b, o + j, none⟩).isSome = true) (hf : ∀ j, j < cs.length → w.frozen? ⟨b, o + j, none⟩ = false) (h1 : ∀ v ∈ cs, v.oneCell' = true) :
 (Builtin.copy_ #[dT, sT] ty #[.slice (some ⟨b, o, none⟩) dLen dCap, .slice (some a) sLen sCap]).run P w = .ok (goInt (Nat.min sLen dLen)) (w.setCells b o cs) := by
 have hl := run_firstCells_some (P := P) w i.size (Nat.min sLen dLen) a sLen sCap cs hn hsrc; have hst := run_storeCells_cells (P := P) b o cs 0 w (by simpa using hc) (by simpa using hf) h1; simp [Builtin.copy_, run_underlying hu, Builtin.lenOf, sizeOf, typeInfo, hi, hl, hst]
theorem qf8 {α : Type} {enc : α → List Value} {k : Nat} (hk : ∀ x, (enc x).length = k) : ∀ (l : List α) (i : Nat), (l.take i).flatMap enc = (l.flatMap enc).take (i * k)
 | [], i => by simp
 | x :: l, 0 => by simp
 | x :: l, i + 1 => by
  simp only [List.take_succ_cons, List.flatMap_cons, qf8 hk l i]
  have h1 : (enc x).take ((i + 1) * k) = enc x := List.take_of_length_le (by rw [hk, Nat.succ_mul]; omega)
  have h2 : (i + 1) * k - k = i * k := by rw [Nat.succ_mul]; omega
  rw [List.take_append, hk, h1, h2]
theorem qlx {α : Type} {enc : α → List Value} {k : Nat} (hk : ∀ x, (enc x).length = k) : ∀ (l : List α) (i : Nat), (l.drop i).flatMap enc = (l.flatMap enc).drop (i * k)
 | [], i => by simp
 | x :: l, 0 => by simp
 | x :: l, i + 1 => by
  simp only [List.drop_succ_cons, List.flatMap_cons, qlx hk l i]
  have h1 : (enc x).drop ((i + 1) * k) = [] := List.drop_of_length_le (by rw [hk, Nat.succ_mul]; omega)
  have h2 : (i + 1) * k - k = i * k := by rw [Nat.succ_mul]; omega
  rw [List.drop_append, hk, h1, h2, List.nil_append]
def ins {α : Type} (l : List α) (i : Nat) (x : α) : List α := l.take i ++ x :: l.drop i
theorem qfx {α : Type} (l : List α) (i : Nat) (x : α) (h : i ≤ l.length) : (ins l i x).length = l.length + 1 := by simp [ins]; omega
theorem qwl {α : Type} {enc : α → List Value} {k : Nat} (hk : ∀ x, (enc x).length = k) (l : List α) (i : Nat) (x : α) :
 (ins l i x).flatMap enc = (l.flatMap enc).take (i * k) ++ (enc x ++ (l.flatMap enc).drop (i * k)) := by
 rw [ins, List.flatMap_append, List.flatMap_cons, qf8 hk, qlx hk]
theorem qln {α : Type} {enc : α → List Value} {k : Nat} (hk : ∀ x, (enc x).length = k) {l : List α} {i : Nat} {x : α} (hi : i ≤ l.length) {cur : Array Value} {off : Nat}
 (h1 : ∀ j u, ((l.flatMap enc).take (i * k))[j]? = some u → cur[off + j]? = some u) (h2 : ∀ j (u : Value), (enc x)[j]? = some u → cur[off + (i * k + j)]? = some u)
 (h3 : ∀ j u, ((l.flatMap enc).drop (i * k))[j]? = some u → cur[off + ((i + 1) * k + j)]? = some u) : ∀ j (u : Value), ((ins l i x).flatMap enc)[j]? = some u → cur[off + j]? = some u := by
 intro j u hu; rw [qwl hk] at hu; have hlt : ((l.flatMap enc).take (i * k)).length = i * k := by
  rw [List.length_take, qao hk]; have : i * k ≤ l.length * k := Nat.mul_le_mul_right _ hi; omega
 by_cases c1 : j < i * k
 · rw [List.getElem?_append_left (by omega)] at hu
   exact h1 j u hu
 · rw [List.getElem?_append_right (by omega), hlt] at hu
   by_cases c2 : j - i * k < k
   · rw [List.getElem?_append_left (by rw [hk]; exact c2)] at hu
     have := h2 _ u hu; rwa [show i * k + (j - i * k) = j by omega] at this
   · rw [List.getElem?_append_right (by rw [hk]; omega), hk] at hu
     have := h3 _ u hu; rwa [show (i + 1) * k + (j - i * k - k) = j by rw [Nat.succ_mul]; omega] at this
end
end Go.Proofs.YtecikkjbnkhhkaaGreat
