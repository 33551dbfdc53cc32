/- What SerialRow's loops hold in memory: twelve marks, a store in a variable; SameBools at equal lists. -/
import Derived.Test.YtamcehfcjcmpmaaDoorRow
import Derived.Test.YtamcehfcjcmpmaaDoorLg
namespace Go.Proofs.YtamcehfcjcmpmaaDoor
open Go.RowKit

set_option maxHeartbeats 2000000 in
theorem sameBools_eq (l : List Bool) (A : Option Addr) (c : Nat) (B : Option Addr) (d : Nat) (w : World) (hA : Arr bit 1 w w.heap.size A l) (hB : Arr bit 1 w w.heap.size B l) (hl : l.length ≤ 1000000) (a : Nat) :
    Calls Tryd.prog 22 #[.slice A l.length c, .slice B l.length d] (w.drewN a) fun e w' => e = .returned (.bool true) ∧ ∃ m, w' = w.drewN m := by
  have HA := hid hA
  have HB := hid hB
  clear hA hB
  go_enter Tryd.func22, Tryd.ntmps22
  go_wp2_with fail
  go_loopw [5] (fun v5 wr => ∃ k m : Nat, k ≤ l.length ∧ v5 = .int .i64 k ∧ wr = w.drewN m) (fun v5 _ => l.length - (intOf v5).toNat)
  case atStart => exact ⟨0, a, Nat.zero_le _, rfl, rfl⟩
  case round =>
    obtain ⟨k, m, hkl, rfl, hwr⟩ := hrel
    have hb : Below w.heap.size w wr := by rw [hwr]; exact below_drewN (Below.refl _ _) m
    have HWR := hid hwr
    clear hwr
    by_cases hlt : k < l.length
    · obtain ⟨b, off, rfl, hbB, d0⟩ := (HA.out.below hb).bit1 hlt
      obtain ⟨b', off', rfl, hbB', d1⟩ := (HB.out.below hb).bit1 hlt
      simp only [Nat.mul_one] at d0 d1
      have hsz := hb.size
      have hb1 : b < wr.heap.size := by omega
      have hb2 : b' < wr.heap.size := by omega
      have i1 : (0 : Int) ≤ (k : Int) := by omega
      have i2 : (k : Int) < (l.length : Int) := by omega
      go_wp2_with fail
      go_quiet (fail)
      go_wp2
      have hq : ∀ q, ∃ m', wr.drewN q = w.drewN m' := fun q => ⟨m + q, by rw [HWR.out]; exact World.drewN_drewN w _ _⟩
      obtain ⟨m', hm'⟩ := hq nq
      exact ⟨⟨k + 1, m', by omega, by go_num, hm'⟩, by simp [intOf]; omega⟩
    · go_wp2_with fail
      go_ret
      exact ⟨rfl, m, HWR.out⟩
/-- all that was stays, but two blocks -/
structure Old2 (lo p q : Nat) (w w' : World) : Prop where
  below : Below lo w w'
  keep : ∀ b, b < w.heap.size → b ≠ p → b ≠ q → w'.heap[b]? = w.heap[b]?
theorem Old2.refl (lo p q : Nat) (w : World) : Old2 lo p q w w := ⟨Below.refl _ _, fun _ _ _ _ => rfl⟩
theorem Old2.of_below {lo p q : Nat} {w w' : World} (h : Below w.heap.size w w') (hlo : lo ≤ w.heap.size) : Old2 lo p q w w' := ⟨h.mono hlo, fun b hb _ _ => h.block b hb⟩
theorem Old2.trans {lo p q : Nat} {a b c : World} (h : Old2 lo p q a b) (k : Old2 lo p q b c) : Old2 lo p q a c := ⟨h.below.trans k.below, fun i hi h1 h2 => (k.keep i (Nat.lt_of_lt_of_le hi h.below.size) h1 h2).trans (h.keep i hi h1 h2)⟩
theorem Old2.more {lo p q : Nat} {a b c : World} (h : Old2 lo p q a b) (k : Below b.heap.size b c) (hlo : lo ≤ b.heap.size) : Old2 lo p q a c := h.trans (Old2.of_below k hlo)
theorem Old2.setP {lo p q : Nat} {a w : World} (h : Old2 lo p q a w) (hp : lo ≤ p) (o : Nat) (u : Value) : Old2 lo p q a (w.setCell ⟨p, o, none⟩ u) := ⟨h.below.setCell hp u, fun b hb hne hnq => (Below.heap_setCell _ _ _ _ hne).trans (h.keep b hb hne hnq)⟩
theorem Old2.setQ {lo p q : Nat} {a w : World} (h : Old2 lo p q a w) (hq : lo ≤ q) (o : Nat) (u : Value) : Old2 lo p q a (w.setCell ⟨q, o, none⟩ u) := ⟨h.below.setCell hq u, fun b hb hne hnq => (Below.heap_setCell _ _ _ _ hnq).trans (h.keep b hb hne hnq)⟩
/-- a list in a block that is neither of the two -/
def ArrX {α : Type} (enc : α → List Value) (k p q : Nat) (w : World) (A : Option Addr) (l : List α) : Prop :=
  l = [] ∨ ∃ b off, A = some ⟨b, off, none⟩ ∧ (b < w.heap.size ∧ b ≠ p ∧ b ≠ q) ∧ ∀ i (h : i < l.length) j u, (enc l[i])[j]? = some u → w.cell? ⟨b, off + i * k + j, none⟩ = some u
section
variable {α : Type} {enc : α → List Value} {k lo p q : Nat} {w w' : World} {A : Option Addr} {l : List α}
theorem ArrX.old (h : ArrX enc k p q w A l) (hf : Old2 lo p q w w') : ArrX enc k p q w' A l := by
  rcases h with h | ⟨b, off, h1, ⟨h2, h4, h5⟩, h3⟩
  · exact .inl h
  · exact .inr ⟨b, off, h1, ⟨Nat.lt_of_lt_of_le h2 hf.below.size, h4, h5⟩, fun i hi j u hu => (World.cell?_of_block (a := ⟨b, off + i * k + j, none⟩) (hf.keep b h2 h4 h5)).trans (h3 i hi j u hu)⟩
theorem ArrX.arr (h : ArrX enc k p q w A l) : Arr enc k w w.heap.size A l := by
  rcases h with h | ⟨b, off, h1, h2, h3⟩
  · exact .inl h
  · exact .inr ⟨b, off, h1, h2.1, h3⟩
theorem ArrX.of_arr {B : Nat} (h : Arr enc k w B A l) (hB : B ≤ w.heap.size) (hp : B ≤ p) (hq : B ≤ q) : ArrX enc k p q w A l := by
  rcases h with h | ⟨b, off, h1, h2, h3⟩
  · exact .inl h
  · exact .inr ⟨b, off, h1, ⟨by omega, by omega, by omega⟩, h3⟩
theorem ArrX.of_own {e : TypeId} {c lo' : Nat} (hk : ∀ x, (enc x).length = k) (h : Own enc e k w lo' A c l) (hp : p < lo') (hq : q < lo') : ArrX enc k p q w A l := by
  rcases h.arr hk with ha | ⟨b, off, h1, h2, h3⟩
  · exact .inl ha
  · rcases h.lt with h0 | ⟨b', off', h4, h5, -⟩
    · have : l.length = 0 := by have := h.len; omega
      exact .inl (List.length_eq_zero_iff.1 this)
    · rw [h1] at h4
      cases h4
      exact .inr ⟨b, off, h1, ⟨h2, by omega, by omega⟩, h3⟩
end
structure ShX (p q : Nat) (w : World) (PA : Option Addr) (pc : Nat) (QA : Option Addr) (qc : Nat) (s : Shelf) : Prop where
  pairs : ArrX Pair.enc 2 p q w PA s.pairs
  plen : s.pairs.length ≤ pc
  pmax : pc ≤ 9223372036854775807
  queue : ArrX txt 1 p q w QA s.queue
  qlen : s.queue.length ≤ qc
  qmax : qc ≤ 9223372036854775807
theorem ShX.old {lo p q : Nat} {w w' : World} {PA QA : Option Addr} {pc qc : Nat} {s : Shelf} (h : ShX p q w PA pc QA qc s) (hf : Old2 lo p q w w') : ShX p q w' PA pc QA qc s := ⟨h.pairs.old hf, h.plen, h.pmax, h.queue.old hf, h.qlen, h.qmax⟩
theorem ShX.in_ {p q : Nat} {w : World} {PA QA : Option Addr} {pc qc : Nat} {s : Shelf} (h : ShX p q w PA pc QA qc s) : ShIn w w.heap.size PA pc QA qc s := ⟨h.pairs.arr, h.plen, h.pmax, h.queue.arr, h.qlen, h.qmax⟩
theorem ShX.of_in {B p q : Nat} {w : World} {PA QA : Option Addr} {pc qc : Nat} {s : Shelf} (h : ShIn w B PA pc QA qc s) (hB : B ≤ w.heap.size) (hp : B ≤ p) (hq : B ≤ q) : ShX p q w PA pc QA qc s := ⟨ArrX.of_arr h.pairs hB hp hq, h.plen, h.pmax, ArrX.of_arr h.queue hB hp hq, h.qlen, h.qmax⟩
theorem ShX.of_own {lo' p q : Nat} {w : World} {PA QA : Option Addr} {pc qc : Nat} {s : Shelf} (h : ShOwn w lo' PA pc QA qc s) (hp : p < lo') (hq : q < lo') : ShX p q w PA pc QA qc s :=
  ⟨ArrX.of_own Pair.enc_len h.pairs hp hq, h.pairs.len, h.pairs.max, ArrX.of_own txt_len h.queue hp hq, h.queue.len, h.queue.max⟩
/-- twelve marks: of those in a row -/
def marks (r : List Nat) : List Value := (List.range 12).map fun k => .bool (decide (k ∈ r))
theorem marks_get {r : List Nat} {k : Nat} (hk : k < 12) : (marks r)[k]? = some (.bool (decide (k ∈ r))) := by
  unfold marks
  rw [List.getElem?_map, List.getElem?_range hk]
  rfl
theorem marks_set {r : List Nat} {k : Nat} (hk : k < 12) : (marks r).toArray.setIfInBounds k (.bool true) = (marks (r ++ [k])).toArray := by
  apply Array.ext'
  rw [Array.toList_setIfInBounds]
  apply List.ext_getElem?
  intro i
  rw [List.getElem?_set]
  by_cases hi : i < 12
  · rw [marks_get hi]
    show _ = (marks (r ++ [k]))[i]?
    rw [marks_get hi]
    by_cases h : k = i
    · subst h
      rw [if_pos rfl, if_pos (by simp [marks]; omega)]
      simp
    · rw [if_neg h]
      congr 2
      simp [Ne.symm h]
  · have h1 : (marks r).length = 12 := by simp [marks]
    have h2 : (marks (r ++ [k])).length = 12 := by simp [marks]
    rw [if_neg (by omega)]
    rw [List.getElem?_eq_none (by show (marks r).length ≤ i; omega)]
    show _ = (marks (r ++ [k]))[i]?
    rw [List.getElem?_eq_none (by omega)]
theorem ok_ans {x : Item} {S : Shelf} (h : x.ok S = true) (he : 0 ≤ x.s.en) : (apA x.s.c x.g S).found = x.s.fd ∧ (apA x.s.c x.g S).value = x.s.vl ∧ (apA x.s.c x.g S).hits = x.hs := by
  unfold Item.ok answeredB at h
  rw [decide_eq_false (show ¬ x.s.en < 0 by omega), Bool.false_or, Bool.and_eq_true, Bool.and_eq_true, Bool.and_eq_true] at h
  obtain ⟨⟨⟨-, h1⟩, h2⟩, h3⟩ := h
  exact ⟨(by simpa using h1 : x.s.fd = _).symm, (toList_inj (by simpa using h2)).symm, (by simpa using h3 : x.hs = _).symm⟩
theorem counts_kind {s : Story} (h : countsB s = true) : kindB s.c.kind = true := by
  unfold countsB at h
  rw [Bool.and_eq_true] at h
  exact h.1
theorem picks_countK : ∀ xs : List Item, (picks xs).length ≤ countK (stories xs)
  | [] => Nat.le_refl _
  | x :: xs => by
    have h := picks_countK xs
    unfold picks countK stories at h ⊢
    rw [List.map_cons]
    by_cases hc : countsB x.s = true
    · have hk := counts_kind hc
      simp only [List.filter_cons, hc, hk, if_true, List.length_cons]
      omega
    · have hc' : countsB x.s = false := by simpa using hc
      by_cases hk : kindB x.s.c.kind = true
      · rw [List.filter_cons, List.filter_cons, hc', hk, if_neg (by decide), if_pos rfl, List.length_cons]
        omega
      · have hk' : kindB x.s.c.kind = false := by simpa using hk
        rw [List.filter_cons, List.filter_cons, hc', hk', if_neg (by decide), if_neg (by decide)]
        exact h
theorem countK_one (s : Story) : countK [s] = if kindB s.c.kind = true then 1 else 0 := by
  unfold countK
  by_cases h : kindB s.c.kind = true <;> simp [h]
theorem Arr.one14 {w : World} {b off i : Nat} {s : Story} (hb : b < w.heap.size) (h : StCells w b (off + i * 14) s) : Arr Story.enc 14 w w.heap.size (some ⟨b, off + i * 14, none⟩) [s] := by
  refine Arr.of_cells Story.enc_len hb fun j u hu => ?_
  simp only [List.flatMap_cons, List.flatMap_nil, List.append_nil] at hu
  have hj : j < 14 := by
    rcases Nat.lt_or_ge j 14 with h1 | h1
    · exact h1
    · rw [List.getElem?_eq_none (by rw [Story.enc_len]; exact h1)] at hu; cases hu
  match j, hj, hu with
  | 0, _, hu => rw [← hu]; exact h.c0
  | 1, _, hu => rw [← hu]; exact h.c1
  | 2, _, hu => rw [← hu]; exact h.c2
  | 3, _, hu => rw [← hu]; exact h.c3
  | 4, _, hu => rw [← hu]; exact h.c4
  | 5, _, hu => rw [← hu]; exact h.c5
  | 6, _, hu => rw [← hu]; exact h.c6
  | 7, _, hu => rw [← hu]; exact h.c7
  | 8, _, hu => rw [← hu]; exact h.c8
  | 9, _, hu => rw [← hu]; exact h.c9
  | 10, _, hu => rw [← hu]; exact h.c10
  | 11, _, hu => rw [← hu]; exact h.c11
  | 12, _, hu => rw [← hu]; exact h.c12
  | 13, _, hu => rw [← hu]; exact h.c13
/-- the first loop of SerialRow, as far as it came -/
structure RInv (lo p q : Nat) (xs : List Item) (s : Shelf) (rr : List Nat) (w4 wr : World) (n : Nat) (PT : Option Addr) (tc : Nat) (QT : Option Addr) (uc : Nat) : Prop where
  ins : wr.heap[p]? = some (.cells (marks (rr.take n)).toArray 60 (0, 0))
  row : wr.heap[q]? = some (.cells #[.slice PT (runR xs s (rr.take n)).pairs.length tc, .slice QT (runR xs s (rr.take n)).queue.length uc] 25 (0, 0))
  sh : ShX p q wr PT tc QT uc (runR xs s (rr.take n))
  old : Old2 lo p q w4 wr
  small : Small (runR xs s (rr.take n)) n
theorem RInv.next {lo p : Nat} {xs : List Item} {s : Shelf} {rr : List Nat} {w4 wo w5 wk wv : World} {n : Nat} {PT : Option Addr} {tc : Nat} {QT : Option Addr} {uc : Nat} (h : RInv lo p (p + 1) xs s rr w4 wo n PT tc QT uc) (hlo : lo ≤ p) {x : Item} (hx : runR xs s (rr.take (n + 1)) = x.next (runR xs s (rr.take n))) (O5 : Old2 lo p (p + 1) wo w5) (hk : Below w5.heap.size w5 wk) (hv : Below wk.heap.size wk wv)
    (h5 : lo ≤ w5.heap.size) (hpk : p + 1 < wk.heap.size) (hI : wk.heap[p]? = some (.cells (marks (rr.take (n + 1))).toArray 60 (0, 0))) {cur : Array Value} (hP : wk.heap[p + 1]? = some (.cells cur 25 (0, 0))) {u0 u1 : Value} (hcur : cur = #[u0, u1]) {PX : Option Addr} {px : Nat} {QX : Option Addr} {qx : Nat} {T' : Shelf} (hT : T' = x.next (runR xs s (rr.take n))) (hX : ShOwn wv wk.heap.size PX px QX qx T') (m : Nat) :
    RInv lo p (p + 1) xs s rr w4 (((wv.drewN m).setCell ⟨p + 1, 0, none⟩ (.slice PX T'.pairs.length px)).setCell ⟨p + 1, 1, none⟩ (.slice QX T'.queue.length qx)) (n + 1) PX px QX qx := by
  subst hcur
  have hlk : lo ≤ wk.heap.size := by omega
  have Iv := (hv.block p (by omega)).trans hI
  have Pv := (hv.block (p + 1) hpk).trans hP
  have hlv : lo ≤ wv.heap.size := Nat.le_trans hlk hv.size
  have OV : Old2 lo p (p + 1) wv (((wv.drewN m).setCell ⟨p + 1, 0, none⟩ (.slice PX T'.pairs.length px)).setCell ⟨p + 1, 1, none⟩ (.slice QX T'.queue.length qx)) := ((Old2.of_below (below_drewN (Below.refl _ _) m) hlv).setQ (by omega) _ _).setQ (by omega) _ _
  have hT2 : runR xs s (rr.take (n + 1)) = T' := by rw [hx, hT]
  refine ⟨?_, ?_, ?_, ?_, ?_⟩
  · exact (Below.heap_setCell _ _ _ _ (by show p ≠ p + 1; omega)).trans ((Below.heap_setCell _ _ _ _ (by show p ≠ p + 1; omega)).trans Iv)
  · rw [hT2]
    exact heap_setCell_same _ (p + 1) 1 _ _ (.slice QX T'.queue.length qx) (heap_setCell_same _ (p + 1) 0 _ _ (.slice PX T'.pairs.length px) Pv)
  · rw [hT2]
    exact (ShX.of_own hX (by omega) (by omega)).old OV
  · exact (((h.old.trans O5).more hk h5).more hv hlk).trans OV
  · rw [hx]
    exact h.small.next
theorem runR_next {xs : List Item} {s : Shelf} {rr : List Nat} {n : Nat} (hn : n < rr.length) (hk : rr[n] < xs.length) : runR xs s (rr.take (n + 1)) = xs[rr[n]].next (runR xs s (rr.take n)) := by
  rw [List.take_succ_eq_append_getElem hn, runR_snoc, List.getElem?_eq_getElem hk]
end Go.Proofs.YtamcehfcjcmpmaaDoor
