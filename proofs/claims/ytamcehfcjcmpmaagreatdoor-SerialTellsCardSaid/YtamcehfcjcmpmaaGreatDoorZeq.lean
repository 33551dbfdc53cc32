/- The law's helpers: two lists held against each other, and a list of numbers written over. -/
import Derived.Test.YtamcehfcjcmpmaaGreatDoorRow
import Derived.Test.YtamcehfcjcmpmaaGreatDoorCopyS
import Derived.Laws.StructEq
import Derived.Deep.QuietTactic
namespace Go.Proofs.YtamcehfcjcmpmaaGreatDoor
open Go.RowKit

instance : DecidableEq Pair := fun a b => decidable_of_iff (a.key = b.key ∧ a.val = b.val) (by cases a; cases b; simp)
theorem pre_succ {α : Type} {l m : List α} {k : Nat} (hk : k < l.length) (hk' : k < m.length) (h : l.take k = m.take k) (h1 : l[k] = m[k]) : l.take (k + 1) = m.take (k + 1) := by
  rw [List.take_succ_eq_append_getElem hk, List.take_succ_eq_append_getElem hk', h, h1]
theorem pre_all {α : Type} {l m : List α} {k : Nat} (hn : l.length = m.length) (hk : l.length ≤ k) (h : l.take k = m.take k) : l = m := by
  rw [List.take_of_length_le hk, List.take_of_length_le (by omega)] at h
  exact h
set_option maxHeartbeats 2000000 in
theorem sameP_any (l m : List Pair) (A A' : Option Addr) (c c' : Nat) (w : World) (h : Arr Pair.enc 2 w w.heap.size A l) (h' : Arr Pair.enc 2 w w.heap.size A' m) (hc : l.length ≤ c) (hm : c ≤ 9223372036854775807) (_hc' : m.length ≤ c') (_hm' : c' ≤ 9223372036854775807) :
    Calls Tryz.prog 26 #[.slice A l.length c, .slice A' m.length c'] w fun e w' => e = .returned (.bool (decide (l = m))) ∧ Below w.heap.size w w' := by
  by_cases hlen : l.length = m.length
  case neg =>
    have hb : (((l.length : Nat) : Int) != ((m.length : Nat) : Int)) = true := by rw [bne_iff_ne]; omega
    have hd : decide (l = m) = false := by rw [decide_eq_false_iff_not]; exact fun e => hlen (by rw [e])
    rw [hd]
    clear hd hlen
    go_enter Tryz.func26, Tryz.ntmps26
    go_wp2
    go_ret
    exact ⟨rfl, Below.refl _ _⟩
  have HN := hid hlen
  have hlt0 : m.length ≤ l.length := by omega
  have hlt1 : l.length ≤ m.length := by omega
  have H := hid h
  have H' := hid h'
  have hb : (((l.length : Nat) : Int) != ((m.length : Nat) : Int)) = false := by simp [hlen]
  clear h h' hlen
  go_enter Tryz.func26, Tryz.ntmps26
  go_wp2_with fail
  go_loopw [5] (fun i wr => ∃ k : Nat, k ≤ l.length ∧ i = .int .i64 k ∧ Below w.heap.size w wr ∧ l.take k = m.take k) (fun i _ => l.length - (intOf i).toNat)
  case atStart => exact ⟨0, Nat.zero_le _, rfl, Below.refl _ _, rfl⟩
  case round =>
    obtain ⟨k, hkl, rfl, hb, hpre⟩ := hrel
    have HPre := hid hpre
    clear hpre
    by_cases hlt : k < l.length
    · have hlt' : k < m.length := by omega
      obtain ⟨b, off, rfl, hB, c0, c1⟩ := (H.out.below hb).pair hlt
      obtain ⟨b', off', rfl, hB', c0', c1'⟩ := (H'.out.below hb).pair hlt'
      by_cases he : l[k] = m[k]
      · have HS := hid (pre_succ hlt hlt' HPre.out he)
        rw [he] at c0 c1
        clear he
        go_wp2_with fail
        go_quiet (fail)
        go_wp2
        exact ⟨⟨k + 1, by omega, by go_num, below_drewN hb _, HS.out⟩, by simp [intOf]; omega⟩
      · have hd : decide (l = m) = false := by rw [decide_eq_false_iff_not]; exact fun e => he (by simp [e])
        have HD := hid hd
        by_cases hk : l[k].key = m[k].key
        · have hv : (l[k].val.toList == m[k].val.toList) = false := by
            rw [beq_eq_false_iff_ne]
            intro e
            exact he (by rw [show l[k] = ⟨l[k].key, l[k].val⟩ from rfl, toList_inj e, hk])
          rw [hk] at c0
          clear hd he hk
          go_wp2_with fail
          go_quiet (fail)
          go_wp2
          go_ret
          exact ⟨by rw [HD.out]; rfl, below_drewN hb _⟩
        · have hv : (l[k].key.toList == m[k].key.toList) = false := by
            rw [beq_eq_false_iff_ne]
            exact fun e => hk (toList_inj e)
          clear hd he hk
          go_wp2_with fail
          go_quiet (fail)
          go_wp2
          go_ret
          exact ⟨by rw [HD.out]; rfl, below_drewN hb _⟩
    · go_wp2
      go_ret
      exact ⟨ret_bool (by rw [decide_eq_true (pre_all HN.out (by omega) HPre.out)]), hb⟩
set_option maxHeartbeats 2000000 in
theorem sameT_any (l m : List ByteArray) (A A' : Option Addr) (c c' : Nat) (w : World) (h : Arr txt 1 w w.heap.size A l) (h' : Arr txt 1 w w.heap.size A' m) (hc : l.length ≤ c) (hm : c ≤ 9223372036854775807) (_hc' : m.length ≤ c') (_hm' : c' ≤ 9223372036854775807) :
    Calls Tryz.prog 27 #[.slice A l.length c, .slice A' m.length c'] w fun e w' => e = .returned (.bool (decide (l = m))) ∧ Below w.heap.size w w' := by
  by_cases hlen : l.length = m.length
  case neg =>
    have hb : (((l.length : Nat) : Int) != ((m.length : Nat) : Int)) = true := by rw [bne_iff_ne]; omega
    have hd : decide (l = m) = false := by rw [decide_eq_false_iff_not]; exact fun e => hlen (by rw [e])
    rw [hd]
    clear hd hlen
    go_enter Tryz.func27, Tryz.ntmps27
    go_wp2
    go_ret
    exact ⟨rfl, Below.refl _ _⟩
  have HN := hid hlen
  have hlt0 : m.length ≤ l.length := by omega
  have hlt1 : l.length ≤ m.length := by omega
  have H := hid h
  have H' := hid h'
  have hb : (((l.length : Nat) : Int) != ((m.length : Nat) : Int)) = false := by simp [hlen]
  clear h h' hlen
  go_enter Tryz.func27, Tryz.ntmps27
  go_wp2_with fail
  go_loopw [5] (fun i wr => ∃ k : Nat, k ≤ l.length ∧ i = .int .i64 k ∧ Below w.heap.size w wr ∧ l.take k = m.take k) (fun i _ => l.length - (intOf i).toNat)
  case atStart => exact ⟨0, Nat.zero_le _, rfl, Below.refl _ _, rfl⟩
  case round =>
    obtain ⟨k, hkl, rfl, hb, hpre⟩ := hrel
    have HPre := hid hpre
    clear hpre
    by_cases hlt : k < l.length
    · have hlt' : k < m.length := by omega
      obtain ⟨b, off, rfl, hB, c0⟩ := (H.out.below hb).txt1 hlt
      obtain ⟨b', off', rfl, hB', c0'⟩ := (H'.out.below hb).txt1 hlt'
      by_cases he : l[k] = m[k]
      · have HS := hid (pre_succ hlt hlt' HPre.out he)
        rw [he] at c0
        clear he
        go_wp2_with fail
        go_quiet (fail)
        go_wp2
        exact ⟨⟨k + 1, by omega, by go_num, below_drewN hb _, HS.out⟩, by simp [intOf]; omega⟩
      · have hd : decide (l = m) = false := by rw [decide_eq_false_iff_not]; exact fun e => he (by simp [e])
        have HD := hid hd
        have hv : (l[k].toList == m[k].toList) = false := by rw [beq_eq_false_iff_ne]; exact fun e => he (toList_inj e)
        clear hd he
        go_wp2_with fail
        go_quiet (fail)
        go_wp2
        go_ret
        exact ⟨by rw [HD.out]; rfl, below_drewN hb _⟩
    · go_wp2
      go_ret
      exact ⟨ret_bool (by rw [decide_eq_true (pre_all HN.out (by omega) HPre.out)]), hb⟩
set_option maxHeartbeats 2000000 in
theorem sameI_any (l m : List Nat) (A A' : Option Addr) (c c' : Nat) (w : World) (h : Arr numE 1 w w.heap.size A l) (h' : Arr numE 1 w w.heap.size A' m) (hc : l.length ≤ c) (hm : c ≤ 9223372036854775807) (_hc' : m.length ≤ c') (_hm' : c' ≤ 9223372036854775807) :
    Calls Tryz.prog 12 #[.slice A l.length c, .slice A' m.length c'] w fun e w' => e = .returned (.bool (decide (l = m))) ∧ Below w.heap.size w w' := by
  by_cases hlen : l.length = m.length
  case neg =>
    have hb : (((l.length : Nat) : Int) != ((m.length : Nat) : Int)) = true := by rw [bne_iff_ne]; omega
    have hd : decide (l = m) = false := by rw [decide_eq_false_iff_not]; exact fun e => hlen (by rw [e])
    rw [hd]
    clear hd hlen
    go_enter Tryz.func12, Tryz.ntmps12
    go_wp2
    go_ret
    exact ⟨rfl, Below.refl _ _⟩
  have HN := hid hlen
  have hlt0 : m.length ≤ l.length := by omega
  have hlt1 : l.length ≤ m.length := by omega
  have H := hid h
  have H' := hid h'
  have hb : (((l.length : Nat) : Int) != ((m.length : Nat) : Int)) = false := by simp [hlen]
  clear h h' hlen
  go_enter Tryz.func12, Tryz.ntmps12
  go_wp2_with fail
  go_loopw [5] (fun i wr => ∃ k : Nat, k ≤ l.length ∧ i = .int .i64 k ∧ Below w.heap.size w wr ∧ l.take k = m.take k) (fun i _ => l.length - (intOf i).toNat)
  case atStart => exact ⟨0, Nat.zero_le _, rfl, Below.refl _ _, rfl⟩
  case round =>
    obtain ⟨k, hkl, rfl, hb, hpre⟩ := hrel
    have HPre := hid hpre
    clear hpre
    by_cases hlt : k < l.length
    · have hlt' : k < m.length := by omega
      obtain ⟨b, off, rfl, hB, c0⟩ := (H.out.below hb).numE1 hlt
      obtain ⟨b', off', rfl, hB', c0'⟩ := (H'.out.below hb).numE1 hlt'
      by_cases he : l[k] = m[k]
      · have HS := hid (pre_succ hlt hlt' HPre.out he)
        rw [he] at c0
        clear he
        go_wp2_with fail
        go_quiet (fail)
        go_wp2
        exact ⟨⟨k + 1, by omega, by go_num, below_drewN hb _, HS.out⟩, by simp [intOf]; omega⟩
      · have hd : decide (l = m) = false := by rw [decide_eq_false_iff_not]; exact fun e => he (by simp [e])
        have HD := hid hd
        have hv : (((l[k] : Nat) : Int) == ((m[k] : Nat) : Int)) = false := by rw [beq_eq_false_iff_ne]; omega
        have hv' : (((l[k] : Nat) : Int) != ((m[k] : Nat) : Int)) = true := by rw [bne_iff_ne]; omega
        clear hd he
        go_wp2_with fail
        go_quiet (fail)
        go_wp2
        go_ret
        exact ⟨by rw [HD.out]; rfl, below_drewN hb _⟩
    · go_wp2
      go_ret
      exact ⟨ret_bool (by rw [decide_eq_true (pre_all HN.out (by omega) HPre.out)]), hb⟩
theorem lawNum_any (x : Int) (w : World) : Calls Tryz.prog 11 #[.int .i64 x] w fun e w' => e = .returned (.int .i64 x) ∧ Below w.heap.size w w' := by
  go_enter Tryz.func11, Tryz.ntmps11
  go_wp2
  go_ret
  exact ⟨rfl, Below.refl _ _⟩
def sameS (s t : Shelf) : Bool := decide (s.pairs = t.pairs) && decide (s.queue = t.queue)
theorem sameS_refl (s : Shelf) : sameS s s = true := by simp [sameS]
theorem sameS_iff {s t : Shelf} : sameS s t = true ↔ s = t := by
  cases s; cases t; simp [sameS]
set_option maxHeartbeats 2000000 in
theorem sameS_any (s t : Shelf) (PA : Option Addr) (pc : Nat) (QA : Option Addr) (qc : Nat) (PA' : Option Addr) (pc' : Nat) (QA' : Option Addr) (qc' : Nat) (w : World) (h : ShIn w w.heap.size PA pc QA qc s) (h' : ShIn w w.heap.size PA' pc' QA' qc' t) :
    Calls Tryz.prog 14 #[.agg #[.slice PA s.pairs.length pc, .slice QA s.queue.length qc], .agg #[.slice PA' t.pairs.length pc', .slice QA' t.queue.length qc']] w fun e w' => e = .returned (.bool (sameS s t)) ∧ Below w.heap.size w w' := by
  have H := hid h
  have H' := hid h'
  clear h h'
  by_cases hp : s.pairs = t.pairs
  · have HD := hid (show sameS s t = decide (s.queue = t.queue) by simp [sameS, hp])
    have HP := hid (show decide (s.pairs = t.pairs) = true by simp [hp])
    clear hp
    go_enter Tryz.func14, Tryz.ntmps14
    go_wp2_with fail
    refine (sameP_any s.pairs t.pairs PA PA' pc pc' _ ?_ ?_ H.out.plen H.out.pmax H'.out.plen H'.out.pmax).mono ?_
    · exact (H.out.pairs.below (by repeat (first | exact Below.refl _ _ | assumption | refine Below.drew ?_ | refine below_drewN ?_ _ | refine Below.alloc ?_ (by first | omega | (simp; done) | (simp; omega)) _ | refine Below.setCell ?_ (by first | omega | (simp; done) | (simp; omega)) _))).more (by first | omega | (simp; done) | (simp; omega))
    · exact (H'.out.pairs.below (by repeat (first | exact Below.refl _ _ | assumption | refine Below.drew ?_ | refine below_drewN ?_ _ | refine Below.alloc ?_ (by first | omega | (simp; done) | (simp; omega)) _ | refine Below.setCell ?_ (by first | omega | (simp; done) | (simp; omega)) _))).more (by first | omega | (simp; done) | (simp; omega))
    rintro e w1 ⟨rfl, hb1⟩
    rw [HP.out]
    have hw1 : Below w.heap.size w w1 := Below.trans (by repeat (first | exact Below.refl _ _ | assumption | refine Below.drew ?_ | refine below_drewN ?_ _ | refine Below.alloc ?_ (by first | omega | (simp; done) | (simp; omega)) _ | refine Below.setCell ?_ (by first | omega | (simp; done) | (simp; omega)) _)) (hb1.mono (show w.heap.size ≤ _ from (by first | omega | (simp; done) | (simp; omega))))
    have e0 : w1.cell? ⟨w.heap.size, 1, none⟩ = some (.slice QA s.queue.length qc) := (hb1.cell (p := ⟨w.heap.size, 1, none⟩) (by simp; omega)).trans (by simp [go_sem])
    have e1 : w1.cell? ⟨w.heap.size + 1, 1, none⟩ = some (.slice QA' t.queue.length qc') := (hb1.cell (p := ⟨w.heap.size + 1, 1, none⟩) (by simp)).trans (by simp [go_sem])
    clear hb1
    go_wp2_with fail
    refine (sameT_any s.queue t.queue QA QA' qc qc' _ ?_ ?_ H.out.qlen H.out.qmax H'.out.qlen H'.out.qmax).mono ?_
    · exact (H.out.queue.below hw1).more hw1.size
    · exact (H'.out.queue.below hw1).more hw1.size
    rintro e w2 ⟨rfl, hb2⟩
    go_wp2
    go_ret
    exact ⟨by rw [HD.out]; rfl, hw1.trans (hb2.mono hw1.size)⟩
  · have HD := hid (show sameS s t = false by simp [sameS, hp])
    have HP := hid (show decide (s.pairs = t.pairs) = false by simp [hp])
    clear hp
    go_enter Tryz.func14, Tryz.ntmps14
    go_wp2_with fail
    refine (sameP_any s.pairs t.pairs PA PA' pc pc' _ ?_ ?_ H.out.plen H.out.pmax H'.out.plen H'.out.pmax).mono ?_
    · exact (H.out.pairs.below (by repeat (first | exact Below.refl _ _ | assumption | refine Below.drew ?_ | refine below_drewN ?_ _ | refine Below.alloc ?_ (by first | omega | (simp; done) | (simp; omega)) _ | refine Below.setCell ?_ (by first | omega | (simp; done) | (simp; omega)) _))).more (by first | omega | (simp; done) | (simp; omega))
    · exact (H'.out.pairs.below (by repeat (first | exact Below.refl _ _ | assumption | refine Below.drew ?_ | refine below_drewN ?_ _ | refine Below.alloc ?_ (by first | omega | (simp; done) | (simp; omega)) _ | refine Below.setCell ?_ (by first | omega | (simp; done) | (simp; omega)) _))).more (by first | omega | (simp; done) | (simp; omega))
    rintro e w1 ⟨rfl, hb1⟩
    rw [HP.out]
    have hw1 : Below w.heap.size w w1 := Below.trans (by repeat (first | exact Below.refl _ _ | assumption | refine Below.drew ?_ | refine below_drewN ?_ _ | refine Below.alloc ?_ (by first | omega | (simp; done) | (simp; omega)) _ | refine Below.setCell ?_ (by first | omega | (simp; done) | (simp; omega)) _)) (hb1.mono (show w.heap.size ≤ _ from (by first | omega | (simp; done) | (simp; omega))))
    go_wp2
    go_ret
    exact ⟨by rw [HD.out]; rfl, hw1⟩
/-- numbers of any sign in cells -/
def intE (x : Int) : List Value := [.int .i64 x]
theorem intE_len (x : Int) : (intE x).length = 1 := rfl
theorem intE_one (x : Int) : ∀ u ∈ intE x, u.oneCell' = true := by intro u hu; simp [intE] at hu; subst hu; rfl
theorem Own.toInts {w : World} {lo : Nat} {A : Option Addr} {c : Nat} {l : List Nat} (h : Own numE 3 1 w lo A c l) : Own intE 3 1 w lo A c (l.map fun x : Nat => (x : Int)) := by
  obtain ⟨h1, h2, h3⟩ := h
  refine ⟨by rw [List.length_map]; exact h1, h2, ?_⟩
  have e : (l.map fun x : Nat => (x : Int)).flatMap intE = l.flatMap numE := by
    rw [List.flatMap_map]; rfl
  rw [e]
  exact h3
theorem flat_int (l : List Int) : l.flatMap intE = l.map fun x => Value.int .i64 x := by
  induction l with
  | nil => rfl
  | cons a l ih => rw [List.flatMap_cons, ih]; rfl
theorem Own.setAny {w : World} {lo : Nat} {b off c : Nat} {l : List Int} (h : Own intE 3 1 w lo (some ⟨b, off, none⟩) c l) {i : Nat} (hi : i < l.length) (x : Int) :
    Own intE 3 1 (w.setCell ⟨b, off + i, none⟩ (.int .i64 x)) lo (some ⟨b, off, none⟩) c (l.set i x) := by
  obtain ⟨h1, h2, h3⟩ := h
  rcases h3 with h3 | ⟨b', off', cur, hA, hlo, hh, hs, hc⟩
  · omega
  cases hA
  refine ⟨by rw [List.length_set]; exact h1, h2, .inr ⟨b, off, cur.setIfInBounds (off + i) (.int .i64 x), rfl, hlo, heap_setCell_same w b (off + i) cur _ (.int .i64 x) hh, by simpa using hs, ?_⟩⟩
  intro j u hu
  rw [flat_int, List.getElem?_map, List.getElem?_set] at hu
  rw [Array.getElem?_setIfInBounds]
  by_cases hj : i = j
  · subst hj
    rw [if_pos rfl, if_pos hi] at hu
    rw [if_pos rfl, if_pos (by omega)]
    simpa using hu
  · rw [if_neg hj] at hu
    rw [if_neg (by omega)]
    refine hc j u ?_
    rw [flat_int, List.getElem?_map]
    exact hu
def GivesOver (lo : Nat) (w : World) (e : Ending) (w' : World) : Prop := e = .returned (.tuple #[]) ∧ Below lo w w'
theorem app_any {ops : Array Oper} {rest : List Oper} {o : Oper} {a : Act} {Q : Exit → Act → World → Prop} (w : World) (hgd : o.guard = none) (s x : Operand)
    (ho : o.op = .call { callee := .builtin .append, args := #[s, x], argTypes := #[30, 30] }) {lo : Nat} {A : Option Addr} {c : Nat} {l : List Int} (hs : a.eval s = .slice A l.length c) (own : Own intE 3 1 w lo A c l)
    {B : Nat} {A2 : Option Addr} {m : List Int} (c2 : Nat) (hx : a.eval x = .slice A2 m.length c2) (arr : Arr intE 1 w B A2 m) (hb : l.length + m.length ≤ 1000000) (hlo : lo ≤ w.heap.size)
    (h : ∀ A' c' w', w.grownBy w' (rowOf A c) → wpList Tryz.prog ops Q rest (a.put o.dst (.slice A' (l.length + m.length) c')) w') :
    wpList Tryz.prog ops Q (o :: rest) a w := by
  obtain ⟨i0, hi, hz0, hz1, hz2⟩ := info_parts info_int
  exact wpList_append_Own w hgd s x 30 ho i0 _ 8 Tryz.underlying30 hi hz0 hz1 hz2 rfl (by decide) intE_len intE_one hs own c2 hx arr (by unfold maxLen; omega) (by omega) hlo (fun A' c' w' _ hg _ => h A' c' w' hg)
theorem arr_oneAny {w : World} {vb : Nat} {x : Int} (hv : w.heap[vb]? = some (.cells #[.int .i64 x] 3 (0, 0))) : Arr intE 1 w w.heap.size (some ⟨vb, 0, none⟩) [x] := by
  refine Arr.of_cells intE_len ?_ fun j u hu => ?_
  · exact lt_of_heap hv
  · rw [Nat.zero_add, cell_of_row w vb j _ _ _ hv]
    simpa [intE] using hu
set_option maxHeartbeats 4000000 in
theorem overInts_any (l : List Nat) (lo : Nat) (A : Option Addr) (c : Nat) (w : World) (h : Own numE 3 1 w lo A c l) (hlo : lo ≤ w.heap.size) (hl : l.length ≤ 1000) :
    Calls Tryz.prog 13 #[.slice A l.length c] w (GivesOver lo w) := by
  have H := hid h.toInts
  have hlen := h.len
  have hmax := h.max
  clear h
  go_enter Tryz.func13, Tryz.ntmps13
  go_wp2_with fail
  go_loopw [2] (fun i wr => ∃ (k : Nat) (L : List Int), k ≤ l.length ∧ i = .int .i64 k ∧ L.length = l.length ∧ Own intE 3 1 wr lo A c L ∧ Below lo w wr) (fun i _ => l.length - (intOf i).toNat)
  case atStart => exact ⟨0, _, Nat.zero_le _, rfl, by simp, H.out, Below.refl _ _⟩
  case round =>
    obtain ⟨k, L, hkl, rfl, hL, hP, hb⟩ := hrel
    have HP := hid hP
    have HL := hid hL
    have HB := hid hb
    by_cases hlt : k < l.length
    · rcases hP.2.2 with h0 | ⟨b, off, cur, rfl, hlb, hh, hs, hc⟩
      · omega
      have f0 := frozen_of_row wr b (off + k) _ _ hh
      have hLk : k < L.length := by omega
      have n0 : wr.cell? ⟨b, off + k, none⟩ = some (.int .i64 L[k]) := by
        rw [cell_of_row wr b (off + k) _ _ _ hh]
        exact hc k _ (by rw [flat_int, List.getElem?_map, List.getElem?_eq_getElem hLk]; rfl)
      have hbl := lt_of_heap hh
      have hli : (k : Int) < (l.length : Int) := by omega
      clear hP hL hb hh hs hc
      go_wp2_with fail
      exact ⟨⟨k + 1, L.set k (-999), by omega, by go_num, by rw [List.length_set]; exact HL.out, HP.out.setAny (by have := HL.out; omega) _, HB.out.setCell hlb _⟩, by simp [intOf]; omega⟩
    · clear hP hL hb
      go_wp2_with (at_builtin; refine app_any (l := L) (m := [-998]) (A := A) (c := c) (lo := lo) _ rfl (.tmp 12) (.tmp 13) (by first | rfl | simp [Act.eval]) (by have := HL.out; rw [this]; first | rfl | simp [Act.eval]) (HP.out.alloc _) 1 (by first | rfl | simp [Act.eval]) (arr_oneAny (vb := wr.heap.size) (x := -998) (by rw [heap_alloc_if, if_pos rfl])) (by have := HL.out; simp only [List.length_cons, List.length_nil]; omega) (by have := HB.out.size; simp; omega) ?_; intro A' c' w' hgr)
      have hB := ownBelow (HP.out.alloc _) hgr (HB.out.alloc (by have := HB.out.size; omega) _) (by have := HB.out.size; simp; omega)
      go_wp2
      refine bodyPost_ret (v := .tuple #[]) (by simp [results, Tryz.results13]) rfl ⟨rfl, hB⟩
end Go.Proofs.YtamcehfcjcmpmaaGreatDoor
