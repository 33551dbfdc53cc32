/- The statements' helpers that compare: at any two lists. -/
import Derived.Test.YthpegmeebhkhbaaSame
import Derived.Test.YthpegmeebhkhbaaKeys
import Derived.Laws.StructEq
import Derived.Test.YthpegmeebhkhbaaIdl9
namespace Go.Proofs.Ythpegmeebhkhbaa
open Go.RowKit

instance : DecidableEq Pair := fun a b => decidable_of_iff (a.key = b.key ∧ a.val = b.val) (by cases a; cases b; simp)
theorem pre_succ {α : Type} {l m : List α} {k : Nat} (hk : k < l.length) (hk' : k < m.length) (h : l.take k = m.take k) (h1 : l[k] = m[k]) : l.take (k + 1) = m.take (k + 1) := by
  rw [List.take_succ_eq_append_getElem hk, List.take_succ_eq_append_getElem hk', h, h1]
theorem pre_all {α : Type} {l m : List α} {k : Nat} (hn : l.length = m.length) (hk : l.length ≤ k) (h : l.take k = m.take k) : l = m := by
  rw [List.take_of_length_le hk, List.take_of_length_le (by omega)] at h
  exact h
set_option maxHeartbeats 2000000 in
theorem sameP_any (l m : List Pair) (A A' : Option Addr) (c c' : Nat) (w : World) (h : Arr Pair.enc 2 w w.heap.size A l) (h' : Arr Pair.enc 2 w w.heap.size A' m) (hc : l.length ≤ c) (hm : c ≤ 9223372036854775807) (_hc' : m.length ≤ c') (_hm' : c' ≤ 9223372036854775807) :
    Calls Try.prog 38 #[.slice A l.length c, .slice A' m.length c'] w fun e w' => e = .returned (.bool (decide (l = m))) ∧ Below w.heap.size w w' := by
  by_cases hlen : l.length = m.length
  case neg =>
    have hb : (((l.length : Nat) : Int) != ((m.length : Nat) : Int)) = true := by rw [bne_iff_ne]; omega
    have hd : decide (l = m) = false := by rw [decide_eq_false_iff_not]; exact fun e => hlen (by rw [e])
    rw [hd]
    clear hd hlen
    go_enter Try.func38, Try.ntmps38
    go_wp2
    go_ret
    exact ⟨rfl, Below.refl _ _⟩
  have HN := hid hlen
  have hlt0 : m.length ≤ l.length := by omega
  have hlt1 : l.length ≤ m.length := by omega
  have H := hid h
  have H' := hid h'
  have hb : (((l.length : Nat) : Int) != ((m.length : Nat) : Int)) = false := by simp [hlen]
  clear h h' hlen
  go_enter Try.func38, Try.ntmps38
  go_wp2_with fail
  go_loopw [5] (fun i wr => ∃ k : Nat, k ≤ l.length ∧ i = .int .i64 k ∧ Below w.heap.size w wr ∧ l.take k = m.take k) (fun i _ => l.length - (intOf i).toNat)
  case atStart => exact ⟨0, Nat.zero_le _, rfl, Below.refl _ _, rfl⟩
  case round =>
    obtain ⟨k, hkl, rfl, hb, hpre⟩ := hrel
    have HPre := hid hpre
    clear hpre
    by_cases hlt : k < l.length
    · have hlt' : k < m.length := by omega
      obtain ⟨b, off, rfl, hB, c0, c1⟩ := (H.out.below hb).pair hlt
      obtain ⟨b', off', rfl, hB', c0', c1'⟩ := (H'.out.below hb).pair hlt'
      by_cases he : l[k] = m[k]
      · have HS := hid (pre_succ hlt hlt' HPre.out he)
        rw [he] at c0 c1
        clear he
        go_wp2_with fail
        go_quiet (fail)
        go_wp2
        exact ⟨⟨k + 1, by omega, by go_num, below_drewN hb _, HS.out⟩, by simp [intOf]; omega⟩
      · have hd : decide (l = m) = false := by rw [decide_eq_false_iff_not]; exact fun e => he (by simp [e])
        have HD := hid hd
        by_cases hk : l[k].key = m[k].key
        · have hv : (l[k].val.toList == m[k].val.toList) = false := by
            rw [beq_eq_false_iff_ne]
            intro e
            exact he (by rw [show l[k] = ⟨l[k].key, l[k].val⟩ from rfl, toList_inj e, hk])
          rw [hk] at c0
          clear hd he hk
          go_wp2_with fail
          go_quiet (fail)
          go_wp2
          go_ret
          exact ⟨by rw [HD.out]; rfl, below_drewN hb _⟩
        · have hv : (l[k].key.toList == m[k].key.toList) = false := by
            rw [beq_eq_false_iff_ne]
            exact fun e => hk (toList_inj e)
          clear hd he hk
          go_wp2_with fail
          go_quiet (fail)
          go_wp2
          go_ret
          exact ⟨by rw [HD.out]; rfl, below_drewN hb _⟩
    · go_wp2
      go_ret
      exact ⟨ret_bool (by rw [decide_eq_true (pre_all HN.out (by omega) HPre.out)]), hb⟩
set_option maxHeartbeats 2000000 in
theorem sameT_any (l m : List ByteArray) (A A' : Option Addr) (c c' : Nat) (w : World) (h : Arr txt 1 w w.heap.size A l) (h' : Arr txt 1 w w.heap.size A' m) (hc : l.length ≤ c) (hm : c ≤ 9223372036854775807) (_hc' : m.length ≤ c') (_hm' : c' ≤ 9223372036854775807) :
    Calls Try.prog 56 #[.slice A l.length c, .slice A' m.length c'] w fun e w' => e = .returned (.bool (decide (l = m))) ∧ Below w.heap.size w w' := by
  by_cases hlen : l.length = m.length
  case neg =>
    have hb : (((l.length : Nat) : Int) != ((m.length : Nat) : Int)) = true := by rw [bne_iff_ne]; omega
    have hd : decide (l = m) = false := by rw [decide_eq_false_iff_not]; exact fun e => hlen (by rw [e])
    rw [hd]
    clear hd hlen
    go_enter Try.func56, Try.ntmps56
    go_wp2
    go_ret
    exact ⟨rfl, Below.refl _ _⟩
  have HN := hid hlen
  have hlt0 : m.length ≤ l.length := by omega
  have hlt1 : l.length ≤ m.length := by omega
  have H := hid h
  have H' := hid h'
  have hb : (((l.length : Nat) : Int) != ((m.length : Nat) : Int)) = false := by simp [hlen]
  clear h h' hlen
  go_enter Try.func56, Try.ntmps56
  go_wp2_with fail
  go_loopw [5] (fun i wr => ∃ k : Nat, k ≤ l.length ∧ i = .int .i64 k ∧ Below w.heap.size w wr ∧ l.take k = m.take k) (fun i _ => l.length - (intOf i).toNat)
  case atStart => exact ⟨0, Nat.zero_le _, rfl, Below.refl _ _, rfl⟩
  case round =>
    obtain ⟨k, hkl, rfl, hb, hpre⟩ := hrel
    have HPre := hid hpre
    clear hpre
    by_cases hlt : k < l.length
    · have hlt' : k < m.length := by omega
      obtain ⟨b, off, rfl, hB, c0⟩ := (H.out.below hb).txt1 hlt
      obtain ⟨b', off', rfl, hB', c0'⟩ := (H'.out.below hb).txt1 hlt'
      by_cases he : l[k] = m[k]
      · have HS := hid (pre_succ hlt hlt' HPre.out he)
        rw [he] at c0
        clear he
        go_wp2_with fail
        go_quiet (fail)
        go_wp2
        exact ⟨⟨k + 1, by omega, by go_num, below_drewN hb _, HS.out⟩, by simp [intOf]; omega⟩
      · have hd : decide (l = m) = false := by rw [decide_eq_false_iff_not]; exact fun e => he (by simp [e])
        have HD := hid hd
        have hv : (l[k].toList == m[k].toList) = false := by rw [beq_eq_false_iff_ne]; exact fun e => he (toList_inj e)
        clear hd he
        go_wp2_with fail
        go_quiet (fail)
        go_wp2
        go_ret
        exact ⟨by rw [HD.out]; rfl, below_drewN hb _⟩
    · go_wp2
      go_ret
      exact ⟨ret_bool (by rw [decide_eq_true (pre_all HN.out (by omega) HPre.out)]), hb⟩
theorem Arr.bit1 {w : World} {B : Nat} {A : Option Addr} {l : List Bool} (h : Arr bit 1 w B A l) {i : Nat} (hi : i < l.length) : ∃ b off, A = some ⟨b, off, none⟩ ∧ b < B ∧ w.cell? ⟨b, off + i, none⟩ = some (.bool l[i]) := by
  rcases h with h | ⟨b, off, hA, hB, hc⟩
  · subst h; simp at hi
  · exact ⟨b, off, hA, hB, by simpa using hc i hi 0 _ rfl⟩
set_option maxHeartbeats 2000000 in
theorem sameB_any (l m : List Bool) (A A' : Option Addr) (c c' : Nat) (w : World) (h : Arr bit 1 w w.heap.size A l) (h' : Arr bit 1 w w.heap.size A' m) (hc : l.length ≤ c) (hm : c ≤ 9223372036854775807) (_hc' : m.length ≤ c') (_hm' : c' ≤ 9223372036854775807) :
    Calls Try.prog 73 #[.slice A l.length c, .slice A' m.length c'] w fun e w' => e = .returned (.bool (decide (l = m))) ∧ Below w.heap.size w w' := by
  by_cases hlen : l.length = m.length
  case neg =>
    have hb : (((l.length : Nat) : Int) != ((m.length : Nat) : Int)) = true := by rw [bne_iff_ne]; omega
    have hd : decide (l = m) = false := by rw [decide_eq_false_iff_not]; exact fun e => hlen (by rw [e])
    rw [hd]
    clear hd hlen
    go_enter Try.func73, Try.ntmps73
    go_wp2
    go_ret
    exact ⟨rfl, Below.refl _ _⟩
  have HN := hid hlen
  have hlt0 : m.length ≤ l.length := by omega
  have hlt1 : l.length ≤ m.length := by omega
  have H := hid h
  have H' := hid h'
  have hb : (((l.length : Nat) : Int) != ((m.length : Nat) : Int)) = false := by simp [hlen]
  clear h h' hlen
  go_enter Try.func73, Try.ntmps73
  go_wp2_with fail
  go_loopw [5] (fun i wr => ∃ k : Nat, k ≤ l.length ∧ i = .int .i64 k ∧ Below w.heap.size w wr ∧ l.take k = m.take k) (fun i _ => l.length - (intOf i).toNat)
  case atStart => exact ⟨0, Nat.zero_le _, rfl, Below.refl _ _, rfl⟩
  case round =>
    obtain ⟨k, hkl, rfl, hb, hpre⟩ := hrel
    have HPre := hid hpre
    clear hpre
    by_cases hlt : k < l.length
    · have hlt' : k < m.length := by omega
      obtain ⟨b, off, rfl, hB, c0⟩ := (H.out.below hb).bit1 hlt
      obtain ⟨b', off', rfl, hB', c0'⟩ := (H'.out.below hb).bit1 hlt'
      by_cases he : l[k] = m[k]
      · have HS := hid (pre_succ hlt hlt' HPre.out he)
        rw [he] at c0
        clear he
        go_wp2_with fail
        go_quiet (fail)
        go_wp2
        exact ⟨⟨k + 1, by omega, by go_num, below_drewN hb _, HS.out⟩, by simp [intOf]; omega⟩
      · have hd : decide (l = m) = false := by rw [decide_eq_false_iff_not]; exact fun e => he (by simp [e])
        have HD := hid hd
        have hv : (l[k] == m[k]) = false := by rw [beq_eq_false_iff_ne]; exact he
        have hv' : (l[k] != m[k]) = true := by rw [bne_iff_ne]; exact he
        clear hd he
        go_wp2_with fail
        go_quiet (fail)
        go_wp2
        go_ret
        exact ⟨by rw [HD.out]; rfl, below_drewN hb _⟩
    · go_wp2
      go_ret
      exact ⟨ret_bool (by rw [decide_eq_true (pre_all HN.out (by omega) HPre.out)]), hb⟩
def sameS (s t : Shelf) : Bool := decide (s.pairs = t.pairs) && decide (s.queue = t.queue)
theorem sameS_refl (s : Shelf) : sameS s s = true := by simp [sameS]
theorem sameS_iff {s t : Shelf} : sameS s t = true ↔ s = t := by
  cases s; cases t; simp [sameS]
set_option maxHeartbeats 2000000 in
theorem sameS_any (s t : Shelf) (PA : Option Addr) (pc : Nat) (QA : Option Addr) (qc : Nat) (PA' : Option Addr) (pc' : Nat) (QA' : Option Addr) (qc' : Nat) (w : World) (h : ShIn w w.heap.size PA pc QA qc s) (h' : ShIn w w.heap.size PA' pc' QA' qc' t) :
    Calls Try.prog 27 #[.agg #[.slice PA s.pairs.length pc, .slice QA s.queue.length qc], .agg #[.slice PA' t.pairs.length pc', .slice QA' t.queue.length qc']] w fun e w' => e = .returned (.bool (sameS s t)) ∧ Below w.heap.size w w' := by
  have H := hid h
  have H' := hid h'
  clear h h'
  by_cases hp : s.pairs = t.pairs
  · have HD := hid (show sameS s t = decide (s.queue = t.queue) by simp [sameS, hp])
    have HP := hid (show decide (s.pairs = t.pairs) = true by simp [hp])
    clear hp
    go_enter Try.func27, Try.ntmps27
    go_wp2_with fail
    refine (sameP_any s.pairs t.pairs PA PA' pc pc' _ ?_ ?_ H.out.plen H.out.pmax H'.out.plen H'.out.pmax).mono ?_
    · exact (H.out.pairs.below (by repeat (first | exact Below.refl _ _ | assumption | refine Below.drew ?_ | refine below_drewN ?_ _ | refine Below.alloc ?_ (by first | omega | (simp; done) | (simp; omega)) _ | refine Below.setCell ?_ (by first | omega | (simp; done) | (simp; omega)) _))).more (by first | omega | (simp; done) | (simp; omega))
    · exact (H'.out.pairs.below (by repeat (first | exact Below.refl _ _ | assumption | refine Below.drew ?_ | refine below_drewN ?_ _ | refine Below.alloc ?_ (by first | omega | (simp; done) | (simp; omega)) _ | refine Below.setCell ?_ (by first | omega | (simp; done) | (simp; omega)) _))).more (by first | omega | (simp; done) | (simp; omega))
    rintro e w1 ⟨rfl, hb1⟩
    rw [HP.out]
    have hw1 : Below w.heap.size w w1 := Below.trans (by repeat (first | exact Below.refl _ _ | assumption | refine Below.drew ?_ | refine below_drewN ?_ _ | refine Below.alloc ?_ (by first | omega | (simp; done) | (simp; omega)) _ | refine Below.setCell ?_ (by first | omega | (simp; done) | (simp; omega)) _)) (hb1.mono (show w.heap.size ≤ _ from (by first | omega | (simp; done) | (simp; omega))))
    have e0 : w1.cell? ⟨w.heap.size, 1, none⟩ = some (.slice QA s.queue.length qc) := (hb1.cell (p := ⟨w.heap.size, 1, none⟩) (by simp; omega)).trans (by simp [go_sem])
    have e1 : w1.cell? ⟨w.heap.size + 1, 1, none⟩ = some (.slice QA' t.queue.length qc') := (hb1.cell (p := ⟨w.heap.size + 1, 1, none⟩) (by simp)).trans (by simp [go_sem])
    clear hb1
    go_wp2_with fail
    refine (sameT_any s.queue t.queue QA QA' qc qc' _ ?_ ?_ H.out.qlen H.out.qmax H'.out.qlen H'.out.qmax).mono ?_
    · exact (H.out.queue.below hw1).more hw1.size
    · exact (H'.out.queue.below hw1).more hw1.size
    rintro e w2 ⟨rfl, hb2⟩
    go_wp2
    go_ret
    exact ⟨by rw [HD.out]; rfl, hw1.trans (hb2.mono hw1.size)⟩
  · have HD := hid (show sameS s t = false by simp [sameS, hp])
    have HP := hid (show decide (s.pairs = t.pairs) = false by simp [hp])
    clear hp
    go_enter Try.func27, Try.ntmps27
    go_wp2_with fail
    refine (sameP_any s.pairs t.pairs PA PA' pc pc' _ ?_ ?_ H.out.plen H.out.pmax H'.out.plen H'.out.pmax).mono ?_
    · exact (H.out.pairs.below (by repeat (first | exact Below.refl _ _ | assumption | refine Below.drew ?_ | refine below_drewN ?_ _ | refine Below.alloc ?_ (by first | omega | (simp; done) | (simp; omega)) _ | refine Below.setCell ?_ (by first | omega | (simp; done) | (simp; omega)) _))).more (by first | omega | (simp; done) | (simp; omega))
    · exact (H'.out.pairs.below (by repeat (first | exact Below.refl _ _ | assumption | refine Below.drew ?_ | refine below_drewN ?_ _ | refine Below.alloc ?_ (by first | omega | (simp; done) | (simp; omega)) _ | refine Below.setCell ?_ (by first | omega | (simp; done) | (simp; omega)) _))).more (by first | omega | (simp; done) | (simp; omega))
    rintro e w1 ⟨rfl, hb1⟩
    rw [HP.out]
    have hw1 : Below w.heap.size w w1 := Below.trans (by repeat (first | exact Below.refl _ _ | assumption | refine Below.drew ?_ | refine below_drewN ?_ _ | refine Below.alloc ?_ (by first | omega | (simp; done) | (simp; omega)) _ | refine Below.setCell ?_ (by first | omega | (simp; done) | (simp; omega)) _)) (hb1.mono (show w.heap.size ≤ _ from (by first | omega | (simp; done) | (simp; omega))))
    go_wp2
    go_ret
    exact ⟨by rw [HD.out]; rfl, hw1⟩
end Go.Proofs.Ythpegmeebhkhbaa
