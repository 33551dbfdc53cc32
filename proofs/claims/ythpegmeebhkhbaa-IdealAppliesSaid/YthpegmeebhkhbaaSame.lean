/- The statements' helpers that compare: at lists that are the same. -/
import Derived.Test.YthpegmeebhkhbaaIdl6
import Derived.Test.YthpegmeebhkhbaaLarge
namespace Go.Proofs.Ythpegmeebhkhbaa
open Go.RowKit

set_option maxHeartbeats 2000000 in
theorem same_pairs (l : List Pair) (A A' : Option Addr) (c c' : Nat) (w : World) (h : Arr Pair.enc 2 w w.heap.size A l) (h' : Arr Pair.enc 2 w w.heap.size A' l) (hc : l.length ≤ c) (hm : c ≤ 9223372036854775807) (_hc' : l.length ≤ c') (_hm' : c' ≤ 9223372036854775807) :
    Calls Try.prog 38 #[.slice A l.length c, .slice A' l.length c'] w fun e w' => e = .returned (.bool true) ∧ Below w.heap.size w w' := by
  have H := hid h
  have H' := hid h'
  clear h h'
  go_enter Try.func38, Try.ntmps38
  go_wp2_with fail
  go_loopw [5] (fun i wr => ∃ k : Nat, k ≤ l.length ∧ i = .int .i64 k ∧ Below w.heap.size w wr) (fun i _ => l.length - (intOf i).toNat)
  case atStart => exact ⟨0, Nat.zero_le _, rfl, Below.refl _ _⟩
  case round =>
    obtain ⟨k, hkl, rfl, hb⟩ := hrel
    by_cases hlt : k < l.length
    · obtain ⟨b, off, rfl, hB, c0, c1⟩ := (H.out.below hb).pair hlt
      obtain ⟨b', off', rfl, hB', c0', c1'⟩ := (H'.out.below hb).pair hlt
      go_wp2_with fail
      go_quiet (fail)
      go_wp2
      exact ⟨⟨k + 1, by omega, by go_num, below_drewN hb _⟩, by simp [intOf]; omega⟩
    · go_wp2
      go_ret
      exact ⟨rfl, hb⟩
set_option maxHeartbeats 2000000 in
theorem same_texts (l : List ByteArray) (A A' : Option Addr) (c c' : Nat) (w : World) (h : Arr txt 1 w w.heap.size A l) (h' : Arr txt 1 w w.heap.size A' l) (hc : l.length ≤ c) (hm : c ≤ 9223372036854775807) (_hc' : l.length ≤ c') (_hm' : c' ≤ 9223372036854775807) :
    Calls Try.prog 56 #[.slice A l.length c, .slice A' l.length c'] w fun e w' => e = .returned (.bool true) ∧ Below w.heap.size w w' := by
  have H := hid h
  have H' := hid h'
  clear h h'
  go_enter Try.func56, Try.ntmps56
  go_wp2_with fail
  go_loopw [5] (fun i wr => ∃ k : Nat, k ≤ l.length ∧ i = .int .i64 k ∧ Below w.heap.size w wr) (fun i _ => l.length - (intOf i).toNat)
  case atStart => exact ⟨0, Nat.zero_le _, rfl, Below.refl _ _⟩
  case round =>
    obtain ⟨k, hkl, rfl, hb⟩ := hrel
    by_cases hlt : k < l.length
    · obtain ⟨b, off, rfl, hB, c0⟩ := (H.out.below hb).txt1 hlt
      obtain ⟨b', off', rfl, hB', c0'⟩ := (H'.out.below hb).txt1 hlt
      go_wp2_with fail
      go_quiet (fail)
      go_wp2
      exact ⟨⟨k + 1, by omega, by go_num, below_drewN hb _⟩, by simp [intOf]; omega⟩
    · go_wp2
      go_ret
      exact ⟨rfl, hb⟩
set_option maxHeartbeats 2000000 in
theorem same_shelf (s : Shelf) (PA : Option Addr) (pc : Nat) (QA : Option Addr) (qc : Nat) (PA' : Option Addr) (pc' : Nat) (QA' : Option Addr) (qc' : Nat) (w : World) (h : ShIn w w.heap.size PA pc QA qc s) (h' : ShIn w w.heap.size PA' pc' QA' qc' s) :
    Calls Try.prog 27 #[.agg #[.slice PA s.pairs.length pc, .slice QA s.queue.length qc], .agg #[.slice PA' s.pairs.length pc', .slice QA' s.queue.length qc']] w fun e w' => e = .returned (.bool true) ∧ Below w.heap.size w w' := by
  have H := hid h
  have H' := hid h'
  clear h h'
  go_enter Try.func27, Try.ntmps27
  go_wp2_with fail
  refine (same_pairs s.pairs PA PA' pc pc' _ ?_ ?_ H.out.plen H.out.pmax H'.out.plen H'.out.pmax).mono ?_
  · exact (H.out.pairs.below (by repeat (first | exact Below.refl _ _ | assumption | refine Below.drew ?_ | refine below_drewN ?_ _ | refine Below.alloc ?_ (by first | omega | (simp; done) | (simp; omega)) _ | refine Below.setCell ?_ (by first | omega | (simp; done) | (simp; omega)) _))).more (by first | omega | (simp; done) | (simp; omega))
  · exact (H'.out.pairs.below (by repeat (first | exact Below.refl _ _ | assumption | refine Below.drew ?_ | refine below_drewN ?_ _ | refine Below.alloc ?_ (by first | omega | (simp; done) | (simp; omega)) _ | refine Below.setCell ?_ (by first | omega | (simp; done) | (simp; omega)) _))).more (by first | omega | (simp; done) | (simp; omega))
  rintro e w1 ⟨rfl, hb1⟩
  have hw1 : Below w.heap.size w w1 := Below.trans (by repeat (first | exact Below.refl _ _ | assumption | refine Below.drew ?_ | refine below_drewN ?_ _ | refine Below.alloc ?_ (by first | omega | (simp; done) | (simp; omega)) _ | refine Below.setCell ?_ (by first | omega | (simp; done) | (simp; omega)) _)) (hb1.mono (show w.heap.size ≤ _ from (by first | omega | (simp; done) | (simp; omega))))
  have e0 : w1.cell? ⟨w.heap.size, 1, none⟩ = some (.slice QA s.queue.length qc) := (hb1.cell (p := ⟨w.heap.size, 1, none⟩) (by simp; omega)).trans (by simp [go_sem])
  have e1 : w1.cell? ⟨w.heap.size + 1, 1, none⟩ = some (.slice QA' s.queue.length qc') := (hb1.cell (p := ⟨w.heap.size + 1, 1, none⟩) (by simp)).trans (by simp [go_sem])
  clear hb1
  go_wp2_with fail
  refine (same_texts s.queue QA QA' qc qc' _ ?_ ?_ H.out.qlen H.out.qmax H'.out.qlen H'.out.qmax).mono ?_
  · exact (H.out.queue.below hw1).more hw1.size
  · exact (H'.out.queue.below hw1).more hw1.size
  rintro e w2 ⟨rfl, hb2⟩
  go_wp2
  go_ret
  exact ⟨rfl, hw1.trans (hb2.mono hw1.size)⟩
end Go.Proofs.Ythpegmeebhkhbaa
