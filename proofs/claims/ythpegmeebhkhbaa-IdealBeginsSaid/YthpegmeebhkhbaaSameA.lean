/- fuseelaw0.SameAnswer at answers that are the same. -/
import Derived.Test.YthpegmeebhkhbaaSameG
namespace Go.Proofs.Ythpegmeebhkhbaa
open Go.RowKit

set_option maxHeartbeats 2000000 in
theorem same_ans (a : Ans) (RA : Option Addr) (rc : Nat) (HA : Option Addr) (hc : Nat) (RA' : Option Addr) (rc' : Nat) (HA' : Option Addr) (hc' : Nat) (w : World)
    (h1 : Arr Pair.enc 2 w w.heap.size RA a.pairs) (h2 : Arr Pair.enc 2 w w.heap.size RA' a.pairs) (h3 : Arr bit 1 w w.heap.size HA a.hits) (h4 : Arr bit 1 w w.heap.size HA' a.hits)
    (l1 : a.pairs.length ≤ rc) (m1 : rc ≤ 9223372036854775807) (l2 : a.pairs.length ≤ rc') (m2 : rc' ≤ 9223372036854775807) (l3 : a.hits.length ≤ hc) (m3 : hc ≤ 9223372036854775807) (l4 : a.hits.length ≤ hc') (m4 : hc' ≤ 9223372036854775807) :
    Calls Try.prog 45 #[.agg #[.int .i64 a.code, .bool a.found, .string a.value, .slice RA a.pairs.length rc, .slice HA a.hits.length hc, .int .u64 0], .agg #[.int .i64 a.code, .bool a.found, .string a.value, .slice RA' a.pairs.length rc', .slice HA' a.hits.length hc', .int .u64 0]] w fun e w' => e = .returned (.bool true) ∧ Below w.heap.size w w' := by
  have H1 := hid h1
  have H2 := hid h2
  have H3 := hid h3
  have H4 := hid h4
  clear h1 h2 h3 h4
  have b1 : (a.code == a.code) = true := by simp
  have b2 : (a.found == a.found) = true := by simp
  have b3 : (a.value.toList == a.value.toList) = true := by simp
  go_enter Try.func45, Try.ntmps45
  go_wp2_with fail
  refine (same_pairs a.pairs RA RA' rc rc' _ ?_ ?_ l1 m1 l2 m2).mono ?_
  · exact (H1.out.below (by repeat (first | exact Below.refl _ _ | assumption | refine Below.drew ?_ | refine below_drewN ?_ _ | refine Below.alloc ?_ (by first | omega | (simp; done) | (simp; omega)) _ | refine Below.setCell ?_ (by first | omega | (simp; done) | (simp; omega)) _))).more (by first | omega | (simp; done) | (simp; omega))
  · exact (H2.out.below (by repeat (first | exact Below.refl _ _ | assumption | refine Below.drew ?_ | refine below_drewN ?_ _ | refine Below.alloc ?_ (by first | omega | (simp; done) | (simp; omega)) _ | refine Below.setCell ?_ (by first | omega | (simp; done) | (simp; omega)) _))).more (by first | omega | (simp; done) | (simp; omega))
  rintro e w1 ⟨rfl, hb1⟩
  have hw1 : Below w.heap.size w w1 := Below.trans (by repeat (first | exact Below.refl _ _ | assumption | refine Below.drew ?_ | refine below_drewN ?_ _ | refine Below.alloc ?_ (by first | omega | (simp; done) | (simp; omega)) _ | refine Below.setCell ?_ (by first | omega | (simp; done) | (simp; omega)) _)) (hb1.mono (show w.heap.size ≤ _ from (by first | omega | (simp; done) | (simp; omega))))
  have e0 : w1.cell? ⟨w.heap.size, 4, none⟩ = some (.slice HA a.hits.length hc) := (hb1.cell (p := ⟨w.heap.size, 4, none⟩) (by simp; omega)).trans (by simp [go_sem])
  have e1 : w1.cell? ⟨w.heap.size + 1, 4, none⟩ = some (.slice HA' a.hits.length hc') := (hb1.cell (p := ⟨w.heap.size + 1, 4, none⟩) (by simp)).trans (by simp [go_sem])
  clear hb1
  go_wp2_with fail
  refine (sameB_any a.hits a.hits HA HA' hc hc' _ ?_ ?_ l3 m3 l4 m4).mono ?_
  · exact (H3.out.below hw1).more hw1.size
  · exact (H4.out.below hw1).more hw1.size
  rintro e w2 ⟨rfl, hb2⟩
  go_wp2
  go_ret
  exact ⟨by simp, hw1.trans (hb2.mono hw1.size)⟩
end Go.Proofs.Ythpegmeebhkhbaa
